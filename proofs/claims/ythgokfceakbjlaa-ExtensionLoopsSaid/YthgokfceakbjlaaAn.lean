/- Layer 14 (extension): Forward, the refusals. -/
import Derived.Test.YthgokfceakbjlaaAm
set_option linter.unusedVariables false
set_option linter.unusedSimpArgs false
namespace Go.Proofs.Ythgokfceakbjlaa
open Go Go.RowKit
attribute [local go_sem] B_getElem B_size B_app B_extract B_get B_toList

set_option maxRecDepth 100000 in
set_option maxHeartbeats 8000000 in
theorem fwd_1 (b : Bun) (u : Value) (n el : Int) (w : World) (h : RBlks w w.heap.size u b.blocks) (hf : Fits b) (E : Int) (HE : Hid (chkE b = E)) (z' : (E != 0) = true) :
    Calls Try.prog 24 #[.agg (bunC b u).toArray, .int .i64 n, .int .i64 el] w (FwdPost (zBun, 1) w) := by
  have HF := Lib.hid hf
  have HR := Lib.hid h
  obtain ⟨a, c, rfl, h1, h2, h3, h4⟩ := h
  clear h1 h2 h3 h4 hf
  go_enter Try.func24, Try.ntmps24
  simp only [bunC]
  go_wp2_with fail
  refine (check_any b _ _ (HR.out.below' (by repeat' (first | with_reducible (first | refine bset ?_ ?_ | exact Below.refl _ _ | assumption | refine bdrewN ?_ _ | refine bdrew ?_ | refine balloc0 ?_ | refine balloc ?_ ?_ | (apply btrans0; rotate_left; assumption) | (apply btrans; rotate_left; assumption)) | exact Below.refl _ _ | assumption | (apply btrans0; rotate_left; assumption) | (apply btrans; rotate_left; assumption) | (simp; done) | omega | (simp; omega)))) HF.out).mono ?_
  rw [HE.out]
  rintro e w1 ⟨rfl, hb1⟩
  have hB1 : Below w.heap.size w w1 := (by repeat' (first | with_reducible (first | refine bset ?_ ?_ | exact Below.refl _ _ | assumption | refine bdrewN ?_ _ | refine bdrew ?_ | refine balloc0 ?_ | refine balloc ?_ ?_ | (apply btrans0; rotate_left; assumption) | (apply btrans; rotate_left; assumption)) | exact Below.refl _ _ | assumption | (apply btrans0; rotate_left; assumption) | (apply btrans; rotate_left; assumption) | (simp; done) | omega | (simp; omega)))
  have zr1 : w.heap.size + 1 < w1.heap.size := by have := hb1.size; simp at this; omega
  have za1 : w.heap.size < w1.heap.size := by omega
  have A1 : w1.heap[w.heap.size]? = some (.cells (bunC b (.slice a b.blocks.length c)).toArray 28 (0, 0)) := (hb1.block _ (by simp; omega)).trans ((Below.heap_alloc _ _ _ (by simp)).trans heap_new)
  have R1 : w1.heap[w.heap.size + 1]? = some (.cells #[.int .i64 0, .int .i64 0, .int .i64 0, .int .i64 0, .int .i64 0, .int .i64 0, .int .i64 0, .int .i64 0, .int .i64 0, .int .i64 0, .slice none 0 0, .string ⟨#[]⟩] 28 (0, 0)) := (hb1.block _ (by simp)).trans (heap_new' (by simp))
  have ca1 := fun o => cellB A1 o
  have cr1 := fun o => cellB R1 o
  have fr1 := fun o => frozenB R1 o
  simp only [bunC] at ca1
  have HA1 := Lib.hid A1
  have HR1 := Lib.hid R1
  clear A1 R1 hb1
  go_wp2_with fail
  refine bodyPost_ret (v := .tuple #[.agg #[.int .i64 0, .int .i64 0, .int .i64 0, .int .i64 0, .int .i64 0, .int .i64 0, .int .i64 0, .int .i64 0, .int .i64 0, .int .i64 0, .slice none 0 0, .string ⟨#[]⟩], .int .i64 1]) (by simp [results, Try.results24, go_sem, World.cell?_setCell_same', cr1, zr1]) rfl ?_
  unfold FwdPost
  exact ⟨_, rfl, RBlks.nil _ _, (by repeat' (first | with_reducible (first | refine bset ?_ ?_ | exact Below.refl _ _ | assumption | refine bdrewN ?_ _ | refine bdrew ?_ | refine balloc0 ?_ | refine balloc ?_ ?_ | (apply btrans0; rotate_left; assumption) | (apply btrans; rotate_left; assumption)) | exact Below.refl _ _ | assumption | (apply btrans0; rotate_left; assumption) | (apply btrans; rotate_left; assumption) | (simp; done) | omega | (simp; omega)))⟩
set_option maxRecDepth 100000 in
set_option maxHeartbeats 8000000 in
theorem fwd_2a (b : Bun) (u : Value) (n el : Int) (w : World) (h : RBlks w w.heap.size u b.blocks) (hf : Fits b) (HE : Hid (chkE b = 0)) (HND : Hid (nodeB n = false)) :
    Calls Try.prog 24 #[.agg (bunC b u).toArray, .int .i64 n, .int .i64 el] w (FwdPost (zBun, 2) w) := by
  have HF := Lib.hid hf
  have HR := Lib.hid h
  obtain ⟨a, c, rfl, h1, h2, h3, h4⟩ := h
  clear h1 h2 h3 h4 hf
  go_enter Try.func24, Try.ntmps24
  simp only [bunC]
  go_wp2_with fail
  refine (check_any b _ _ (HR.out.below' (by repeat' (first | with_reducible (first | refine bset ?_ ?_ | exact Below.refl _ _ | assumption | refine bdrewN ?_ _ | refine bdrew ?_ | refine balloc0 ?_ | refine balloc ?_ ?_ | (apply btrans0; rotate_left; assumption) | (apply btrans; rotate_left; assumption)) | exact Below.refl _ _ | assumption | (apply btrans0; rotate_left; assumption) | (apply btrans; rotate_left; assumption) | (simp; done) | omega | (simp; omega)))) HF.out).mono ?_
  rw [HE.out]
  rintro e w1 ⟨rfl, hb1⟩
  have hB1 : Below w.heap.size w w1 := (by repeat' (first | with_reducible (first | refine bset ?_ ?_ | exact Below.refl _ _ | assumption | refine bdrewN ?_ _ | refine bdrew ?_ | refine balloc0 ?_ | refine balloc ?_ ?_ | (apply btrans0; rotate_left; assumption) | (apply btrans; rotate_left; assumption)) | exact Below.refl _ _ | assumption | (apply btrans0; rotate_left; assumption) | (apply btrans; rotate_left; assumption) | (simp; done) | omega | (simp; omega)))
  have zr1 : w.heap.size + 1 < w1.heap.size := by have := hb1.size; simp at this; omega
  have za1 : w.heap.size < w1.heap.size := by omega
  have A1 : w1.heap[w.heap.size]? = some (.cells (bunC b (.slice a b.blocks.length c)).toArray 28 (0, 0)) := (hb1.block _ (by simp; omega)).trans ((Below.heap_alloc _ _ _ (by simp)).trans heap_new)
  have R1 : w1.heap[w.heap.size + 1]? = some (.cells #[.int .i64 0, .int .i64 0, .int .i64 0, .int .i64 0, .int .i64 0, .int .i64 0, .int .i64 0, .int .i64 0, .int .i64 0, .int .i64 0, .slice none 0 0, .string ⟨#[]⟩] 28 (0, 0)) := (hb1.block _ (by simp)).trans (heap_new' (by simp))
  have ca1 := fun o => cellB A1 o
  have cr1 := fun o => cellB R1 o
  have fr1 := fun o => frozenB R1 o
  simp only [bunC] at ca1
  have HA1 := Lib.hid A1
  have HR1 := Lib.hid R1
  clear A1 R1 hb1
  go_wp2_with fail
  refine (node_any n _).mono ?_
  rw [HND.out]
  rintro e w2 ⟨rfl, rfl⟩
  obtain ⟨w1, rfl⟩ : ∃ w1, w1 = w2 := ⟨_, rfl⟩
  go_wp2_with fail
  refine bodyPost_ret (v := .tuple #[.agg #[.int .i64 0, .int .i64 0, .int .i64 0, .int .i64 0, .int .i64 0, .int .i64 0, .int .i64 0, .int .i64 0, .int .i64 0, .int .i64 0, .slice none 0 0, .string ⟨#[]⟩], .int .i64 2]) (by simp [results, Try.results24, go_sem, World.cell?_setCell_same', cr1, zr1]) rfl ?_
  unfold FwdPost
  exact ⟨_, rfl, RBlks.nil _ _, (by repeat' (first | with_reducible (first | refine bset ?_ ?_ | exact Below.refl _ _ | assumption | refine bdrewN ?_ _ | refine bdrew ?_ | refine balloc0 ?_ | refine balloc ?_ ?_ | (apply btrans0; rotate_left; assumption) | (apply btrans; rotate_left; assumption)) | exact Below.refl _ _ | assumption | (apply btrans0; rotate_left; assumption) | (apply btrans; rotate_left; assumption) | (simp; done) | omega | (simp; omega)))⟩
set_option maxRecDepth 100000 in
set_option maxHeartbeats 8000000 in
theorem fwd_2b (b : Bun) (u : Value) (n el : Int) (w : World) (h : RBlks w w.heap.size u b.blocks) (hf : Fits b) (HE : Hid (chkE b = 0)) (HND : Hid (nodeB n = true)) (r : el < 0) :
    Calls Try.prog 24 #[.agg (bunC b u).toArray, .int .i64 n, .int .i64 el] w (FwdPost (zBun, 2) w) := by
  have HF := Lib.hid hf
  have HR := Lib.hid h
  obtain ⟨a, c, rfl, h1, h2, h3, h4⟩ := h
  clear h1 h2 h3 h4 hf
  go_enter Try.func24, Try.ntmps24
  simp only [bunC]
  go_wp2_with fail
  refine (check_any b _ _ (HR.out.below' (by repeat' (first | with_reducible (first | refine bset ?_ ?_ | exact Below.refl _ _ | assumption | refine bdrewN ?_ _ | refine bdrew ?_ | refine balloc0 ?_ | refine balloc ?_ ?_ | (apply btrans0; rotate_left; assumption) | (apply btrans; rotate_left; assumption)) | exact Below.refl _ _ | assumption | (apply btrans0; rotate_left; assumption) | (apply btrans; rotate_left; assumption) | (simp; done) | omega | (simp; omega)))) HF.out).mono ?_
  rw [HE.out]
  rintro e w1 ⟨rfl, hb1⟩
  have hB1 : Below w.heap.size w w1 := (by repeat' (first | with_reducible (first | refine bset ?_ ?_ | exact Below.refl _ _ | assumption | refine bdrewN ?_ _ | refine bdrew ?_ | refine balloc0 ?_ | refine balloc ?_ ?_ | (apply btrans0; rotate_left; assumption) | (apply btrans; rotate_left; assumption)) | exact Below.refl _ _ | assumption | (apply btrans0; rotate_left; assumption) | (apply btrans; rotate_left; assumption) | (simp; done) | omega | (simp; omega)))
  have zr1 : w.heap.size + 1 < w1.heap.size := by have := hb1.size; simp at this; omega
  have za1 : w.heap.size < w1.heap.size := by omega
  have A1 : w1.heap[w.heap.size]? = some (.cells (bunC b (.slice a b.blocks.length c)).toArray 28 (0, 0)) := (hb1.block _ (by simp; omega)).trans ((Below.heap_alloc _ _ _ (by simp)).trans heap_new)
  have R1 : w1.heap[w.heap.size + 1]? = some (.cells #[.int .i64 0, .int .i64 0, .int .i64 0, .int .i64 0, .int .i64 0, .int .i64 0, .int .i64 0, .int .i64 0, .int .i64 0, .int .i64 0, .slice none 0 0, .string ⟨#[]⟩] 28 (0, 0)) := (hb1.block _ (by simp)).trans (heap_new' (by simp))
  have ca1 := fun o => cellB A1 o
  have cr1 := fun o => cellB R1 o
  have fr1 := fun o => frozenB R1 o
  simp only [bunC] at ca1
  have HA1 := Lib.hid A1
  have HR1 := Lib.hid R1
  clear A1 R1 hb1
  go_wp2_with fail
  refine (node_any n _).mono ?_
  rw [HND.out]
  rintro e w2 ⟨rfl, rfl⟩
  obtain ⟨w1, rfl⟩ : ∃ w1, w1 = w2 := ⟨_, rfl⟩
  go_wp2_with fail
  refine bodyPost_ret (v := .tuple #[.agg #[.int .i64 0, .int .i64 0, .int .i64 0, .int .i64 0, .int .i64 0, .int .i64 0, .int .i64 0, .int .i64 0, .int .i64 0, .int .i64 0, .slice none 0 0, .string ⟨#[]⟩], .int .i64 2]) (by simp [results, Try.results24, go_sem, World.cell?_setCell_same', cr1, zr1]) rfl ?_
  unfold FwdPost
  exact ⟨_, rfl, RBlks.nil _ _, (by repeat' (first | with_reducible (first | refine bset ?_ ?_ | exact Below.refl _ _ | assumption | refine bdrewN ?_ _ | refine bdrew ?_ | refine balloc0 ?_ | refine balloc ?_ ?_ | (apply btrans0; rotate_left; assumption) | (apply btrans; rotate_left; assumption)) | exact Below.refl _ _ | assumption | (apply btrans0; rotate_left; assumption) | (apply btrans; rotate_left; assumption) | (simp; done) | omega | (simp; omega)))⟩
set_option maxRecDepth 100000 in
set_option maxHeartbeats 8000000 in
theorem fwd_2c (b : Bun) (u : Value) (n el : Int) (w : World) (h : RBlks w w.heap.size u b.blocks) (hf : Fits b) (HE : Hid (chkE b = 0)) (HND : Hid (nodeB n = true)) (r1 : ¬ el < 0) (r : 1099511627776 < el) :
    Calls Try.prog 24 #[.agg (bunC b u).toArray, .int .i64 n, .int .i64 el] w (FwdPost (zBun, 2) w) := by
  have HF := Lib.hid hf
  have HR := Lib.hid h
  obtain ⟨a, c, rfl, h1, h2, h3, h4⟩ := h
  clear h1 h2 h3 h4 hf
  go_enter Try.func24, Try.ntmps24
  simp only [bunC]
  go_wp2_with fail
  refine (check_any b _ _ (HR.out.below' (by repeat' (first | with_reducible (first | refine bset ?_ ?_ | exact Below.refl _ _ | assumption | refine bdrewN ?_ _ | refine bdrew ?_ | refine balloc0 ?_ | refine balloc ?_ ?_ | (apply btrans0; rotate_left; assumption) | (apply btrans; rotate_left; assumption)) | exact Below.refl _ _ | assumption | (apply btrans0; rotate_left; assumption) | (apply btrans; rotate_left; assumption) | (simp; done) | omega | (simp; omega)))) HF.out).mono ?_
  rw [HE.out]
  rintro e w1 ⟨rfl, hb1⟩
  have hB1 : Below w.heap.size w w1 := (by repeat' (first | with_reducible (first | refine bset ?_ ?_ | exact Below.refl _ _ | assumption | refine bdrewN ?_ _ | refine bdrew ?_ | refine balloc0 ?_ | refine balloc ?_ ?_ | (apply btrans0; rotate_left; assumption) | (apply btrans; rotate_left; assumption)) | exact Below.refl _ _ | assumption | (apply btrans0; rotate_left; assumption) | (apply btrans; rotate_left; assumption) | (simp; done) | omega | (simp; omega)))
  have zr1 : w.heap.size + 1 < w1.heap.size := by have := hb1.size; simp at this; omega
  have za1 : w.heap.size < w1.heap.size := by omega
  have A1 : w1.heap[w.heap.size]? = some (.cells (bunC b (.slice a b.blocks.length c)).toArray 28 (0, 0)) := (hb1.block _ (by simp; omega)).trans ((Below.heap_alloc _ _ _ (by simp)).trans heap_new)
  have R1 : w1.heap[w.heap.size + 1]? = some (.cells #[.int .i64 0, .int .i64 0, .int .i64 0, .int .i64 0, .int .i64 0, .int .i64 0, .int .i64 0, .int .i64 0, .int .i64 0, .int .i64 0, .slice none 0 0, .string ⟨#[]⟩] 28 (0, 0)) := (hb1.block _ (by simp)).trans (heap_new' (by simp))
  have ca1 := fun o => cellB A1 o
  have cr1 := fun o => cellB R1 o
  have fr1 := fun o => frozenB R1 o
  simp only [bunC] at ca1
  have HA1 := Lib.hid A1
  have HR1 := Lib.hid R1
  clear A1 R1 hb1
  go_wp2_with fail
  refine (node_any n _).mono ?_
  rw [HND.out]
  rintro e w2 ⟨rfl, rfl⟩
  obtain ⟨w1, rfl⟩ : ∃ w1, w1 = w2 := ⟨_, rfl⟩
  go_wp2_with fail
  refine bodyPost_ret (v := .tuple #[.agg #[.int .i64 0, .int .i64 0, .int .i64 0, .int .i64 0, .int .i64 0, .int .i64 0, .int .i64 0, .int .i64 0, .int .i64 0, .int .i64 0, .slice none 0 0, .string ⟨#[]⟩], .int .i64 2]) (by simp [results, Try.results24, go_sem, World.cell?_setCell_same', cr1, zr1]) rfl ?_
  unfold FwdPost
  exact ⟨_, rfl, RBlks.nil _ _, (by repeat' (first | with_reducible (first | refine bset ?_ ?_ | exact Below.refl _ _ | assumption | refine bdrewN ?_ _ | refine bdrew ?_ | refine balloc0 ?_ | refine balloc ?_ ?_ | (apply btrans0; rotate_left; assumption) | (apply btrans; rotate_left; assumption)) | exact Below.refl _ _ | assumption | (apply btrans0; rotate_left; assumption) | (apply btrans; rotate_left; assumption) | (simp; done) | omega | (simp; omega)))⟩
end Go.Proofs.Ythgokfceakbjlaa
