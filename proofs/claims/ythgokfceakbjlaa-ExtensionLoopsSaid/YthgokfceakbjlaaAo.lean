/- Layer 14 (extension): Forward, the later refusals. -/
import Derived.Test.YthgokfceakbjlaaAn
set_option linter.unusedVariables false
set_option linter.unusedSimpArgs false
namespace Go.Proofs.Ythgokfceakbjlaa
open Go Go.RowKit
attribute [local go_sem] B_getElem B_size B_app B_extract B_get B_toList

set_option maxRecDepth 100000 in
set_option maxHeartbeats 8000000 in
theorem fwd_11a (b : Bun) (u : Value) (n el : Int) (w : World) (h : RBlks w w.heap.size u b.blocks) (hf : Fits b) (HE : Hid (chkE b = 0)) (HND : Hid (nodeB n = true)) (r1 : ¬ el < 0) (r2 : ¬ 1099511627776 < el) (hlf : b.life ≤ 1099511627776) (a0 : Int) (HAG : Hid (ageS b = (a0, 11))) (h0 k1 HX : Int) (HHO : Hid (hopS b = (h0, k1, HX))) (l : List Int) (VE : Int) (HVI : Hid (getS b 3 = (l, VE)))  :
    Calls Try.prog 24 #[.agg (bunC b u).toArray, .int .i64 n, .int .i64 el] w (FwdPost (zBun, 11) w) := by
  have HF := Lib.hid hf
  have HR := Lib.hid h
  obtain ⟨a, c, rfl, h1, h2, h3, h4⟩ := h
  clear h1 h2 h3 h4 hf
  go_enter Try.func24, Try.ntmps24
  simp only [bunC]
  go_wp2_with fail
  refine (check_any b _ _ (HR.out.below' (by repeat' (first | with_reducible (first | refine bset ?_ ?_ | exact Below.refl _ _ | assumption | refine bdrewN ?_ _ | refine bdrew ?_ | refine balloc0 ?_ | refine balloc ?_ ?_ | (apply btrans0; rotate_left; assumption) | (apply btrans; rotate_left; assumption)) | exact Below.refl _ _ | assumption | (apply btrans0; rotate_left; assumption) | (apply btrans; rotate_left; assumption) | (simp; done) | omega | (simp; omega)))) HF.out).mono ?_
  rw [HE.out]
  rintro e w1 ⟨rfl, hb1⟩
  have hB1 : Below w.heap.size w w1 := (by repeat' (first | with_reducible (first | refine bset ?_ ?_ | exact Below.refl _ _ | assumption | refine bdrewN ?_ _ | refine bdrew ?_ | refine balloc0 ?_ | refine balloc ?_ ?_ | (apply btrans0; rotate_left; assumption) | (apply btrans; rotate_left; assumption)) | exact Below.refl _ _ | assumption | (apply btrans0; rotate_left; assumption) | (apply btrans; rotate_left; assumption) | (simp; done) | omega | (simp; omega)))
  have zr1 : w.heap.size + 1 < w1.heap.size := by have := hb1.size; simp at this; omega
  have za1 : w.heap.size < w1.heap.size := by omega
  have A1 : w1.heap[w.heap.size]? = some (.cells (bunC b (.slice a b.blocks.length c)).toArray 28 (0, 0)) := (hb1.block _ (by simp; omega)).trans ((Below.heap_alloc _ _ _ (by simp)).trans heap_new)
  have R1 : w1.heap[w.heap.size + 1]? = some (.cells #[.int .i64 0, .int .i64 0, .int .i64 0, .int .i64 0, .int .i64 0, .int .i64 0, .int .i64 0, .int .i64 0, .int .i64 0, .int .i64 0, .slice none 0 0, .string ⟨#[]⟩] 28 (0, 0)) := (hb1.block _ (by simp)).trans (heap_new' (by simp))
  have ca1 := fun o => cellB A1 o
  have cr1 := fun o => cellB R1 o
  have fr1 := fun o => frozenB R1 o
  simp only [bunC] at ca1
  have HA1 := Lib.hid A1
  have HR1 := Lib.hid R1
  clear A1 R1 hb1
  go_wp2_with fail
  refine (node_any n _).mono ?_
  rw [HND.out]
  rintro e w2 ⟨rfl, rfl⟩
  obtain ⟨w1, rfl⟩ : ∃ w1, w1 = w2 := ⟨_, rfl⟩
  go_wp2_with fail
  refine (age_any b _ _ (HR.out.below' (by repeat' (first | with_reducible (first | refine bset ?_ ?_ | exact Below.refl _ _ | assumption | refine bdrewN ?_ _ | refine bdrew ?_ | refine balloc0 ?_ | refine balloc ?_ ?_ | (apply btrans0; rotate_left; assumption) | (apply btrans; rotate_left; assumption)) | exact Below.refl _ _ | assumption | (apply btrans0; rotate_left; assumption) | (apply btrans; rotate_left; assumption) | (simp; done) | omega | (simp; omega)))) HF.out).mono ?_
  rw [HAG.out]
  simp only
  rintro e w3 ⟨rfl, hb3⟩
  have hB3 : Below w.heap.size w w3 := (by repeat' (first | with_reducible (first | refine bset ?_ ?_ | exact Below.refl _ _ | assumption | refine bdrewN ?_ _ | refine bdrew ?_ | refine balloc0 ?_ | refine balloc ?_ ?_ | (apply btrans0; rotate_left; assumption) | (apply btrans; rotate_left; assumption)) | exact Below.refl _ _ | assumption | (apply btrans0; rotate_left; assumption) | (apply btrans; rotate_left; assumption) | (simp; done) | omega | (simp; omega)))
  have y3 : w1.heap.size ≤ w3.heap.size := by have := hb3.size; (try simp at this); omega
  have za3 : w.heap.size < w3.heap.size := by omega
  have zr3 : w.heap.size + 1 < w3.heap.size := by omega
  have A3 := (hb3.block _ za1).trans HA1.out
  have R3 := (hb3.block _ zr1).trans HR1.out
  have HA3 := Lib.hid A3
  have HR3 := Lib.hid R3
  clear ca1 cr1 fr1
  have ca3 := fun o => cellB A3 o
  have cr3 := fun o => cellB R3 o
  have fr3 := fun o => frozenB R3 o
  simp only [bunC] at ca3
  clear A3 R3 hb3
  go_wp2_with fail
  refine (hops_any b _ _ (HR.out.below' (by repeat' (first | with_reducible (first | refine bset ?_ ?_ | exact Below.refl _ _ | assumption | refine bdrewN ?_ _ | refine bdrew ?_ | refine balloc0 ?_ | refine balloc ?_ ?_ | (apply btrans0; rotate_left; assumption) | (apply btrans; rotate_left; assumption)) | exact Below.refl _ _ | assumption | (apply btrans0; rotate_left; assumption) | (apply btrans; rotate_left; assumption) | (simp; done) | omega | (simp; omega)))) HF.out).mono ?_
  rw [HHO.out]
  simp only
  rintro e w4 ⟨rfl, hb4⟩
  have hB4 : Below w.heap.size w w4 := (by repeat' (first | with_reducible (first | refine bset ?_ ?_ | exact Below.refl _ _ | assumption | refine bdrewN ?_ _ | refine bdrew ?_ | refine balloc0 ?_ | refine balloc ?_ ?_ | (apply btrans0; rotate_left; assumption) | (apply btrans; rotate_left; assumption)) | exact Below.refl _ _ | assumption | (apply btrans0; rotate_left; assumption) | (apply btrans; rotate_left; assumption) | (simp; done) | omega | (simp; omega)))
  have y4 : w3.heap.size ≤ w4.heap.size := by have := hb4.size; (try simp at this); omega
  have za4 : w.heap.size < w4.heap.size := by omega
  have zr4 : w.heap.size + 1 < w4.heap.size := by omega
  have A4 := (hb4.block _ za3).trans HA3.out
  have R4 := (hb4.block _ zr3).trans HR3.out
  have HA4 := Lib.hid A4
  have HR4 := Lib.hid R4
  clear ca3 cr3 fr3
  have ca4 := fun o => cellB A4 o
  have cr4 := fun o => cellB R4 o
  have fr4 := fun o => frozenB R4 o
  simp only [bunC] at ca4
  clear A4 R4 hb4
  go_wp2_with fail
  refine (visited_any b _ _ (HR.out.below' (by repeat' (first | with_reducible (first | refine bset ?_ ?_ | exact Below.refl _ _ | assumption | refine bdrewN ?_ _ | refine bdrew ?_ | refine balloc0 ?_ | refine balloc ?_ ?_ | (apply btrans0; rotate_left; assumption) | (apply btrans; rotate_left; assumption)) | exact Below.refl _ _ | assumption | (apply btrans0; rotate_left; assumption) | (apply btrans; rotate_left; assumption) | (simp; done) | omega | (simp; omega)))) HF.out).mono ?_
  unfold GetPost
  rw [HVI.out]
  simp only
  rintro e w5 ⟨v, rfl, hb5, hri⟩
  have HRI := Lib.hid hri
  clear hri
  have hB5 : Below w.heap.size w w5 := (by repeat' (first | with_reducible (first | refine bset ?_ ?_ | exact Below.refl _ _ | assumption | refine bdrewN ?_ _ | refine bdrew ?_ | refine balloc0 ?_ | refine balloc ?_ ?_ | (apply btrans0; rotate_left; assumption) | (apply btrans; rotate_left; assumption)) | exact Below.refl _ _ | assumption | (apply btrans0; rotate_left; assumption) | (apply btrans; rotate_left; assumption) | (simp; done) | omega | (simp; omega)))
  have y5 : w4.heap.size ≤ w5.heap.size := by have := hb5.size; (try simp at this); omega
  have za5 : w.heap.size < w5.heap.size := by omega
  have zr5 : w.heap.size + 1 < w5.heap.size := by omega
  have A5 := (hb5.block _ za4).trans HA4.out
  have R5 := (hb5.block _ zr4).trans HR4.out
  have HA5 := Lib.hid A5
  have HR5 := Lib.hid R5
  clear ca4 cr4 fr4
  have ca5 := fun o => cellB A5 o
  have cr5 := fun o => cellB R5 o
  have fr5 := fun o => frozenB R5 o
  simp only [bunC] at ca5
  clear A5 R5 hb5
  go_wp2_with fail
  refine bodyPost_ret (v := .tuple #[.agg #[.int .i64 0, .int .i64 0, .int .i64 0, .int .i64 0, .int .i64 0, .int .i64 0, .int .i64 0, .int .i64 0, .int .i64 0, .int .i64 0, .slice none 0 0, .string ⟨#[]⟩], .int .i64 11]) (by simp [results, Try.results24, go_sem, World.cell?_setCell_same', cr5, zr5]) rfl ?_
  unfold FwdPost
  exact ⟨_, rfl, RBlks.nil _ _, (by repeat' (first | with_reducible (first | refine bset ?_ ?_ | exact Below.refl _ _ | assumption | refine bdrewN ?_ _ | refine bdrew ?_ | refine balloc0 ?_ | refine balloc ?_ ?_ | (apply btrans0; rotate_left; assumption) | (apply btrans; rotate_left; assumption)) | exact Below.refl _ _ | assumption | (apply btrans0; rotate_left; assumption) | (apply btrans; rotate_left; assumption) | (simp; done) | omega | (simp; omega)))⟩
set_option maxRecDepth 100000 in
set_option maxHeartbeats 8000000 in
theorem fwd_11b (b : Bun) (u : Value) (n el : Int) (w : World) (h : RBlks w w.heap.size u b.blocks) (hf : Fits b) (HE : Hid (chkE b = 0)) (HND : Hid (nodeB n = true)) (r1 : ¬ el < 0) (r2 : ¬ 1099511627776 < el) (hlf : b.life ≤ 1099511627776) (a0 AE : Int) (HAG : Hid (ageS b = (a0, AE))) (qa : (AE == 11) = false) (h0 k1 : Int) (HHO : Hid (hopS b = (h0, k1, 11))) (l : List Int) (VE : Int) (HVI : Hid (getS b 3 = (l, VE)))  :
    Calls Try.prog 24 #[.agg (bunC b u).toArray, .int .i64 n, .int .i64 el] w (FwdPost (zBun, 11) w) := by
  have HF := Lib.hid hf
  have HR := Lib.hid h
  obtain ⟨a, c, rfl, h1, h2, h3, h4⟩ := h
  clear h1 h2 h3 h4 hf
  go_enter Try.func24, Try.ntmps24
  simp only [bunC]
  go_wp2_with fail
  refine (check_any b _ _ (HR.out.below' (by repeat' (first | with_reducible (first | refine bset ?_ ?_ | exact Below.refl _ _ | assumption | refine bdrewN ?_ _ | refine bdrew ?_ | refine balloc0 ?_ | refine balloc ?_ ?_ | (apply btrans0; rotate_left; assumption) | (apply btrans; rotate_left; assumption)) | exact Below.refl _ _ | assumption | (apply btrans0; rotate_left; assumption) | (apply btrans; rotate_left; assumption) | (simp; done) | omega | (simp; omega)))) HF.out).mono ?_
  rw [HE.out]
  rintro e w1 ⟨rfl, hb1⟩
  have hB1 : Below w.heap.size w w1 := (by repeat' (first | with_reducible (first | refine bset ?_ ?_ | exact Below.refl _ _ | assumption | refine bdrewN ?_ _ | refine bdrew ?_ | refine balloc0 ?_ | refine balloc ?_ ?_ | (apply btrans0; rotate_left; assumption) | (apply btrans; rotate_left; assumption)) | exact Below.refl _ _ | assumption | (apply btrans0; rotate_left; assumption) | (apply btrans; rotate_left; assumption) | (simp; done) | omega | (simp; omega)))
  have zr1 : w.heap.size + 1 < w1.heap.size := by have := hb1.size; simp at this; omega
  have za1 : w.heap.size < w1.heap.size := by omega
  have A1 : w1.heap[w.heap.size]? = some (.cells (bunC b (.slice a b.blocks.length c)).toArray 28 (0, 0)) := (hb1.block _ (by simp; omega)).trans ((Below.heap_alloc _ _ _ (by simp)).trans heap_new)
  have R1 : w1.heap[w.heap.size + 1]? = some (.cells #[.int .i64 0, .int .i64 0, .int .i64 0, .int .i64 0, .int .i64 0, .int .i64 0, .int .i64 0, .int .i64 0, .int .i64 0, .int .i64 0, .slice none 0 0, .string ⟨#[]⟩] 28 (0, 0)) := (hb1.block _ (by simp)).trans (heap_new' (by simp))
  have ca1 := fun o => cellB A1 o
  have cr1 := fun o => cellB R1 o
  have fr1 := fun o => frozenB R1 o
  simp only [bunC] at ca1
  have HA1 := Lib.hid A1
  have HR1 := Lib.hid R1
  clear A1 R1 hb1
  go_wp2_with fail
  refine (node_any n _).mono ?_
  rw [HND.out]
  rintro e w2 ⟨rfl, rfl⟩
  obtain ⟨w1, rfl⟩ : ∃ w1, w1 = w2 := ⟨_, rfl⟩
  go_wp2_with fail
  refine (age_any b _ _ (HR.out.below' (by repeat' (first | with_reducible (first | refine bset ?_ ?_ | exact Below.refl _ _ | assumption | refine bdrewN ?_ _ | refine bdrew ?_ | refine balloc0 ?_ | refine balloc ?_ ?_ | (apply btrans0; rotate_left; assumption) | (apply btrans; rotate_left; assumption)) | exact Below.refl _ _ | assumption | (apply btrans0; rotate_left; assumption) | (apply btrans; rotate_left; assumption) | (simp; done) | omega | (simp; omega)))) HF.out).mono ?_
  rw [HAG.out]
  simp only
  rintro e w3 ⟨rfl, hb3⟩
  have hB3 : Below w.heap.size w w3 := (by repeat' (first | with_reducible (first | refine bset ?_ ?_ | exact Below.refl _ _ | assumption | refine bdrewN ?_ _ | refine bdrew ?_ | refine balloc0 ?_ | refine balloc ?_ ?_ | (apply btrans0; rotate_left; assumption) | (apply btrans; rotate_left; assumption)) | exact Below.refl _ _ | assumption | (apply btrans0; rotate_left; assumption) | (apply btrans; rotate_left; assumption) | (simp; done) | omega | (simp; omega)))
  have y3 : w1.heap.size ≤ w3.heap.size := by have := hb3.size; (try simp at this); omega
  have za3 : w.heap.size < w3.heap.size := by omega
  have zr3 : w.heap.size + 1 < w3.heap.size := by omega
  have A3 := (hb3.block _ za1).trans HA1.out
  have R3 := (hb3.block _ zr1).trans HR1.out
  have HA3 := Lib.hid A3
  have HR3 := Lib.hid R3
  clear ca1 cr1 fr1
  have ca3 := fun o => cellB A3 o
  have cr3 := fun o => cellB R3 o
  have fr3 := fun o => frozenB R3 o
  simp only [bunC] at ca3
  clear A3 R3 hb3
  go_wp2_with fail
  refine (hops_any b _ _ (HR.out.below' (by repeat' (first | with_reducible (first | refine bset ?_ ?_ | exact Below.refl _ _ | assumption | refine bdrewN ?_ _ | refine bdrew ?_ | refine balloc0 ?_ | refine balloc ?_ ?_ | (apply btrans0; rotate_left; assumption) | (apply btrans; rotate_left; assumption)) | exact Below.refl _ _ | assumption | (apply btrans0; rotate_left; assumption) | (apply btrans; rotate_left; assumption) | (simp; done) | omega | (simp; omega)))) HF.out).mono ?_
  rw [HHO.out]
  simp only
  rintro e w4 ⟨rfl, hb4⟩
  have hB4 : Below w.heap.size w w4 := (by repeat' (first | with_reducible (first | refine bset ?_ ?_ | exact Below.refl _ _ | assumption | refine bdrewN ?_ _ | refine bdrew ?_ | refine balloc0 ?_ | refine balloc ?_ ?_ | (apply btrans0; rotate_left; assumption) | (apply btrans; rotate_left; assumption)) | exact Below.refl _ _ | assumption | (apply btrans0; rotate_left; assumption) | (apply btrans; rotate_left; assumption) | (simp; done) | omega | (simp; omega)))
  have y4 : w3.heap.size ≤ w4.heap.size := by have := hb4.size; (try simp at this); omega
  have za4 : w.heap.size < w4.heap.size := by omega
  have zr4 : w.heap.size + 1 < w4.heap.size := by omega
  have A4 := (hb4.block _ za3).trans HA3.out
  have R4 := (hb4.block _ zr3).trans HR3.out
  have HA4 := Lib.hid A4
  have HR4 := Lib.hid R4
  clear ca3 cr3 fr3
  have ca4 := fun o => cellB A4 o
  have cr4 := fun o => cellB R4 o
  have fr4 := fun o => frozenB R4 o
  simp only [bunC] at ca4
  clear A4 R4 hb4
  go_wp2_with fail
  refine (visited_any b _ _ (HR.out.below' (by repeat' (first | with_reducible (first | refine bset ?_ ?_ | exact Below.refl _ _ | assumption | refine bdrewN ?_ _ | refine bdrew ?_ | refine balloc0 ?_ | refine balloc ?_ ?_ | (apply btrans0; rotate_left; assumption) | (apply btrans; rotate_left; assumption)) | exact Below.refl _ _ | assumption | (apply btrans0; rotate_left; assumption) | (apply btrans; rotate_left; assumption) | (simp; done) | omega | (simp; omega)))) HF.out).mono ?_
  unfold GetPost
  rw [HVI.out]
  simp only
  rintro e w5 ⟨v, rfl, hb5, hri⟩
  have HRI := Lib.hid hri
  clear hri
  have hB5 : Below w.heap.size w w5 := (by repeat' (first | with_reducible (first | refine bset ?_ ?_ | exact Below.refl _ _ | assumption | refine bdrewN ?_ _ | refine bdrew ?_ | refine balloc0 ?_ | refine balloc ?_ ?_ | (apply btrans0; rotate_left; assumption) | (apply btrans; rotate_left; assumption)) | exact Below.refl _ _ | assumption | (apply btrans0; rotate_left; assumption) | (apply btrans; rotate_left; assumption) | (simp; done) | omega | (simp; omega)))
  have y5 : w4.heap.size ≤ w5.heap.size := by have := hb5.size; (try simp at this); omega
  have za5 : w.heap.size < w5.heap.size := by omega
  have zr5 : w.heap.size + 1 < w5.heap.size := by omega
  have A5 := (hb5.block _ za4).trans HA4.out
  have R5 := (hb5.block _ zr4).trans HR4.out
  have HA5 := Lib.hid A5
  have HR5 := Lib.hid R5
  clear ca4 cr4 fr4
  have ca5 := fun o => cellB A5 o
  have cr5 := fun o => cellB R5 o
  have fr5 := fun o => frozenB R5 o
  simp only [bunC] at ca5
  clear A5 R5 hb5
  go_wp2_with fail
  refine bodyPost_ret (v := .tuple #[.agg #[.int .i64 0, .int .i64 0, .int .i64 0, .int .i64 0, .int .i64 0, .int .i64 0, .int .i64 0, .int .i64 0, .int .i64 0, .int .i64 0, .slice none 0 0, .string ⟨#[]⟩], .int .i64 11]) (by simp [results, Try.results24, go_sem, World.cell?_setCell_same', cr5, zr5]) rfl ?_
  unfold FwdPost
  exact ⟨_, rfl, RBlks.nil _ _, (by repeat' (first | with_reducible (first | refine bset ?_ ?_ | exact Below.refl _ _ | assumption | refine bdrewN ?_ _ | refine bdrew ?_ | refine balloc0 ?_ | refine balloc ?_ ?_ | (apply btrans0; rotate_left; assumption) | (apply btrans; rotate_left; assumption)) | exact Below.refl _ _ | assumption | (apply btrans0; rotate_left; assumption) | (apply btrans; rotate_left; assumption) | (simp; done) | omega | (simp; omega)))⟩
set_option maxRecDepth 100000 in
set_option maxHeartbeats 8000000 in
theorem fwd_11c (b : Bun) (u : Value) (n el : Int) (w : World) (h : RBlks w w.heap.size u b.blocks) (hf : Fits b) (HE : Hid (chkE b = 0)) (HND : Hid (nodeB n = true)) (r1 : ¬ el < 0) (r2 : ¬ 1099511627776 < el) (hlf : b.life ≤ 1099511627776) (a0 AE : Int) (HAG : Hid (ageS b = (a0, AE))) (qa : (AE == 11) = false) (h0 k1 HX : Int) (HHO : Hid (hopS b = (h0, k1, HX))) (qh : (HX == 11) = false) (l : List Int) (HVI : Hid (getS b 3 = (l, 11)))  :
    Calls Try.prog 24 #[.agg (bunC b u).toArray, .int .i64 n, .int .i64 el] w (FwdPost (zBun, 11) w) := by
  have HF := Lib.hid hf
  have HR := Lib.hid h
  obtain ⟨a, c, rfl, h1, h2, h3, h4⟩ := h
  clear h1 h2 h3 h4 hf
  go_enter Try.func24, Try.ntmps24
  simp only [bunC]
  go_wp2_with fail
  refine (check_any b _ _ (HR.out.below' (by repeat' (first | with_reducible (first | refine bset ?_ ?_ | exact Below.refl _ _ | assumption | refine bdrewN ?_ _ | refine bdrew ?_ | refine balloc0 ?_ | refine balloc ?_ ?_ | (apply btrans0; rotate_left; assumption) | (apply btrans; rotate_left; assumption)) | exact Below.refl _ _ | assumption | (apply btrans0; rotate_left; assumption) | (apply btrans; rotate_left; assumption) | (simp; done) | omega | (simp; omega)))) HF.out).mono ?_
  rw [HE.out]
  rintro e w1 ⟨rfl, hb1⟩
  have hB1 : Below w.heap.size w w1 := (by repeat' (first | with_reducible (first | refine bset ?_ ?_ | exact Below.refl _ _ | assumption | refine bdrewN ?_ _ | refine bdrew ?_ | refine balloc0 ?_ | refine balloc ?_ ?_ | (apply btrans0; rotate_left; assumption) | (apply btrans; rotate_left; assumption)) | exact Below.refl _ _ | assumption | (apply btrans0; rotate_left; assumption) | (apply btrans; rotate_left; assumption) | (simp; done) | omega | (simp; omega)))
  have zr1 : w.heap.size + 1 < w1.heap.size := by have := hb1.size; simp at this; omega
  have za1 : w.heap.size < w1.heap.size := by omega
  have A1 : w1.heap[w.heap.size]? = some (.cells (bunC b (.slice a b.blocks.length c)).toArray 28 (0, 0)) := (hb1.block _ (by simp; omega)).trans ((Below.heap_alloc _ _ _ (by simp)).trans heap_new)
  have R1 : w1.heap[w.heap.size + 1]? = some (.cells #[.int .i64 0, .int .i64 0, .int .i64 0, .int .i64 0, .int .i64 0, .int .i64 0, .int .i64 0, .int .i64 0, .int .i64 0, .int .i64 0, .slice none 0 0, .string ⟨#[]⟩] 28 (0, 0)) := (hb1.block _ (by simp)).trans (heap_new' (by simp))
  have ca1 := fun o => cellB A1 o
  have cr1 := fun o => cellB R1 o
  have fr1 := fun o => frozenB R1 o
  simp only [bunC] at ca1
  have HA1 := Lib.hid A1
  have HR1 := Lib.hid R1
  clear A1 R1 hb1
  go_wp2_with fail
  refine (node_any n _).mono ?_
  rw [HND.out]
  rintro e w2 ⟨rfl, rfl⟩
  obtain ⟨w1, rfl⟩ : ∃ w1, w1 = w2 := ⟨_, rfl⟩
  go_wp2_with fail
  refine (age_any b _ _ (HR.out.below' (by repeat' (first | with_reducible (first | refine bset ?_ ?_ | exact Below.refl _ _ | assumption | refine bdrewN ?_ _ | refine bdrew ?_ | refine balloc0 ?_ | refine balloc ?_ ?_ | (apply btrans0; rotate_left; assumption) | (apply btrans; rotate_left; assumption)) | exact Below.refl _ _ | assumption | (apply btrans0; rotate_left; assumption) | (apply btrans; rotate_left; assumption) | (simp; done) | omega | (simp; omega)))) HF.out).mono ?_
  rw [HAG.out]
  simp only
  rintro e w3 ⟨rfl, hb3⟩
  have hB3 : Below w.heap.size w w3 := (by repeat' (first | with_reducible (first | refine bset ?_ ?_ | exact Below.refl _ _ | assumption | refine bdrewN ?_ _ | refine bdrew ?_ | refine balloc0 ?_ | refine balloc ?_ ?_ | (apply btrans0; rotate_left; assumption) | (apply btrans; rotate_left; assumption)) | exact Below.refl _ _ | assumption | (apply btrans0; rotate_left; assumption) | (apply btrans; rotate_left; assumption) | (simp; done) | omega | (simp; omega)))
  have y3 : w1.heap.size ≤ w3.heap.size := by have := hb3.size; (try simp at this); omega
  have za3 : w.heap.size < w3.heap.size := by omega
  have zr3 : w.heap.size + 1 < w3.heap.size := by omega
  have A3 := (hb3.block _ za1).trans HA1.out
  have R3 := (hb3.block _ zr1).trans HR1.out
  have HA3 := Lib.hid A3
  have HR3 := Lib.hid R3
  clear ca1 cr1 fr1
  have ca3 := fun o => cellB A3 o
  have cr3 := fun o => cellB R3 o
  have fr3 := fun o => frozenB R3 o
  simp only [bunC] at ca3
  clear A3 R3 hb3
  go_wp2_with fail
  refine (hops_any b _ _ (HR.out.below' (by repeat' (first | with_reducible (first | refine bset ?_ ?_ | exact Below.refl _ _ | assumption | refine bdrewN ?_ _ | refine bdrew ?_ | refine balloc0 ?_ | refine balloc ?_ ?_ | (apply btrans0; rotate_left; assumption) | (apply btrans; rotate_left; assumption)) | exact Below.refl _ _ | assumption | (apply btrans0; rotate_left; assumption) | (apply btrans; rotate_left; assumption) | (simp; done) | omega | (simp; omega)))) HF.out).mono ?_
  rw [HHO.out]
  simp only
  rintro e w4 ⟨rfl, hb4⟩
  have hB4 : Below w.heap.size w w4 := (by repeat' (first | with_reducible (first | refine bset ?_ ?_ | exact Below.refl _ _ | assumption | refine bdrewN ?_ _ | refine bdrew ?_ | refine balloc0 ?_ | refine balloc ?_ ?_ | (apply btrans0; rotate_left; assumption) | (apply btrans; rotate_left; assumption)) | exact Below.refl _ _ | assumption | (apply btrans0; rotate_left; assumption) | (apply btrans; rotate_left; assumption) | (simp; done) | omega | (simp; omega)))
  have y4 : w3.heap.size ≤ w4.heap.size := by have := hb4.size; (try simp at this); omega
  have za4 : w.heap.size < w4.heap.size := by omega
  have zr4 : w.heap.size + 1 < w4.heap.size := by omega
  have A4 := (hb4.block _ za3).trans HA3.out
  have R4 := (hb4.block _ zr3).trans HR3.out
  have HA4 := Lib.hid A4
  have HR4 := Lib.hid R4
  clear ca3 cr3 fr3
  have ca4 := fun o => cellB A4 o
  have cr4 := fun o => cellB R4 o
  have fr4 := fun o => frozenB R4 o
  simp only [bunC] at ca4
  clear A4 R4 hb4
  go_wp2_with fail
  refine (visited_any b _ _ (HR.out.below' (by repeat' (first | with_reducible (first | refine bset ?_ ?_ | exact Below.refl _ _ | assumption | refine bdrewN ?_ _ | refine bdrew ?_ | refine balloc0 ?_ | refine balloc ?_ ?_ | (apply btrans0; rotate_left; assumption) | (apply btrans; rotate_left; assumption)) | exact Below.refl _ _ | assumption | (apply btrans0; rotate_left; assumption) | (apply btrans; rotate_left; assumption) | (simp; done) | omega | (simp; omega)))) HF.out).mono ?_
  unfold GetPost
  rw [HVI.out]
  simp only
  rintro e w5 ⟨v, rfl, hb5, hri⟩
  have HRI := Lib.hid hri
  clear hri
  have hB5 : Below w.heap.size w w5 := (by repeat' (first | with_reducible (first | refine bset ?_ ?_ | exact Below.refl _ _ | assumption | refine bdrewN ?_ _ | refine bdrew ?_ | refine balloc0 ?_ | refine balloc ?_ ?_ | (apply btrans0; rotate_left; assumption) | (apply btrans; rotate_left; assumption)) | exact Below.refl _ _ | assumption | (apply btrans0; rotate_left; assumption) | (apply btrans; rotate_left; assumption) | (simp; done) | omega | (simp; omega)))
  have y5 : w4.heap.size ≤ w5.heap.size := by have := hb5.size; (try simp at this); omega
  have za5 : w.heap.size < w5.heap.size := by omega
  have zr5 : w.heap.size + 1 < w5.heap.size := by omega
  have A5 := (hb5.block _ za4).trans HA4.out
  have R5 := (hb5.block _ zr4).trans HR4.out
  have HA5 := Lib.hid A5
  have HR5 := Lib.hid R5
  clear ca4 cr4 fr4
  have ca5 := fun o => cellB A5 o
  have cr5 := fun o => cellB R5 o
  have fr5 := fun o => frozenB R5 o
  simp only [bunC] at ca5
  clear A5 R5 hb5
  go_wp2_with fail
  refine bodyPost_ret (v := .tuple #[.agg #[.int .i64 0, .int .i64 0, .int .i64 0, .int .i64 0, .int .i64 0, .int .i64 0, .int .i64 0, .int .i64 0, .int .i64 0, .int .i64 0, .slice none 0 0, .string ⟨#[]⟩], .int .i64 11]) (by simp [results, Try.results24, go_sem, World.cell?_setCell_same', cr5, zr5]) rfl ?_
  unfold FwdPost
  exact ⟨_, rfl, RBlks.nil _ _, (by repeat' (first | with_reducible (first | refine bset ?_ ?_ | exact Below.refl _ _ | assumption | refine bdrewN ?_ _ | refine bdrew ?_ | refine balloc0 ?_ | refine balloc ?_ ?_ | (apply btrans0; rotate_left; assumption) | (apply btrans; rotate_left; assumption)) | exact Below.refl _ _ | assumption | (apply btrans0; rotate_left; assumption) | (apply btrans; rotate_left; assumption) | (simp; done) | omega | (simp; omega)))⟩
set_option maxRecDepth 100000 in
set_option maxHeartbeats 8000000 in
theorem fwd_17 (b : Bun) (u : Value) (n el : Int) (w : World) (h : RBlks w w.heap.size u b.blocks) (hf : Fits b) (HE : Hid (chkE b = 0)) (HND : Hid (nodeB n = true)) (r1 : ¬ el < 0) (r2 : ¬ 1099511627776 < el) (hlf : b.life ≤ 1099511627776) (a0 : Int) (HAG : Hid (ageS b = (a0, 0))) (a1 : 0 ≤ a0) (a2 : a0 ≤ 1099511627776) (a3 : b.life ≤ a0 + el) (h0 k1 HX : Int) (HHO : Hid (hopS b = (h0, k1, HX))) (qh : (HX == 11) = false) (l : List Int) (VE : Int) (HVI : Hid (getS b 3 = (l, VE))) (qv : (VE == 11) = false)  :
    Calls Try.prog 24 #[.agg (bunC b u).toArray, .int .i64 n, .int .i64 el] w (FwdPost (zBun, 17) w) := by
  have HF := Lib.hid hf
  have HR := Lib.hid h
  obtain ⟨a, c, rfl, h1, h2, h3, h4⟩ := h
  clear h1 h2 h3 h4 hf
  go_enter Try.func24, Try.ntmps24
  simp only [bunC]
  go_wp2_with fail
  refine (check_any b _ _ (HR.out.below' (by repeat' (first | with_reducible (first | refine bset ?_ ?_ | exact Below.refl _ _ | assumption | refine bdrewN ?_ _ | refine bdrew ?_ | refine balloc0 ?_ | refine balloc ?_ ?_ | (apply btrans0; rotate_left; assumption) | (apply btrans; rotate_left; assumption)) | exact Below.refl _ _ | assumption | (apply btrans0; rotate_left; assumption) | (apply btrans; rotate_left; assumption) | (simp; done) | omega | (simp; omega)))) HF.out).mono ?_
  rw [HE.out]
  rintro e w1 ⟨rfl, hb1⟩
  have hB1 : Below w.heap.size w w1 := (by repeat' (first | with_reducible (first | refine bset ?_ ?_ | exact Below.refl _ _ | assumption | refine bdrewN ?_ _ | refine bdrew ?_ | refine balloc0 ?_ | refine balloc ?_ ?_ | (apply btrans0; rotate_left; assumption) | (apply btrans; rotate_left; assumption)) | exact Below.refl _ _ | assumption | (apply btrans0; rotate_left; assumption) | (apply btrans; rotate_left; assumption) | (simp; done) | omega | (simp; omega)))
  have zr1 : w.heap.size + 1 < w1.heap.size := by have := hb1.size; simp at this; omega
  have za1 : w.heap.size < w1.heap.size := by omega
  have A1 : w1.heap[w.heap.size]? = some (.cells (bunC b (.slice a b.blocks.length c)).toArray 28 (0, 0)) := (hb1.block _ (by simp; omega)).trans ((Below.heap_alloc _ _ _ (by simp)).trans heap_new)
  have R1 : w1.heap[w.heap.size + 1]? = some (.cells #[.int .i64 0, .int .i64 0, .int .i64 0, .int .i64 0, .int .i64 0, .int .i64 0, .int .i64 0, .int .i64 0, .int .i64 0, .int .i64 0, .slice none 0 0, .string ⟨#[]⟩] 28 (0, 0)) := (hb1.block _ (by simp)).trans (heap_new' (by simp))
  have ca1 := fun o => cellB A1 o
  have cr1 := fun o => cellB R1 o
  have fr1 := fun o => frozenB R1 o
  simp only [bunC] at ca1
  have HA1 := Lib.hid A1
  have HR1 := Lib.hid R1
  clear A1 R1 hb1
  go_wp2_with fail
  refine (node_any n _).mono ?_
  rw [HND.out]
  rintro e w2 ⟨rfl, rfl⟩
  obtain ⟨w1, rfl⟩ : ∃ w1, w1 = w2 := ⟨_, rfl⟩
  go_wp2_with fail
  refine (age_any b _ _ (HR.out.below' (by repeat' (first | with_reducible (first | refine bset ?_ ?_ | exact Below.refl _ _ | assumption | refine bdrewN ?_ _ | refine bdrew ?_ | refine balloc0 ?_ | refine balloc ?_ ?_ | (apply btrans0; rotate_left; assumption) | (apply btrans; rotate_left; assumption)) | exact Below.refl _ _ | assumption | (apply btrans0; rotate_left; assumption) | (apply btrans; rotate_left; assumption) | (simp; done) | omega | (simp; omega)))) HF.out).mono ?_
  rw [HAG.out]
  simp only
  rintro e w3 ⟨rfl, hb3⟩
  have hB3 : Below w.heap.size w w3 := (by repeat' (first | with_reducible (first | refine bset ?_ ?_ | exact Below.refl _ _ | assumption | refine bdrewN ?_ _ | refine bdrew ?_ | refine balloc0 ?_ | refine balloc ?_ ?_ | (apply btrans0; rotate_left; assumption) | (apply btrans; rotate_left; assumption)) | exact Below.refl _ _ | assumption | (apply btrans0; rotate_left; assumption) | (apply btrans; rotate_left; assumption) | (simp; done) | omega | (simp; omega)))
  have y3 : w1.heap.size ≤ w3.heap.size := by have := hb3.size; (try simp at this); omega
  have za3 : w.heap.size < w3.heap.size := by omega
  have zr3 : w.heap.size + 1 < w3.heap.size := by omega
  have A3 := (hb3.block _ za1).trans HA1.out
  have R3 := (hb3.block _ zr1).trans HR1.out
  have HA3 := Lib.hid A3
  have HR3 := Lib.hid R3
  clear ca1 cr1 fr1
  have ca3 := fun o => cellB A3 o
  have cr3 := fun o => cellB R3 o
  have fr3 := fun o => frozenB R3 o
  simp only [bunC] at ca3
  clear A3 R3 hb3
  go_wp2_with fail
  refine (hops_any b _ _ (HR.out.below' (by repeat' (first | with_reducible (first | refine bset ?_ ?_ | exact Below.refl _ _ | assumption | refine bdrewN ?_ _ | refine bdrew ?_ | refine balloc0 ?_ | refine balloc ?_ ?_ | (apply btrans0; rotate_left; assumption) | (apply btrans; rotate_left; assumption)) | exact Below.refl _ _ | assumption | (apply btrans0; rotate_left; assumption) | (apply btrans; rotate_left; assumption) | (simp; done) | omega | (simp; omega)))) HF.out).mono ?_
  rw [HHO.out]
  simp only
  rintro e w4 ⟨rfl, hb4⟩
  have hB4 : Below w.heap.size w w4 := (by repeat' (first | with_reducible (first | refine bset ?_ ?_ | exact Below.refl _ _ | assumption | refine bdrewN ?_ _ | refine bdrew ?_ | refine balloc0 ?_ | refine balloc ?_ ?_ | (apply btrans0; rotate_left; assumption) | (apply btrans; rotate_left; assumption)) | exact Below.refl _ _ | assumption | (apply btrans0; rotate_left; assumption) | (apply btrans; rotate_left; assumption) | (simp; done) | omega | (simp; omega)))
  have y4 : w3.heap.size ≤ w4.heap.size := by have := hb4.size; (try simp at this); omega
  have za4 : w.heap.size < w4.heap.size := by omega
  have zr4 : w.heap.size + 1 < w4.heap.size := by omega
  have A4 := (hb4.block _ za3).trans HA3.out
  have R4 := (hb4.block _ zr3).trans HR3.out
  have HA4 := Lib.hid A4
  have HR4 := Lib.hid R4
  clear ca3 cr3 fr3
  have ca4 := fun o => cellB A4 o
  have cr4 := fun o => cellB R4 o
  have fr4 := fun o => frozenB R4 o
  simp only [bunC] at ca4
  clear A4 R4 hb4
  go_wp2_with fail
  refine (visited_any b _ _ (HR.out.below' (by repeat' (first | with_reducible (first | refine bset ?_ ?_ | exact Below.refl _ _ | assumption | refine bdrewN ?_ _ | refine bdrew ?_ | refine balloc0 ?_ | refine balloc ?_ ?_ | (apply btrans0; rotate_left; assumption) | (apply btrans; rotate_left; assumption)) | exact Below.refl _ _ | assumption | (apply btrans0; rotate_left; assumption) | (apply btrans; rotate_left; assumption) | (simp; done) | omega | (simp; omega)))) HF.out).mono ?_
  unfold GetPost
  rw [HVI.out]
  simp only
  rintro e w5 ⟨v, rfl, hb5, hri⟩
  have HRI := Lib.hid hri
  clear hri
  have hB5 : Below w.heap.size w w5 := (by repeat' (first | with_reducible (first | refine bset ?_ ?_ | exact Below.refl _ _ | assumption | refine bdrewN ?_ _ | refine bdrew ?_ | refine balloc0 ?_ | refine balloc ?_ ?_ | (apply btrans0; rotate_left; assumption) | (apply btrans; rotate_left; assumption)) | exact Below.refl _ _ | assumption | (apply btrans0; rotate_left; assumption) | (apply btrans; rotate_left; assumption) | (simp; done) | omega | (simp; omega)))
  have y5 : w4.heap.size ≤ w5.heap.size := by have := hb5.size; (try simp at this); omega
  have za5 : w.heap.size < w5.heap.size := by omega
  have zr5 : w.heap.size + 1 < w5.heap.size := by omega
  have A5 := (hb5.block _ za4).trans HA4.out
  have R5 := (hb5.block _ zr4).trans HR4.out
  have HA5 := Lib.hid A5
  have HR5 := Lib.hid R5
  clear ca4 cr4 fr4
  have ca5 := fun o => cellB A5 o
  have cr5 := fun o => cellB R5 o
  have fr5 := fun o => frozenB R5 o
  simp only [bunC] at ca5
  clear A5 R5 hb5
  go_wp2_with fail
  refine bodyPost_ret (v := .tuple #[.agg #[.int .i64 0, .int .i64 0, .int .i64 0, .int .i64 0, .int .i64 0, .int .i64 0, .int .i64 0, .int .i64 0, .int .i64 0, .int .i64 0, .slice none 0 0, .string ⟨#[]⟩], .int .i64 17]) (by simp [results, Try.results24, go_sem, World.cell?_setCell_same', cr5, zr5]) rfl ?_
  unfold FwdPost
  exact ⟨_, rfl, RBlks.nil _ _, (by repeat' (first | with_reducible (first | refine bset ?_ ?_ | exact Below.refl _ _ | assumption | refine bdrewN ?_ _ | refine bdrew ?_ | refine balloc0 ?_ | refine balloc ?_ ?_ | (apply btrans0; rotate_left; assumption) | (apply btrans; rotate_left; assumption)) | exact Below.refl _ _ | assumption | (apply btrans0; rotate_left; assumption) | (apply btrans; rotate_left; assumption) | (simp; done) | omega | (simp; omega)))⟩
set_option maxRecDepth 100000 in
set_option maxHeartbeats 8000000 in
theorem fwd_4_on (b : Bun) (u : Value) (n el : Int) (w : World) (h : RBlks w w.heap.size u b.blocks) (hf : Fits b) (HE : Hid (chkE b = 0)) (HND : Hid (nodeB n = true)) (r1 : ¬ el < 0) (r2 : ¬ 1099511627776 < el) (hlf : b.life ≤ 1099511627776) (a0 : Int) (HAG : Hid (ageS b = (a0, 0))) (a1 : 0 ≤ a0) (a2 : a0 ≤ 1099511627776) (a3 : a0 + el < b.life) (a4 : ¬ b.life ≤ a0 + el) (h0 k1 : Int) (HHO : Hid (hopS b = (h0, k1, 0))) (p1 : 0 ≤ k1) (p2 : k1 ≤ 255) (p3 : h0 < k1 + 1) (l : List Int) (VE : Int) (HVI : Hid (getS b 3 = (l, VE))) (qv : (VE == 11) = false)  :
    Calls Try.prog 24 #[.agg (bunC b u).toArray, .int .i64 n, .int .i64 el] w (FwdPost (zBun, 4) w) := by
  have HF := Lib.hid hf
  have HR := Lib.hid h
  obtain ⟨a, c, rfl, h1, h2, h3, h4⟩ := h
  clear h1 h2 h3 h4 hf
  go_enter Try.func24, Try.ntmps24
  simp only [bunC]
  go_wp2_with fail
  refine (check_any b _ _ (HR.out.below' (by repeat' (first | with_reducible (first | refine bset ?_ ?_ | exact Below.refl _ _ | assumption | refine bdrewN ?_ _ | refine bdrew ?_ | refine balloc0 ?_ | refine balloc ?_ ?_ | (apply btrans0; rotate_left; assumption) | (apply btrans; rotate_left; assumption)) | exact Below.refl _ _ | assumption | (apply btrans0; rotate_left; assumption) | (apply btrans; rotate_left; assumption) | (simp; done) | omega | (simp; omega)))) HF.out).mono ?_
  rw [HE.out]
  rintro e w1 ⟨rfl, hb1⟩
  have hB1 : Below w.heap.size w w1 := (by repeat' (first | with_reducible (first | refine bset ?_ ?_ | exact Below.refl _ _ | assumption | refine bdrewN ?_ _ | refine bdrew ?_ | refine balloc0 ?_ | refine balloc ?_ ?_ | (apply btrans0; rotate_left; assumption) | (apply btrans; rotate_left; assumption)) | exact Below.refl _ _ | assumption | (apply btrans0; rotate_left; assumption) | (apply btrans; rotate_left; assumption) | (simp; done) | omega | (simp; omega)))
  have zr1 : w.heap.size + 1 < w1.heap.size := by have := hb1.size; simp at this; omega
  have za1 : w.heap.size < w1.heap.size := by omega
  have A1 : w1.heap[w.heap.size]? = some (.cells (bunC b (.slice a b.blocks.length c)).toArray 28 (0, 0)) := (hb1.block _ (by simp; omega)).trans ((Below.heap_alloc _ _ _ (by simp)).trans heap_new)
  have R1 : w1.heap[w.heap.size + 1]? = some (.cells #[.int .i64 0, .int .i64 0, .int .i64 0, .int .i64 0, .int .i64 0, .int .i64 0, .int .i64 0, .int .i64 0, .int .i64 0, .int .i64 0, .slice none 0 0, .string ⟨#[]⟩] 28 (0, 0)) := (hb1.block _ (by simp)).trans (heap_new' (by simp))
  have ca1 := fun o => cellB A1 o
  have cr1 := fun o => cellB R1 o
  have fr1 := fun o => frozenB R1 o
  simp only [bunC] at ca1
  have HA1 := Lib.hid A1
  have HR1 := Lib.hid R1
  clear A1 R1 hb1
  go_wp2_with fail
  refine (node_any n _).mono ?_
  rw [HND.out]
  rintro e w2 ⟨rfl, rfl⟩
  obtain ⟨w1, rfl⟩ : ∃ w1, w1 = w2 := ⟨_, rfl⟩
  go_wp2_with fail
  refine (age_any b _ _ (HR.out.below' (by repeat' (first | with_reducible (first | refine bset ?_ ?_ | exact Below.refl _ _ | assumption | refine bdrewN ?_ _ | refine bdrew ?_ | refine balloc0 ?_ | refine balloc ?_ ?_ | (apply btrans0; rotate_left; assumption) | (apply btrans; rotate_left; assumption)) | exact Below.refl _ _ | assumption | (apply btrans0; rotate_left; assumption) | (apply btrans; rotate_left; assumption) | (simp; done) | omega | (simp; omega)))) HF.out).mono ?_
  rw [HAG.out]
  simp only
  rintro e w3 ⟨rfl, hb3⟩
  have hB3 : Below w.heap.size w w3 := (by repeat' (first | with_reducible (first | refine bset ?_ ?_ | exact Below.refl _ _ | assumption | refine bdrewN ?_ _ | refine bdrew ?_ | refine balloc0 ?_ | refine balloc ?_ ?_ | (apply btrans0; rotate_left; assumption) | (apply btrans; rotate_left; assumption)) | exact Below.refl _ _ | assumption | (apply btrans0; rotate_left; assumption) | (apply btrans; rotate_left; assumption) | (simp; done) | omega | (simp; omega)))
  have y3 : w1.heap.size ≤ w3.heap.size := by have := hb3.size; (try simp at this); omega
  have za3 : w.heap.size < w3.heap.size := by omega
  have zr3 : w.heap.size + 1 < w3.heap.size := by omega
  have A3 := (hb3.block _ za1).trans HA1.out
  have R3 := (hb3.block _ zr1).trans HR1.out
  have HA3 := Lib.hid A3
  have HR3 := Lib.hid R3
  clear ca1 cr1 fr1
  have ca3 := fun o => cellB A3 o
  have cr3 := fun o => cellB R3 o
  have fr3 := fun o => frozenB R3 o
  simp only [bunC] at ca3
  clear A3 R3 hb3
  go_wp2_with fail
  refine (hops_any b _ _ (HR.out.below' (by repeat' (first | with_reducible (first | refine bset ?_ ?_ | exact Below.refl _ _ | assumption | refine bdrewN ?_ _ | refine bdrew ?_ | refine balloc0 ?_ | refine balloc ?_ ?_ | (apply btrans0; rotate_left; assumption) | (apply btrans; rotate_left; assumption)) | exact Below.refl _ _ | assumption | (apply btrans0; rotate_left; assumption) | (apply btrans; rotate_left; assumption) | (simp; done) | omega | (simp; omega)))) HF.out).mono ?_
  rw [HHO.out]
  simp only
  rintro e w4 ⟨rfl, hb4⟩
  have hB4 : Below w.heap.size w w4 := (by repeat' (first | with_reducible (first | refine bset ?_ ?_ | exact Below.refl _ _ | assumption | refine bdrewN ?_ _ | refine bdrew ?_ | refine balloc0 ?_ | refine balloc ?_ ?_ | (apply btrans0; rotate_left; assumption) | (apply btrans; rotate_left; assumption)) | exact Below.refl _ _ | assumption | (apply btrans0; rotate_left; assumption) | (apply btrans; rotate_left; assumption) | (simp; done) | omega | (simp; omega)))
  have y4 : w3.heap.size ≤ w4.heap.size := by have := hb4.size; (try simp at this); omega
  have za4 : w.heap.size < w4.heap.size := by omega
  have zr4 : w.heap.size + 1 < w4.heap.size := by omega
  have A4 := (hb4.block _ za3).trans HA3.out
  have R4 := (hb4.block _ zr3).trans HR3.out
  have HA4 := Lib.hid A4
  have HR4 := Lib.hid R4
  clear ca3 cr3 fr3
  have ca4 := fun o => cellB A4 o
  have cr4 := fun o => cellB R4 o
  have fr4 := fun o => frozenB R4 o
  simp only [bunC] at ca4
  clear A4 R4 hb4
  go_wp2_with fail
  refine (visited_any b _ _ (HR.out.below' (by repeat' (first | with_reducible (first | refine bset ?_ ?_ | exact Below.refl _ _ | assumption | refine bdrewN ?_ _ | refine bdrew ?_ | refine balloc0 ?_ | refine balloc ?_ ?_ | (apply btrans0; rotate_left; assumption) | (apply btrans; rotate_left; assumption)) | exact Below.refl _ _ | assumption | (apply btrans0; rotate_left; assumption) | (apply btrans; rotate_left; assumption) | (simp; done) | omega | (simp; omega)))) HF.out).mono ?_
  unfold GetPost
  rw [HVI.out]
  simp only
  rintro e w5 ⟨v, rfl, hb5, hri⟩
  have HRI := Lib.hid hri
  clear hri
  have hB5 : Below w.heap.size w w5 := (by repeat' (first | with_reducible (first | refine bset ?_ ?_ | exact Below.refl _ _ | assumption | refine bdrewN ?_ _ | refine bdrew ?_ | refine balloc0 ?_ | refine balloc ?_ ?_ | (apply btrans0; rotate_left; assumption) | (apply btrans; rotate_left; assumption)) | exact Below.refl _ _ | assumption | (apply btrans0; rotate_left; assumption) | (apply btrans; rotate_left; assumption) | (simp; done) | omega | (simp; omega)))
  have y5 : w4.heap.size ≤ w5.heap.size := by have := hb5.size; (try simp at this); omega
  have za5 : w.heap.size < w5.heap.size := by omega
  have zr5 : w.heap.size + 1 < w5.heap.size := by omega
  have A5 := (hb5.block _ za4).trans HA4.out
  have R5 := (hb5.block _ zr4).trans HR4.out
  have HA5 := Lib.hid A5
  have HR5 := Lib.hid R5
  clear ca4 cr4 fr4
  have ca5 := fun o => cellB A5 o
  have cr5 := fun o => cellB R5 o
  have fr5 := fun o => frozenB R5 o
  simp only [bunC] at ca5
  clear A5 R5 hb5
  go_wp2_with fail
  refine bodyPost_ret (v := .tuple #[.agg #[.int .i64 0, .int .i64 0, .int .i64 0, .int .i64 0, .int .i64 0, .int .i64 0, .int .i64 0, .int .i64 0, .int .i64 0, .int .i64 0, .slice none 0 0, .string ⟨#[]⟩], .int .i64 4]) (by simp [results, Try.results24, go_sem, World.cell?_setCell_same', cr5, zr5]) rfl ?_
  unfold FwdPost
  exact ⟨_, rfl, RBlks.nil _ _, (by repeat' (first | with_reducible (first | refine bset ?_ ?_ | exact Below.refl _ _ | assumption | refine bdrewN ?_ _ | refine bdrew ?_ | refine balloc0 ?_ | refine balloc ?_ ?_ | (apply btrans0; rotate_left; assumption) | (apply btrans; rotate_left; assumption)) | exact Below.refl _ _ | assumption | (apply btrans0; rotate_left; assumption) | (apply btrans; rotate_left; assumption) | (simp; done) | omega | (simp; omega)))⟩
set_option maxRecDepth 100000 in
set_option maxHeartbeats 8000000 in
theorem fwd_4_off (b : Bun) (u : Value) (n el : Int) (w : World) (h : RBlks w w.heap.size u b.blocks) (hf : Fits b) (HE : Hid (chkE b = 0)) (HND : Hid (nodeB n = true)) (r1 : ¬ el < 0) (r2 : ¬ 1099511627776 < el) (hlf : b.life ≤ 1099511627776) (a0 AE : Int) (HAG : Hid (ageS b = (a0, AE))) (qa : (AE == 11) = false) (qa0 : (AE == 0) = false) (h0 k1 : Int) (HHO : Hid (hopS b = (h0, k1, 0))) (p1 : 0 ≤ k1) (p2 : k1 ≤ 255) (p3 : h0 < k1 + 1) (l : List Int) (VE : Int) (HVI : Hid (getS b 3 = (l, VE))) (qv : (VE == 11) = false)  :
    Calls Try.prog 24 #[.agg (bunC b u).toArray, .int .i64 n, .int .i64 el] w (FwdPost (zBun, 4) w) := by
  have HF := Lib.hid hf
  have HR := Lib.hid h
  obtain ⟨a, c, rfl, h1, h2, h3, h4⟩ := h
  clear h1 h2 h3 h4 hf
  go_enter Try.func24, Try.ntmps24
  simp only [bunC]
  go_wp2_with fail
  refine (check_any b _ _ (HR.out.below' (by repeat' (first | with_reducible (first | refine bset ?_ ?_ | exact Below.refl _ _ | assumption | refine bdrewN ?_ _ | refine bdrew ?_ | refine balloc0 ?_ | refine balloc ?_ ?_ | (apply btrans0; rotate_left; assumption) | (apply btrans; rotate_left; assumption)) | exact Below.refl _ _ | assumption | (apply btrans0; rotate_left; assumption) | (apply btrans; rotate_left; assumption) | (simp; done) | omega | (simp; omega)))) HF.out).mono ?_
  rw [HE.out]
  rintro e w1 ⟨rfl, hb1⟩
  have hB1 : Below w.heap.size w w1 := (by repeat' (first | with_reducible (first | refine bset ?_ ?_ | exact Below.refl _ _ | assumption | refine bdrewN ?_ _ | refine bdrew ?_ | refine balloc0 ?_ | refine balloc ?_ ?_ | (apply btrans0; rotate_left; assumption) | (apply btrans; rotate_left; assumption)) | exact Below.refl _ _ | assumption | (apply btrans0; rotate_left; assumption) | (apply btrans; rotate_left; assumption) | (simp; done) | omega | (simp; omega)))
  have zr1 : w.heap.size + 1 < w1.heap.size := by have := hb1.size; simp at this; omega
  have za1 : w.heap.size < w1.heap.size := by omega
  have A1 : w1.heap[w.heap.size]? = some (.cells (bunC b (.slice a b.blocks.length c)).toArray 28 (0, 0)) := (hb1.block _ (by simp; omega)).trans ((Below.heap_alloc _ _ _ (by simp)).trans heap_new)
  have R1 : w1.heap[w.heap.size + 1]? = some (.cells #[.int .i64 0, .int .i64 0, .int .i64 0, .int .i64 0, .int .i64 0, .int .i64 0, .int .i64 0, .int .i64 0, .int .i64 0, .int .i64 0, .slice none 0 0, .string ⟨#[]⟩] 28 (0, 0)) := (hb1.block _ (by simp)).trans (heap_new' (by simp))
  have ca1 := fun o => cellB A1 o
  have cr1 := fun o => cellB R1 o
  have fr1 := fun o => frozenB R1 o
  simp only [bunC] at ca1
  have HA1 := Lib.hid A1
  have HR1 := Lib.hid R1
  clear A1 R1 hb1
  go_wp2_with fail
  refine (node_any n _).mono ?_
  rw [HND.out]
  rintro e w2 ⟨rfl, rfl⟩
  obtain ⟨w1, rfl⟩ : ∃ w1, w1 = w2 := ⟨_, rfl⟩
  go_wp2_with fail
  refine (age_any b _ _ (HR.out.below' (by repeat' (first | with_reducible (first | refine bset ?_ ?_ | exact Below.refl _ _ | assumption | refine bdrewN ?_ _ | refine bdrew ?_ | refine balloc0 ?_ | refine balloc ?_ ?_ | (apply btrans0; rotate_left; assumption) | (apply btrans; rotate_left; assumption)) | exact Below.refl _ _ | assumption | (apply btrans0; rotate_left; assumption) | (apply btrans; rotate_left; assumption) | (simp; done) | omega | (simp; omega)))) HF.out).mono ?_
  rw [HAG.out]
  simp only
  rintro e w3 ⟨rfl, hb3⟩
  have hB3 : Below w.heap.size w w3 := (by repeat' (first | with_reducible (first | refine bset ?_ ?_ | exact Below.refl _ _ | assumption | refine bdrewN ?_ _ | refine bdrew ?_ | refine balloc0 ?_ | refine balloc ?_ ?_ | (apply btrans0; rotate_left; assumption) | (apply btrans; rotate_left; assumption)) | exact Below.refl _ _ | assumption | (apply btrans0; rotate_left; assumption) | (apply btrans; rotate_left; assumption) | (simp; done) | omega | (simp; omega)))
  have y3 : w1.heap.size ≤ w3.heap.size := by have := hb3.size; (try simp at this); omega
  have za3 : w.heap.size < w3.heap.size := by omega
  have zr3 : w.heap.size + 1 < w3.heap.size := by omega
  have A3 := (hb3.block _ za1).trans HA1.out
  have R3 := (hb3.block _ zr1).trans HR1.out
  have HA3 := Lib.hid A3
  have HR3 := Lib.hid R3
  clear ca1 cr1 fr1
  have ca3 := fun o => cellB A3 o
  have cr3 := fun o => cellB R3 o
  have fr3 := fun o => frozenB R3 o
  simp only [bunC] at ca3
  clear A3 R3 hb3
  go_wp2_with fail
  refine (hops_any b _ _ (HR.out.below' (by repeat' (first | with_reducible (first | refine bset ?_ ?_ | exact Below.refl _ _ | assumption | refine bdrewN ?_ _ | refine bdrew ?_ | refine balloc0 ?_ | refine balloc ?_ ?_ | (apply btrans0; rotate_left; assumption) | (apply btrans; rotate_left; assumption)) | exact Below.refl _ _ | assumption | (apply btrans0; rotate_left; assumption) | (apply btrans; rotate_left; assumption) | (simp; done) | omega | (simp; omega)))) HF.out).mono ?_
  rw [HHO.out]
  simp only
  rintro e w4 ⟨rfl, hb4⟩
  have hB4 : Below w.heap.size w w4 := (by repeat' (first | with_reducible (first | refine bset ?_ ?_ | exact Below.refl _ _ | assumption | refine bdrewN ?_ _ | refine bdrew ?_ | refine balloc0 ?_ | refine balloc ?_ ?_ | (apply btrans0; rotate_left; assumption) | (apply btrans; rotate_left; assumption)) | exact Below.refl _ _ | assumption | (apply btrans0; rotate_left; assumption) | (apply btrans; rotate_left; assumption) | (simp; done) | omega | (simp; omega)))
  have y4 : w3.heap.size ≤ w4.heap.size := by have := hb4.size; (try simp at this); omega
  have za4 : w.heap.size < w4.heap.size := by omega
  have zr4 : w.heap.size + 1 < w4.heap.size := by omega
  have A4 := (hb4.block _ za3).trans HA3.out
  have R4 := (hb4.block _ zr3).trans HR3.out
  have HA4 := Lib.hid A4
  have HR4 := Lib.hid R4
  clear ca3 cr3 fr3
  have ca4 := fun o => cellB A4 o
  have cr4 := fun o => cellB R4 o
  have fr4 := fun o => frozenB R4 o
  simp only [bunC] at ca4
  clear A4 R4 hb4
  go_wp2_with fail
  refine (visited_any b _ _ (HR.out.below' (by repeat' (first | with_reducible (first | refine bset ?_ ?_ | exact Below.refl _ _ | assumption | refine bdrewN ?_ _ | refine bdrew ?_ | refine balloc0 ?_ | refine balloc ?_ ?_ | (apply btrans0; rotate_left; assumption) | (apply btrans; rotate_left; assumption)) | exact Below.refl _ _ | assumption | (apply btrans0; rotate_left; assumption) | (apply btrans; rotate_left; assumption) | (simp; done) | omega | (simp; omega)))) HF.out).mono ?_
  unfold GetPost
  rw [HVI.out]
  simp only
  rintro e w5 ⟨v, rfl, hb5, hri⟩
  have HRI := Lib.hid hri
  clear hri
  have hB5 : Below w.heap.size w w5 := (by repeat' (first | with_reducible (first | refine bset ?_ ?_ | exact Below.refl _ _ | assumption | refine bdrewN ?_ _ | refine bdrew ?_ | refine balloc0 ?_ | refine balloc ?_ ?_ | (apply btrans0; rotate_left; assumption) | (apply btrans; rotate_left; assumption)) | exact Below.refl _ _ | assumption | (apply btrans0; rotate_left; assumption) | (apply btrans; rotate_left; assumption) | (simp; done) | omega | (simp; omega)))
  have y5 : w4.heap.size ≤ w5.heap.size := by have := hb5.size; (try simp at this); omega
  have za5 : w.heap.size < w5.heap.size := by omega
  have zr5 : w.heap.size + 1 < w5.heap.size := by omega
  have A5 := (hb5.block _ za4).trans HA4.out
  have R5 := (hb5.block _ zr4).trans HR4.out
  have HA5 := Lib.hid A5
  have HR5 := Lib.hid R5
  clear ca4 cr4 fr4
  have ca5 := fun o => cellB A5 o
  have cr5 := fun o => cellB R5 o
  have fr5 := fun o => frozenB R5 o
  simp only [bunC] at ca5
  clear A5 R5 hb5
  go_wp2_with fail
  refine bodyPost_ret (v := .tuple #[.agg #[.int .i64 0, .int .i64 0, .int .i64 0, .int .i64 0, .int .i64 0, .int .i64 0, .int .i64 0, .int .i64 0, .int .i64 0, .int .i64 0, .slice none 0 0, .string ⟨#[]⟩], .int .i64 4]) (by simp [results, Try.results24, go_sem, World.cell?_setCell_same', cr5, zr5]) rfl ?_
  unfold FwdPost
  exact ⟨_, rfl, RBlks.nil _ _, (by repeat' (first | with_reducible (first | refine bset ?_ ?_ | exact Below.refl _ _ | assumption | refine bdrewN ?_ _ | refine bdrew ?_ | refine balloc0 ?_ | refine balloc ?_ ?_ | (apply btrans0; rotate_left; assumption) | (apply btrans; rotate_left; assumption)) | exact Below.refl _ _ | assumption | (apply btrans0; rotate_left; assumption) | (apply btrans; rotate_left; assumption) | (simp; done) | omega | (simp; omega)))⟩
set_option maxRecDepth 100000 in
set_option maxHeartbeats 8000000 in
theorem fwd_27_on_on (b : Bun) (u : Value) (n el : Int) (w : World) (h : RBlks w w.heap.size u b.blocks) (hf : Fits b) (HE : Hid (chkE b = 0)) (HND : Hid (nodeB n = true)) (r1 : ¬ el < 0) (r2 : ¬ 1099511627776 < el) (hlf : b.life ≤ 1099511627776) (a0 : Int) (HAG : Hid (ageS b = (a0, 0))) (a1 : 0 ≤ a0) (a2 : a0 ≤ 1099511627776) (a3 : a0 + el < b.life) (a4 : ¬ b.life ≤ a0 + el) (h0 k1 : Int) (HHO : Hid (hopS b = (h0, k1, 0))) (p1 : 0 ≤ k1) (p2 : k1 ≤ 255) (p3 : ¬ h0 < k1 + 1) (p4 : k1 + 1 ≤ h0) (p5 : h0 ≤ 255) (l : List Int) (HVI : Hid (getS b 3 = (l, 0))) (HCT : Hid (l.contains n = true))  :
    Calls Try.prog 24 #[.agg (bunC b u).toArray, .int .i64 n, .int .i64 el] w (FwdPost (zBun, 27) w) := by
  have HF := Lib.hid hf
  have HR := Lib.hid h
  obtain ⟨a, c, rfl, h1, h2, h3, h4⟩ := h
  clear h1 h2 h3 h4 hf
  go_enter Try.func24, Try.ntmps24
  simp only [bunC]
  go_wp2_with fail
  refine (check_any b _ _ (HR.out.below' (by repeat' (first | with_reducible (first | refine bset ?_ ?_ | exact Below.refl _ _ | assumption | refine bdrewN ?_ _ | refine bdrew ?_ | refine balloc0 ?_ | refine balloc ?_ ?_ | (apply btrans0; rotate_left; assumption) | (apply btrans; rotate_left; assumption)) | exact Below.refl _ _ | assumption | (apply btrans0; rotate_left; assumption) | (apply btrans; rotate_left; assumption) | (simp; done) | omega | (simp; omega)))) HF.out).mono ?_
  rw [HE.out]
  rintro e w1 ⟨rfl, hb1⟩
  have hB1 : Below w.heap.size w w1 := (by repeat' (first | with_reducible (first | refine bset ?_ ?_ | exact Below.refl _ _ | assumption | refine bdrewN ?_ _ | refine bdrew ?_ | refine balloc0 ?_ | refine balloc ?_ ?_ | (apply btrans0; rotate_left; assumption) | (apply btrans; rotate_left; assumption)) | exact Below.refl _ _ | assumption | (apply btrans0; rotate_left; assumption) | (apply btrans; rotate_left; assumption) | (simp; done) | omega | (simp; omega)))
  have zr1 : w.heap.size + 1 < w1.heap.size := by have := hb1.size; simp at this; omega
  have za1 : w.heap.size < w1.heap.size := by omega
  have A1 : w1.heap[w.heap.size]? = some (.cells (bunC b (.slice a b.blocks.length c)).toArray 28 (0, 0)) := (hb1.block _ (by simp; omega)).trans ((Below.heap_alloc _ _ _ (by simp)).trans heap_new)
  have R1 : w1.heap[w.heap.size + 1]? = some (.cells #[.int .i64 0, .int .i64 0, .int .i64 0, .int .i64 0, .int .i64 0, .int .i64 0, .int .i64 0, .int .i64 0, .int .i64 0, .int .i64 0, .slice none 0 0, .string ⟨#[]⟩] 28 (0, 0)) := (hb1.block _ (by simp)).trans (heap_new' (by simp))
  have ca1 := fun o => cellB A1 o
  have cr1 := fun o => cellB R1 o
  have fr1 := fun o => frozenB R1 o
  simp only [bunC] at ca1
  have HA1 := Lib.hid A1
  have HR1 := Lib.hid R1
  clear A1 R1 hb1
  go_wp2_with fail
  refine (node_any n _).mono ?_
  rw [HND.out]
  rintro e w2 ⟨rfl, rfl⟩
  obtain ⟨w1, rfl⟩ : ∃ w1, w1 = w2 := ⟨_, rfl⟩
  go_wp2_with fail
  refine (age_any b _ _ (HR.out.below' (by repeat' (first | with_reducible (first | refine bset ?_ ?_ | exact Below.refl _ _ | assumption | refine bdrewN ?_ _ | refine bdrew ?_ | refine balloc0 ?_ | refine balloc ?_ ?_ | (apply btrans0; rotate_left; assumption) | (apply btrans; rotate_left; assumption)) | exact Below.refl _ _ | assumption | (apply btrans0; rotate_left; assumption) | (apply btrans; rotate_left; assumption) | (simp; done) | omega | (simp; omega)))) HF.out).mono ?_
  rw [HAG.out]
  simp only
  rintro e w3 ⟨rfl, hb3⟩
  have hB3 : Below w.heap.size w w3 := (by repeat' (first | with_reducible (first | refine bset ?_ ?_ | exact Below.refl _ _ | assumption | refine bdrewN ?_ _ | refine bdrew ?_ | refine balloc0 ?_ | refine balloc ?_ ?_ | (apply btrans0; rotate_left; assumption) | (apply btrans; rotate_left; assumption)) | exact Below.refl _ _ | assumption | (apply btrans0; rotate_left; assumption) | (apply btrans; rotate_left; assumption) | (simp; done) | omega | (simp; omega)))
  have y3 : w1.heap.size ≤ w3.heap.size := by have := hb3.size; (try simp at this); omega
  have za3 : w.heap.size < w3.heap.size := by omega
  have zr3 : w.heap.size + 1 < w3.heap.size := by omega
  have A3 := (hb3.block _ za1).trans HA1.out
  have R3 := (hb3.block _ zr1).trans HR1.out
  have HA3 := Lib.hid A3
  have HR3 := Lib.hid R3
  clear ca1 cr1 fr1
  have ca3 := fun o => cellB A3 o
  have cr3 := fun o => cellB R3 o
  have fr3 := fun o => frozenB R3 o
  simp only [bunC] at ca3
  clear A3 R3 hb3
  go_wp2_with fail
  refine (hops_any b _ _ (HR.out.below' (by repeat' (first | with_reducible (first | refine bset ?_ ?_ | exact Below.refl _ _ | assumption | refine bdrewN ?_ _ | refine bdrew ?_ | refine balloc0 ?_ | refine balloc ?_ ?_ | (apply btrans0; rotate_left; assumption) | (apply btrans; rotate_left; assumption)) | exact Below.refl _ _ | assumption | (apply btrans0; rotate_left; assumption) | (apply btrans; rotate_left; assumption) | (simp; done) | omega | (simp; omega)))) HF.out).mono ?_
  rw [HHO.out]
  simp only
  rintro e w4 ⟨rfl, hb4⟩
  have hB4 : Below w.heap.size w w4 := (by repeat' (first | with_reducible (first | refine bset ?_ ?_ | exact Below.refl _ _ | assumption | refine bdrewN ?_ _ | refine bdrew ?_ | refine balloc0 ?_ | refine balloc ?_ ?_ | (apply btrans0; rotate_left; assumption) | (apply btrans; rotate_left; assumption)) | exact Below.refl _ _ | assumption | (apply btrans0; rotate_left; assumption) | (apply btrans; rotate_left; assumption) | (simp; done) | omega | (simp; omega)))
  have y4 : w3.heap.size ≤ w4.heap.size := by have := hb4.size; (try simp at this); omega
  have za4 : w.heap.size < w4.heap.size := by omega
  have zr4 : w.heap.size + 1 < w4.heap.size := by omega
  have A4 := (hb4.block _ za3).trans HA3.out
  have R4 := (hb4.block _ zr3).trans HR3.out
  have HA4 := Lib.hid A4
  have HR4 := Lib.hid R4
  clear ca3 cr3 fr3
  have ca4 := fun o => cellB A4 o
  have cr4 := fun o => cellB R4 o
  have fr4 := fun o => frozenB R4 o
  simp only [bunC] at ca4
  clear A4 R4 hb4
  go_wp2_with fail
  refine (visited_any b _ _ (HR.out.below' (by repeat' (first | with_reducible (first | refine bset ?_ ?_ | exact Below.refl _ _ | assumption | refine bdrewN ?_ _ | refine bdrew ?_ | refine balloc0 ?_ | refine balloc ?_ ?_ | (apply btrans0; rotate_left; assumption) | (apply btrans; rotate_left; assumption)) | exact Below.refl _ _ | assumption | (apply btrans0; rotate_left; assumption) | (apply btrans; rotate_left; assumption) | (simp; done) | omega | (simp; omega)))) HF.out).mono ?_
  unfold GetPost
  rw [HVI.out]
  simp only
  rintro e w5 ⟨v, rfl, hb5, hri⟩
  have HRI := Lib.hid hri
  clear hri
  have hB5 : Below w.heap.size w w5 := (by repeat' (first | with_reducible (first | refine bset ?_ ?_ | exact Below.refl _ _ | assumption | refine bdrewN ?_ _ | refine bdrew ?_ | refine balloc0 ?_ | refine balloc ?_ ?_ | (apply btrans0; rotate_left; assumption) | (apply btrans; rotate_left; assumption)) | exact Below.refl _ _ | assumption | (apply btrans0; rotate_left; assumption) | (apply btrans; rotate_left; assumption) | (simp; done) | omega | (simp; omega)))
  have y5 : w4.heap.size ≤ w5.heap.size := by have := hb5.size; (try simp at this); omega
  have za5 : w.heap.size < w5.heap.size := by omega
  have zr5 : w.heap.size + 1 < w5.heap.size := by omega
  have A5 := (hb5.block _ za4).trans HA4.out
  have R5 := (hb5.block _ zr4).trans HR4.out
  have HA5 := Lib.hid A5
  have HR5 := Lib.hid R5
  clear ca4 cr4 fr4
  have ca5 := fun o => cellB A5 o
  have cr5 := fun o => cellB R5 o
  have fr5 := fun o => frozenB R5 o
  simp only [bunC] at ca5
  clear A5 R5 hb5
  go_wp2_with fail
  refine (contains_any l _ n _ HRI.out).mono ?_
  rw [HCT.out]
  rintro e w6 ⟨rfl, rfl⟩
  obtain ⟨w5, rfl⟩ : ∃ w5, w5 = w6 := ⟨_, rfl⟩
  go_wp2_with fail
  refine bodyPost_ret (v := .tuple #[.agg #[.int .i64 0, .int .i64 0, .int .i64 0, .int .i64 0, .int .i64 0, .int .i64 0, .int .i64 0, .int .i64 0, .int .i64 0, .int .i64 0, .slice none 0 0, .string ⟨#[]⟩], .int .i64 27]) (by simp [results, Try.results24, go_sem, World.cell?_setCell_same', cr5, zr5]) rfl ?_
  unfold FwdPost
  exact ⟨_, rfl, RBlks.nil _ _, (by repeat' (first | with_reducible (first | refine bset ?_ ?_ | exact Below.refl _ _ | assumption | refine bdrewN ?_ _ | refine bdrew ?_ | refine balloc0 ?_ | refine balloc ?_ ?_ | (apply btrans0; rotate_left; assumption) | (apply btrans; rotate_left; assumption)) | exact Below.refl _ _ | assumption | (apply btrans0; rotate_left; assumption) | (apply btrans; rotate_left; assumption) | (simp; done) | omega | (simp; omega)))⟩
set_option maxRecDepth 100000 in
set_option maxHeartbeats 8000000 in
theorem fwd_27_on_off (b : Bun) (u : Value) (n el : Int) (w : World) (h : RBlks w w.heap.size u b.blocks) (hf : Fits b) (HE : Hid (chkE b = 0)) (HND : Hid (nodeB n = true)) (r1 : ¬ el < 0) (r2 : ¬ 1099511627776 < el) (hlf : b.life ≤ 1099511627776) (a0 : Int) (HAG : Hid (ageS b = (a0, 0))) (a1 : 0 ≤ a0) (a2 : a0 ≤ 1099511627776) (a3 : a0 + el < b.life) (a4 : ¬ b.life ≤ a0 + el) (h0 k1 HX : Int) (HHO : Hid (hopS b = (h0, k1, HX))) (qh : (HX == 11) = false) (qh0 : (HX == 0) = false) (l : List Int) (HVI : Hid (getS b 3 = (l, 0))) (HCT : Hid (l.contains n = true))  :
    Calls Try.prog 24 #[.agg (bunC b u).toArray, .int .i64 n, .int .i64 el] w (FwdPost (zBun, 27) w) := by
  have HF := Lib.hid hf
  have HR := Lib.hid h
  obtain ⟨a, c, rfl, h1, h2, h3, h4⟩ := h
  clear h1 h2 h3 h4 hf
  go_enter Try.func24, Try.ntmps24
  simp only [bunC]
  go_wp2_with fail
  refine (check_any b _ _ (HR.out.below' (by repeat' (first | with_reducible (first | refine bset ?_ ?_ | exact Below.refl _ _ | assumption | refine bdrewN ?_ _ | refine bdrew ?_ | refine balloc0 ?_ | refine balloc ?_ ?_ | (apply btrans0; rotate_left; assumption) | (apply btrans; rotate_left; assumption)) | exact Below.refl _ _ | assumption | (apply btrans0; rotate_left; assumption) | (apply btrans; rotate_left; assumption) | (simp; done) | omega | (simp; omega)))) HF.out).mono ?_
  rw [HE.out]
  rintro e w1 ⟨rfl, hb1⟩
  have hB1 : Below w.heap.size w w1 := (by repeat' (first | with_reducible (first | refine bset ?_ ?_ | exact Below.refl _ _ | assumption | refine bdrewN ?_ _ | refine bdrew ?_ | refine balloc0 ?_ | refine balloc ?_ ?_ | (apply btrans0; rotate_left; assumption) | (apply btrans; rotate_left; assumption)) | exact Below.refl _ _ | assumption | (apply btrans0; rotate_left; assumption) | (apply btrans; rotate_left; assumption) | (simp; done) | omega | (simp; omega)))
  have zr1 : w.heap.size + 1 < w1.heap.size := by have := hb1.size; simp at this; omega
  have za1 : w.heap.size < w1.heap.size := by omega
  have A1 : w1.heap[w.heap.size]? = some (.cells (bunC b (.slice a b.blocks.length c)).toArray 28 (0, 0)) := (hb1.block _ (by simp; omega)).trans ((Below.heap_alloc _ _ _ (by simp)).trans heap_new)
  have R1 : w1.heap[w.heap.size + 1]? = some (.cells #[.int .i64 0, .int .i64 0, .int .i64 0, .int .i64 0, .int .i64 0, .int .i64 0, .int .i64 0, .int .i64 0, .int .i64 0, .int .i64 0, .slice none 0 0, .string ⟨#[]⟩] 28 (0, 0)) := (hb1.block _ (by simp)).trans (heap_new' (by simp))
  have ca1 := fun o => cellB A1 o
  have cr1 := fun o => cellB R1 o
  have fr1 := fun o => frozenB R1 o
  simp only [bunC] at ca1
  have HA1 := Lib.hid A1
  have HR1 := Lib.hid R1
  clear A1 R1 hb1
  go_wp2_with fail
  refine (node_any n _).mono ?_
  rw [HND.out]
  rintro e w2 ⟨rfl, rfl⟩
  obtain ⟨w1, rfl⟩ : ∃ w1, w1 = w2 := ⟨_, rfl⟩
  go_wp2_with fail
  refine (age_any b _ _ (HR.out.below' (by repeat' (first | with_reducible (first | refine bset ?_ ?_ | exact Below.refl _ _ | assumption | refine bdrewN ?_ _ | refine bdrew ?_ | refine balloc0 ?_ | refine balloc ?_ ?_ | (apply btrans0; rotate_left; assumption) | (apply btrans; rotate_left; assumption)) | exact Below.refl _ _ | assumption | (apply btrans0; rotate_left; assumption) | (apply btrans; rotate_left; assumption) | (simp; done) | omega | (simp; omega)))) HF.out).mono ?_
  rw [HAG.out]
  simp only
  rintro e w3 ⟨rfl, hb3⟩
  have hB3 : Below w.heap.size w w3 := (by repeat' (first | with_reducible (first | refine bset ?_ ?_ | exact Below.refl _ _ | assumption | refine bdrewN ?_ _ | refine bdrew ?_ | refine balloc0 ?_ | refine balloc ?_ ?_ | (apply btrans0; rotate_left; assumption) | (apply btrans; rotate_left; assumption)) | exact Below.refl _ _ | assumption | (apply btrans0; rotate_left; assumption) | (apply btrans; rotate_left; assumption) | (simp; done) | omega | (simp; omega)))
  have y3 : w1.heap.size ≤ w3.heap.size := by have := hb3.size; (try simp at this); omega
  have za3 : w.heap.size < w3.heap.size := by omega
  have zr3 : w.heap.size + 1 < w3.heap.size := by omega
  have A3 := (hb3.block _ za1).trans HA1.out
  have R3 := (hb3.block _ zr1).trans HR1.out
  have HA3 := Lib.hid A3
  have HR3 := Lib.hid R3
  clear ca1 cr1 fr1
  have ca3 := fun o => cellB A3 o
  have cr3 := fun o => cellB R3 o
  have fr3 := fun o => frozenB R3 o
  simp only [bunC] at ca3
  clear A3 R3 hb3
  go_wp2_with fail
  refine (hops_any b _ _ (HR.out.below' (by repeat' (first | with_reducible (first | refine bset ?_ ?_ | exact Below.refl _ _ | assumption | refine bdrewN ?_ _ | refine bdrew ?_ | refine balloc0 ?_ | refine balloc ?_ ?_ | (apply btrans0; rotate_left; assumption) | (apply btrans; rotate_left; assumption)) | exact Below.refl _ _ | assumption | (apply btrans0; rotate_left; assumption) | (apply btrans; rotate_left; assumption) | (simp; done) | omega | (simp; omega)))) HF.out).mono ?_
  rw [HHO.out]
  simp only
  rintro e w4 ⟨rfl, hb4⟩
  have hB4 : Below w.heap.size w w4 := (by repeat' (first | with_reducible (first | refine bset ?_ ?_ | exact Below.refl _ _ | assumption | refine bdrewN ?_ _ | refine bdrew ?_ | refine balloc0 ?_ | refine balloc ?_ ?_ | (apply btrans0; rotate_left; assumption) | (apply btrans; rotate_left; assumption)) | exact Below.refl _ _ | assumption | (apply btrans0; rotate_left; assumption) | (apply btrans; rotate_left; assumption) | (simp; done) | omega | (simp; omega)))
  have y4 : w3.heap.size ≤ w4.heap.size := by have := hb4.size; (try simp at this); omega
  have za4 : w.heap.size < w4.heap.size := by omega
  have zr4 : w.heap.size + 1 < w4.heap.size := by omega
  have A4 := (hb4.block _ za3).trans HA3.out
  have R4 := (hb4.block _ zr3).trans HR3.out
  have HA4 := Lib.hid A4
  have HR4 := Lib.hid R4
  clear ca3 cr3 fr3
  have ca4 := fun o => cellB A4 o
  have cr4 := fun o => cellB R4 o
  have fr4 := fun o => frozenB R4 o
  simp only [bunC] at ca4
  clear A4 R4 hb4
  go_wp2_with fail
  refine (visited_any b _ _ (HR.out.below' (by repeat' (first | with_reducible (first | refine bset ?_ ?_ | exact Below.refl _ _ | assumption | refine bdrewN ?_ _ | refine bdrew ?_ | refine balloc0 ?_ | refine balloc ?_ ?_ | (apply btrans0; rotate_left; assumption) | (apply btrans; rotate_left; assumption)) | exact Below.refl _ _ | assumption | (apply btrans0; rotate_left; assumption) | (apply btrans; rotate_left; assumption) | (simp; done) | omega | (simp; omega)))) HF.out).mono ?_
  unfold GetPost
  rw [HVI.out]
  simp only
  rintro e w5 ⟨v, rfl, hb5, hri⟩
  have HRI := Lib.hid hri
  clear hri
  have hB5 : Below w.heap.size w w5 := (by repeat' (first | with_reducible (first | refine bset ?_ ?_ | exact Below.refl _ _ | assumption | refine bdrewN ?_ _ | refine bdrew ?_ | refine balloc0 ?_ | refine balloc ?_ ?_ | (apply btrans0; rotate_left; assumption) | (apply btrans; rotate_left; assumption)) | exact Below.refl _ _ | assumption | (apply btrans0; rotate_left; assumption) | (apply btrans; rotate_left; assumption) | (simp; done) | omega | (simp; omega)))
  have y5 : w4.heap.size ≤ w5.heap.size := by have := hb5.size; (try simp at this); omega
  have za5 : w.heap.size < w5.heap.size := by omega
  have zr5 : w.heap.size + 1 < w5.heap.size := by omega
  have A5 := (hb5.block _ za4).trans HA4.out
  have R5 := (hb5.block _ zr4).trans HR4.out
  have HA5 := Lib.hid A5
  have HR5 := Lib.hid R5
  clear ca4 cr4 fr4
  have ca5 := fun o => cellB A5 o
  have cr5 := fun o => cellB R5 o
  have fr5 := fun o => frozenB R5 o
  simp only [bunC] at ca5
  clear A5 R5 hb5
  go_wp2_with fail
  refine (contains_any l _ n _ HRI.out).mono ?_
  rw [HCT.out]
  rintro e w6 ⟨rfl, rfl⟩
  obtain ⟨w5, rfl⟩ : ∃ w5, w5 = w6 := ⟨_, rfl⟩
  go_wp2_with fail
  refine bodyPost_ret (v := .tuple #[.agg #[.int .i64 0, .int .i64 0, .int .i64 0, .int .i64 0, .int .i64 0, .int .i64 0, .int .i64 0, .int .i64 0, .int .i64 0, .int .i64 0, .slice none 0 0, .string ⟨#[]⟩], .int .i64 27]) (by simp [results, Try.results24, go_sem, World.cell?_setCell_same', cr5, zr5]) rfl ?_
  unfold FwdPost
  exact ⟨_, rfl, RBlks.nil _ _, (by repeat' (first | with_reducible (first | refine bset ?_ ?_ | exact Below.refl _ _ | assumption | refine bdrewN ?_ _ | refine bdrew ?_ | refine balloc0 ?_ | refine balloc ?_ ?_ | (apply btrans0; rotate_left; assumption) | (apply btrans; rotate_left; assumption)) | exact Below.refl _ _ | assumption | (apply btrans0; rotate_left; assumption) | (apply btrans; rotate_left; assumption) | (simp; done) | omega | (simp; omega)))⟩
set_option maxRecDepth 100000 in
set_option maxHeartbeats 8000000 in
theorem fwd_27_off_on (b : Bun) (u : Value) (n el : Int) (w : World) (h : RBlks w w.heap.size u b.blocks) (hf : Fits b) (HE : Hid (chkE b = 0)) (HND : Hid (nodeB n = true)) (r1 : ¬ el < 0) (r2 : ¬ 1099511627776 < el) (hlf : b.life ≤ 1099511627776) (a0 AE : Int) (HAG : Hid (ageS b = (a0, AE))) (qa : (AE == 11) = false) (qa0 : (AE == 0) = false) (h0 k1 : Int) (HHO : Hid (hopS b = (h0, k1, 0))) (p1 : 0 ≤ k1) (p2 : k1 ≤ 255) (p3 : ¬ h0 < k1 + 1) (p4 : k1 + 1 ≤ h0) (p5 : h0 ≤ 255) (l : List Int) (HVI : Hid (getS b 3 = (l, 0))) (HCT : Hid (l.contains n = true))  :
    Calls Try.prog 24 #[.agg (bunC b u).toArray, .int .i64 n, .int .i64 el] w (FwdPost (zBun, 27) w) := by
  have HF := Lib.hid hf
  have HR := Lib.hid h
  obtain ⟨a, c, rfl, h1, h2, h3, h4⟩ := h
  clear h1 h2 h3 h4 hf
  go_enter Try.func24, Try.ntmps24
  simp only [bunC]
  go_wp2_with fail
  refine (check_any b _ _ (HR.out.below' (by repeat' (first | with_reducible (first | refine bset ?_ ?_ | exact Below.refl _ _ | assumption | refine bdrewN ?_ _ | refine bdrew ?_ | refine balloc0 ?_ | refine balloc ?_ ?_ | (apply btrans0; rotate_left; assumption) | (apply btrans; rotate_left; assumption)) | exact Below.refl _ _ | assumption | (apply btrans0; rotate_left; assumption) | (apply btrans; rotate_left; assumption) | (simp; done) | omega | (simp; omega)))) HF.out).mono ?_
  rw [HE.out]
  rintro e w1 ⟨rfl, hb1⟩
  have hB1 : Below w.heap.size w w1 := (by repeat' (first | with_reducible (first | refine bset ?_ ?_ | exact Below.refl _ _ | assumption | refine bdrewN ?_ _ | refine bdrew ?_ | refine balloc0 ?_ | refine balloc ?_ ?_ | (apply btrans0; rotate_left; assumption) | (apply btrans; rotate_left; assumption)) | exact Below.refl _ _ | assumption | (apply btrans0; rotate_left; assumption) | (apply btrans; rotate_left; assumption) | (simp; done) | omega | (simp; omega)))
  have zr1 : w.heap.size + 1 < w1.heap.size := by have := hb1.size; simp at this; omega
  have za1 : w.heap.size < w1.heap.size := by omega
  have A1 : w1.heap[w.heap.size]? = some (.cells (bunC b (.slice a b.blocks.length c)).toArray 28 (0, 0)) := (hb1.block _ (by simp; omega)).trans ((Below.heap_alloc _ _ _ (by simp)).trans heap_new)
  have R1 : w1.heap[w.heap.size + 1]? = some (.cells #[.int .i64 0, .int .i64 0, .int .i64 0, .int .i64 0, .int .i64 0, .int .i64 0, .int .i64 0, .int .i64 0, .int .i64 0, .int .i64 0, .slice none 0 0, .string ⟨#[]⟩] 28 (0, 0)) := (hb1.block _ (by simp)).trans (heap_new' (by simp))
  have ca1 := fun o => cellB A1 o
  have cr1 := fun o => cellB R1 o
  have fr1 := fun o => frozenB R1 o
  simp only [bunC] at ca1
  have HA1 := Lib.hid A1
  have HR1 := Lib.hid R1
  clear A1 R1 hb1
  go_wp2_with fail
  refine (node_any n _).mono ?_
  rw [HND.out]
  rintro e w2 ⟨rfl, rfl⟩
  obtain ⟨w1, rfl⟩ : ∃ w1, w1 = w2 := ⟨_, rfl⟩
  go_wp2_with fail
  refine (age_any b _ _ (HR.out.below' (by repeat' (first | with_reducible (first | refine bset ?_ ?_ | exact Below.refl _ _ | assumption | refine bdrewN ?_ _ | refine bdrew ?_ | refine balloc0 ?_ | refine balloc ?_ ?_ | (apply btrans0; rotate_left; assumption) | (apply btrans; rotate_left; assumption)) | exact Below.refl _ _ | assumption | (apply btrans0; rotate_left; assumption) | (apply btrans; rotate_left; assumption) | (simp; done) | omega | (simp; omega)))) HF.out).mono ?_
  rw [HAG.out]
  simp only
  rintro e w3 ⟨rfl, hb3⟩
  have hB3 : Below w.heap.size w w3 := (by repeat' (first | with_reducible (first | refine bset ?_ ?_ | exact Below.refl _ _ | assumption | refine bdrewN ?_ _ | refine bdrew ?_ | refine balloc0 ?_ | refine balloc ?_ ?_ | (apply btrans0; rotate_left; assumption) | (apply btrans; rotate_left; assumption)) | exact Below.refl _ _ | assumption | (apply btrans0; rotate_left; assumption) | (apply btrans; rotate_left; assumption) | (simp; done) | omega | (simp; omega)))
  have y3 : w1.heap.size ≤ w3.heap.size := by have := hb3.size; (try simp at this); omega
  have za3 : w.heap.size < w3.heap.size := by omega
  have zr3 : w.heap.size + 1 < w3.heap.size := by omega
  have A3 := (hb3.block _ za1).trans HA1.out
  have R3 := (hb3.block _ zr1).trans HR1.out
  have HA3 := Lib.hid A3
  have HR3 := Lib.hid R3
  clear ca1 cr1 fr1
  have ca3 := fun o => cellB A3 o
  have cr3 := fun o => cellB R3 o
  have fr3 := fun o => frozenB R3 o
  simp only [bunC] at ca3
  clear A3 R3 hb3
  go_wp2_with fail
  refine (hops_any b _ _ (HR.out.below' (by repeat' (first | with_reducible (first | refine bset ?_ ?_ | exact Below.refl _ _ | assumption | refine bdrewN ?_ _ | refine bdrew ?_ | refine balloc0 ?_ | refine balloc ?_ ?_ | (apply btrans0; rotate_left; assumption) | (apply btrans; rotate_left; assumption)) | exact Below.refl _ _ | assumption | (apply btrans0; rotate_left; assumption) | (apply btrans; rotate_left; assumption) | (simp; done) | omega | (simp; omega)))) HF.out).mono ?_
  rw [HHO.out]
  simp only
  rintro e w4 ⟨rfl, hb4⟩
  have hB4 : Below w.heap.size w w4 := (by repeat' (first | with_reducible (first | refine bset ?_ ?_ | exact Below.refl _ _ | assumption | refine bdrewN ?_ _ | refine bdrew ?_ | refine balloc0 ?_ | refine balloc ?_ ?_ | (apply btrans0; rotate_left; assumption) | (apply btrans; rotate_left; assumption)) | exact Below.refl _ _ | assumption | (apply btrans0; rotate_left; assumption) | (apply btrans; rotate_left; assumption) | (simp; done) | omega | (simp; omega)))
  have y4 : w3.heap.size ≤ w4.heap.size := by have := hb4.size; (try simp at this); omega
  have za4 : w.heap.size < w4.heap.size := by omega
  have zr4 : w.heap.size + 1 < w4.heap.size := by omega
  have A4 := (hb4.block _ za3).trans HA3.out
  have R4 := (hb4.block _ zr3).trans HR3.out
  have HA4 := Lib.hid A4
  have HR4 := Lib.hid R4
  clear ca3 cr3 fr3
  have ca4 := fun o => cellB A4 o
  have cr4 := fun o => cellB R4 o
  have fr4 := fun o => frozenB R4 o
  simp only [bunC] at ca4
  clear A4 R4 hb4
  go_wp2_with fail
  refine (visited_any b _ _ (HR.out.below' (by repeat' (first | with_reducible (first | refine bset ?_ ?_ | exact Below.refl _ _ | assumption | refine bdrewN ?_ _ | refine bdrew ?_ | refine balloc0 ?_ | refine balloc ?_ ?_ | (apply btrans0; rotate_left; assumption) | (apply btrans; rotate_left; assumption)) | exact Below.refl _ _ | assumption | (apply btrans0; rotate_left; assumption) | (apply btrans; rotate_left; assumption) | (simp; done) | omega | (simp; omega)))) HF.out).mono ?_
  unfold GetPost
  rw [HVI.out]
  simp only
  rintro e w5 ⟨v, rfl, hb5, hri⟩
  have HRI := Lib.hid hri
  clear hri
  have hB5 : Below w.heap.size w w5 := (by repeat' (first | with_reducible (first | refine bset ?_ ?_ | exact Below.refl _ _ | assumption | refine bdrewN ?_ _ | refine bdrew ?_ | refine balloc0 ?_ | refine balloc ?_ ?_ | (apply btrans0; rotate_left; assumption) | (apply btrans; rotate_left; assumption)) | exact Below.refl _ _ | assumption | (apply btrans0; rotate_left; assumption) | (apply btrans; rotate_left; assumption) | (simp; done) | omega | (simp; omega)))
  have y5 : w4.heap.size ≤ w5.heap.size := by have := hb5.size; (try simp at this); omega
  have za5 : w.heap.size < w5.heap.size := by omega
  have zr5 : w.heap.size + 1 < w5.heap.size := by omega
  have A5 := (hb5.block _ za4).trans HA4.out
  have R5 := (hb5.block _ zr4).trans HR4.out
  have HA5 := Lib.hid A5
  have HR5 := Lib.hid R5
  clear ca4 cr4 fr4
  have ca5 := fun o => cellB A5 o
  have cr5 := fun o => cellB R5 o
  have fr5 := fun o => frozenB R5 o
  simp only [bunC] at ca5
  clear A5 R5 hb5
  go_wp2_with fail
  refine (contains_any l _ n _ HRI.out).mono ?_
  rw [HCT.out]
  rintro e w6 ⟨rfl, rfl⟩
  obtain ⟨w5, rfl⟩ : ∃ w5, w5 = w6 := ⟨_, rfl⟩
  go_wp2_with fail
  refine bodyPost_ret (v := .tuple #[.agg #[.int .i64 0, .int .i64 0, .int .i64 0, .int .i64 0, .int .i64 0, .int .i64 0, .int .i64 0, .int .i64 0, .int .i64 0, .int .i64 0, .slice none 0 0, .string ⟨#[]⟩], .int .i64 27]) (by simp [results, Try.results24, go_sem, World.cell?_setCell_same', cr5, zr5]) rfl ?_
  unfold FwdPost
  exact ⟨_, rfl, RBlks.nil _ _, (by repeat' (first | with_reducible (first | refine bset ?_ ?_ | exact Below.refl _ _ | assumption | refine bdrewN ?_ _ | refine bdrew ?_ | refine balloc0 ?_ | refine balloc ?_ ?_ | (apply btrans0; rotate_left; assumption) | (apply btrans; rotate_left; assumption)) | exact Below.refl _ _ | assumption | (apply btrans0; rotate_left; assumption) | (apply btrans; rotate_left; assumption) | (simp; done) | omega | (simp; omega)))⟩
set_option maxRecDepth 100000 in
set_option maxHeartbeats 8000000 in
theorem fwd_27_off_off (b : Bun) (u : Value) (n el : Int) (w : World) (h : RBlks w w.heap.size u b.blocks) (hf : Fits b) (HE : Hid (chkE b = 0)) (HND : Hid (nodeB n = true)) (r1 : ¬ el < 0) (r2 : ¬ 1099511627776 < el) (hlf : b.life ≤ 1099511627776) (a0 AE : Int) (HAG : Hid (ageS b = (a0, AE))) (qa : (AE == 11) = false) (qa0 : (AE == 0) = false) (h0 k1 HX : Int) (HHO : Hid (hopS b = (h0, k1, HX))) (qh : (HX == 11) = false) (qh0 : (HX == 0) = false) (l : List Int) (HVI : Hid (getS b 3 = (l, 0))) (HCT : Hid (l.contains n = true))  :
    Calls Try.prog 24 #[.agg (bunC b u).toArray, .int .i64 n, .int .i64 el] w (FwdPost (zBun, 27) w) := by
  have HF := Lib.hid hf
  have HR := Lib.hid h
  obtain ⟨a, c, rfl, h1, h2, h3, h4⟩ := h
  clear h1 h2 h3 h4 hf
  go_enter Try.func24, Try.ntmps24
  simp only [bunC]
  go_wp2_with fail
  refine (check_any b _ _ (HR.out.below' (by repeat' (first | with_reducible (first | refine bset ?_ ?_ | exact Below.refl _ _ | assumption | refine bdrewN ?_ _ | refine bdrew ?_ | refine balloc0 ?_ | refine balloc ?_ ?_ | (apply btrans0; rotate_left; assumption) | (apply btrans; rotate_left; assumption)) | exact Below.refl _ _ | assumption | (apply btrans0; rotate_left; assumption) | (apply btrans; rotate_left; assumption) | (simp; done) | omega | (simp; omega)))) HF.out).mono ?_
  rw [HE.out]
  rintro e w1 ⟨rfl, hb1⟩
  have hB1 : Below w.heap.size w w1 := (by repeat' (first | with_reducible (first | refine bset ?_ ?_ | exact Below.refl _ _ | assumption | refine bdrewN ?_ _ | refine bdrew ?_ | refine balloc0 ?_ | refine balloc ?_ ?_ | (apply btrans0; rotate_left; assumption) | (apply btrans; rotate_left; assumption)) | exact Below.refl _ _ | assumption | (apply btrans0; rotate_left; assumption) | (apply btrans; rotate_left; assumption) | (simp; done) | omega | (simp; omega)))
  have zr1 : w.heap.size + 1 < w1.heap.size := by have := hb1.size; simp at this; omega
  have za1 : w.heap.size < w1.heap.size := by omega
  have A1 : w1.heap[w.heap.size]? = some (.cells (bunC b (.slice a b.blocks.length c)).toArray 28 (0, 0)) := (hb1.block _ (by simp; omega)).trans ((Below.heap_alloc _ _ _ (by simp)).trans heap_new)
  have R1 : w1.heap[w.heap.size + 1]? = some (.cells #[.int .i64 0, .int .i64 0, .int .i64 0, .int .i64 0, .int .i64 0, .int .i64 0, .int .i64 0, .int .i64 0, .int .i64 0, .int .i64 0, .slice none 0 0, .string ⟨#[]⟩] 28 (0, 0)) := (hb1.block _ (by simp)).trans (heap_new' (by simp))
  have ca1 := fun o => cellB A1 o
  have cr1 := fun o => cellB R1 o
  have fr1 := fun o => frozenB R1 o
  simp only [bunC] at ca1
  have HA1 := Lib.hid A1
  have HR1 := Lib.hid R1
  clear A1 R1 hb1
  go_wp2_with fail
  refine (node_any n _).mono ?_
  rw [HND.out]
  rintro e w2 ⟨rfl, rfl⟩
  obtain ⟨w1, rfl⟩ : ∃ w1, w1 = w2 := ⟨_, rfl⟩
  go_wp2_with fail
  refine (age_any b _ _ (HR.out.below' (by repeat' (first | with_reducible (first | refine bset ?_ ?_ | exact Below.refl _ _ | assumption | refine bdrewN ?_ _ | refine bdrew ?_ | refine balloc0 ?_ | refine balloc ?_ ?_ | (apply btrans0; rotate_left; assumption) | (apply btrans; rotate_left; assumption)) | exact Below.refl _ _ | assumption | (apply btrans0; rotate_left; assumption) | (apply btrans; rotate_left; assumption) | (simp; done) | omega | (simp; omega)))) HF.out).mono ?_
  rw [HAG.out]
  simp only
  rintro e w3 ⟨rfl, hb3⟩
  have hB3 : Below w.heap.size w w3 := (by repeat' (first | with_reducible (first | refine bset ?_ ?_ | exact Below.refl _ _ | assumption | refine bdrewN ?_ _ | refine bdrew ?_ | refine balloc0 ?_ | refine balloc ?_ ?_ | (apply btrans0; rotate_left; assumption) | (apply btrans; rotate_left; assumption)) | exact Below.refl _ _ | assumption | (apply btrans0; rotate_left; assumption) | (apply btrans; rotate_left; assumption) | (simp; done) | omega | (simp; omega)))
  have y3 : w1.heap.size ≤ w3.heap.size := by have := hb3.size; (try simp at this); omega
  have za3 : w.heap.size < w3.heap.size := by omega
  have zr3 : w.heap.size + 1 < w3.heap.size := by omega
  have A3 := (hb3.block _ za1).trans HA1.out
  have R3 := (hb3.block _ zr1).trans HR1.out
  have HA3 := Lib.hid A3
  have HR3 := Lib.hid R3
  clear ca1 cr1 fr1
  have ca3 := fun o => cellB A3 o
  have cr3 := fun o => cellB R3 o
  have fr3 := fun o => frozenB R3 o
  simp only [bunC] at ca3
  clear A3 R3 hb3
  go_wp2_with fail
  refine (hops_any b _ _ (HR.out.below' (by repeat' (first | with_reducible (first | refine bset ?_ ?_ | exact Below.refl _ _ | assumption | refine bdrewN ?_ _ | refine bdrew ?_ | refine balloc0 ?_ | refine balloc ?_ ?_ | (apply btrans0; rotate_left; assumption) | (apply btrans; rotate_left; assumption)) | exact Below.refl _ _ | assumption | (apply btrans0; rotate_left; assumption) | (apply btrans; rotate_left; assumption) | (simp; done) | omega | (simp; omega)))) HF.out).mono ?_
  rw [HHO.out]
  simp only
  rintro e w4 ⟨rfl, hb4⟩
  have hB4 : Below w.heap.size w w4 := (by repeat' (first | with_reducible (first | refine bset ?_ ?_ | exact Below.refl _ _ | assumption | refine bdrewN ?_ _ | refine bdrew ?_ | refine balloc0 ?_ | refine balloc ?_ ?_ | (apply btrans0; rotate_left; assumption) | (apply btrans; rotate_left; assumption)) | exact Below.refl _ _ | assumption | (apply btrans0; rotate_left; assumption) | (apply btrans; rotate_left; assumption) | (simp; done) | omega | (simp; omega)))
  have y4 : w3.heap.size ≤ w4.heap.size := by have := hb4.size; (try simp at this); omega
  have za4 : w.heap.size < w4.heap.size := by omega
  have zr4 : w.heap.size + 1 < w4.heap.size := by omega
  have A4 := (hb4.block _ za3).trans HA3.out
  have R4 := (hb4.block _ zr3).trans HR3.out
  have HA4 := Lib.hid A4
  have HR4 := Lib.hid R4
  clear ca3 cr3 fr3
  have ca4 := fun o => cellB A4 o
  have cr4 := fun o => cellB R4 o
  have fr4 := fun o => frozenB R4 o
  simp only [bunC] at ca4
  clear A4 R4 hb4
  go_wp2_with fail
  refine (visited_any b _ _ (HR.out.below' (by repeat' (first | with_reducible (first | refine bset ?_ ?_ | exact Below.refl _ _ | assumption | refine bdrewN ?_ _ | refine bdrew ?_ | refine balloc0 ?_ | refine balloc ?_ ?_ | (apply btrans0; rotate_left; assumption) | (apply btrans; rotate_left; assumption)) | exact Below.refl _ _ | assumption | (apply btrans0; rotate_left; assumption) | (apply btrans; rotate_left; assumption) | (simp; done) | omega | (simp; omega)))) HF.out).mono ?_
  unfold GetPost
  rw [HVI.out]
  simp only
  rintro e w5 ⟨v, rfl, hb5, hri⟩
  have HRI := Lib.hid hri
  clear hri
  have hB5 : Below w.heap.size w w5 := (by repeat' (first | with_reducible (first | refine bset ?_ ?_ | exact Below.refl _ _ | assumption | refine bdrewN ?_ _ | refine bdrew ?_ | refine balloc0 ?_ | refine balloc ?_ ?_ | (apply btrans0; rotate_left; assumption) | (apply btrans; rotate_left; assumption)) | exact Below.refl _ _ | assumption | (apply btrans0; rotate_left; assumption) | (apply btrans; rotate_left; assumption) | (simp; done) | omega | (simp; omega)))
  have y5 : w4.heap.size ≤ w5.heap.size := by have := hb5.size; (try simp at this); omega
  have za5 : w.heap.size < w5.heap.size := by omega
  have zr5 : w.heap.size + 1 < w5.heap.size := by omega
  have A5 := (hb5.block _ za4).trans HA4.out
  have R5 := (hb5.block _ zr4).trans HR4.out
  have HA5 := Lib.hid A5
  have HR5 := Lib.hid R5
  clear ca4 cr4 fr4
  have ca5 := fun o => cellB A5 o
  have cr5 := fun o => cellB R5 o
  have fr5 := fun o => frozenB R5 o
  simp only [bunC] at ca5
  clear A5 R5 hb5
  go_wp2_with fail
  refine (contains_any l _ n _ HRI.out).mono ?_
  rw [HCT.out]
  rintro e w6 ⟨rfl, rfl⟩
  obtain ⟨w5, rfl⟩ : ∃ w5, w5 = w6 := ⟨_, rfl⟩
  go_wp2_with fail
  refine bodyPost_ret (v := .tuple #[.agg #[.int .i64 0, .int .i64 0, .int .i64 0, .int .i64 0, .int .i64 0, .int .i64 0, .int .i64 0, .int .i64 0, .int .i64 0, .int .i64 0, .slice none 0 0, .string ⟨#[]⟩], .int .i64 27]) (by simp [results, Try.results24, go_sem, World.cell?_setCell_same', cr5, zr5]) rfl ?_
  unfold FwdPost
  exact ⟨_, rfl, RBlks.nil _ _, (by repeat' (first | with_reducible (first | refine bset ?_ ?_ | exact Below.refl _ _ | assumption | refine bdrewN ?_ _ | refine bdrew ?_ | refine balloc0 ?_ | refine balloc ?_ ?_ | (apply btrans0; rotate_left; assumption) | (apply btrans; rotate_left; assumption)) | exact Below.refl _ _ | assumption | (apply btrans0; rotate_left; assumption) | (apply btrans; rotate_left; assumption) | (simp; done) | omega | (simp; omega)))⟩
end Go.Proofs.Ythgokfceakbjlaa
