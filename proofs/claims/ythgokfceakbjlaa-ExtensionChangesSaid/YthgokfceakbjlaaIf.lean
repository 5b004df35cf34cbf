/- Layer 14, the reference: Forward refuses. -/
import Derived.Test.YthgokfceakbjlaaIe
set_option linter.unusedVariables false
set_option linter.unusedSimpArgs false
namespace Go.Proofs.Ythgokfceakbjlaa
open Go Go.RowKit
attribute [local go_sem] B_getElem B_size B_app B_extract B_get B_toList

set_option maxRecDepth 100000 in
set_option maxHeartbeats 8000000 in
theorem rfwd_bad1 (b : Bun) (u : Value) (n el : Int) (w : World) (h : RBlks w w.heap.size u b.blocks) (hf : Fits b) (hE : chkE b ≠ 0) :
    Calls Try.prog 25 #[.agg (bunC b u).toArray, .int .i64 n, .int .i64 el] w (FwdPost (zBun, 1) w) := by
  have HF := Lib.hid hf
  have HR := Lib.hid h
  obtain ⟨a, c, rfl, h1, h2, h3, h4⟩ := h
  clear h1 h2 h3 h4 hf
  obtain ⟨E, hE2⟩ : ∃ q, chkE b = q := ⟨_, rfl⟩
  rw [hE2] at hE
  have HE := Lib.hid hE2
  have z' : (E != 0) = true := by rw [bne_iff_ne]; exact hE
  clear hE hE2
  go_enter Try.func25, Try.ntmps25
  simp only [bunC]
  go_wp2_with fail
  refine (rcheck_any b _ _ (HR.out.below' (by repeat' (first | with_reducible (first | refine bset ?_ ?_ | exact Below.refl _ _ | assumption | refine bdrewN ?_ _ | refine bdrew ?_ | refine balloc0 ?_ | refine balloc ?_ ?_ | (apply btrans0; rotate_left; assumption) | (apply btrans; rotate_left; assumption)) | exact Below.refl _ _ | assumption | (apply btrans0; rotate_left; assumption) | (apply btrans; rotate_left; assumption) | (simp; done) | omega | (simp; omega)))) HF.out).mono ?_
  rw [HE.out]
  rintro e w1 ⟨rfl, hb1⟩
  have hB1 : Below w.heap.size w w1 := (by repeat' (first | with_reducible (first | refine bset ?_ ?_ | exact Below.refl _ _ | assumption | refine bdrewN ?_ _ | refine bdrew ?_ | refine balloc0 ?_ | refine balloc ?_ ?_ | (apply btrans0; rotate_left; assumption) | (apply btrans; rotate_left; assumption)) | exact Below.refl _ _ | assumption | (apply btrans0; rotate_left; assumption) | (apply btrans; rotate_left; assumption) | (simp; done) | omega | (simp; omega)))
  have z1 : w.heap.size + 1 < w1.heap.size := by have := hb1.size; (try simp at this); omega
  have z1a : w.heap.size < w1.heap.size := by omega
  have A1 : w1.heap[w.heap.size]? = some (.cells (bunC b (.slice a b.blocks.length c)).toArray 28 (0, 0)) := (hb1.block _ (by first | omega | (simp; done) | (simp; omega))).trans (by repeat (first | exact heap_new' (by first | rfl | (simp; done)) | refine (Below.heap_alloc _ _ _ (by first | (simp; done) | (simp; omega))).trans ?_))
  have R1 : w1.heap[w.heap.size + 1]? = some (.cells #[.int .i64 0, .int .i64 0, .int .i64 0, .int .i64 0, .int .i64 0, .int .i64 0, .int .i64 0, .int .i64 0, .int .i64 0, .int .i64 0, .slice none 0 0, .string ⟨#[]⟩] 28 (0, 0)) := (hb1.block _ (by simp)).trans (by repeat (first | exact heap_new' (by first | rfl | (simp; done)) | refine (Below.heap_alloc _ _ _ (by first | (simp; done) | (simp; omega))).trans ?_))
  have ca := fun o => cellB A1 o
  have cr := fun o => cellB R1 o
  have fr := fun o => frozenB R1 o
  simp only [bunC] at ca
  have HA1 := Lib.hid A1
  have HR1 := Lib.hid R1
  clear A1 R1 hb1
  go_wp2_with fail
  refine bodyPost_ret (v := .tuple #[.agg #[.int .i64 0, .int .i64 0, .int .i64 0, .int .i64 0, .int .i64 0, .int .i64 0, .int .i64 0, .int .i64 0, .int .i64 0, .int .i64 0, .slice none 0 0, .string ⟨#[]⟩], .int .i64 1]) (by simp [results, Try.results25, go_sem, World.cell?_setCell_same', cr, z1]) rfl ?_
  unfold FwdPost
  exact ⟨_, rfl, RBlks.nil _ _, (by repeat' (first | with_reducible (first | refine bset ?_ ?_ | exact Below.refl _ _ | assumption | refine bdrewN ?_ _ | refine bdrew ?_ | refine balloc0 ?_ | refine balloc ?_ ?_ | (apply btrans0; rotate_left; assumption) | (apply btrans; rotate_left; assumption)) | exact Below.refl _ _ | assumption | (apply btrans0; rotate_left; assumption) | (apply btrans; rotate_left; assumption) | (simp; done) | omega | (simp; omega)))⟩
set_option maxRecDepth 100000 in
set_option maxHeartbeats 8000000 in
theorem rfwd_bad2 (b : Bun) (u : Value) (n el : Int) (w : World) (h : RBlks w w.heap.size u b.blocks) (hf : Fits b) (hE : chkE b = 0) (hr : nodeB n = false ∨ el < 0 ∨ 1099511627776 < el) :
    Calls Try.prog 25 #[.agg (bunC b u).toArray, .int .i64 n, .int .i64 el] w (FwdPost (zBun, 2) w) := by
  have HF := Lib.hid hf
  have HR := Lib.hid h
  obtain ⟨a, c, rfl, h1, h2, h3, h4⟩ := h
  clear h1 h2 h3 h4 hf
  have HE := Lib.hid hE
  clear hE
  obtain ⟨nd, hnd⟩ : ∃ q, nodeB n = q := ⟨_, rfl⟩
  have HND := Lib.hid hnd
  cases nd with
  | false =>
    clear hr hnd
    go_enter Try.func25, Try.ntmps25
    simp only [bunC]
    go_wp2_with fail
    refine (rcheck_any b _ _ (HR.out.below' (by repeat' (first | with_reducible (first | refine bset ?_ ?_ | exact Below.refl _ _ | assumption | refine bdrewN ?_ _ | refine bdrew ?_ | refine balloc0 ?_ | refine balloc ?_ ?_ | (apply btrans0; rotate_left; assumption) | (apply btrans; rotate_left; assumption)) | exact Below.refl _ _ | assumption | (apply btrans0; rotate_left; assumption) | (apply btrans; rotate_left; assumption) | (simp; done) | omega | (simp; omega)))) HF.out).mono ?_
    rw [HE.out]
    rintro e w1 ⟨rfl, hb1⟩
    have hB1 : Below w.heap.size w w1 := (by repeat' (first | with_reducible (first | refine bset ?_ ?_ | exact Below.refl _ _ | assumption | refine bdrewN ?_ _ | refine bdrew ?_ | refine balloc0 ?_ | refine balloc ?_ ?_ | (apply btrans0; rotate_left; assumption) | (apply btrans; rotate_left; assumption)) | exact Below.refl _ _ | assumption | (apply btrans0; rotate_left; assumption) | (apply btrans; rotate_left; assumption) | (simp; done) | omega | (simp; omega)))
    have z1 : w.heap.size + 1 < w1.heap.size := by have := hb1.size; (try simp at this); omega
    have z1a : w.heap.size < w1.heap.size := by omega
    have A1 : w1.heap[w.heap.size]? = some (.cells (bunC b (.slice a b.blocks.length c)).toArray 28 (0, 0)) := (hb1.block _ (by first | omega | (simp; done) | (simp; omega))).trans (by repeat (first | exact heap_new' (by first | rfl | (simp; done)) | refine (Below.heap_alloc _ _ _ (by first | (simp; done) | (simp; omega))).trans ?_))
    have R1 : w1.heap[w.heap.size + 1]? = some (.cells #[.int .i64 0, .int .i64 0, .int .i64 0, .int .i64 0, .int .i64 0, .int .i64 0, .int .i64 0, .int .i64 0, .int .i64 0, .int .i64 0, .slice none 0 0, .string ⟨#[]⟩] 28 (0, 0)) := (hb1.block _ (by simp)).trans (by repeat (first | exact heap_new' (by first | rfl | (simp; done)) | refine (Below.heap_alloc _ _ _ (by first | (simp; done) | (simp; omega))).trans ?_))
    have ca := fun o => cellB A1 o
    have cr := fun o => cellB R1 o
    have fr := fun o => frozenB R1 o
    simp only [bunC] at ca
    have HA1 := Lib.hid A1
    have HR1 := Lib.hid R1
    clear A1 R1 hb1
    go_wp2_with fail
    refine (rnode_any n _).mono ?_
    rw [HND.out]
    rintro e w99 ⟨rfl, hw⟩
    subst hw
    go_wp2_with fail
    refine bodyPost_ret (v := .tuple #[.agg #[.int .i64 0, .int .i64 0, .int .i64 0, .int .i64 0, .int .i64 0, .int .i64 0, .int .i64 0, .int .i64 0, .int .i64 0, .int .i64 0, .slice none 0 0, .string ⟨#[]⟩], .int .i64 2]) (by simp [results, Try.results25, go_sem, World.cell?_setCell_same', cr, z1]) rfl ?_
    unfold FwdPost
    exact ⟨_, rfl, RBlks.nil _ _, (by repeat' (first | with_reducible (first | refine bset ?_ ?_ | exact Below.refl _ _ | assumption | refine bdrewN ?_ _ | refine bdrew ?_ | refine balloc0 ?_ | refine balloc ?_ ?_ | (apply btrans0; rotate_left; assumption) | (apply btrans; rotate_left; assumption)) | exact Below.refl _ _ | assumption | (apply btrans0; rotate_left; assumption) | (apply btrans; rotate_left; assumption) | (simp; done) | omega | (simp; omega)))⟩
  | true =>
    by_cases r1 : el < 0
    · clear hr hnd
      go_enter Try.func25, Try.ntmps25
      simp only [bunC]
      go_wp2_with fail
      refine (rcheck_any b _ _ (HR.out.below' (by repeat' (first | with_reducible (first | refine bset ?_ ?_ | exact Below.refl _ _ | assumption | refine bdrewN ?_ _ | refine bdrew ?_ | refine balloc0 ?_ | refine balloc ?_ ?_ | (apply btrans0; rotate_left; assumption) | (apply btrans; rotate_left; assumption)) | exact Below.refl _ _ | assumption | (apply btrans0; rotate_left; assumption) | (apply btrans; rotate_left; assumption) | (simp; done) | omega | (simp; omega)))) HF.out).mono ?_
      rw [HE.out]
      rintro e w1 ⟨rfl, hb1⟩
      have hB1 : Below w.heap.size w w1 := (by repeat' (first | with_reducible (first | refine bset ?_ ?_ | exact Below.refl _ _ | assumption | refine bdrewN ?_ _ | refine bdrew ?_ | refine balloc0 ?_ | refine balloc ?_ ?_ | (apply btrans0; rotate_left; assumption) | (apply btrans; rotate_left; assumption)) | exact Below.refl _ _ | assumption | (apply btrans0; rotate_left; assumption) | (apply btrans; rotate_left; assumption) | (simp; done) | omega | (simp; omega)))
      have z1 : w.heap.size + 1 < w1.heap.size := by have := hb1.size; (try simp at this); omega
      have z1a : w.heap.size < w1.heap.size := by omega
      have A1 : w1.heap[w.heap.size]? = some (.cells (bunC b (.slice a b.blocks.length c)).toArray 28 (0, 0)) := (hb1.block _ (by first | omega | (simp; done) | (simp; omega))).trans (by repeat (first | exact heap_new' (by first | rfl | (simp; done)) | refine (Below.heap_alloc _ _ _ (by first | (simp; done) | (simp; omega))).trans ?_))
      have R1 : w1.heap[w.heap.size + 1]? = some (.cells #[.int .i64 0, .int .i64 0, .int .i64 0, .int .i64 0, .int .i64 0, .int .i64 0, .int .i64 0, .int .i64 0, .int .i64 0, .int .i64 0, .slice none 0 0, .string ⟨#[]⟩] 28 (0, 0)) := (hb1.block _ (by simp)).trans (by repeat (first | exact heap_new' (by first | rfl | (simp; done)) | refine (Below.heap_alloc _ _ _ (by first | (simp; done) | (simp; omega))).trans ?_))
      have ca := fun o => cellB A1 o
      have cr := fun o => cellB R1 o
      have fr := fun o => frozenB R1 o
      simp only [bunC] at ca
      have HA1 := Lib.hid A1
      have HR1 := Lib.hid R1
      clear A1 R1 hb1
      go_wp2_with fail
      refine (rnode_any n _).mono ?_
      rw [HND.out]
      rintro e w99 ⟨rfl, hw⟩
      subst hw
      go_wp2_with fail
      refine bodyPost_ret (v := .tuple #[.agg #[.int .i64 0, .int .i64 0, .int .i64 0, .int .i64 0, .int .i64 0, .int .i64 0, .int .i64 0, .int .i64 0, .int .i64 0, .int .i64 0, .slice none 0 0, .string ⟨#[]⟩], .int .i64 2]) (by simp [results, Try.results25, go_sem, World.cell?_setCell_same', cr, z1]) rfl ?_
      unfold FwdPost
      exact ⟨_, rfl, RBlks.nil _ _, (by repeat' (first | with_reducible (first | refine bset ?_ ?_ | exact Below.refl _ _ | assumption | refine bdrewN ?_ _ | refine bdrew ?_ | refine balloc0 ?_ | refine balloc ?_ ?_ | (apply btrans0; rotate_left; assumption) | (apply btrans; rotate_left; assumption)) | exact Below.refl _ _ | assumption | (apply btrans0; rotate_left; assumption) | (apply btrans; rotate_left; assumption) | (simp; done) | omega | (simp; omega)))⟩
    · have r2 : 1099511627776 < el := by
        rcases hr with h | h | h
        · rw [hnd] at h; cases h
        · exact absurd h r1
        · exact h
      clear hr hnd
      go_enter Try.func25, Try.ntmps25
      simp only [bunC]
      go_wp2_with fail
      refine (rcheck_any b _ _ (HR.out.below' (by repeat' (first | with_reducible (first | refine bset ?_ ?_ | exact Below.refl _ _ | assumption | refine bdrewN ?_ _ | refine bdrew ?_ | refine balloc0 ?_ | refine balloc ?_ ?_ | (apply btrans0; rotate_left; assumption) | (apply btrans; rotate_left; assumption)) | exact Below.refl _ _ | assumption | (apply btrans0; rotate_left; assumption) | (apply btrans; rotate_left; assumption) | (simp; done) | omega | (simp; omega)))) HF.out).mono ?_
      rw [HE.out]
      rintro e w1 ⟨rfl, hb1⟩
      have hB1 : Below w.heap.size w w1 := (by repeat' (first | with_reducible (first | refine bset ?_ ?_ | exact Below.refl _ _ | assumption | refine bdrewN ?_ _ | refine bdrew ?_ | refine balloc0 ?_ | refine balloc ?_ ?_ | (apply btrans0; rotate_left; assumption) | (apply btrans; rotate_left; assumption)) | exact Below.refl _ _ | assumption | (apply btrans0; rotate_left; assumption) | (apply btrans; rotate_left; assumption) | (simp; done) | omega | (simp; omega)))
      have z1 : w.heap.size + 1 < w1.heap.size := by have := hb1.size; (try simp at this); omega
      have z1a : w.heap.size < w1.heap.size := by omega
      have A1 : w1.heap[w.heap.size]? = some (.cells (bunC b (.slice a b.blocks.length c)).toArray 28 (0, 0)) := (hb1.block _ (by first | omega | (simp; done) | (simp; omega))).trans (by repeat (first | exact heap_new' (by first | rfl | (simp; done)) | refine (Below.heap_alloc _ _ _ (by first | (simp; done) | (simp; omega))).trans ?_))
      have R1 : w1.heap[w.heap.size + 1]? = some (.cells #[.int .i64 0, .int .i64 0, .int .i64 0, .int .i64 0, .int .i64 0, .int .i64 0, .int .i64 0, .int .i64 0, .int .i64 0, .int .i64 0, .slice none 0 0, .string ⟨#[]⟩] 28 (0, 0)) := (hb1.block _ (by simp)).trans (by repeat (first | exact heap_new' (by first | rfl | (simp; done)) | refine (Below.heap_alloc _ _ _ (by first | (simp; done) | (simp; omega))).trans ?_))
      have ca := fun o => cellB A1 o
      have cr := fun o => cellB R1 o
      have fr := fun o => frozenB R1 o
      simp only [bunC] at ca
      have HA1 := Lib.hid A1
      have HR1 := Lib.hid R1
      clear A1 R1 hb1
      go_wp2_with fail
      refine (rnode_any n _).mono ?_
      rw [HND.out]
      rintro e w99 ⟨rfl, hw⟩
      subst hw
      go_wp2_with fail
      refine bodyPost_ret (v := .tuple #[.agg #[.int .i64 0, .int .i64 0, .int .i64 0, .int .i64 0, .int .i64 0, .int .i64 0, .int .i64 0, .int .i64 0, .int .i64 0, .int .i64 0, .slice none 0 0, .string ⟨#[]⟩], .int .i64 2]) (by simp [results, Try.results25, go_sem, World.cell?_setCell_same', cr, z1]) rfl ?_
      unfold FwdPost
      exact ⟨_, rfl, RBlks.nil _ _, (by repeat' (first | with_reducible (first | refine bset ?_ ?_ | exact Below.refl _ _ | assumption | refine bdrewN ?_ _ | refine bdrew ?_ | refine balloc0 ?_ | refine balloc ?_ ?_ | (apply btrans0; rotate_left; assumption) | (apply btrans; rotate_left; assumption)) | exact Below.refl _ _ | assumption | (apply btrans0; rotate_left; assumption) | (apply btrans; rotate_left; assumption) | (simp; done) | omega | (simp; omega)))⟩
set_option maxRecDepth 100000 in
set_option maxHeartbeats 8000000 in
theorem rfwd_bad11 (b : Bun) (u : Value) (n el : Int) (w : World) (h : RBlks w w.heap.size u b.blocks) (hf : Fits b) (a1 ea lim cnt eh : Int) (lv : List Int) (ev : Int) (hE : chkE b = 0) (hnd : nodeB n = true) (r1 : ¬ el < 0) (r2 : ¬ 1099511627776 < el) (hag : ageS b = (a1, ea)) (hho : hopS b = (lim, cnt, eh)) (hg : getS b 3 = (lv, ev)) (hr : ea = 11 ∨ eh = 11 ∨ ev = 11) :
    Calls Try.prog 25 #[.agg (bunC b u).toArray, .int .i64 n, .int .i64 el] w (FwdPost (zBun, 11) w) := by
  have HF := Lib.hid hf
  have HR := Lib.hid h
  obtain ⟨a, c, rfl, h1, h2, h3, h4⟩ := h
  clear h1 h2 h3 h4 hf
  have HE := Lib.hid hE
  have HND := Lib.hid hnd
  have HAG := Lib.hid hag
  have HHO := Lib.hid hho
  have HG := Lib.hid hg
  clear hE hnd hag hho hg
  by_cases q1 : ea = 11
  · have k1 : (ea == 11) = true := beq_iff_eq.2 q1
    clear hr q1
    go_enter Try.func25, Try.ntmps25
    simp only [bunC]
    go_wp2_with fail
    refine (rcheck_any b _ _ (HR.out.below' (by repeat' (first | with_reducible (first | refine bset ?_ ?_ | exact Below.refl _ _ | assumption | refine bdrewN ?_ _ | refine bdrew ?_ | refine balloc0 ?_ | refine balloc ?_ ?_ | (apply btrans0; rotate_left; assumption) | (apply btrans; rotate_left; assumption)) | exact Below.refl _ _ | assumption | (apply btrans0; rotate_left; assumption) | (apply btrans; rotate_left; assumption) | (simp; done) | omega | (simp; omega)))) HF.out).mono ?_
    rw [HE.out]
    rintro e w1 ⟨rfl, hb1⟩
    have hB1 : Below w.heap.size w w1 := (by repeat' (first | with_reducible (first | refine bset ?_ ?_ | exact Below.refl _ _ | assumption | refine bdrewN ?_ _ | refine bdrew ?_ | refine balloc0 ?_ | refine balloc ?_ ?_ | (apply btrans0; rotate_left; assumption) | (apply btrans; rotate_left; assumption)) | exact Below.refl _ _ | assumption | (apply btrans0; rotate_left; assumption) | (apply btrans; rotate_left; assumption) | (simp; done) | omega | (simp; omega)))
    have z1 : w.heap.size + 1 < w1.heap.size := by have := hb1.size; (try simp at this); omega
    have z1a : w.heap.size < w1.heap.size := by omega
    have A1 : w1.heap[w.heap.size]? = some (.cells (bunC b (.slice a b.blocks.length c)).toArray 28 (0, 0)) := (hb1.block _ (by first | omega | (simp; done) | (simp; omega))).trans (by repeat (first | exact heap_new' (by first | rfl | (simp; done)) | refine (Below.heap_alloc _ _ _ (by first | (simp; done) | (simp; omega))).trans ?_))
    have R1 : w1.heap[w.heap.size + 1]? = some (.cells #[.int .i64 0, .int .i64 0, .int .i64 0, .int .i64 0, .int .i64 0, .int .i64 0, .int .i64 0, .int .i64 0, .int .i64 0, .int .i64 0, .slice none 0 0, .string ⟨#[]⟩] 28 (0, 0)) := (hb1.block _ (by simp)).trans (by repeat (first | exact heap_new' (by first | rfl | (simp; done)) | refine (Below.heap_alloc _ _ _ (by first | (simp; done) | (simp; omega))).trans ?_))
    have ca := fun o => cellB A1 o
    have cr := fun o => cellB R1 o
    have fr := fun o => frozenB R1 o
    simp only [bunC] at ca
    have HA1 := Lib.hid A1
    have HR1 := Lib.hid R1
    clear A1 R1 hb1
    go_wp2_with fail
    refine (rnode_any n _).mono ?_
    rw [HND.out]
    rintro e w99 ⟨rfl, hw⟩
    subst hw
    go_wp2_with fail
    refine (rage0_any b _ _ (HR.out.below' (by repeat' (first | with_reducible (first | refine bset ?_ ?_ | exact Below.refl _ _ | assumption | refine bdrewN ?_ _ | refine bdrew ?_ | refine balloc0 ?_ | refine balloc ?_ ?_ | (apply btrans0; rotate_left; assumption) | (apply btrans; rotate_left; assumption)) | exact Below.refl _ _ | assumption | (apply btrans0; rotate_left; assumption) | (apply btrans; rotate_left; assumption) | (simp; done) | omega | (simp; omega)))) HE.out).mono ?_
    rw [HAG.out]
    simp only
    rintro e w2 ⟨rfl, hb2⟩
    have hB2 : Below w.heap.size w w2 := (by repeat' (first | with_reducible (first | refine bset ?_ ?_ | exact Below.refl _ _ | assumption | refine bdrewN ?_ _ | refine bdrew ?_ | refine balloc0 ?_ | refine balloc ?_ ?_ | (apply btrans0; rotate_left; assumption) | (apply btrans; rotate_left; assumption)) | exact Below.refl _ _ | assumption | (apply btrans0; rotate_left; assumption) | (apply btrans; rotate_left; assumption) | (simp; done) | omega | (simp; omega)))
    have z2 : w.heap.size + 1 < w2.heap.size := by have := hb2.size; (try simp at this); omega
    have z2a : w.heap.size < w2.heap.size := by omega
    have A2 : w2.heap[w.heap.size]? = some (.cells (bunC b (.slice a b.blocks.length c)).toArray 28 (0, 0)) := (hb2.block _ z1a).trans HA1.out
    have R2 : w2.heap[w.heap.size + 1]? = some (.cells #[.int .i64 0, .int .i64 0, .int .i64 0, .int .i64 0, .int .i64 0, .int .i64 0, .int .i64 0, .int .i64 0, .int .i64 0, .int .i64 0, .slice none 0 0, .string ⟨#[]⟩] 28 (0, 0)) := (hb2.block _ z1).trans HR1.out
    clear ca cr fr
    have ca := fun o => cellB A2 o
    have cr := fun o => cellB R2 o
    have fr := fun o => frozenB R2 o
    simp only [bunC] at ca
    have HA2 := Lib.hid A2
    have HR2 := Lib.hid R2
    clear A2 R2 hb2
    go_wp2_with fail
    refine (rhop0_any b _ _ (HR.out.below' (by repeat' (first | with_reducible (first | refine bset ?_ ?_ | exact Below.refl _ _ | assumption | refine bdrewN ?_ _ | refine bdrew ?_ | refine balloc0 ?_ | refine balloc ?_ ?_ | (apply btrans0; rotate_left; assumption) | (apply btrans; rotate_left; assumption)) | exact Below.refl _ _ | assumption | (apply btrans0; rotate_left; assumption) | (apply btrans; rotate_left; assumption) | (simp; done) | omega | (simp; omega)))) HE.out).mono ?_
    rw [HHO.out]
    simp only
    rintro e w3 ⟨rfl, hb3⟩
    have hB3 : Below w.heap.size w w3 := (by repeat' (first | with_reducible (first | refine bset ?_ ?_ | exact Below.refl _ _ | assumption | refine bdrewN ?_ _ | refine bdrew ?_ | refine balloc0 ?_ | refine balloc ?_ ?_ | (apply btrans0; rotate_left; assumption) | (apply btrans; rotate_left; assumption)) | exact Below.refl _ _ | assumption | (apply btrans0; rotate_left; assumption) | (apply btrans; rotate_left; assumption) | (simp; done) | omega | (simp; omega)))
    have z3 : w.heap.size + 1 < w3.heap.size := by have := hb3.size; (try simp at this); omega
    have z3a : w.heap.size < w3.heap.size := by omega
    have A3 : w3.heap[w.heap.size]? = some (.cells (bunC b (.slice a b.blocks.length c)).toArray 28 (0, 0)) := (hb3.block _ z2a).trans HA2.out
    have R3 : w3.heap[w.heap.size + 1]? = some (.cells #[.int .i64 0, .int .i64 0, .int .i64 0, .int .i64 0, .int .i64 0, .int .i64 0, .int .i64 0, .int .i64 0, .int .i64 0, .int .i64 0, .slice none 0 0, .string ⟨#[]⟩] 28 (0, 0)) := (hb3.block _ z2).trans HR2.out
    clear ca cr fr
    have ca := fun o => cellB A3 o
    have cr := fun o => cellB R3 o
    have fr := fun o => frozenB R3 o
    simp only [bunC] at ca
    have HA3 := Lib.hid A3
    have HR3 := Lib.hid R3
    clear A3 R3 hb3
    go_wp2_with fail
    refine (rvis0_any b _ _ (HR.out.below' (by repeat' (first | with_reducible (first | refine bset ?_ ?_ | exact Below.refl _ _ | assumption | refine bdrewN ?_ _ | refine bdrew ?_ | refine balloc0 ?_ | refine balloc ?_ ?_ | (apply btrans0; rotate_left; assumption) | (apply btrans; rotate_left; assumption)) | exact Below.refl _ _ | assumption | (apply btrans0; rotate_left; assumption) | (apply btrans; rotate_left; assumption) | (simp; done) | omega | (simp; omega)))) HE.out).mono ?_
    unfold GetPost
    rw [HG.out]
    simp only
    rintro e w4 ⟨v, rfl, hb4, hri⟩
    have HRI := Lib.hid hri
    clear hri
    have hB4 : Below w.heap.size w w4 := (by repeat' (first | with_reducible (first | refine bset ?_ ?_ | exact Below.refl _ _ | assumption | refine bdrewN ?_ _ | refine bdrew ?_ | refine balloc0 ?_ | refine balloc ?_ ?_ | (apply btrans0; rotate_left; assumption) | (apply btrans; rotate_left; assumption)) | exact Below.refl _ _ | assumption | (apply btrans0; rotate_left; assumption) | (apply btrans; rotate_left; assumption) | (simp; done) | omega | (simp; omega)))
    have z4 : w.heap.size + 1 < w4.heap.size := by have := hb4.size; (try simp at this); omega
    have z4a : w.heap.size < w4.heap.size := by omega
    have A4 : w4.heap[w.heap.size]? = some (.cells (bunC b (.slice a b.blocks.length c)).toArray 28 (0, 0)) := (hb4.block _ z3a).trans HA3.out
    have R4 : w4.heap[w.heap.size + 1]? = some (.cells #[.int .i64 0, .int .i64 0, .int .i64 0, .int .i64 0, .int .i64 0, .int .i64 0, .int .i64 0, .int .i64 0, .int .i64 0, .int .i64 0, .slice none 0 0, .string ⟨#[]⟩] 28 (0, 0)) := (hb4.block _ z3).trans HR3.out
    clear ca cr fr
    have ca := fun o => cellB A4 o
    have cr := fun o => cellB R4 o
    have fr := fun o => frozenB R4 o
    simp only [bunC] at ca
    have HA4 := Lib.hid A4
    have HR4 := Lib.hid R4
    clear A4 R4 hb4
    go_wp2_with fail
    refine bodyPost_ret (v := .tuple #[.agg #[.int .i64 0, .int .i64 0, .int .i64 0, .int .i64 0, .int .i64 0, .int .i64 0, .int .i64 0, .int .i64 0, .int .i64 0, .int .i64 0, .slice none 0 0, .string ⟨#[]⟩], .int .i64 11]) (by simp [results, Try.results25, go_sem, World.cell?_setCell_same', cr, z4]) rfl ?_
    unfold FwdPost
    exact ⟨_, rfl, RBlks.nil _ _, (by repeat' (first | with_reducible (first | refine bset ?_ ?_ | exact Below.refl _ _ | assumption | refine bdrewN ?_ _ | refine bdrew ?_ | refine balloc0 ?_ | refine balloc ?_ ?_ | (apply btrans0; rotate_left; assumption) | (apply btrans; rotate_left; assumption)) | exact Below.refl _ _ | assumption | (apply btrans0; rotate_left; assumption) | (apply btrans; rotate_left; assumption) | (simp; done) | omega | (simp; omega)))⟩
  have k1 : (ea == 11) = false := beq_eq_false_iff_ne.2 q1
  by_cases q2 : eh = 11
  · have k2 : (eh == 11) = true := beq_iff_eq.2 q2
    clear hr q1 q2
    go_enter Try.func25, Try.ntmps25
    simp only [bunC]
    go_wp2_with fail
    refine (rcheck_any b _ _ (HR.out.below' (by repeat' (first | with_reducible (first | refine bset ?_ ?_ | exact Below.refl _ _ | assumption | refine bdrewN ?_ _ | refine bdrew ?_ | refine balloc0 ?_ | refine balloc ?_ ?_ | (apply btrans0; rotate_left; assumption) | (apply btrans; rotate_left; assumption)) | exact Below.refl _ _ | assumption | (apply btrans0; rotate_left; assumption) | (apply btrans; rotate_left; assumption) | (simp; done) | omega | (simp; omega)))) HF.out).mono ?_
    rw [HE.out]
    rintro e w1 ⟨rfl, hb1⟩
    have hB1 : Below w.heap.size w w1 := (by repeat' (first | with_reducible (first | refine bset ?_ ?_ | exact Below.refl _ _ | assumption | refine bdrewN ?_ _ | refine bdrew ?_ | refine balloc0 ?_ | refine balloc ?_ ?_ | (apply btrans0; rotate_left; assumption) | (apply btrans; rotate_left; assumption)) | exact Below.refl _ _ | assumption | (apply btrans0; rotate_left; assumption) | (apply btrans; rotate_left; assumption) | (simp; done) | omega | (simp; omega)))
    have z1 : w.heap.size + 1 < w1.heap.size := by have := hb1.size; (try simp at this); omega
    have z1a : w.heap.size < w1.heap.size := by omega
    have A1 : w1.heap[w.heap.size]? = some (.cells (bunC b (.slice a b.blocks.length c)).toArray 28 (0, 0)) := (hb1.block _ (by first | omega | (simp; done) | (simp; omega))).trans (by repeat (first | exact heap_new' (by first | rfl | (simp; done)) | refine (Below.heap_alloc _ _ _ (by first | (simp; done) | (simp; omega))).trans ?_))
    have R1 : w1.heap[w.heap.size + 1]? = some (.cells #[.int .i64 0, .int .i64 0, .int .i64 0, .int .i64 0, .int .i64 0, .int .i64 0, .int .i64 0, .int .i64 0, .int .i64 0, .int .i64 0, .slice none 0 0, .string ⟨#[]⟩] 28 (0, 0)) := (hb1.block _ (by simp)).trans (by repeat (first | exact heap_new' (by first | rfl | (simp; done)) | refine (Below.heap_alloc _ _ _ (by first | (simp; done) | (simp; omega))).trans ?_))
    have ca := fun o => cellB A1 o
    have cr := fun o => cellB R1 o
    have fr := fun o => frozenB R1 o
    simp only [bunC] at ca
    have HA1 := Lib.hid A1
    have HR1 := Lib.hid R1
    clear A1 R1 hb1
    go_wp2_with fail
    refine (rnode_any n _).mono ?_
    rw [HND.out]
    rintro e w99 ⟨rfl, hw⟩
    subst hw
    go_wp2_with fail
    refine (rage0_any b _ _ (HR.out.below' (by repeat' (first | with_reducible (first | refine bset ?_ ?_ | exact Below.refl _ _ | assumption | refine bdrewN ?_ _ | refine bdrew ?_ | refine balloc0 ?_ | refine balloc ?_ ?_ | (apply btrans0; rotate_left; assumption) | (apply btrans; rotate_left; assumption)) | exact Below.refl _ _ | assumption | (apply btrans0; rotate_left; assumption) | (apply btrans; rotate_left; assumption) | (simp; done) | omega | (simp; omega)))) HE.out).mono ?_
    rw [HAG.out]
    simp only
    rintro e w2 ⟨rfl, hb2⟩
    have hB2 : Below w.heap.size w w2 := (by repeat' (first | with_reducible (first | refine bset ?_ ?_ | exact Below.refl _ _ | assumption | refine bdrewN ?_ _ | refine bdrew ?_ | refine balloc0 ?_ | refine balloc ?_ ?_ | (apply btrans0; rotate_left; assumption) | (apply btrans; rotate_left; assumption)) | exact Below.refl _ _ | assumption | (apply btrans0; rotate_left; assumption) | (apply btrans; rotate_left; assumption) | (simp; done) | omega | (simp; omega)))
    have z2 : w.heap.size + 1 < w2.heap.size := by have := hb2.size; (try simp at this); omega
    have z2a : w.heap.size < w2.heap.size := by omega
    have A2 : w2.heap[w.heap.size]? = some (.cells (bunC b (.slice a b.blocks.length c)).toArray 28 (0, 0)) := (hb2.block _ z1a).trans HA1.out
    have R2 : w2.heap[w.heap.size + 1]? = some (.cells #[.int .i64 0, .int .i64 0, .int .i64 0, .int .i64 0, .int .i64 0, .int .i64 0, .int .i64 0, .int .i64 0, .int .i64 0, .int .i64 0, .slice none 0 0, .string ⟨#[]⟩] 28 (0, 0)) := (hb2.block _ z1).trans HR1.out
    clear ca cr fr
    have ca := fun o => cellB A2 o
    have cr := fun o => cellB R2 o
    have fr := fun o => frozenB R2 o
    simp only [bunC] at ca
    have HA2 := Lib.hid A2
    have HR2 := Lib.hid R2
    clear A2 R2 hb2
    go_wp2_with fail
    refine (rhop0_any b _ _ (HR.out.below' (by repeat' (first | with_reducible (first | refine bset ?_ ?_ | exact Below.refl _ _ | assumption | refine bdrewN ?_ _ | refine bdrew ?_ | refine balloc0 ?_ | refine balloc ?_ ?_ | (apply btrans0; rotate_left; assumption) | (apply btrans; rotate_left; assumption)) | exact Below.refl _ _ | assumption | (apply btrans0; rotate_left; assumption) | (apply btrans; rotate_left; assumption) | (simp; done) | omega | (simp; omega)))) HE.out).mono ?_
    rw [HHO.out]
    simp only
    rintro e w3 ⟨rfl, hb3⟩
    have hB3 : Below w.heap.size w w3 := (by repeat' (first | with_reducible (first | refine bset ?_ ?_ | exact Below.refl _ _ | assumption | refine bdrewN ?_ _ | refine bdrew ?_ | refine balloc0 ?_ | refine balloc ?_ ?_ | (apply btrans0; rotate_left; assumption) | (apply btrans; rotate_left; assumption)) | exact Below.refl _ _ | assumption | (apply btrans0; rotate_left; assumption) | (apply btrans; rotate_left; assumption) | (simp; done) | omega | (simp; omega)))
    have z3 : w.heap.size + 1 < w3.heap.size := by have := hb3.size; (try simp at this); omega
    have z3a : w.heap.size < w3.heap.size := by omega
    have A3 : w3.heap[w.heap.size]? = some (.cells (bunC b (.slice a b.blocks.length c)).toArray 28 (0, 0)) := (hb3.block _ z2a).trans HA2.out
    have R3 : w3.heap[w.heap.size + 1]? = some (.cells #[.int .i64 0, .int .i64 0, .int .i64 0, .int .i64 0, .int .i64 0, .int .i64 0, .int .i64 0, .int .i64 0, .int .i64 0, .int .i64 0, .slice none 0 0, .string ⟨#[]⟩] 28 (0, 0)) := (hb3.block _ z2).trans HR2.out
    clear ca cr fr
    have ca := fun o => cellB A3 o
    have cr := fun o => cellB R3 o
    have fr := fun o => frozenB R3 o
    simp only [bunC] at ca
    have HA3 := Lib.hid A3
    have HR3 := Lib.hid R3
    clear A3 R3 hb3
    go_wp2_with fail
    refine (rvis0_any b _ _ (HR.out.below' (by repeat' (first | with_reducible (first | refine bset ?_ ?_ | exact Below.refl _ _ | assumption | refine bdrewN ?_ _ | refine bdrew ?_ | refine balloc0 ?_ | refine balloc ?_ ?_ | (apply btrans0; rotate_left; assumption) | (apply btrans; rotate_left; assumption)) | exact Below.refl _ _ | assumption | (apply btrans0; rotate_left; assumption) | (apply btrans; rotate_left; assumption) | (simp; done) | omega | (simp; omega)))) HE.out).mono ?_
    unfold GetPost
    rw [HG.out]
    simp only
    rintro e w4 ⟨v, rfl, hb4, hri⟩
    have HRI := Lib.hid hri
    clear hri
    have hB4 : Below w.heap.size w w4 := (by repeat' (first | with_reducible (first | refine bset ?_ ?_ | exact Below.refl _ _ | assumption | refine bdrewN ?_ _ | refine bdrew ?_ | refine balloc0 ?_ | refine balloc ?_ ?_ | (apply btrans0; rotate_left; assumption) | (apply btrans; rotate_left; assumption)) | exact Below.refl _ _ | assumption | (apply btrans0; rotate_left; assumption) | (apply btrans; rotate_left; assumption) | (simp; done) | omega | (simp; omega)))
    have z4 : w.heap.size + 1 < w4.heap.size := by have := hb4.size; (try simp at this); omega
    have z4a : w.heap.size < w4.heap.size := by omega
    have A4 : w4.heap[w.heap.size]? = some (.cells (bunC b (.slice a b.blocks.length c)).toArray 28 (0, 0)) := (hb4.block _ z3a).trans HA3.out
    have R4 : w4.heap[w.heap.size + 1]? = some (.cells #[.int .i64 0, .int .i64 0, .int .i64 0, .int .i64 0, .int .i64 0, .int .i64 0, .int .i64 0, .int .i64 0, .int .i64 0, .int .i64 0, .slice none 0 0, .string ⟨#[]⟩] 28 (0, 0)) := (hb4.block _ z3).trans HR3.out
    clear ca cr fr
    have ca := fun o => cellB A4 o
    have cr := fun o => cellB R4 o
    have fr := fun o => frozenB R4 o
    simp only [bunC] at ca
    have HA4 := Lib.hid A4
    have HR4 := Lib.hid R4
    clear A4 R4 hb4
    go_wp2_with fail
    refine bodyPost_ret (v := .tuple #[.agg #[.int .i64 0, .int .i64 0, .int .i64 0, .int .i64 0, .int .i64 0, .int .i64 0, .int .i64 0, .int .i64 0, .int .i64 0, .int .i64 0, .slice none 0 0, .string ⟨#[]⟩], .int .i64 11]) (by simp [results, Try.results25, go_sem, World.cell?_setCell_same', cr, z4]) rfl ?_
    unfold FwdPost
    exact ⟨_, rfl, RBlks.nil _ _, (by repeat' (first | with_reducible (first | refine bset ?_ ?_ | exact Below.refl _ _ | assumption | refine bdrewN ?_ _ | refine bdrew ?_ | refine balloc0 ?_ | refine balloc ?_ ?_ | (apply btrans0; rotate_left; assumption) | (apply btrans; rotate_left; assumption)) | exact Below.refl _ _ | assumption | (apply btrans0; rotate_left; assumption) | (apply btrans; rotate_left; assumption) | (simp; done) | omega | (simp; omega)))⟩
  have k2 : (eh == 11) = false := beq_eq_false_iff_ne.2 q2
  have q3 : ev = 11 := (hr.resolve_left q1).resolve_left q2
  have k3 : (ev == 11) = true := beq_iff_eq.2 q3
  clear hr q1 q2 q3
  go_enter Try.func25, Try.ntmps25
  simp only [bunC]
  go_wp2_with fail
  refine (rcheck_any b _ _ (HR.out.below' (by repeat' (first | with_reducible (first | refine bset ?_ ?_ | exact Below.refl _ _ | assumption | refine bdrewN ?_ _ | refine bdrew ?_ | refine balloc0 ?_ | refine balloc ?_ ?_ | (apply btrans0; rotate_left; assumption) | (apply btrans; rotate_left; assumption)) | exact Below.refl _ _ | assumption | (apply btrans0; rotate_left; assumption) | (apply btrans; rotate_left; assumption) | (simp; done) | omega | (simp; omega)))) HF.out).mono ?_
  rw [HE.out]
  rintro e w1 ⟨rfl, hb1⟩
  have hB1 : Below w.heap.size w w1 := (by repeat' (first | with_reducible (first | refine bset ?_ ?_ | exact Below.refl _ _ | assumption | refine bdrewN ?_ _ | refine bdrew ?_ | refine balloc0 ?_ | refine balloc ?_ ?_ | (apply btrans0; rotate_left; assumption) | (apply btrans; rotate_left; assumption)) | exact Below.refl _ _ | assumption | (apply btrans0; rotate_left; assumption) | (apply btrans; rotate_left; assumption) | (simp; done) | omega | (simp; omega)))
  have z1 : w.heap.size + 1 < w1.heap.size := by have := hb1.size; (try simp at this); omega
  have z1a : w.heap.size < w1.heap.size := by omega
  have A1 : w1.heap[w.heap.size]? = some (.cells (bunC b (.slice a b.blocks.length c)).toArray 28 (0, 0)) := (hb1.block _ (by first | omega | (simp; done) | (simp; omega))).trans (by repeat (first | exact heap_new' (by first | rfl | (simp; done)) | refine (Below.heap_alloc _ _ _ (by first | (simp; done) | (simp; omega))).trans ?_))
  have R1 : w1.heap[w.heap.size + 1]? = some (.cells #[.int .i64 0, .int .i64 0, .int .i64 0, .int .i64 0, .int .i64 0, .int .i64 0, .int .i64 0, .int .i64 0, .int .i64 0, .int .i64 0, .slice none 0 0, .string ⟨#[]⟩] 28 (0, 0)) := (hb1.block _ (by simp)).trans (by repeat (first | exact heap_new' (by first | rfl | (simp; done)) | refine (Below.heap_alloc _ _ _ (by first | (simp; done) | (simp; omega))).trans ?_))
  have ca := fun o => cellB A1 o
  have cr := fun o => cellB R1 o
  have fr := fun o => frozenB R1 o
  simp only [bunC] at ca
  have HA1 := Lib.hid A1
  have HR1 := Lib.hid R1
  clear A1 R1 hb1
  go_wp2_with fail
  refine (rnode_any n _).mono ?_
  rw [HND.out]
  rintro e w99 ⟨rfl, hw⟩
  subst hw
  go_wp2_with fail
  refine (rage0_any b _ _ (HR.out.below' (by repeat' (first | with_reducible (first | refine bset ?_ ?_ | exact Below.refl _ _ | assumption | refine bdrewN ?_ _ | refine bdrew ?_ | refine balloc0 ?_ | refine balloc ?_ ?_ | (apply btrans0; rotate_left; assumption) | (apply btrans; rotate_left; assumption)) | exact Below.refl _ _ | assumption | (apply btrans0; rotate_left; assumption) | (apply btrans; rotate_left; assumption) | (simp; done) | omega | (simp; omega)))) HE.out).mono ?_
  rw [HAG.out]
  simp only
  rintro e w2 ⟨rfl, hb2⟩
  have hB2 : Below w.heap.size w w2 := (by repeat' (first | with_reducible (first | refine bset ?_ ?_ | exact Below.refl _ _ | assumption | refine bdrewN ?_ _ | refine bdrew ?_ | refine balloc0 ?_ | refine balloc ?_ ?_ | (apply btrans0; rotate_left; assumption) | (apply btrans; rotate_left; assumption)) | exact Below.refl _ _ | assumption | (apply btrans0; rotate_left; assumption) | (apply btrans; rotate_left; assumption) | (simp; done) | omega | (simp; omega)))
  have z2 : w.heap.size + 1 < w2.heap.size := by have := hb2.size; (try simp at this); omega
  have z2a : w.heap.size < w2.heap.size := by omega
  have A2 : w2.heap[w.heap.size]? = some (.cells (bunC b (.slice a b.blocks.length c)).toArray 28 (0, 0)) := (hb2.block _ z1a).trans HA1.out
  have R2 : w2.heap[w.heap.size + 1]? = some (.cells #[.int .i64 0, .int .i64 0, .int .i64 0, .int .i64 0, .int .i64 0, .int .i64 0, .int .i64 0, .int .i64 0, .int .i64 0, .int .i64 0, .slice none 0 0, .string ⟨#[]⟩] 28 (0, 0)) := (hb2.block _ z1).trans HR1.out
  clear ca cr fr
  have ca := fun o => cellB A2 o
  have cr := fun o => cellB R2 o
  have fr := fun o => frozenB R2 o
  simp only [bunC] at ca
  have HA2 := Lib.hid A2
  have HR2 := Lib.hid R2
  clear A2 R2 hb2
  go_wp2_with fail
  refine (rhop0_any b _ _ (HR.out.below' (by repeat' (first | with_reducible (first | refine bset ?_ ?_ | exact Below.refl _ _ | assumption | refine bdrewN ?_ _ | refine bdrew ?_ | refine balloc0 ?_ | refine balloc ?_ ?_ | (apply btrans0; rotate_left; assumption) | (apply btrans; rotate_left; assumption)) | exact Below.refl _ _ | assumption | (apply btrans0; rotate_left; assumption) | (apply btrans; rotate_left; assumption) | (simp; done) | omega | (simp; omega)))) HE.out).mono ?_
  rw [HHO.out]
  simp only
  rintro e w3 ⟨rfl, hb3⟩
  have hB3 : Below w.heap.size w w3 := (by repeat' (first | with_reducible (first | refine bset ?_ ?_ | exact Below.refl _ _ | assumption | refine bdrewN ?_ _ | refine bdrew ?_ | refine balloc0 ?_ | refine balloc ?_ ?_ | (apply btrans0; rotate_left; assumption) | (apply btrans; rotate_left; assumption)) | exact Below.refl _ _ | assumption | (apply btrans0; rotate_left; assumption) | (apply btrans; rotate_left; assumption) | (simp; done) | omega | (simp; omega)))
  have z3 : w.heap.size + 1 < w3.heap.size := by have := hb3.size; (try simp at this); omega
  have z3a : w.heap.size < w3.heap.size := by omega
  have A3 : w3.heap[w.heap.size]? = some (.cells (bunC b (.slice a b.blocks.length c)).toArray 28 (0, 0)) := (hb3.block _ z2a).trans HA2.out
  have R3 : w3.heap[w.heap.size + 1]? = some (.cells #[.int .i64 0, .int .i64 0, .int .i64 0, .int .i64 0, .int .i64 0, .int .i64 0, .int .i64 0, .int .i64 0, .int .i64 0, .int .i64 0, .slice none 0 0, .string ⟨#[]⟩] 28 (0, 0)) := (hb3.block _ z2).trans HR2.out
  clear ca cr fr
  have ca := fun o => cellB A3 o
  have cr := fun o => cellB R3 o
  have fr := fun o => frozenB R3 o
  simp only [bunC] at ca
  have HA3 := Lib.hid A3
  have HR3 := Lib.hid R3
  clear A3 R3 hb3
  go_wp2_with fail
  refine (rvis0_any b _ _ (HR.out.below' (by repeat' (first | with_reducible (first | refine bset ?_ ?_ | exact Below.refl _ _ | assumption | refine bdrewN ?_ _ | refine bdrew ?_ | refine balloc0 ?_ | refine balloc ?_ ?_ | (apply btrans0; rotate_left; assumption) | (apply btrans; rotate_left; assumption)) | exact Below.refl _ _ | assumption | (apply btrans0; rotate_left; assumption) | (apply btrans; rotate_left; assumption) | (simp; done) | omega | (simp; omega)))) HE.out).mono ?_
  unfold GetPost
  rw [HG.out]
  simp only
  rintro e w4 ⟨v, rfl, hb4, hri⟩
  have HRI := Lib.hid hri
  clear hri
  have hB4 : Below w.heap.size w w4 := (by repeat' (first | with_reducible (first | refine bset ?_ ?_ | exact Below.refl _ _ | assumption | refine bdrewN ?_ _ | refine bdrew ?_ | refine balloc0 ?_ | refine balloc ?_ ?_ | (apply btrans0; rotate_left; assumption) | (apply btrans; rotate_left; assumption)) | exact Below.refl _ _ | assumption | (apply btrans0; rotate_left; assumption) | (apply btrans; rotate_left; assumption) | (simp; done) | omega | (simp; omega)))
  have z4 : w.heap.size + 1 < w4.heap.size := by have := hb4.size; (try simp at this); omega
  have z4a : w.heap.size < w4.heap.size := by omega
  have A4 : w4.heap[w.heap.size]? = some (.cells (bunC b (.slice a b.blocks.length c)).toArray 28 (0, 0)) := (hb4.block _ z3a).trans HA3.out
  have R4 : w4.heap[w.heap.size + 1]? = some (.cells #[.int .i64 0, .int .i64 0, .int .i64 0, .int .i64 0, .int .i64 0, .int .i64 0, .int .i64 0, .int .i64 0, .int .i64 0, .int .i64 0, .slice none 0 0, .string ⟨#[]⟩] 28 (0, 0)) := (hb4.block _ z3).trans HR3.out
  clear ca cr fr
  have ca := fun o => cellB A4 o
  have cr := fun o => cellB R4 o
  have fr := fun o => frozenB R4 o
  simp only [bunC] at ca
  have HA4 := Lib.hid A4
  have HR4 := Lib.hid R4
  clear A4 R4 hb4
  go_wp2_with fail
  refine bodyPost_ret (v := .tuple #[.agg #[.int .i64 0, .int .i64 0, .int .i64 0, .int .i64 0, .int .i64 0, .int .i64 0, .int .i64 0, .int .i64 0, .int .i64 0, .int .i64 0, .slice none 0 0, .string ⟨#[]⟩], .int .i64 11]) (by simp [results, Try.results25, go_sem, World.cell?_setCell_same', cr, z4]) rfl ?_
  unfold FwdPost
  exact ⟨_, rfl, RBlks.nil _ _, (by repeat' (first | with_reducible (first | refine bset ?_ ?_ | exact Below.refl _ _ | assumption | refine bdrewN ?_ _ | refine bdrew ?_ | refine balloc0 ?_ | refine balloc ?_ ?_ | (apply btrans0; rotate_left; assumption) | (apply btrans; rotate_left; assumption)) | exact Below.refl _ _ | assumption | (apply btrans0; rotate_left; assumption) | (apply btrans; rotate_left; assumption) | (simp; done) | omega | (simp; omega)))⟩
set_option maxRecDepth 100000 in
set_option maxHeartbeats 8000000 in
theorem rfwd_bad17 (b : Bun) (u : Value) (n el : Int) (w : World) (h : RBlks w w.heap.size u b.blocks) (hf : Fits b) (a1 lim cnt eh : Int) (lv : List Int) (ev : Int) (hE : chkE b = 0) (hnd : nodeB n = true) (r1 : ¬ el < 0) (r2 : ¬ 1099511627776 < el) (hag : ageS b = (a1, 0)) (hho : hopS b = (lim, cnt, eh)) (hg : getS b 3 = (lv, ev)) (q2 : eh ≠ 11) (q3 : ev ≠ 11) (hl : b.life ≤ a1 + el) :
    Calls Try.prog 25 #[.agg (bunC b u).toArray, .int .i64 n, .int .i64 el] w (FwdPost (zBun, 17) w) := by
  have HF := Lib.hid hf
  have HR := Lib.hid h
  obtain ⟨a, c, rfl, h1, h2, h3, h4⟩ := h
  clear h1 h2 h3 h4 hf
  have HE := Lib.hid hE
  have HND := Lib.hid hnd
  have HAG := Lib.hid hag
  have HHO := Lib.hid hho
  have HG := Lib.hid hg
  have k2 : (eh == 11) = false := beq_eq_false_iff_ne.2 q2
  have k3 : (ev == 11) = false := beq_eq_false_iff_ne.2 q3
  obtain ⟨y1, y2⟩ := age_facts hag
  have hwr : IntKind.i64.wrap (a1 + el) = a1 + el := by rw [IntKind.wrap_i64]; omega
  clear hE hnd hag hho hg q2 q3
  go_enter Try.func25, Try.ntmps25
  simp only [bunC]
  go_wp2_with fail
  refine (rcheck_any b _ _ (HR.out.below' (by repeat' (first | with_reducible (first | refine bset ?_ ?_ | exact Below.refl _ _ | assumption | refine bdrewN ?_ _ | refine bdrew ?_ | refine balloc0 ?_ | refine balloc ?_ ?_ | (apply btrans0; rotate_left; assumption) | (apply btrans; rotate_left; assumption)) | exact Below.refl _ _ | assumption | (apply btrans0; rotate_left; assumption) | (apply btrans; rotate_left; assumption) | (simp; done) | omega | (simp; omega)))) HF.out).mono ?_
  rw [HE.out]
  rintro e w1 ⟨rfl, hb1⟩
  have hB1 : Below w.heap.size w w1 := (by repeat' (first | with_reducible (first | refine bset ?_ ?_ | exact Below.refl _ _ | assumption | refine bdrewN ?_ _ | refine bdrew ?_ | refine balloc0 ?_ | refine balloc ?_ ?_ | (apply btrans0; rotate_left; assumption) | (apply btrans; rotate_left; assumption)) | exact Below.refl _ _ | assumption | (apply btrans0; rotate_left; assumption) | (apply btrans; rotate_left; assumption) | (simp; done) | omega | (simp; omega)))
  have z1 : w.heap.size + 1 < w1.heap.size := by have := hb1.size; (try simp at this); omega
  have z1a : w.heap.size < w1.heap.size := by omega
  have A1 : w1.heap[w.heap.size]? = some (.cells (bunC b (.slice a b.blocks.length c)).toArray 28 (0, 0)) := (hb1.block _ (by first | omega | (simp; done) | (simp; omega))).trans (by repeat (first | exact heap_new' (by first | rfl | (simp; done)) | refine (Below.heap_alloc _ _ _ (by first | (simp; done) | (simp; omega))).trans ?_))
  have R1 : w1.heap[w.heap.size + 1]? = some (.cells #[.int .i64 0, .int .i64 0, .int .i64 0, .int .i64 0, .int .i64 0, .int .i64 0, .int .i64 0, .int .i64 0, .int .i64 0, .int .i64 0, .slice none 0 0, .string ⟨#[]⟩] 28 (0, 0)) := (hb1.block _ (by simp)).trans (by repeat (first | exact heap_new' (by first | rfl | (simp; done)) | refine (Below.heap_alloc _ _ _ (by first | (simp; done) | (simp; omega))).trans ?_))
  have ca := fun o => cellB A1 o
  have cr := fun o => cellB R1 o
  have fr := fun o => frozenB R1 o
  simp only [bunC] at ca
  have HA1 := Lib.hid A1
  have HR1 := Lib.hid R1
  clear A1 R1 hb1
  go_wp2_with fail
  refine (rnode_any n _).mono ?_
  rw [HND.out]
  rintro e w99 ⟨rfl, hw⟩
  subst hw
  go_wp2_with fail
  refine (rage0_any b _ _ (HR.out.below' (by repeat' (first | with_reducible (first | refine bset ?_ ?_ | exact Below.refl _ _ | assumption | refine bdrewN ?_ _ | refine bdrew ?_ | refine balloc0 ?_ | refine balloc ?_ ?_ | (apply btrans0; rotate_left; assumption) | (apply btrans; rotate_left; assumption)) | exact Below.refl _ _ | assumption | (apply btrans0; rotate_left; assumption) | (apply btrans; rotate_left; assumption) | (simp; done) | omega | (simp; omega)))) HE.out).mono ?_
  rw [HAG.out]
  simp only
  rintro e w2 ⟨rfl, hb2⟩
  have hB2 : Below w.heap.size w w2 := (by repeat' (first | with_reducible (first | refine bset ?_ ?_ | exact Below.refl _ _ | assumption | refine bdrewN ?_ _ | refine bdrew ?_ | refine balloc0 ?_ | refine balloc ?_ ?_ | (apply btrans0; rotate_left; assumption) | (apply btrans; rotate_left; assumption)) | exact Below.refl _ _ | assumption | (apply btrans0; rotate_left; assumption) | (apply btrans; rotate_left; assumption) | (simp; done) | omega | (simp; omega)))
  have z2 : w.heap.size + 1 < w2.heap.size := by have := hb2.size; (try simp at this); omega
  have z2a : w.heap.size < w2.heap.size := by omega
  have A2 : w2.heap[w.heap.size]? = some (.cells (bunC b (.slice a b.blocks.length c)).toArray 28 (0, 0)) := (hb2.block _ z1a).trans HA1.out
  have R2 : w2.heap[w.heap.size + 1]? = some (.cells #[.int .i64 0, .int .i64 0, .int .i64 0, .int .i64 0, .int .i64 0, .int .i64 0, .int .i64 0, .int .i64 0, .int .i64 0, .int .i64 0, .slice none 0 0, .string ⟨#[]⟩] 28 (0, 0)) := (hb2.block _ z1).trans HR1.out
  clear ca cr fr
  have ca := fun o => cellB A2 o
  have cr := fun o => cellB R2 o
  have fr := fun o => frozenB R2 o
  simp only [bunC] at ca
  have HA2 := Lib.hid A2
  have HR2 := Lib.hid R2
  clear A2 R2 hb2
  go_wp2_with fail
  refine (rhop0_any b _ _ (HR.out.below' (by repeat' (first | with_reducible (first | refine bset ?_ ?_ | exact Below.refl _ _ | assumption | refine bdrewN ?_ _ | refine bdrew ?_ | refine balloc0 ?_ | refine balloc ?_ ?_ | (apply btrans0; rotate_left; assumption) | (apply btrans; rotate_left; assumption)) | exact Below.refl _ _ | assumption | (apply btrans0; rotate_left; assumption) | (apply btrans; rotate_left; assumption) | (simp; done) | omega | (simp; omega)))) HE.out).mono ?_
  rw [HHO.out]
  simp only
  rintro e w3 ⟨rfl, hb3⟩
  have hB3 : Below w.heap.size w w3 := (by repeat' (first | with_reducible (first | refine bset ?_ ?_ | exact Below.refl _ _ | assumption | refine bdrewN ?_ _ | refine bdrew ?_ | refine balloc0 ?_ | refine balloc ?_ ?_ | (apply btrans0; rotate_left; assumption) | (apply btrans; rotate_left; assumption)) | exact Below.refl _ _ | assumption | (apply btrans0; rotate_left; assumption) | (apply btrans; rotate_left; assumption) | (simp; done) | omega | (simp; omega)))
  have z3 : w.heap.size + 1 < w3.heap.size := by have := hb3.size; (try simp at this); omega
  have z3a : w.heap.size < w3.heap.size := by omega
  have A3 : w3.heap[w.heap.size]? = some (.cells (bunC b (.slice a b.blocks.length c)).toArray 28 (0, 0)) := (hb3.block _ z2a).trans HA2.out
  have R3 : w3.heap[w.heap.size + 1]? = some (.cells #[.int .i64 0, .int .i64 0, .int .i64 0, .int .i64 0, .int .i64 0, .int .i64 0, .int .i64 0, .int .i64 0, .int .i64 0, .int .i64 0, .slice none 0 0, .string ⟨#[]⟩] 28 (0, 0)) := (hb3.block _ z2).trans HR2.out
  clear ca cr fr
  have ca := fun o => cellB A3 o
  have cr := fun o => cellB R3 o
  have fr := fun o => frozenB R3 o
  simp only [bunC] at ca
  have HA3 := Lib.hid A3
  have HR3 := Lib.hid R3
  clear A3 R3 hb3
  go_wp2_with fail
  refine (rvis0_any b _ _ (HR.out.below' (by repeat' (first | with_reducible (first | refine bset ?_ ?_ | exact Below.refl _ _ | assumption | refine bdrewN ?_ _ | refine bdrew ?_ | refine balloc0 ?_ | refine balloc ?_ ?_ | (apply btrans0; rotate_left; assumption) | (apply btrans; rotate_left; assumption)) | exact Below.refl _ _ | assumption | (apply btrans0; rotate_left; assumption) | (apply btrans; rotate_left; assumption) | (simp; done) | omega | (simp; omega)))) HE.out).mono ?_
  unfold GetPost
  rw [HG.out]
  simp only
  rintro e w4 ⟨v, rfl, hb4, hri⟩
  have HRI := Lib.hid hri
  clear hri
  have hB4 : Below w.heap.size w w4 := (by repeat' (first | with_reducible (first | refine bset ?_ ?_ | exact Below.refl _ _ | assumption | refine bdrewN ?_ _ | refine bdrew ?_ | refine balloc0 ?_ | refine balloc ?_ ?_ | (apply btrans0; rotate_left; assumption) | (apply btrans; rotate_left; assumption)) | exact Below.refl _ _ | assumption | (apply btrans0; rotate_left; assumption) | (apply btrans; rotate_left; assumption) | (simp; done) | omega | (simp; omega)))
  have z4 : w.heap.size + 1 < w4.heap.size := by have := hb4.size; (try simp at this); omega
  have z4a : w.heap.size < w4.heap.size := by omega
  have A4 : w4.heap[w.heap.size]? = some (.cells (bunC b (.slice a b.blocks.length c)).toArray 28 (0, 0)) := (hb4.block _ z3a).trans HA3.out
  have R4 : w4.heap[w.heap.size + 1]? = some (.cells #[.int .i64 0, .int .i64 0, .int .i64 0, .int .i64 0, .int .i64 0, .int .i64 0, .int .i64 0, .int .i64 0, .int .i64 0, .int .i64 0, .slice none 0 0, .string ⟨#[]⟩] 28 (0, 0)) := (hb4.block _ z3).trans HR3.out
  clear ca cr fr
  have ca := fun o => cellB A4 o
  have cr := fun o => cellB R4 o
  have fr := fun o => frozenB R4 o
  simp only [bunC] at ca
  have HA4 := Lib.hid A4
  have HR4 := Lib.hid R4
  clear A4 R4 hb4
  go_wp2_with fail
  refine bodyPost_ret (v := .tuple #[.agg #[.int .i64 0, .int .i64 0, .int .i64 0, .int .i64 0, .int .i64 0, .int .i64 0, .int .i64 0, .int .i64 0, .int .i64 0, .int .i64 0, .slice none 0 0, .string ⟨#[]⟩], .int .i64 17]) (by simp [results, Try.results25, go_sem, World.cell?_setCell_same', cr, z4]) rfl ?_
  unfold FwdPost
  exact ⟨_, rfl, RBlks.nil _ _, (by repeat' (first | with_reducible (first | refine bset ?_ ?_ | exact Below.refl _ _ | assumption | refine bdrewN ?_ _ | refine bdrew ?_ | refine balloc0 ?_ | refine balloc ?_ ?_ | (apply btrans0; rotate_left; assumption) | (apply btrans; rotate_left; assumption)) | exact Below.refl _ _ | assumption | (apply btrans0; rotate_left; assumption) | (apply btrans; rotate_left; assumption) | (simp; done) | omega | (simp; omega)))⟩
set_option maxRecDepth 100000 in
set_option maxHeartbeats 8000000 in
theorem rfwd_bad4 (b : Bun) (u : Value) (n el : Int) (w : World) (h : RBlks w w.heap.size u b.blocks) (hf : Fits b) (a1 ea lim : Int) (lv : List Int) (ev : Int) (hE : chkE b = 0) (hnd : nodeB n = true) (r1 : ¬ el < 0) (r2 : ¬ 1099511627776 < el) (hag : ageS b = (a1, ea)) (hho : hopS b = (lim, lim, 0)) (hg : getS b 3 = (lv, ev)) (q1 : ea = 0 ∧ a1 + el < b.life ∨ ea = 7) (q3 : ev ≠ 11) :
    Calls Try.prog 25 #[.agg (bunC b u).toArray, .int .i64 n, .int .i64 el] w (FwdPost (zBun, 4) w) := by
  have HF := Lib.hid hf
  have HR := Lib.hid h
  obtain ⟨a, c, rfl, h1, h2, h3, h4⟩ := h
  clear h1 h2 h3 h4 hf
  have k3 : (ev == 11) = false := beq_eq_false_iff_ne.2 q3
  rcases q1 with ⟨rfl, hl⟩ | rfl
  · have HE := Lib.hid hE
    have HND := Lib.hid hnd
    have HAG := Lib.hid hag
    have HHO := Lib.hid hho
    have HG := Lib.hid hg
    obtain ⟨y1, y2⟩ := age_facts hag
    have hwr : IntKind.i64.wrap (a1 + el) = a1 + el := by rw [IntKind.wrap_i64]; omega
    have hl2 : ¬ b.life ≤ a1 + el := by omega
    clear hE hnd hag hho hg q3
    go_enter Try.func25, Try.ntmps25
    simp only [bunC]
    go_wp2_with fail
    refine (rcheck_any b _ _ (HR.out.below' (by repeat' (first | with_reducible (first | refine bset ?_ ?_ | exact Below.refl _ _ | assumption | refine bdrewN ?_ _ | refine bdrew ?_ | refine balloc0 ?_ | refine balloc ?_ ?_ | (apply btrans0; rotate_left; assumption) | (apply btrans; rotate_left; assumption)) | exact Below.refl _ _ | assumption | (apply btrans0; rotate_left; assumption) | (apply btrans; rotate_left; assumption) | (simp; done) | omega | (simp; omega)))) HF.out).mono ?_
    rw [HE.out]
    rintro e w1 ⟨rfl, hb1⟩
    have hB1 : Below w.heap.size w w1 := (by repeat' (first | with_reducible (first | refine bset ?_ ?_ | exact Below.refl _ _ | assumption | refine bdrewN ?_ _ | refine bdrew ?_ | refine balloc0 ?_ | refine balloc ?_ ?_ | (apply btrans0; rotate_left; assumption) | (apply btrans; rotate_left; assumption)) | exact Below.refl _ _ | assumption | (apply btrans0; rotate_left; assumption) | (apply btrans; rotate_left; assumption) | (simp; done) | omega | (simp; omega)))
    have z1 : w.heap.size + 1 < w1.heap.size := by have := hb1.size; (try simp at this); omega
    have z1a : w.heap.size < w1.heap.size := by omega
    have A1 : w1.heap[w.heap.size]? = some (.cells (bunC b (.slice a b.blocks.length c)).toArray 28 (0, 0)) := (hb1.block _ (by first | omega | (simp; done) | (simp; omega))).trans (by repeat (first | exact heap_new' (by first | rfl | (simp; done)) | refine (Below.heap_alloc _ _ _ (by first | (simp; done) | (simp; omega))).trans ?_))
    have R1 : w1.heap[w.heap.size + 1]? = some (.cells #[.int .i64 0, .int .i64 0, .int .i64 0, .int .i64 0, .int .i64 0, .int .i64 0, .int .i64 0, .int .i64 0, .int .i64 0, .int .i64 0, .slice none 0 0, .string ⟨#[]⟩] 28 (0, 0)) := (hb1.block _ (by simp)).trans (by repeat (first | exact heap_new' (by first | rfl | (simp; done)) | refine (Below.heap_alloc _ _ _ (by first | (simp; done) | (simp; omega))).trans ?_))
    have ca := fun o => cellB A1 o
    have cr := fun o => cellB R1 o
    have fr := fun o => frozenB R1 o
    simp only [bunC] at ca
    have HA1 := Lib.hid A1
    have HR1 := Lib.hid R1
    clear A1 R1 hb1
    go_wp2_with fail
    refine (rnode_any n _).mono ?_
    rw [HND.out]
    rintro e w99 ⟨rfl, hw⟩
    subst hw
    go_wp2_with fail
    refine (rage0_any b _ _ (HR.out.below' (by repeat' (first | with_reducible (first | refine bset ?_ ?_ | exact Below.refl _ _ | assumption | refine bdrewN ?_ _ | refine bdrew ?_ | refine balloc0 ?_ | refine balloc ?_ ?_ | (apply btrans0; rotate_left; assumption) | (apply btrans; rotate_left; assumption)) | exact Below.refl _ _ | assumption | (apply btrans0; rotate_left; assumption) | (apply btrans; rotate_left; assumption) | (simp; done) | omega | (simp; omega)))) HE.out).mono ?_
    rw [HAG.out]
    simp only
    rintro e w2 ⟨rfl, hb2⟩
    have hB2 : Below w.heap.size w w2 := (by repeat' (first | with_reducible (first | refine bset ?_ ?_ | exact Below.refl _ _ | assumption | refine bdrewN ?_ _ | refine bdrew ?_ | refine balloc0 ?_ | refine balloc ?_ ?_ | (apply btrans0; rotate_left; assumption) | (apply btrans; rotate_left; assumption)) | exact Below.refl _ _ | assumption | (apply btrans0; rotate_left; assumption) | (apply btrans; rotate_left; assumption) | (simp; done) | omega | (simp; omega)))
    have z2 : w.heap.size + 1 < w2.heap.size := by have := hb2.size; (try simp at this); omega
    have z2a : w.heap.size < w2.heap.size := by omega
    have A2 : w2.heap[w.heap.size]? = some (.cells (bunC b (.slice a b.blocks.length c)).toArray 28 (0, 0)) := (hb2.block _ z1a).trans HA1.out
    have R2 : w2.heap[w.heap.size + 1]? = some (.cells #[.int .i64 0, .int .i64 0, .int .i64 0, .int .i64 0, .int .i64 0, .int .i64 0, .int .i64 0, .int .i64 0, .int .i64 0, .int .i64 0, .slice none 0 0, .string ⟨#[]⟩] 28 (0, 0)) := (hb2.block _ z1).trans HR1.out
    clear ca cr fr
    have ca := fun o => cellB A2 o
    have cr := fun o => cellB R2 o
    have fr := fun o => frozenB R2 o
    simp only [bunC] at ca
    have HA2 := Lib.hid A2
    have HR2 := Lib.hid R2
    clear A2 R2 hb2
    go_wp2_with fail
    refine (rhop0_any b _ _ (HR.out.below' (by repeat' (first | with_reducible (first | refine bset ?_ ?_ | exact Below.refl _ _ | assumption | refine bdrewN ?_ _ | refine bdrew ?_ | refine balloc0 ?_ | refine balloc ?_ ?_ | (apply btrans0; rotate_left; assumption) | (apply btrans; rotate_left; assumption)) | exact Below.refl _ _ | assumption | (apply btrans0; rotate_left; assumption) | (apply btrans; rotate_left; assumption) | (simp; done) | omega | (simp; omega)))) HE.out).mono ?_
    rw [HHO.out]
    simp only
    rintro e w3 ⟨rfl, hb3⟩
    have hB3 : Below w.heap.size w w3 := (by repeat' (first | with_reducible (first | refine bset ?_ ?_ | exact Below.refl _ _ | assumption | refine bdrewN ?_ _ | refine bdrew ?_ | refine balloc0 ?_ | refine balloc ?_ ?_ | (apply btrans0; rotate_left; assumption) | (apply btrans; rotate_left; assumption)) | exact Below.refl _ _ | assumption | (apply btrans0; rotate_left; assumption) | (apply btrans; rotate_left; assumption) | (simp; done) | omega | (simp; omega)))
    have z3 : w.heap.size + 1 < w3.heap.size := by have := hb3.size; (try simp at this); omega
    have z3a : w.heap.size < w3.heap.size := by omega
    have A3 : w3.heap[w.heap.size]? = some (.cells (bunC b (.slice a b.blocks.length c)).toArray 28 (0, 0)) := (hb3.block _ z2a).trans HA2.out
    have R3 : w3.heap[w.heap.size + 1]? = some (.cells #[.int .i64 0, .int .i64 0, .int .i64 0, .int .i64 0, .int .i64 0, .int .i64 0, .int .i64 0, .int .i64 0, .int .i64 0, .int .i64 0, .slice none 0 0, .string ⟨#[]⟩] 28 (0, 0)) := (hb3.block _ z2).trans HR2.out
    clear ca cr fr
    have ca := fun o => cellB A3 o
    have cr := fun o => cellB R3 o
    have fr := fun o => frozenB R3 o
    simp only [bunC] at ca
    have HA3 := Lib.hid A3
    have HR3 := Lib.hid R3
    clear A3 R3 hb3
    go_wp2_with fail
    refine (rvis0_any b _ _ (HR.out.below' (by repeat' (first | with_reducible (first | refine bset ?_ ?_ | exact Below.refl _ _ | assumption | refine bdrewN ?_ _ | refine bdrew ?_ | refine balloc0 ?_ | refine balloc ?_ ?_ | (apply btrans0; rotate_left; assumption) | (apply btrans; rotate_left; assumption)) | exact Below.refl _ _ | assumption | (apply btrans0; rotate_left; assumption) | (apply btrans; rotate_left; assumption) | (simp; done) | omega | (simp; omega)))) HE.out).mono ?_
    unfold GetPost
    rw [HG.out]
    simp only
    rintro e w4 ⟨v, rfl, hb4, hri⟩
    have HRI := Lib.hid hri
    clear hri
    have hB4 : Below w.heap.size w w4 := (by repeat' (first | with_reducible (first | refine bset ?_ ?_ | exact Below.refl _ _ | assumption | refine bdrewN ?_ _ | refine bdrew ?_ | refine balloc0 ?_ | refine balloc ?_ ?_ | (apply btrans0; rotate_left; assumption) | (apply btrans; rotate_left; assumption)) | exact Below.refl _ _ | assumption | (apply btrans0; rotate_left; assumption) | (apply btrans; rotate_left; assumption) | (simp; done) | omega | (simp; omega)))
    have z4 : w.heap.size + 1 < w4.heap.size := by have := hb4.size; (try simp at this); omega
    have z4a : w.heap.size < w4.heap.size := by omega
    have A4 : w4.heap[w.heap.size]? = some (.cells (bunC b (.slice a b.blocks.length c)).toArray 28 (0, 0)) := (hb4.block _ z3a).trans HA3.out
    have R4 : w4.heap[w.heap.size + 1]? = some (.cells #[.int .i64 0, .int .i64 0, .int .i64 0, .int .i64 0, .int .i64 0, .int .i64 0, .int .i64 0, .int .i64 0, .int .i64 0, .int .i64 0, .slice none 0 0, .string ⟨#[]⟩] 28 (0, 0)) := (hb4.block _ z3).trans HR3.out
    clear ca cr fr
    have ca := fun o => cellB A4 o
    have cr := fun o => cellB R4 o
    have fr := fun o => frozenB R4 o
    simp only [bunC] at ca
    have HA4 := Lib.hid A4
    have HR4 := Lib.hid R4
    clear A4 R4 hb4
    go_wp2_with fail
    refine bodyPost_ret (v := .tuple #[.agg #[.int .i64 0, .int .i64 0, .int .i64 0, .int .i64 0, .int .i64 0, .int .i64 0, .int .i64 0, .int .i64 0, .int .i64 0, .int .i64 0, .slice none 0 0, .string ⟨#[]⟩], .int .i64 4]) (by simp [results, Try.results25, go_sem, World.cell?_setCell_same', cr, z4]) rfl ?_
    unfold FwdPost
    exact ⟨_, rfl, RBlks.nil _ _, (by repeat' (first | with_reducible (first | refine bset ?_ ?_ | exact Below.refl _ _ | assumption | refine bdrewN ?_ _ | refine bdrew ?_ | refine balloc0 ?_ | refine balloc ?_ ?_ | (apply btrans0; rotate_left; assumption) | (apply btrans; rotate_left; assumption)) | exact Below.refl _ _ | assumption | (apply btrans0; rotate_left; assumption) | (apply btrans; rotate_left; assumption) | (simp; done) | omega | (simp; omega)))⟩
  · have HE := Lib.hid hE
    have HND := Lib.hid hnd
    have HAG := Lib.hid hag
    have HHO := Lib.hid hho
    have HG := Lib.hid hg
    clear hE hnd hag hho hg q3
    go_enter Try.func25, Try.ntmps25
    simp only [bunC]
    go_wp2_with fail
    refine (rcheck_any b _ _ (HR.out.below' (by repeat' (first | with_reducible (first | refine bset ?_ ?_ | exact Below.refl _ _ | assumption | refine bdrewN ?_ _ | refine bdrew ?_ | refine balloc0 ?_ | refine balloc ?_ ?_ | (apply btrans0; rotate_left; assumption) | (apply btrans; rotate_left; assumption)) | exact Below.refl _ _ | assumption | (apply btrans0; rotate_left; assumption) | (apply btrans; rotate_left; assumption) | (simp; done) | omega | (simp; omega)))) HF.out).mono ?_
    rw [HE.out]
    rintro e w1 ⟨rfl, hb1⟩
    have hB1 : Below w.heap.size w w1 := (by repeat' (first | with_reducible (first | refine bset ?_ ?_ | exact Below.refl _ _ | assumption | refine bdrewN ?_ _ | refine bdrew ?_ | refine balloc0 ?_ | refine balloc ?_ ?_ | (apply btrans0; rotate_left; assumption) | (apply btrans; rotate_left; assumption)) | exact Below.refl _ _ | assumption | (apply btrans0; rotate_left; assumption) | (apply btrans; rotate_left; assumption) | (simp; done) | omega | (simp; omega)))
    have z1 : w.heap.size + 1 < w1.heap.size := by have := hb1.size; (try simp at this); omega
    have z1a : w.heap.size < w1.heap.size := by omega
    have A1 : w1.heap[w.heap.size]? = some (.cells (bunC b (.slice a b.blocks.length c)).toArray 28 (0, 0)) := (hb1.block _ (by first | omega | (simp; done) | (simp; omega))).trans (by repeat (first | exact heap_new' (by first | rfl | (simp; done)) | refine (Below.heap_alloc _ _ _ (by first | (simp; done) | (simp; omega))).trans ?_))
    have R1 : w1.heap[w.heap.size + 1]? = some (.cells #[.int .i64 0, .int .i64 0, .int .i64 0, .int .i64 0, .int .i64 0, .int .i64 0, .int .i64 0, .int .i64 0, .int .i64 0, .int .i64 0, .slice none 0 0, .string ⟨#[]⟩] 28 (0, 0)) := (hb1.block _ (by simp)).trans (by repeat (first | exact heap_new' (by first | rfl | (simp; done)) | refine (Below.heap_alloc _ _ _ (by first | (simp; done) | (simp; omega))).trans ?_))
    have ca := fun o => cellB A1 o
    have cr := fun o => cellB R1 o
    have fr := fun o => frozenB R1 o
    simp only [bunC] at ca
    have HA1 := Lib.hid A1
    have HR1 := Lib.hid R1
    clear A1 R1 hb1
    go_wp2_with fail
    refine (rnode_any n _).mono ?_
    rw [HND.out]
    rintro e w99 ⟨rfl, hw⟩
    subst hw
    go_wp2_with fail
    refine (rage0_any b _ _ (HR.out.below' (by repeat' (first | with_reducible (first | refine bset ?_ ?_ | exact Below.refl _ _ | assumption | refine bdrewN ?_ _ | refine bdrew ?_ | refine balloc0 ?_ | refine balloc ?_ ?_ | (apply btrans0; rotate_left; assumption) | (apply btrans; rotate_left; assumption)) | exact Below.refl _ _ | assumption | (apply btrans0; rotate_left; assumption) | (apply btrans; rotate_left; assumption) | (simp; done) | omega | (simp; omega)))) HE.out).mono ?_
    rw [HAG.out]
    simp only
    rintro e w2 ⟨rfl, hb2⟩
    have hB2 : Below w.heap.size w w2 := (by repeat' (first | with_reducible (first | refine bset ?_ ?_ | exact Below.refl _ _ | assumption | refine bdrewN ?_ _ | refine bdrew ?_ | refine balloc0 ?_ | refine balloc ?_ ?_ | (apply btrans0; rotate_left; assumption) | (apply btrans; rotate_left; assumption)) | exact Below.refl _ _ | assumption | (apply btrans0; rotate_left; assumption) | (apply btrans; rotate_left; assumption) | (simp; done) | omega | (simp; omega)))
    have z2 : w.heap.size + 1 < w2.heap.size := by have := hb2.size; (try simp at this); omega
    have z2a : w.heap.size < w2.heap.size := by omega
    have A2 : w2.heap[w.heap.size]? = some (.cells (bunC b (.slice a b.blocks.length c)).toArray 28 (0, 0)) := (hb2.block _ z1a).trans HA1.out
    have R2 : w2.heap[w.heap.size + 1]? = some (.cells #[.int .i64 0, .int .i64 0, .int .i64 0, .int .i64 0, .int .i64 0, .int .i64 0, .int .i64 0, .int .i64 0, .int .i64 0, .int .i64 0, .slice none 0 0, .string ⟨#[]⟩] 28 (0, 0)) := (hb2.block _ z1).trans HR1.out
    clear ca cr fr
    have ca := fun o => cellB A2 o
    have cr := fun o => cellB R2 o
    have fr := fun o => frozenB R2 o
    simp only [bunC] at ca
    have HA2 := Lib.hid A2
    have HR2 := Lib.hid R2
    clear A2 R2 hb2
    go_wp2_with fail
    refine (rhop0_any b _ _ (HR.out.below' (by repeat' (first | with_reducible (first | refine bset ?_ ?_ | exact Below.refl _ _ | assumption | refine bdrewN ?_ _ | refine bdrew ?_ | refine balloc0 ?_ | refine balloc ?_ ?_ | (apply btrans0; rotate_left; assumption) | (apply btrans; rotate_left; assumption)) | exact Below.refl _ _ | assumption | (apply btrans0; rotate_left; assumption) | (apply btrans; rotate_left; assumption) | (simp; done) | omega | (simp; omega)))) HE.out).mono ?_
    rw [HHO.out]
    simp only
    rintro e w3 ⟨rfl, hb3⟩
    have hB3 : Below w.heap.size w w3 := (by repeat' (first | with_reducible (first | refine bset ?_ ?_ | exact Below.refl _ _ | assumption | refine bdrewN ?_ _ | refine bdrew ?_ | refine balloc0 ?_ | refine balloc ?_ ?_ | (apply btrans0; rotate_left; assumption) | (apply btrans; rotate_left; assumption)) | exact Below.refl _ _ | assumption | (apply btrans0; rotate_left; assumption) | (apply btrans; rotate_left; assumption) | (simp; done) | omega | (simp; omega)))
    have z3 : w.heap.size + 1 < w3.heap.size := by have := hb3.size; (try simp at this); omega
    have z3a : w.heap.size < w3.heap.size := by omega
    have A3 : w3.heap[w.heap.size]? = some (.cells (bunC b (.slice a b.blocks.length c)).toArray 28 (0, 0)) := (hb3.block _ z2a).trans HA2.out
    have R3 : w3.heap[w.heap.size + 1]? = some (.cells #[.int .i64 0, .int .i64 0, .int .i64 0, .int .i64 0, .int .i64 0, .int .i64 0, .int .i64 0, .int .i64 0, .int .i64 0, .int .i64 0, .slice none 0 0, .string ⟨#[]⟩] 28 (0, 0)) := (hb3.block _ z2).trans HR2.out
    clear ca cr fr
    have ca := fun o => cellB A3 o
    have cr := fun o => cellB R3 o
    have fr := fun o => frozenB R3 o
    simp only [bunC] at ca
    have HA3 := Lib.hid A3
    have HR3 := Lib.hid R3
    clear A3 R3 hb3
    go_wp2_with fail
    refine (rvis0_any b _ _ (HR.out.below' (by repeat' (first | with_reducible (first | refine bset ?_ ?_ | exact Below.refl _ _ | assumption | refine bdrewN ?_ _ | refine bdrew ?_ | refine balloc0 ?_ | refine balloc ?_ ?_ | (apply btrans0; rotate_left; assumption) | (apply btrans; rotate_left; assumption)) | exact Below.refl _ _ | assumption | (apply btrans0; rotate_left; assumption) | (apply btrans; rotate_left; assumption) | (simp; done) | omega | (simp; omega)))) HE.out).mono ?_
    unfold GetPost
    rw [HG.out]
    simp only
    rintro e w4 ⟨v, rfl, hb4, hri⟩
    have HRI := Lib.hid hri
    clear hri
    have hB4 : Below w.heap.size w w4 := (by repeat' (first | with_reducible (first | refine bset ?_ ?_ | exact Below.refl _ _ | assumption | refine bdrewN ?_ _ | refine bdrew ?_ | refine balloc0 ?_ | refine balloc ?_ ?_ | (apply btrans0; rotate_left; assumption) | (apply btrans; rotate_left; assumption)) | exact Below.refl _ _ | assumption | (apply btrans0; rotate_left; assumption) | (apply btrans; rotate_left; assumption) | (simp; done) | omega | (simp; omega)))
    have z4 : w.heap.size + 1 < w4.heap.size := by have := hb4.size; (try simp at this); omega
    have z4a : w.heap.size < w4.heap.size := by omega
    have A4 : w4.heap[w.heap.size]? = some (.cells (bunC b (.slice a b.blocks.length c)).toArray 28 (0, 0)) := (hb4.block _ z3a).trans HA3.out
    have R4 : w4.heap[w.heap.size + 1]? = some (.cells #[.int .i64 0, .int .i64 0, .int .i64 0, .int .i64 0, .int .i64 0, .int .i64 0, .int .i64 0, .int .i64 0, .int .i64 0, .int .i64 0, .slice none 0 0, .string ⟨#[]⟩] 28 (0, 0)) := (hb4.block _ z3).trans HR3.out
    clear ca cr fr
    have ca := fun o => cellB A4 o
    have cr := fun o => cellB R4 o
    have fr := fun o => frozenB R4 o
    simp only [bunC] at ca
    have HA4 := Lib.hid A4
    have HR4 := Lib.hid R4
    clear A4 R4 hb4
    go_wp2_with fail
    refine bodyPost_ret (v := .tuple #[.agg #[.int .i64 0, .int .i64 0, .int .i64 0, .int .i64 0, .int .i64 0, .int .i64 0, .int .i64 0, .int .i64 0, .int .i64 0, .int .i64 0, .slice none 0 0, .string ⟨#[]⟩], .int .i64 4]) (by simp [results, Try.results25, go_sem, World.cell?_setCell_same', cr, z4]) rfl ?_
    unfold FwdPost
    exact ⟨_, rfl, RBlks.nil _ _, (by repeat' (first | with_reducible (first | refine bset ?_ ?_ | exact Below.refl _ _ | assumption | refine bdrewN ?_ _ | refine bdrew ?_ | refine balloc0 ?_ | refine balloc ?_ ?_ | (apply btrans0; rotate_left; assumption) | (apply btrans; rotate_left; assumption)) | exact Below.refl _ _ | assumption | (apply btrans0; rotate_left; assumption) | (apply btrans; rotate_left; assumption) | (simp; done) | omega | (simp; omega)))⟩
end Go.Proofs.Ythgokfceakbjlaa
