/- Contacts: Check, Overlap; ContainsFunc over contacts. -/
import Derived.BigQuiet
import Derived.BigRegion
import Derived.Deep.DeepCutAuto
import Derived.Deep.CutBlock
import Derived.Lib.MinMax
import Derived.Test.YtkokiahmgmeokaaGreatYa
set_option linter.unusedVariables false
set_option linter.unusedSimpArgs false
namespace Go.Proofs.YtkokiahmgmeokaaGreat
open Go Go.RowKit Iv
attribute [local go_sem] Oper.semAt_some
attribute [local go_sem] B_getElem B_size B_app B_extract B_get B_toList
set_option maxRecDepth 100000 in
set_option maxHeartbeats 4000000 in
theorem wth_any (n lo hi : Int) (w : World) : Calls Tryz.prog 70 #[.int .i64 n, .int .i64 lo, .int .i64 hi] w fun e w' => e = .returned (.bool (wth n lo hi)) ∧ w' = w := by
  show Calls Tryz.prog 70 #[.int .i64 n, .int .i64 lo, .int .i64 hi] w fun e w' => e = .returned (.bool (decide (n ≥ lo) && decide (n ≤ hi))) ∧ w' = w
  by_cases z1 : n ≥ lo
  · have d1 : decide (n ≥ lo) = true := decide_eq_true z1
    rw [d1]
    clear z1
    go_enter Tryz.func70, Tryz.ntmps70
    go_wp2
    go_ret
    exact ⟨rfl, rfl⟩
  · have d1 : decide (n ≥ lo) = false := decide_eq_false z1
    rw [d1]
    clear z1
    go_enter Tryz.func70, Tryz.ntmps70
    go_wp2
    go_ret
    exact ⟨rfl, rfl⟩
set_option maxRecDepth 100000 in
set_option maxHeartbeats 4000000 in
theorem conk_any (c : Con) (w : World) : Calls Tryz.prog 33 #[.agg #[.int .i64 c.fr, .int .i64 c.tt, .int .i64 c.st, .int .i64 c.en, .int .i64 c.ra, .int .i64 c.rg, .int .i64 c.lo]] w fun e w' => e = .returned (.int .i64 (chkCon c)) ∧ Below w.heap.size w w' := by
  by_cases h0 : wth c.fr 0 15 = false
  · rw [show chkCon c = 2 from if_pos (.inl h0)]
    have G0 := Lib.hid h0
    clear h0
    go_enter Tryz.func33, Tryz.ntmps33
    go_wp2_with fail
    refine (wth_any _ _ _ _).mono ?_
    rw [G0.out]
    rintro e _ ⟨rfl, rfl⟩
    go_wp2
    go_ret
    exact ⟨rfl, belowA⟩
  replace h0 : wth c.fr 0 15 = true := by simpa using h0
  by_cases h1 : wth c.tt 0 15 = false
  · rw [show chkCon c = 2 from if_pos (.inr (.inl h1))]
    have G0 := Lib.hid h0
    have G1 := Lib.hid h1
    clear h0 h1
    go_enter Tryz.func33, Tryz.ntmps33
    go_wp2_with fail
    refine (wth_any _ _ _ _).mono ?_
    rw [G0.out]
    rintro e _ ⟨rfl, rfl⟩
    go_wp2_with fail
    refine (wth_any _ _ _ _).mono ?_
    rw [G1.out]
    rintro e _ ⟨rfl, rfl⟩
    go_wp2
    go_ret
    exact ⟨rfl, belowA⟩
  replace h1 : wth c.tt 0 15 = true := by simpa using h1
  by_cases h2 : wth c.ra 1 1000 = false
  · rw [show chkCon c = 2 from if_pos (.inr (.inr (.inl h2)))]
    have G0 := Lib.hid h0
    have G1 := Lib.hid h1
    have G2 := Lib.hid h2
    clear h0 h1 h2
    go_enter Tryz.func33, Tryz.ntmps33
    go_wp2_with fail
    refine (wth_any _ _ _ _).mono ?_
    rw [G0.out]
    rintro e _ ⟨rfl, rfl⟩
    go_wp2_with fail
    refine (wth_any _ _ _ _).mono ?_
    rw [G1.out]
    rintro e _ ⟨rfl, rfl⟩
    go_wp2_with fail
    refine (wth_any _ _ _ _).mono ?_
    rw [G2.out]
    rintro e _ ⟨rfl, rfl⟩
    go_wp2
    go_ret
    exact ⟨rfl, belowA⟩
  replace h2 : wth c.ra 1 1000 = true := by simpa using h2
  by_cases h3 : wth c.rg 1 1048576 = false
  · rw [show chkCon c = 2 from if_pos (.inr (.inr (.inr (.inl h3))))]
    have G0 := Lib.hid h0
    have G1 := Lib.hid h1
    have G2 := Lib.hid h2
    have G3 := Lib.hid h3
    clear h0 h1 h2 h3
    go_enter Tryz.func33, Tryz.ntmps33
    go_wp2_with fail
    refine (wth_any _ _ _ _).mono ?_
    rw [G0.out]
    rintro e _ ⟨rfl, rfl⟩
    go_wp2_with fail
    refine (wth_any _ _ _ _).mono ?_
    rw [G1.out]
    rintro e _ ⟨rfl, rfl⟩
    go_wp2_with fail
    refine (wth_any _ _ _ _).mono ?_
    rw [G2.out]
    rintro e _ ⟨rfl, rfl⟩
    go_wp2_with fail
    refine (wth_any _ _ _ _).mono ?_
    rw [G3.out]
    rintro e _ ⟨rfl, rfl⟩
    go_wp2
    go_ret
    exact ⟨rfl, belowA⟩
  replace h3 : wth c.rg 1 1048576 = true := by simpa using h3
  by_cases h4 : wth c.lo 0 16 = false
  · rw [show chkCon c = 2 from if_pos (.inr (.inr (.inr (.inr (h4)))))]
    have G0 := Lib.hid h0
    have G1 := Lib.hid h1
    have G2 := Lib.hid h2
    have G3 := Lib.hid h3
    have G4 := Lib.hid h4
    clear h0 h1 h2 h3 h4
    go_enter Tryz.func33, Tryz.ntmps33
    go_wp2_with fail
    refine (wth_any _ _ _ _).mono ?_
    rw [G0.out]
    rintro e _ ⟨rfl, rfl⟩
    go_wp2_with fail
    refine (wth_any _ _ _ _).mono ?_
    rw [G1.out]
    rintro e _ ⟨rfl, rfl⟩
    go_wp2_with fail
    refine (wth_any _ _ _ _).mono ?_
    rw [G2.out]
    rintro e _ ⟨rfl, rfl⟩
    go_wp2_with fail
    refine (wth_any _ _ _ _).mono ?_
    rw [G3.out]
    rintro e _ ⟨rfl, rfl⟩
    go_wp2_with fail
    refine (wth_any _ _ _ _).mono ?_
    rw [G4.out]
    rintro e _ ⟨rfl, rfl⟩
    go_wp2
    go_ret
    exact ⟨rfl, belowA⟩
  replace h4 : wth c.lo 0 16 = true := by simpa using h4
  have hneg : ¬(wth c.fr 0 15 = false ∨ wth c.tt 0 15 = false ∨ wth c.ra 1 1000 = false ∨ wth c.rg 1 1048576 = false ∨ wth c.lo 0 16 = false) := by simp [h0, h1, h2, h3, h4]
  have hrg := wth_iff.1 h3
  have G0 := Lib.hid h0
  have G1 := Lib.hid h1
  have G2 := Lib.hid h2
  have G3 := Lib.hid h3
  have G4 := Lib.hid h4
  have HG := Lib.hid hneg
  clear hneg h0 h1 h2 h3 h4
  have w1 : IntKind.i64.wrap (2 * c.rg) = 2 * c.rg := by rw [IntKind.wrap_i64]; omega
  have w2 : IntKind.i64.wrap (1099511627776 - 2 * c.rg) = 1099511627776 - 2 * c.rg := by rw [IntKind.wrap_i64]; omega
  by_cases z1 : c.fr = c.tt
  · skip
    have HR : Hid (chkCon c = 1) := Lib.hid (by unfold chkCon; rw [if_neg HG.out]; rw [if_pos z1])
    rw [HR.out]
    have d1 : (c.fr == c.tt) = true := by rw [beq_iff_eq]; exact z1
    clear z1 HR
    go_enter Tryz.func33, Tryz.ntmps33
    go_wp2_with fail
    refine (wth_any _ _ _ _).mono ?_
    rw [G0.out]
    rintro e _ ⟨rfl, rfl⟩
    go_wp2_with fail
    refine (wth_any _ _ _ _).mono ?_
    rw [G1.out]
    rintro e _ ⟨rfl, rfl⟩
    go_wp2_with fail
    refine (wth_any _ _ _ _).mono ?_
    rw [G2.out]
    rintro e _ ⟨rfl, rfl⟩
    go_wp2_with fail
    refine (wth_any _ _ _ _).mono ?_
    rw [G3.out]
    rintro e _ ⟨rfl, rfl⟩
    go_wp2_with fail
    refine (wth_any _ _ _ _).mono ?_
    rw [G4.out]
    rintro e _ ⟨rfl, rfl⟩
    go_wp2
    go_ret
    exact ⟨rfl, belowA⟩
  by_cases z2 : c.st < 0
  · skip
    have HR : Hid (chkCon c = 2) := Lib.hid (by unfold chkCon; rw [if_neg HG.out]; rw [if_neg z1, if_pos (.inl z2)])
    rw [HR.out]
    have d1 : (c.fr == c.tt) = false := by rw [beq_eq_false_iff_ne]; exact z1
    have d2 : decide (c.st < 0) = true := decide_eq_true z2
    clear z1 z2 HR
    go_enter Tryz.func33, Tryz.ntmps33
    go_wp2_with fail
    refine (wth_any _ _ _ _).mono ?_
    rw [G0.out]
    rintro e _ ⟨rfl, rfl⟩
    go_wp2_with fail
    refine (wth_any _ _ _ _).mono ?_
    rw [G1.out]
    rintro e _ ⟨rfl, rfl⟩
    go_wp2_with fail
    refine (wth_any _ _ _ _).mono ?_
    rw [G2.out]
    rintro e _ ⟨rfl, rfl⟩
    go_wp2_with fail
    refine (wth_any _ _ _ _).mono ?_
    rw [G3.out]
    rintro e _ ⟨rfl, rfl⟩
    go_wp2_with fail
    refine (wth_any _ _ _ _).mono ?_
    rw [G4.out]
    rintro e _ ⟨rfl, rfl⟩
    go_wp2
    go_ret
    exact ⟨rfl, belowA⟩
  by_cases z3 : c.en ≤ c.st
  · skip
    have HR : Hid (chkCon c = 2) := Lib.hid (by unfold chkCon; rw [if_neg HG.out]; rw [if_neg z1, if_pos (.inr (.inl z3))])
    rw [HR.out]
    have d1 : (c.fr == c.tt) = false := by rw [beq_eq_false_iff_ne]; exact z1
    have d2 : decide (c.st < 0) = false := decide_eq_false z2
    have d3 : decide (c.st ≥ c.en) = true := decide_eq_true z3
    clear z1 z2 z3 HR
    go_enter Tryz.func33, Tryz.ntmps33
    go_wp2_with fail
    refine (wth_any _ _ _ _).mono ?_
    rw [G0.out]
    rintro e _ ⟨rfl, rfl⟩
    go_wp2_with fail
    refine (wth_any _ _ _ _).mono ?_
    rw [G1.out]
    rintro e _ ⟨rfl, rfl⟩
    go_wp2_with fail
    refine (wth_any _ _ _ _).mono ?_
    rw [G2.out]
    rintro e _ ⟨rfl, rfl⟩
    go_wp2_with fail
    refine (wth_any _ _ _ _).mono ?_
    rw [G3.out]
    rintro e _ ⟨rfl, rfl⟩
    go_wp2_with fail
    refine (wth_any _ _ _ _).mono ?_
    rw [G4.out]
    rintro e _ ⟨rfl, rfl⟩
    go_wp2
    go_ret
    exact ⟨rfl, belowA⟩
  by_cases z4 : 1099511627776 - 2 * c.rg < c.en
  · skip
    have HR : Hid (chkCon c = 2) := Lib.hid (by unfold chkCon; rw [if_neg HG.out]; rw [if_neg z1, if_pos (.inr (.inr z4))])
    rw [HR.out]
    have d1 : (c.fr == c.tt) = false := by rw [beq_eq_false_iff_ne]; exact z1
    have d2 : decide (c.st < 0) = false := decide_eq_false z2
    have d3 : decide (c.st ≥ c.en) = false := decide_eq_false z3
    have d4 : decide (c.en > 1099511627776 - 2 * c.rg) = true := decide_eq_true z4
    clear z1 z2 z3 z4 HR
    go_enter Tryz.func33, Tryz.ntmps33
    go_wp2_with fail
    refine (wth_any _ _ _ _).mono ?_
    rw [G0.out]
    rintro e _ ⟨rfl, rfl⟩
    go_wp2_with fail
    refine (wth_any _ _ _ _).mono ?_
    rw [G1.out]
    rintro e _ ⟨rfl, rfl⟩
    go_wp2_with fail
    refine (wth_any _ _ _ _).mono ?_
    rw [G2.out]
    rintro e _ ⟨rfl, rfl⟩
    go_wp2_with fail
    refine (wth_any _ _ _ _).mono ?_
    rw [G3.out]
    rintro e _ ⟨rfl, rfl⟩
    go_wp2_with fail
    refine (wth_any _ _ _ _).mono ?_
    rw [G4.out]
    rintro e _ ⟨rfl, rfl⟩
    go_wp2
    go_ret
    exact ⟨rfl, belowA⟩
  · skip
    have HR : Hid (chkCon c = 0) := Lib.hid (by unfold chkCon; rw [if_neg HG.out]; rw [if_neg z1, if_neg (by omega)])
    rw [HR.out]
    have d1 : (c.fr == c.tt) = false := by rw [beq_eq_false_iff_ne]; exact z1
    have d2 : decide (c.st < 0) = false := decide_eq_false z2
    have d3 : decide (c.st ≥ c.en) = false := decide_eq_false z3
    have d4 : decide (c.en > 1099511627776 - 2 * c.rg) = false := decide_eq_false z4
    clear z1 z2 z3 z4 HR
    go_enter Tryz.func33, Tryz.ntmps33
    go_wp2_with fail
    refine (wth_any _ _ _ _).mono ?_
    rw [G0.out]
    rintro e _ ⟨rfl, rfl⟩
    go_wp2_with fail
    refine (wth_any _ _ _ _).mono ?_
    rw [G1.out]
    rintro e _ ⟨rfl, rfl⟩
    go_wp2_with fail
    refine (wth_any _ _ _ _).mono ?_
    rw [G2.out]
    rintro e _ ⟨rfl, rfl⟩
    go_wp2_with fail
    refine (wth_any _ _ _ _).mono ?_
    rw [G3.out]
    rintro e _ ⟨rfl, rfl⟩
    go_wp2_with fail
    refine (wth_any _ _ _ _).mono ?_
    rw [G4.out]
    rintro e _ ⟨rfl, rfl⟩
    go_wp2
    go_ret
    exact ⟨rfl, belowA⟩
set_option maxRecDepth 100000 in
set_option maxHeartbeats 4000000 in
theorem ovl_any (a b : Con) (w : World) (ha : chkCon a = 0) (hb : chkCon b = 0) : Calls Tryz.prog 36 #[.agg #[.int .i64 a.fr, .int .i64 a.tt, .int .i64 a.st, .int .i64 a.en, .int .i64 a.ra, .int .i64 a.rg, .int .i64 a.lo], .agg #[.int .i64 b.fr, .int .i64 b.tt, .int .i64 b.st, .int .i64 b.en, .int .i64 b.ra, .int .i64 b.rg, .int .i64 b.lo]] w fun e w' => e = .returned (.bool (ovl a b)) ∧ Below w.heap.size w w' := by
  have HA := Lib.hid ha
  have HB := Lib.hid hb
  clear ha hb
  show Calls Tryz.prog 36 _ w fun e w' => e = .returned (.bool ((a.fr == b.fr && a.tt == b.tt) && decide (max a.st b.st < min a.en b.en))) ∧ Below w.heap.size w w'
  by_cases y1 : a.fr = b.fr
  · have e1 : (a.fr != b.fr) = false := by simp [y1]
    have g1 : (a.fr == b.fr) = true := by simp [y1]
    by_cases y2 : a.tt = b.tt
    · have e2 : (a.tt != b.tt) = false := by simp [y2]
      have g2 : (a.tt == b.tt) = true := by simp [y2]
      rw [g1, g2]
      clear g1 g2 y1 y2
      go_enter Tryz.func36, Tryz.ntmps36
      go_wp2_with fail
      refine (conk_any a _).mono ?_
      rw [HA.out]
      rintro e w1 ⟨rfl, hb1⟩
      have hB1 : Below w.heap.size w w1 := btrans0 (balloc0 (balloc0 (Below.refl _ _))) hb1
      have z1 : w.heap.size + 1 < w1.heap.size := by have := hb1.size; simp at this; omega
      have GA : w1.heap[w.heap.size]? = some (.cells #[.int .i64 a.fr, .int .i64 a.tt, .int .i64 a.st, .int .i64 a.en, .int .i64 a.ra, .int .i64 a.rg, .int .i64 a.lo] 38 (0, 0)) := (hb1.block _ (by simp; omega)).trans ((Below.heap_alloc _ _ _ (by simp)).trans heap_new)
      have GB : w1.heap[w.heap.size + 1]? = some (.cells #[.int .i64 b.fr, .int .i64 b.tt, .int .i64 b.st, .int .i64 b.en, .int .i64 b.ra, .int .i64 b.rg, .int .i64 b.lo] 38 (0, 0)) := (hb1.block _ (by simp)).trans (heap_new' (by simp))
      have cb := fun o => cellB GB o
      clear hb1
      go_wp2_with fail
      refine (conk_any b _).mono ?_
      rw [HB.out]
      rintro e w2 ⟨rfl, hb2⟩
      have hB2 : Below w.heap.size w w2 := btrans0 hB1 hb2
      have z2 : w.heap.size + 1 < w2.heap.size := by have := hb2.size; omega
      have GA2 := (hb2.block _ (by omega)).trans GA
      have GB2 := (hb2.block _ z1).trans GB
      have ca := fun o => cellB GA2 o
      have cb := fun o => cellB GB2 o
      clear hb2 GA GB hB1 GA2 GB2
      go_wp2
      go_ret
      exact ⟨rfl, hB2⟩
    · have e2 : (a.tt != b.tt) = true := by simpa using y2
      have g2 : (a.tt == b.tt) = false := by simpa using y2
      rw [g1, g2]
      clear g1 g2 y1 y2
      go_enter Tryz.func36, Tryz.ntmps36
      go_wp2_with fail
      refine (conk_any a _).mono ?_
      rw [HA.out]
      rintro e w1 ⟨rfl, hb1⟩
      have hB1 : Below w.heap.size w w1 := btrans0 (balloc0 (balloc0 (Below.refl _ _))) hb1
      have z1 : w.heap.size + 1 < w1.heap.size := by have := hb1.size; simp at this; omega
      have GA : w1.heap[w.heap.size]? = some (.cells #[.int .i64 a.fr, .int .i64 a.tt, .int .i64 a.st, .int .i64 a.en, .int .i64 a.ra, .int .i64 a.rg, .int .i64 a.lo] 38 (0, 0)) := (hb1.block _ (by simp; omega)).trans ((Below.heap_alloc _ _ _ (by simp)).trans heap_new)
      have GB : w1.heap[w.heap.size + 1]? = some (.cells #[.int .i64 b.fr, .int .i64 b.tt, .int .i64 b.st, .int .i64 b.en, .int .i64 b.ra, .int .i64 b.rg, .int .i64 b.lo] 38 (0, 0)) := (hb1.block _ (by simp)).trans (heap_new' (by simp))
      have cb := fun o => cellB GB o
      clear hb1
      go_wp2_with fail
      refine (conk_any b _).mono ?_
      rw [HB.out]
      rintro e w2 ⟨rfl, hb2⟩
      have hB2 : Below w.heap.size w w2 := btrans0 hB1 hb2
      have z2 : w.heap.size + 1 < w2.heap.size := by have := hb2.size; omega
      have GA2 := (hb2.block _ (by omega)).trans GA
      have GB2 := (hb2.block _ z1).trans GB
      have ca := fun o => cellB GA2 o
      have cb := fun o => cellB GB2 o
      clear hb2 GA GB hB1 GA2 GB2
      go_wp2
      go_ret
      exact ⟨rfl, hB2⟩
  · have e1 : (a.fr != b.fr) = true := by simpa using y1
    have g1 : (a.fr == b.fr) = false := by simpa using y1
    rw [g1]
    clear g1 y1
    go_enter Tryz.func36, Tryz.ntmps36
    go_wp2_with fail
    refine (conk_any a _).mono ?_
    rw [HA.out]
    rintro e w1 ⟨rfl, hb1⟩
    have hB1 : Below w.heap.size w w1 := btrans0 (balloc0 (balloc0 (Below.refl _ _))) hb1
    have z1 : w.heap.size + 1 < w1.heap.size := by have := hb1.size; simp at this; omega
    have GA : w1.heap[w.heap.size]? = some (.cells #[.int .i64 a.fr, .int .i64 a.tt, .int .i64 a.st, .int .i64 a.en, .int .i64 a.ra, .int .i64 a.rg, .int .i64 a.lo] 38 (0, 0)) := (hb1.block _ (by simp; omega)).trans ((Below.heap_alloc _ _ _ (by simp)).trans heap_new)
    have GB : w1.heap[w.heap.size + 1]? = some (.cells #[.int .i64 b.fr, .int .i64 b.tt, .int .i64 b.st, .int .i64 b.en, .int .i64 b.ra, .int .i64 b.rg, .int .i64 b.lo] 38 (0, 0)) := (hb1.block _ (by simp)).trans (heap_new' (by simp))
    have cb := fun o => cellB GB o
    clear hb1
    go_wp2_with fail
    refine (conk_any b _).mono ?_
    rw [HB.out]
    rintro e w2 ⟨rfl, hb2⟩
    have hB2 : Below w.heap.size w w2 := btrans0 hB1 hb2
    have z2 : w.heap.size + 1 < w2.heap.size := by have := hb2.size; omega
    have GA2 := (hb2.block _ (by omega)).trans GA
    have GB2 := (hb2.block _ z1).trans GB
    have ca := fun o => cellB GA2 o
    have cb := fun o => cellB GB2 o
    clear hb2 GA GB hB1 GA2 GB2
    go_wp2
    go_ret
    exact ⟨rfl, hB2⟩
def PredC (f : FuncId) (caps : Array Value) (Pd : Con → Bool) (w : World) (l : List Con) : Prop := (∀ args W, (callFunc f args).run Tryz.prog W = .ok (.enter f args) W) ∧
  ∀ (x : Con) (W : World), x ∈ l → Below w.heap.size w W → Calls Tryz.prog f (#[.agg #[.int .i64 x.fr, .int .i64 x.tt, .int .i64 x.st, .int .i64 x.en, .int .i64 x.ra, .int .i64 x.rg, .int .i64 x.lo]] ++ caps) W fun e W' => e = .returned (.bool (Pd x)) ∧ Below W.heap.size W W'
theorem PredC.below {f : FuncId} {caps : Array Value} {Pd : Con → Bool} {w w' : World} {l : List Con} (h : PredC f caps Pd w l) (k : Below w.heap.size w w') : PredC f caps Pd w' l := ⟨h.1, fun x W hx hW => h.2 x W hx (btrans0 k hW)⟩
def PredCIdx (Pd : Con → Bool) (l : List Con) (w : World) (e : Ending) (w' : World) : Prop := Below w.heap.size w w' ∧
  ((e = .returned (.int .i64 (-1)) ∧ ∀ x ∈ l, Pd x = false) ∨ ∃ k : Nat, e = .returned (.int .i64 k) ∧ k < l.length ∧ (∀ x ∈ l.take k, Pd x = false) ∧ ∀ x, l[k]? = some x → Pd x = true)
set_option maxRecDepth 100000 in
set_option maxHeartbeats 2000000 in
theorem index_PredC (l : List Con) (u : Value) (f : FuncId) (caps : Array Value) (Pd : Con → Bool) (w : World) (h : RRow conC 7 w w.heap.size u l) (hp : PredC f caps Pd w l) :
    Calls Tryz.prog 71 #[u, .func (.func f) #[] caps] w (PredCIdx Pd l w) := by
  obtain ⟨a, c, rfl, h1, h2, h3, h4⟩ := h
  unfold maxLen at h2
  have hlen : l.length ≤ 9223372036854775807 := by omega
  have H4 := Lib.hid h4
  obtain ⟨hcall, hq⟩ := hp
  have HP := Lib.hid hq
  clear h3 h4 hq
  go_enter Tryz.func71, Tryz.ntmps71
  go_wp2
  go_loopw [8] (fun i wr => ∃ k : Nat, k ≤ l.length ∧ i = .int .i64 k ∧ Hid (∀ x ∈ l.take k, Pd x = false) ∧ Below w.heap.size w wr) (fun i _ => l.length - (intOf i).toNat)
  case atStart => exact ⟨0, Nat.zero_le _, rfl, Lib.hid (by simp), Below.refl _ _⟩
  case round =>
    obtain ⟨k, hk, rfl, HF, hB⟩ := hrel
    by_cases hlt : k < l.length
    · obtain ⟨bb, o, rfl, hbn, hcell⟩ := H4.out (by omega)
      obtain ⟨x, hx⟩ : ∃ x, l[k]? = some x := ⟨_, List.getElem?_eq_getElem hlt⟩
      have q0 : wr.cell? ⟨bb, o + k * 7, none⟩ = some (.int .i64 x.fr) := (hB.cell (p := ⟨bb, o + k * 7 + 0, none⟩) hbn).trans (hcell k x hx 0 _ rfl)
      have q1 : wr.cell? ⟨bb, o + k * 7 + 1, none⟩ = some (.int .i64 x.tt) := (hB.cell (p := ⟨bb, o + k * 7 + 1, none⟩) hbn).trans (hcell k x hx 1 _ rfl)
      have q2 : wr.cell? ⟨bb, o + k * 7 + 2, none⟩ = some (.int .i64 x.st) := (hB.cell (p := ⟨bb, o + k * 7 + 2, none⟩) hbn).trans (hcell k x hx 2 _ rfl)
      have q3 : wr.cell? ⟨bb, o + k * 7 + 3, none⟩ = some (.int .i64 x.en) := (hB.cell (p := ⟨bb, o + k * 7 + 3, none⟩) hbn).trans (hcell k x hx 3 _ rfl)
      have q4 : wr.cell? ⟨bb, o + k * 7 + 4, none⟩ = some (.int .i64 x.ra) := (hB.cell (p := ⟨bb, o + k * 7 + 4, none⟩) hbn).trans (hcell k x hx 4 _ rfl)
      have q5 : wr.cell? ⟨bb, o + k * 7 + 5, none⟩ = some (.int .i64 x.rg) := (hB.cell (p := ⟨bb, o + k * 7 + 5, none⟩) hbn).trans (hcell k x hx 5 _ rfl)
      have q6 : wr.cell? ⟨bb, o + k * 7 + 6, none⟩ = some (.int .i64 x.lo) := (hB.cell (p := ⟨bb, o + k * 7 + 6, none⟩) hbn).trans (hcell k x hx 6 _ rfl)
      have k0 : (0 : Int) ≤ (k : Int) := by omega
      have k1 : (k : Int) < (l.length : Int) := by omega
      obtain ⟨q, hq⟩ : ∃ q, Pd x = q := ⟨_, rfl⟩
      have HQ := Lib.hid hq
      have HX := Lib.hid hx
      have hsz := hB.size
      clear hq hx hcell
      go_wp2_with fail
      refine (HP.out x _ (List.mem_of_getElem? HX.out) hB).mono ?_
      rw [HQ.out]
      rintro e w1 ⟨rfl, hb1⟩
      have hb2 : Below w.heap.size w w1 := belowA
      cases q with
      | false =>
        go_wp2
        go_roundw
        case rel =>
          refine ⟨k + 1, by omega, by go_num, Lib.hid ?_, hb2⟩
          intro y hy
          rw [List.take_add_one, HX.out] at hy
          rcases List.mem_append.1 hy with hy | hy
          · exact HF.out y hy
          · simp at hy; subst hy; exact HQ.out
        case measure => simp [intOf]; omega
      | true =>
        go_wp2
        go_ret
        exact ⟨hb2, .inr ⟨k, rfl, hlt, HF.out, fun y hy => by rw [HX.out] at hy; injection hy with hy; subst hy; exact HQ.out⟩⟩
    · obtain rfl : k = l.length := by omega
      go_wp2
      go_ret
      exact ⟨hB, .inl ⟨rfl, by have := HF.out; rwa [List.take_length] at this⟩⟩
set_option maxHeartbeats 1000000 in
theorem contains_PredC (l : List Con) (u : Value) (f : FuncId) (caps : Array Value) (Pd : Con → Bool) (w : World) (h : RRow conC 7 w w.heap.size u l) (hp : PredC f caps Pd w l) :
    Calls Tryz.prog 34 #[u, .func (.func f) #[] caps] w fun e w' => e = .returned (.bool (l.any Pd)) ∧ Below w.heap.size w w' := by
  have HR := Lib.hid h
  have HP := Lib.hid hp
  clear h hp
  go_enter Tryz.func34, Tryz.ntmps34
  go_wp2_with fail
  refine (index_PredC l u f caps Pd _ HR.out HP.out).mono ?_
  rintro e w1 ⟨hb1, ⟨rfl, hF⟩ | ⟨k, rfl, hk, hF, hT⟩⟩
  · have HL : Hid (l.any Pd = false) := Lib.hid (by rw [List.any_eq_false]; intro x hx; rw [hF x hx]; simp)
    clear hF
    go_wp2
    go_ret
    exact ⟨by rw [HL.out]; rfl, hb1⟩
  · have HL : Hid (l.any Pd = true) := Lib.hid (by rw [List.any_eq_true]; exact ⟨l[k], List.getElem_mem hk, hT _ (List.getElem?_eq_getElem hk)⟩)
    clear hF hT
    go_wp2
    go_ret
    exact ⟨by rw [HL.out]; first | rfl | (simp; done), hb1⟩
set_option maxRecDepth 100000 in
set_option maxHeartbeats 4000000 in
theorem planc_any (a b : Con) (z : Nat) (w : World) (ha : chkCon a = 0) (hb : chkCon b = 0) (hz : w.heap[z]? = some (.cells #[.int .i64 a.fr, .int .i64 a.tt, .int .i64 a.st, .int .i64 a.en, .int .i64 a.ra, .int .i64 a.rg, .int .i64 a.lo] 38 (0, 0))) : Calls Tryz.prog 35 #[.agg #[.int .i64 b.fr, .int .i64 b.tt, .int .i64 b.st, .int .i64 b.en, .int .i64 b.ra, .int .i64 b.rg, .int .i64 b.lo], .pointer (some ⟨z, 0, none⟩)] w fun e w' => e = .returned (.bool (ovl a b)) ∧ Below w.heap.size w w' := by
  have cz := fun o => cellB hz o
  have hzl : z < w.heap.size := (Array.getElem?_eq_some_iff.1 hz).1
  obtain ⟨r, hr⟩ : ∃ r, ovl a b = r := ⟨_, rfl⟩
  have HR := Lib.hid hr
  have HA := Lib.hid ha
  have HB := Lib.hid hb
  rw [hr]
  clear hr hz ha hb
  go_enter Tryz.func35, Tryz.ntmps35
  go_wp2_with fail
  refine (ovl_any a b _ HA.out HB.out).mono ?_
  rw [HR.out]
  rintro e w1 ⟨rfl, hb1⟩
  go_wp2
  go_ret
  exact ⟨rfl, belowA⟩
end Go.Proofs.YtkokiahmgmeokaaGreat
