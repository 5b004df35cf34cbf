/- TopMirrorTight: contact: check, Duration; latest.begin (printed by gen/g22.py) -/
import Derived.BigQuiet
import Derived.BigRegion
import Derived.Deep.DeepCutAuto
import Derived.Lib.MinMax
import Derived.Test.YtbpmccfbfpgijaaGreatNd
set_option linter.unusedVariables false
set_option linter.unusedSimpArgs false
namespace Go.Proofs.YtbpmccfbfpgijaaGreat
open Go Go.RowKit Iv
attribute [local go_sem] Oper.semAt_some
attribute [local go_sem] B_getElem B_size B_app B_extract B_get B_toList
theorem check_ok (c : Con) (s : Nat) (w : World) (hc : chkCon c = 0) (s1 : 1 ≤ s) (hs : s ≤ 65536) :
    Calls Tryz.prog 40 #[.agg #[.int .i64 c.fr, .int .i64 c.tt, .int .i64 c.st, .int .i64 c.en, .int .i64 c.ra, .int .i64 c.rg, .int .i64 c.lo], .int .i64 (s : Int)] w fun e w' => e = .returned (.int .i64 0) ∧ Below w.heap.size w w' := by
  have HC := Lib.hid hc
  have HW : Hid (wth (s : Int) 1 65536 = true) := Lib.hid (wth_iff.2 ⟨by omega, by omega⟩)
  clear hc
  go_enter Tryz.func40, Tryz.ntmps40
  go_upto_region 1 with fail
  obtain ⟨w1, hw1⟩ : ∃ q, w.alloc (.cells #[.int .i64 c.fr, .int .i64 c.tt, .int .i64 c.st, .int .i64 c.en, .int .i64 c.ra, .int .i64 c.rg, .int .i64 c.lo] 58) = q := ⟨_, rfl⟩
  rw [hw1]
  have B1 : Below w.heap.size w w1 := by rw [← hw1]; exact belowA
  have X1 : w1.heap[w.heap.size]? = some (.cells #[.int .i64 c.fr, .int .i64 c.tt, .int .i64 c.st, .int .i64 c.en, .int .i64 c.ra, .int .i64 c.rg, .int .i64 c.lo] 58 (0, 0)) := by rw [← hw1]; exact heap_new
  have z1 : w.heap.size < w1.heap.size := (Array.getElem?_eq_some_iff.1 X1).1
  have cb := fun o => cellB X1 o
  have HX1 := Lib.hid X1
  clear X1 hw1
  go_wp2_with fail
  refine (conk_any c _).mono ?_
  rw [HC.out]
  rintro e w2 ⟨rfl, hb2⟩
  have B2 : Below w.heap.size w w2 := btrans0 B1 hb2
  have HX2 : Hid (w2.heap[w.heap.size]? = some (.cells #[.int .i64 c.fr, .int .i64 c.tt, .int .i64 c.st, .int .i64 c.en, .int .i64 c.ra, .int .i64 c.rg, .int .i64 c.lo] 58 (0, 0))) := Lib.hid ((hb2.block _ z1).trans HX1.out)
  have z2 : w.heap.size < w2.heap.size := by have := hb2.size; omega
  clear hb2 cb
  have cb := fun o => cellB HX2.out o
  go_wp2_with fail
  refine (wth_any (s : Int) 1 65536 _).mono ?_
  rw [HW.out]
  rintro e w3 ⟨rfl, rfl⟩
  go_wp2
  go_ret
  exact ⟨rfl, B2⟩
theorem Dur_ok (c : Con) (s : Nat) (w : World) (hc : chkCon c = 0) (s1 : 1 ≤ s) (hs : s ≤ 65536) :
    Calls Tryz.prog 18 #[.agg #[.int .i64 c.fr, .int .i64 c.tt, .int .i64 c.st, .int .i64 c.en, .int .i64 c.ra, .int .i64 c.rg, .int .i64 c.lo], .int .i64 (s : Int)] w fun e w' => e = .returned (.tuple #[.int .i64 (durS c s), .int .i64 0]) ∧ Below w.heap.size w w' := by
  obtain ⟨D, hD⟩ : ∃ D, durS c s = D := ⟨_, rfl⟩
  have HD := Lib.hid hD
  have HC := Lib.hid hc
  rw [hD]
  clear hc hD
  go_enter Tryz.func18, Tryz.ntmps18
  go_upto_region 1 with fail
  obtain ⟨w1, hw1⟩ : ∃ q, w.alloc (.cells #[.int .i64 c.fr, .int .i64 c.tt, .int .i64 c.st, .int .i64 c.en, .int .i64 c.ra, .int .i64 c.rg, .int .i64 c.lo] 58) = q := ⟨_, rfl⟩
  rw [hw1]
  have B1 : Below w.heap.size w w1 := by rw [← hw1]; exact belowA
  have X1 : w1.heap[w.heap.size]? = some (.cells #[.int .i64 c.fr, .int .i64 c.tt, .int .i64 c.st, .int .i64 c.en, .int .i64 c.ra, .int .i64 c.rg, .int .i64 c.lo] 58 (0, 0)) := by rw [← hw1]; exact heap_new
  have z1 : w.heap.size < w1.heap.size := (Array.getElem?_eq_some_iff.1 X1).1
  have cb := fun o => cellB X1 o
  have HX1 := Lib.hid X1
  clear X1 hw1
  go_wp2_with fail
  refine (check_ok c s _ HC.out s1 hs).mono ?_
  rintro e w2 ⟨rfl, hb2⟩
  have B2 : Below w.heap.size w w2 := btrans0 B1 hb2
  have HX2 : Hid (w2.heap[w.heap.size]? = some (.cells #[.int .i64 c.fr, .int .i64 c.tt, .int .i64 c.st, .int .i64 c.en, .int .i64 c.ra, .int .i64 c.rg, .int .i64 c.lo] 58 (0, 0))) := Lib.hid ((hb2.block _ z1).trans HX1.out)
  have z2 : w.heap.size < w2.heap.size := by have := hb2.size; omega
  clear hb2 cb
  have cb := fun o => cellB HX2.out o
  go_wp2_with fail
  refine (dur_any c s _ (con_facts HC.out) hs).mono ?_
  rw [HD.out]
  rintro e w3 ⟨rfl, hb3⟩
  have B3 : Below w.heap.size w w3 := btrans0 B2 hb3
  go_wp2
  go_ret2
  exact ⟨rfl, B3⟩
/-- when a transmission must begin to arrive by a time -/
def bgnS (c : Con) (s : Nat) (b : Int) : Int := if b = -1 then -1 else if min c.en (b - c.rg) - durS c s < c.st then -1 else min c.en (b - c.rg) - durS c s
theorem begin_any (c : Con) (s : Nat) (b : Int) (w : World) (hc : chkCon c = 0) (s1 : 1 ≤ s) (hs : s ≤ 65536) (b0 : -1 ≤ b) (b1 : b ≤ 1099511627776) :
    Calls Tryz.prog 17 #[.agg #[.int .i64 c.fr, .int .i64 c.tt, .int .i64 c.st, .int .i64 c.en, .int .i64 c.ra, .int .i64 c.rg, .int .i64 c.lo], .int .i64 b, .int .i64 (s : Int)] w fun e w' => e = .returned (.int .i64 (bgnS c s b)) ∧ Below w.heap.size w w' := by
  obtain ⟨D, hD⟩ : ∃ D, durS c s = D := ⟨_, rfl⟩
  obtain ⟨R, hR⟩ : ∃ R, bgnS c s b = R := ⟨_, rfl⟩
  have hf := con_facts hc
  have hb := durS_bnd hf (by omega : 0 < s) hs
  have f1 := hf.st0
  have f2 := hf.en0
  have f3 := hf.en1
  have f4 := hf.rg0
  have f5 := hf.rg1
  rw [hD] at hb
  have HD := Lib.hid hD
  have HC := Lib.hid hc
  have HR := Lib.hid hR
  rw [hR]
  obtain ⟨M, hM⟩ : ∃ M, min c.en (b - c.rg) = M := ⟨_, rfl⟩
  have m1 : M ≤ c.en := by omega
  have m2 : -2000000 ≤ M := by omega
  have HM := Lib.hid hM
  clear hc hD hR hf hM
  by_cases z : b = -1
  · have HRR : Hid (R = -1) := Lib.hid (by rw [← HR.out]; exact if_pos z)
    subst z
    go_enter Tryz.func17, Tryz.ntmps17
    go_upto_region 1 with fail
    obtain ⟨w1, hw1⟩ : ∃ q, w.alloc (.cells #[.int .i64 c.fr, .int .i64 c.tt, .int .i64 c.st, .int .i64 c.en, .int .i64 c.ra, .int .i64 c.rg, .int .i64 c.lo] 58) = q := ⟨_, rfl⟩
    rw [hw1]
    have B1 : Below w.heap.size w w1 := by rw [← hw1]; exact belowA
    have X1 : w1.heap[w.heap.size]? = some (.cells #[.int .i64 c.fr, .int .i64 c.tt, .int .i64 c.st, .int .i64 c.en, .int .i64 c.ra, .int .i64 c.rg, .int .i64 c.lo] 58 (0, 0)) := by rw [← hw1]; exact heap_new
    have z1 : w.heap.size < w1.heap.size := (Array.getElem?_eq_some_iff.1 X1).1
    have cb := fun o => cellB X1 o
    have HX1 := Lib.hid X1
    clear X1 hw1
    go_wp2_with fail
    refine (Dur_ok c s _ HC.out s1 hs).mono ?_
    rw [HD.out]
    rintro e w2 ⟨rfl, hb2⟩
    have B2 : Below w.heap.size w w2 := btrans0 B1 hb2
    have HX2 : Hid (w2.heap[w.heap.size]? = some (.cells #[.int .i64 c.fr, .int .i64 c.tt, .int .i64 c.st, .int .i64 c.en, .int .i64 c.ra, .int .i64 c.rg, .int .i64 c.lo] 58 (0, 0))) := Lib.hid ((hb2.block _ z1).trans HX1.out)
    have z2 : w.heap.size < w2.heap.size := by have := hb2.size; omega
    clear hb2 cb
    have cb := fun o => cellB HX2.out o
    go_wp2
    go_ret
    exact ⟨by (rw [HRR.out]) <;> rfl, B2⟩
  · have z1 : (b == -1) = false := by simpa using z
    have hm2 : (fun _ : Unit => min c.en (b - c.rg)) () = M := HM.out
    by_cases y : M - D < c.st
    · have HRR : Hid (R = -1) := Lib.hid (by rw [← HR.out]; unfold bgnS; rw [if_neg z, HM.out, HD.out, if_pos y])
      have y1 : decide (M - D < c.st) = true := decide_eq_true y
      have hMM := HM.out
      go_enter Tryz.func17, Tryz.ntmps17
      go_upto_region 1 with fail
      obtain ⟨w1, hw1⟩ : ∃ q, w.alloc (.cells #[.int .i64 c.fr, .int .i64 c.tt, .int .i64 c.st, .int .i64 c.en, .int .i64 c.ra, .int .i64 c.rg, .int .i64 c.lo] 58) = q := ⟨_, rfl⟩
      rw [hw1]
      have B1 : Below w.heap.size w w1 := by rw [← hw1]; exact belowA
      have X1 : w1.heap[w.heap.size]? = some (.cells #[.int .i64 c.fr, .int .i64 c.tt, .int .i64 c.st, .int .i64 c.en, .int .i64 c.ra, .int .i64 c.rg, .int .i64 c.lo] 58 (0, 0)) := by rw [← hw1]; exact heap_new
      have z1 : w.heap.size < w1.heap.size := (Array.getElem?_eq_some_iff.1 X1).1
      have cb := fun o => cellB X1 o
      have HX1 := Lib.hid X1
      clear X1 hw1
      go_wp2_with fail
      refine (Dur_ok c s _ HC.out s1 hs).mono ?_
      rw [HD.out]
      rintro e w2 ⟨rfl, hb2⟩
      have B2 : Below w.heap.size w w2 := btrans0 B1 hb2
      have HX2 : Hid (w2.heap[w.heap.size]? = some (.cells #[.int .i64 c.fr, .int .i64 c.tt, .int .i64 c.st, .int .i64 c.en, .int .i64 c.ra, .int .i64 c.rg, .int .i64 c.lo] 58 (0, 0))) := Lib.hid ((hb2.block _ z1).trans HX1.out)
      have z2 : w.heap.size < w2.heap.size := by have := hb2.size; omega
      clear hb2 cb
      have cb := fun o => cellB HX2.out o
      go_wp2
      go_ret
      exact ⟨by (rw [HRR.out]) <;> rfl, B2⟩
    · have HRR : Hid (R = M - D) := Lib.hid (by rw [← HR.out]; unfold bgnS; rw [if_neg z, HM.out, HD.out, if_neg y])
      have y1 : decide (M - D < c.st) = false := decide_eq_false y
      have hMM := HM.out
      go_enter Tryz.func17, Tryz.ntmps17
      go_upto_region 1 with fail
      obtain ⟨w1, hw1⟩ : ∃ q, w.alloc (.cells #[.int .i64 c.fr, .int .i64 c.tt, .int .i64 c.st, .int .i64 c.en, .int .i64 c.ra, .int .i64 c.rg, .int .i64 c.lo] 58) = q := ⟨_, rfl⟩
      rw [hw1]
      have B1 : Below w.heap.size w w1 := by rw [← hw1]; exact belowA
      have X1 : w1.heap[w.heap.size]? = some (.cells #[.int .i64 c.fr, .int .i64 c.tt, .int .i64 c.st, .int .i64 c.en, .int .i64 c.ra, .int .i64 c.rg, .int .i64 c.lo] 58 (0, 0)) := by rw [← hw1]; exact heap_new
      have z1 : w.heap.size < w1.heap.size := (Array.getElem?_eq_some_iff.1 X1).1
      have cb := fun o => cellB X1 o
      have HX1 := Lib.hid X1
      clear X1 hw1
      go_wp2_with fail
      refine (Dur_ok c s _ HC.out s1 hs).mono ?_
      rw [HD.out]
      rintro e w2 ⟨rfl, hb2⟩
      have B2 : Below w.heap.size w w2 := btrans0 B1 hb2
      have HX2 : Hid (w2.heap[w.heap.size]? = some (.cells #[.int .i64 c.fr, .int .i64 c.tt, .int .i64 c.st, .int .i64 c.en, .int .i64 c.ra, .int .i64 c.rg, .int .i64 c.lo] 58 (0, 0))) := Lib.hid ((hb2.block _ z1).trans HX1.out)
      have z2 : w.heap.size < w2.heap.size := by have := hb2.size; omega
      clear hb2 cb
      have cb := fun o => cellB HX2.out o
      go_wp2
      go_ret
      exact ⟨by (rw [HRR.out]) <;> rfl, B2⟩
end Go.Proofs.YtbpmccfbfpgijaaGreat
