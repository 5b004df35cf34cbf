/- TopMirrorTight: latest.Latest, request (printed by gen/g22.py) -/
import Derived.BigQuiet
import Derived.BigRegion
import Derived.Test.YtbpmccfbfpgijaaGreatYc
import Derived.Test.YtbpmccfbfpgijaaGreatNo
set_option linter.unusedVariables false
set_option linter.unusedSimpArgs false
namespace Go.Proofs.YtbpmccfbfpgijaaGreat
open Go Go.RowKit Iv
attribute [local go_sem] Oper.semAt_some
attribute [local go_sem] B_getElem B_size B_app B_extract B_get B_toList
theorem plan_cons {qs : List Int} {cs : List Con} (h : PlanOK qs cs) : ∀ c ∈ cs, chkCon c = 0 ∧ c.fr < qs.length ∧ c.tt < qs.length := fun c hc => by
  obtain ⟨i, hi⟩ := List.getElem?_of_mem hc
  have := h.2.2 i c hi
  exact ⟨this.1, this.2.1, this.2.2.1⟩
theorem Latest_ok (qs : List Int) (cs : List Con) (uq uc : Value) (s dst : Nat) (D : Int) (w : World) (hq : RRow intC 1 w w.heap.size uq qs) (hc : RRow conC 7 w w.heap.size uc cs) (hp : PlanOK qs cs) (hdst : dst < qs.length) (hD0 : 0 ≤ D) (hD1 : D ≤ 1099511627776) (s1 : 1 ≤ s) (hs : s ≤ 65536) :
    Calls Tryz.prog 8 #[.agg #[uq, uc], .int .i64 (dst : Int), .int .i64 D, .int .i64 (s : Int)] w fun e w' => ∃ u, e = .returned (.tuple #[u, .int .i64 0]) ∧ TimesPost cs qs.length s dst D w (.returned u) w' := by
  have HQ := Lib.hid hq
  have HC := Lib.hid hc
  have HP := Lib.hid hp
  have hl := hp.1
  obtain ⟨aq, cq, rfl, -⟩ := hq
  obtain ⟨ac, cc, rfl, -⟩ := hc
  have d1 : decide ((dst : Int) < 0) = false := decide_eq_false (by omega)
  have d2 : decide ((dst : Int) ≥ (qs.length : Int)) = false := decide_eq_false (by omega)
  have d3 : decide (D < 0) = false := decide_eq_false (by omega)
  have d4 : decide (D > 1099511627776) = false := decide_eq_false (by omega)
  have d5 : decide ((s : Int) < 1) = false := decide_eq_false (by omega)
  have d6 : decide ((s : Int) > 65536) = false := decide_eq_false (by omega)
  clear hp
  go_enter Tryz.func8, Tryz.ntmps8
  go_wp2_with fail
  refine (planchk_any qs cs _ _ _ (HQ.out.below' belowA) (HC.out.below' belowA)).mono ?_
  unfold PlanPost
  rintro e w1 ⟨⟨r, rfl, -, hr2⟩, hb1⟩
  obtain rfl := hr2 HP.out
  have hB1 : Below w.heap.size w w1 := btrans0 (balloc0 (Below.refl _ _)) hb1
  have GP : w1.heap[w.heap.size]? = some (.cells #[.slice aq qs.length cq, .slice ac cs.length cc] 25 (0, 0)) := (hb1.block _ (by simp)).trans heap_new
  have cp := fun o => cellB GP o
  have HRC := Lib.hid (HC.out.below' hB1)
  have HB1 := Lib.hid hB1
  clear hr2 hb1 hB1 GP
  go_wp2_with fail
  refine (times_any aq qs.length cq _ cs s dst D _ HRC.out hl.2.2 hl.2.1 hdst hD0 hD1 s1 hs (plan_cons HP.out)).mono ?_
  unfold TimesPost
  rintro e w2 ⟨gt, nt, L, rfl, h1, h2, h3, h4, h5⟩
  have HH := Lib.hid (And.intro h2 (And.intro h3 h4))
  have HB := Lib.hid (btrans0 HB1.out h5)
  have zz : w.heap.size ≤ gt := Nat.le_trans HB1.out.size h1
  clear h1 h2 h3 h4 h5
  go_wp2
  go_ret2
  exact ⟨_, rfl, gt, nt, L, rfl, zz, HH.out.1, HH.out.2.1, HH.out.2.2, HB.out⟩
theorem request_ok (aq : Option Addr) (n cq : Nat) (uc : Value) (src dst s : Nat) (rd D pr : Int) (cu : Bool) (w : World) (hsrc : src < n) (hdst : dst < n) (hne : src ≠ dst) (r0 : 0 ≤ rd) (r1 : rd ≤ D) (hD1 : D ≤ 1099511627776) (s1 : 1 ≤ s) (hs : s ≤ 65536) (p0 : 0 ≤ pr) (p1 : pr ≤ 2) (hn : n ≤ 16) :
    Calls Tryz.prog 39 #[.agg #[.slice aq n cq, uc], .agg #[.int .i64 (src : Int), .int .i64 (dst : Int), .int .i64 (s : Int), .int .i64 rd, .int .i64 D, .int .i64 pr, .bool cu]] w fun e w' => e = .returned (.bool true) ∧ Below w.heap.size w w' := by
  have e1 : decide ((src : Int) ≥ 0) = true := decide_eq_true (by omega)
  have e2 : decide ((src : Int) < (n : Int)) = true := decide_eq_true (by omega)
  have e3 : decide ((dst : Int) ≥ 0) = true := decide_eq_true (by omega)
  have e4 : decide ((dst : Int) < (n : Int)) = true := decide_eq_true (by omega)
  have e5 : ((src : Int) != (dst : Int)) = true := by rw [bne_iff_ne]; omega
  have e6 : decide (rd ≥ 0) = true := decide_eq_true r0
  have e7 : decide (rd ≤ D) = true := decide_eq_true r1
  have e8 : decide (D ≤ 1099511627776) = true := decide_eq_true hD1
  have e9 : decide ((s : Int) ≥ 1) = true := decide_eq_true (by omega)
  have e10 : decide ((s : Int) ≤ 65536) = true := decide_eq_true (by omega)
  have e11 : decide (pr ≥ 0) = true := decide_eq_true p0
  have e12 : decide (pr ≤ 2) = true := decide_eq_true p1
  have f1 : (src : Int) < (n : Int) := by omega
  have f2 : (dst : Int) < (n : Int) := by omega
  have f3 : (1 : Int) ≤ (s : Int) := by omega
  have f4 : (s : Int) ≤ 65536 := by omega
  go_enter Tryz.func39, Tryz.ntmps39
  go_wp2
  go_ret
  exact ⟨by simp [*], belowA⟩
end Go.Proofs.YtbpmccfbfpgijaaGreat
