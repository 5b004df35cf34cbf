/- TopMirrorTight: Great, CheckRequest, Foremost (printed by gen/g22.py) -/
import Derived.BigQuiet
import Derived.BigRegion
import Derived.Test.YtbpmccfbfpgijaaGreatYc
import Derived.Test.YtbpmccfbfpgijaaGreatNp
import Derived.Test.YtbpmccfbfpgijaaGreatNt
set_option linter.unusedVariables false
set_option linter.unusedSimpArgs false
namespace Go.Proofs.YtbpmccfbfpgijaaGreat
open Go Go.RowKit Iv
attribute [local go_sem] Oper.semAt_some
attribute [local go_sem] B_getElem B_size B_app B_extract B_get B_toList
def BoolRet (w : World) (e : Ending) (w' : World) : Prop := (∃ r : Bool, e = .returned (.bool r)) ∧ Below w.heap.size w w'
set_option maxHeartbeats 1000000 in
theorem great22_any (uq uc : Value) (w : World) (hq : ∃ a k c, uq = .slice a k c) (hc : ∃ a k c, uc = .slice a k c) :
    Calls Tryz.prog 4 #[.agg #[uq, uc]] w (BoolRet w) := by
  obtain ⟨aq, kq, cq, rfl⟩ := hq
  obtain ⟨ac, kc, cc, rfl⟩ := hc
  go_enter Tryz.func4, Tryz.ntmps4
  go_wp2
  all_goals
    go_ret
    exact ⟨⟨_, rfl⟩, belowA⟩
/-- what a valid request is -/
def ReqOK (n : Nat) (src dst sz rd D pr : Int) : Prop := (0 ≤ src ∧ src < n ∧ 0 ≤ dst ∧ dst < n) ∧ src ≠ dst ∧ (1 ≤ sz ∧ sz ≤ 65536 ∧ 0 ≤ rd ∧ rd ≤ D ∧ D ≤ 1099511627776) ∧ 0 ≤ pr ∧ pr ≤ 2
def CrPost (qs : List Int) (cs : List Con) (src dst sz rd D pr : Int) (w : World) (e : Ending) (w' : World) : Prop := (∃ r : Int, e = .returned (.int .i64 r) ∧ (r = 0 → PlanOK qs cs ∧ ReqOK qs.length src dst sz rd D pr)) ∧ Below w.heap.size w w'
set_option maxHeartbeats 4000000 in
theorem creq_any (qs : List Int) (cs : List Con) (uq uc : Value) (src dst sz rd D pr : Int) (cu : Bool) (w : World) (hq : RRow intC 1 w w.heap.size uq qs) (hc : RRow conC 7 w w.heap.size uc cs) :
    Calls Tryz.prog 5 #[.agg #[uq, uc], .agg #[.int .i64 src, .int .i64 dst, .int .i64 sz, .int .i64 rd, .int .i64 D, .int .i64 pr, .bool cu]] w (CrPost qs cs src dst sz rd D pr w) := by
  have HQ := Lib.hid hq
  have HC := Lib.hid hc
  obtain ⟨aq, cq, rfl, -⟩ := hq
  obtain ⟨ac, cc, rfl, -⟩ := hc
  go_enter Tryz.func5, Tryz.ntmps5
  go_wp2_with fail
  refine (planchk_any qs cs _ _ _ (HQ.out.below' (by exact belowA)) (HC.out.below' (by exact belowA))).mono ?_
  unfold PlanPost
  rintro e w1 ⟨⟨r, rfl, hr1, -⟩, hb1⟩
  have hB1 : Below w.heap.size w w1 := btrans0 (by exact belowA) hb1
  have GQ_ : w1.heap[w.heap.size + 1]? = some (.cells #[.int .i64 src, .int .i64 dst, .int .i64 sz, .int .i64 rd, .int .i64 D, .int .i64 pr, .bool cu] 27 (0, 0)) := (hb1.block _ (by simp)).trans (by repeat (first | exact heap_new' (by first | rfl | (simp; done)) | refine (Below.heap_alloc _ _ _ (by first | (simp; done) | (simp; omega))).trans ?_))
  have cq_ := fun o => cellB GQ_ o
  have HR1 := Lib.hid hr1
  clear hb1 hr1 GQ_
  by_cases zr : r = 0
  case neg =>
    have d0 : (r != 0) = true := by simpa using zr
    clear zr
    go_wp2
    go_ret
    exact ⟨⟨1, rfl, fun h => (by cases h)⟩, hB1⟩
  subst zr
  have HP := Lib.hid (HR1.out rfl)
  by_cases z1 : 0 ≤ src ∧ src < qs.length ∧ 0 ≤ dst ∧ dst < qs.length
  case neg =>
    have HZ := Lib.hid z1
    clear z1
    go_wp2
    all_goals (first | (go_ret; exact ⟨⟨2, rfl, fun h => (by cases h)⟩, hB1⟩) | (exfalso; have := HZ.out; simp at *; omega) | (exfalso; have := HZ.out; omega))
  obtain ⟨a1, a2, a3, a4⟩ := z1
  have b1 : decide (src < 0) = false := decide_eq_false (by omega)
  have b2 : decide (src ≥ (qs.length : Int)) = false := decide_eq_false (by omega)
  have b3 : decide (dst < 0) = false := decide_eq_false (by omega)
  have b4 : decide (dst ≥ (qs.length : Int)) = false := decide_eq_false (by omega)
  by_cases z2 : src = dst
  case pos =>
    have d2 : (src == dst) = true := by simpa using z2
    clear z2
    go_wp2
    go_ret
    exact ⟨⟨10, rfl, fun h => (by cases h)⟩, hB1⟩
  have d2 : (src == dst) = false := by simpa using z2
  have HZ2 := Lib.hid z2
  clear z2
  by_cases z3 : 1 ≤ sz ∧ sz ≤ 65536 ∧ 0 ≤ rd ∧ rd ≤ D ∧ D ≤ 1099511627776
  case neg =>
    have HZ := Lib.hid z3
    clear z3
    go_wp2
    all_goals (first | (go_ret; exact ⟨⟨2, rfl, fun h => (by cases h)⟩, hB1⟩) | (exfalso; have := HZ.out; simp at *; omega) | (exfalso; have := HZ.out; omega))
  have HZ3 := Lib.hid z3
  obtain ⟨c1, c2, c3, c4, c5⟩ := z3
  have e1 : decide (sz < 1) = false := decide_eq_false (by omega)
  have e2 : decide (sz > 65536) = false := decide_eq_false (by omega)
  have e3 : decide (rd < 0) = false := decide_eq_false (by omega)
  have e4 : decide (rd > D) = false := decide_eq_false (by omega)
  have e5 : decide (D > 1099511627776) = false := decide_eq_false (by omega)
  by_cases z4 : 0 ≤ pr ∧ pr ≤ 2
  case neg =>
    have HZ := Lib.hid z4
    clear z4
    go_wp2
    all_goals (first | (go_ret; exact ⟨⟨8, rfl, fun h => (by cases h)⟩, hB1⟩) | (exfalso; have := HZ.out; simp at *; omega) | (exfalso; have := HZ.out; omega))
  obtain ⟨g1, g2⟩ := z4
  have f1 : decide (pr < 0) = false := decide_eq_false (by omega)
  have f2 : decide (pr > 2) = false := decide_eq_false (by omega)
  go_wp2
  go_ret
  exact ⟨⟨0, rfl, fun _ => ⟨HP.out, ⟨a1, a2, a3, a4⟩, HZ2.out, HZ3.out, g1, g2⟩⟩, hB1⟩
theorem fore_ok (qs : List Int) (cs : List Con) (uq uc : Value) (src s : Nat) (rd : Int) (w : World) (hq : RRow intC 1 w w.heap.size uq qs) (hc : RRow conC 7 w w.heap.size uc cs) (hp : PlanOK qs cs) (hsrc : src < qs.length) (r0 : 0 ≤ rd) (r1 : rd ≤ 1099511627776) (s1 : 1 ≤ s) (hs : s ≤ 65536) :
    Calls Tryz.prog 7 #[.agg #[uq, uc], .int .i64 (src : Int), .int .i64 rd, .int .i64 (s : Int)] w fun e w' => ∃ u, e = .returned (.tuple #[u, .int .i64 0]) ∧ ArrPost cs qs.length src s rd w (.returned u) w' := by
  have HQ := Lib.hid hq
  have HC := Lib.hid hc
  have HP := Lib.hid hp
  have hl := hp.1
  obtain ⟨aq, cq, rfl, -⟩ := hq
  obtain ⟨ac, cc, rfl, -⟩ := hc
  have d1 : decide ((src : Int) < 0) = false := decide_eq_false (by omega)
  have d2 : decide ((src : Int) ≥ (qs.length : Int)) = false := decide_eq_false (by omega)
  have d3 : decide (rd < 0) = false := decide_eq_false (by omega)
  have d4 : decide (rd > 1099511627776) = false := decide_eq_false (by omega)
  have d5 : decide ((s : Int) < 1) = false := decide_eq_false (by omega)
  have d6 : decide ((s : Int) > 65536) = false := decide_eq_false (by omega)
  clear hp
  go_enter Tryz.func7, Tryz.ntmps7
  go_wp2_with fail
  refine (planchk_any qs cs _ _ _ (HQ.out.below' belowA) (HC.out.below' belowA)).mono ?_
  unfold PlanPost
  rintro e w1 ⟨⟨r, rfl, -, hr2⟩, hb1⟩
  obtain rfl := hr2 HP.out
  have hB1 : Below w.heap.size w w1 := btrans0 (balloc0 (Below.refl _ _)) hb1
  have GP : w1.heap[w.heap.size]? = some (.cells #[.slice aq qs.length cq, .slice ac cs.length cc] 25 (0, 0)) := (hb1.block _ (by simp)).trans heap_new
  have cp := fun o => cellB GP o
  have HRC := Lib.hid (HC.out.below' hB1)
  have HB1 := Lib.hid hB1
  clear hr2 hb1 hB1 GP
  go_wp2_with fail
  refine (arrivals_any aq qs.length cq _ cs src s rd _ HRC.out hl.2.2 hl.2.1 hsrc r0 r1 s1 hs (plan_cons HP.out)).mono ?_
  unfold ArrPost
  rintro e w2 ⟨gt, F, rfl, h1, h2, h3, h4⟩
  have HH := Lib.hid (And.intro h2 h4)
  have HB := Lib.hid (btrans0 HB1.out h3)
  have zz : w.heap.size ≤ gt := Nat.le_trans HB1.out.size h1
  clear h1 h2 h3 h4
  go_wp2
  go_ret2
  exact ⟨_, rfl, gt, F, rfl, zz, HH.out.1, HB.out, HH.out.2⟩
end Go.Proofs.YtbpmccfbfpgijaaGreat
