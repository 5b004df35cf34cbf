/- Tables: Great, CheckTables. -/
import Derived.BigQuiet
import Derived.BigRegion
import Derived.Deep.DeepCutAuto
import Derived.Deep.CutBlock
import Derived.Test.YtlgjnelicnaopaaGreatYq
import Derived.Test.YtlgjnelicnaopaaGreatYf
set_option linter.unusedVariables false
set_option linter.unusedSimpArgs false
namespace Go.Proofs.YtlgjnelicnaopaaGreat
open Go Go.RowKit Iv
attribute [local go_sem] Oper.semAt_some
attribute [local go_sem] B_getElem B_size B_app B_extract B_get B_toList

def BoolRet (w : World) (e : Ending) (w' : World) : Prop := (∃ r : Bool, e = .returned (.bool r)) ∧ Below w.heap.size w w'
set_option maxHeartbeats 1000000 in
theorem gplan_any (uq uc : Value) (w : World) (hq : ∃ a k c, uq = .slice a k c) (hc : ∃ a k c, uc = .slice a k c) :
    Calls Tryz.prog 15 #[.agg #[uq, uc]] w (BoolRet w) := by
  obtain ⟨aq, kq, cq, rfl⟩ := hq
  obtain ⟨ac, kc, cc, rfl⟩ := hc
  go_enter Tryz.func15, Tryz.ntmps15
  go_wp2
  all_goals
    go_ret
    exact ⟨⟨_, rfl⟩, belowA⟩
set_option maxHeartbeats 1000000 in
theorem great_any (uq uc ub uh : Value) (w : World) (hq : ∃ a k c, uq = .slice a k c) (hc : ∃ a k c, uc = .slice a k c) (hb : ∃ a k c, ub = .slice a k c) (hh : ∃ a k c, uh = .slice a k c) :
    Calls Tryz.prog 4 #[.agg #[uq, uc, ub, uh]] w (BoolRet w) := by
  obtain ⟨aq, kq, cq, rfl⟩ := hq
  obtain ⟨ac, kc, cc, rfl⟩ := hc
  obtain ⟨ab, kb, cb, rfl⟩ := hb
  obtain ⟨ah, kh, ch, rfl⟩ := hh
  go_enter Tryz.func4, Tryz.ntmps4
  go_wp2_with fail
  refine (gplan_any _ _ _ ⟨_, _, _, rfl⟩ ⟨_, _, _, rfl⟩).mono ?_
  rintro e w1 hr1
  obtain ⟨⟨r, rfl⟩, hb1⟩ := hr1
  have hB1 : Below w.heap.size w w1 := btrans0 (balloc0 (Below.refl _ _)) hb1
  have GP : w1.heap[w.heap.size]? = some (.cells #[.slice aq kq cq, .slice ac kc cc, .slice ab kb cb, .slice ah kh ch] 29 (0, 0)) := (hb1.block _ (by simp)).trans heap_new
  have cp := fun o => cellB GP o
  clear hb1
  cases r
  all_goals
    go_wp2
    all_goals
      go_ret
      exact ⟨⟨_, rfl⟩, hB1⟩
def CtPost (qs : List Int) (cs : List Con) (l : List Bkg) (w : World) (e : Ending) (w' : World) : Prop := (∃ r : Int, e = .returned (.int .i64 r) ∧ (r = 0 → PlanOK qs cs ∧ BkOK cs l)) ∧ Below w.heap.size w w'
set_option maxHeartbeats 2000000 in
theorem ctab_any (qs : List Int) (cs : List Con) (l : List Bkg) (hs : List Hld) (uq uc ub uh : Value) (w : World) (hq : RRow intC 1 w w.heap.size uq qs) (hc : RRow conC 7 w w.heap.size uc cs) (hl : RRow bkgC 4 w w.heap.size ub l) (hh : RRow hldC 5 w w.heap.size uh hs) :
    Calls Tryz.prog 5 #[.agg #[uq, uc, ub, uh]] w (CtPost qs cs l w) := by
  have HQ := Lib.hid hq
  have HC := Lib.hid hc
  have HL := Lib.hid hl
  have HH := Lib.hid hh
  obtain ⟨aq, cq, rfl, -⟩ := hq
  obtain ⟨ac, cc, rfl, -⟩ := hc
  obtain ⟨ab, cb, rfl, -⟩ := hl
  obtain ⟨ah, ch, rfl, -⟩ := hh
  go_enter Tryz.func5, Tryz.ntmps5
  go_wp2_with fail
  refine (planchk_any qs cs _ _ _ (HQ.out.below' belowA) (HC.out.below' belowA)).mono ?_
  rintro e w1 hpp
  obtain ⟨⟨r, rfl, hr1, hr2⟩, hb1⟩ := hpp
  have hB1 : Below w.heap.size w w1 := btrans0 (balloc0 (Below.refl _ _)) hb1
  have GP : w1.heap[w.heap.size]? = some (.cells #[.slice aq qs.length cq, .slice ac cs.length cc, .slice ab l.length cb, .slice ah hs.length ch] 29 (0, 0)) := (hb1.block _ (by simp)).trans heap_new
  have hz1 : w.heap.size < w1.heap.size := (Array.getElem?_eq_some_iff.1 GP).1
  have HGP := Lib.hid GP
  clear hr1 hr2 hb1 GP
  by_cases zr : r = 0
  case neg =>
    have d0 : (r != 0) = true := by simpa using zr
    have HZ := Lib.hid zr
    clear zr
    go_wp2
    go_ret
    exact ⟨⟨r, rfl, fun h => absurd h HZ.out⟩, hB1⟩
  subst zr
  have cp := fun o => cellB HGP.out o
  go_wp2_with fail
  refine (bchk_any qs cs l _ _ _ _ (HQ.out.below' hB1) (HC.out.below' hB1) (HL.out.below' hB1)).mono ?_
  rintro e w2 hpp
  obtain ⟨⟨r, rfl, hr1, hr2⟩, hb2⟩ := hpp
  have hB2 : Below w.heap.size w w2 := btrans0 hB1 hb2
  have HGP2 : Hid (w2.heap[w.heap.size]? = some (.cells #[.slice aq qs.length cq, .slice ac cs.length cc, .slice ab l.length cb, .slice ah hs.length ch] 29 (0, 0))) := Lib.hid ((hb2.block _ hz1).trans HGP.out)
  have hz2 : w.heap.size < w2.heap.size := by have := hb2.size; omega
  clear hr2 hb2 cp
  by_cases zr : r = 0
  case neg =>
    have d0 : (r != 0) = true := by simpa using zr
    have HZ := Lib.hid zr
    clear zr hr1
    go_wp2
    go_ret
    exact ⟨⟨r, rfl, fun h => absurd h HZ.out⟩, hB2⟩
  subst zr
  have HOK := Lib.hid (hr1 rfl)
  clear hr1
  have cp := fun o => cellB HGP2.out o
  go_wp2_with fail
  refine (schk_any qs cs hs _ _ _ _ (HQ.out.below' hB2) (HC.out.below' hB2) (HH.out.below' hB2)).mono ?_
  rintro e w3 hpp
  obtain ⟨⟨r, rfl⟩, hb3⟩ := hpp
  go_wp2
  go_ret
  exact ⟨⟨r, rfl, fun _ => HOK.out⟩, btrans0 hB2 hb3⟩
end Go.Proofs.YtlgjnelicnaopaaGreat
