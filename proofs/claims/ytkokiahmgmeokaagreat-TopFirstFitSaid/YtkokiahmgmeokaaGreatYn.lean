/- Holds: valid. -/
import Derived.BigQuiet
import Derived.BigRegion
import Derived.Deep.DeepCutAuto
import Derived.Deep.CutBlock
import Derived.Test.YtkokiahmgmeokaaGreatYa
set_option linter.unusedVariables false
set_option linter.unusedSimpArgs false
namespace Go.Proofs.YtkokiahmgmeokaaGreat
open Go Go.RowKit Iv
attribute [local go_sem] Oper.semAt_some
attribute [local go_sem] B_getElem B_size B_app B_extract B_get B_toList

def hVal (h : Hld) : Prop := 0 ≤ h.fr ∧ h.fr < h.tt ∧ h.tt ≤ 1099511627776
def HvPost (h : Hld) (w : World) (e : Ending) (w' : World) : Prop := (∃ r : Bool, e = .returned (.bool r) ∧ (r = true → hVal h)) ∧ Below w.heap.size w w'
set_option maxRecDepth 100000 in
set_option maxHeartbeats 4000000 in
theorem hval_any (qs : List Int) (uq uc : Value) (h : Hld) (w : World) (hq : RRow intC 1 w w.heap.size uq qs) (hc : ∃ a k c, uc = .slice a k c) :
    Calls Tryz.prog 39 #[.agg #[uq, uc], .agg #[.int .i64 h.nd, .int .i64 h.fr, .int .i64 h.tt, .int .i64 h.sz, .int .i64 h.tk]] w (HvPost h w) := by
  obtain ⟨nd, fr, tt, sz, tk⟩ := h
  obtain ⟨aq, cq, rfl, -, -⟩ := hq
  obtain ⟨ac, kc, cc, rfl⟩ := hc
  simp only
  by_cases z0 : nd ≥ 0
  case neg =>
    have d0 : decide (nd ≥ 0) = false := decide_eq_false z0
    clear z0
    go_enter Tryz.func39, Tryz.ntmps39
    go_wp2
    go_ret
    exact ⟨⟨false, rfl, fun h => by cases h⟩, belowA⟩
  have d0 : decide (nd ≥ 0) = true := decide_eq_true z0
  by_cases z1 : nd < (qs.length : Int)
  case neg =>
    have d1 : decide (nd < (qs.length : Int)) = false := decide_eq_false z1
    clear z0 z1
    go_enter Tryz.func39, Tryz.ntmps39
    go_wp2
    go_ret
    exact ⟨⟨false, rfl, fun h => by cases h⟩, belowA⟩
  have d1 : decide (nd < (qs.length : Int)) = true := decide_eq_true z1
  by_cases z2 : fr ≥ 0
  case neg =>
    have d2 : decide (fr ≥ 0) = false := decide_eq_false z2
    clear z0 z1 z2
    go_enter Tryz.func39, Tryz.ntmps39
    go_wp2
    go_ret
    exact ⟨⟨false, rfl, fun h => by cases h⟩, belowA⟩
  have d2 : decide (fr ≥ 0) = true := decide_eq_true z2
  by_cases z3 : fr < tt
  case neg =>
    have d3 : decide (fr < tt) = false := decide_eq_false z3
    clear z0 z1 z2 z3
    go_enter Tryz.func39, Tryz.ntmps39
    go_wp2
    go_ret
    exact ⟨⟨false, rfl, fun h => by cases h⟩, belowA⟩
  have d3 : decide (fr < tt) = true := decide_eq_true z3
  by_cases z4 : tt ≤ 1099511627776
  case neg =>
    have d4 : decide (tt ≤ 1099511627776) = false := decide_eq_false z4
    clear z0 z1 z2 z3 z4
    go_enter Tryz.func39, Tryz.ntmps39
    go_wp2
    go_ret
    exact ⟨⟨false, rfl, fun h => by cases h⟩, belowA⟩
  have d4 : decide (tt ≤ 1099511627776) = true := decide_eq_true z4
  by_cases z5 : sz ≥ 1
  case neg =>
    have d5 : decide (sz ≥ 1) = false := decide_eq_false z5
    clear z0 z1 z2 z3 z4 z5
    go_enter Tryz.func39, Tryz.ntmps39
    go_wp2
    go_ret
    exact ⟨⟨false, rfl, fun h => by cases h⟩, belowA⟩
  have d5 : decide (sz ≥ 1) = true := decide_eq_true z5
  by_cases z6 : sz ≤ 65536
  case neg =>
    have d6 : decide (sz ≤ 65536) = false := decide_eq_false z6
    clear z0 z1 z2 z3 z4 z5 z6
    go_enter Tryz.func39, Tryz.ntmps39
    go_wp2
    go_ret
    exact ⟨⟨false, rfl, fun h => by cases h⟩, belowA⟩
  have d6 : decide (sz ≤ 65536) = true := decide_eq_true z6
  by_cases z7 : tk ≥ 0
  case neg =>
    have d7 : decide (tk ≥ 0) = false := decide_eq_false z7
    clear z0 z1 z2 z3 z4 z5 z6 z7
    go_enter Tryz.func39, Tryz.ntmps39
    go_wp2
    go_ret
    exact ⟨⟨false, rfl, fun h => by cases h⟩, belowA⟩
  have d7 : decide (tk ≥ 0) = true := decide_eq_true z7
  by_cases z8 : tk ≤ 1152921504606846976
  case neg =>
    have d8 : decide (tk ≤ 1152921504606846976) = false := decide_eq_false z8
    clear z0 z1 z2 z3 z4 z5 z6 z7 z8
    go_enter Tryz.func39, Tryz.ntmps39
    go_wp2
    go_ret
    exact ⟨⟨false, rfl, fun h => by cases h⟩, belowA⟩
  have d8 : decide (tk ≤ 1152921504606846976) = true := decide_eq_true z8
  have HN : Hid (hVal ⟨nd, fr, tt, sz, tk⟩) := Lib.hid ⟨z2, z3, z4⟩
  clear z0 z1 z2 z3 z4 z5 z6 z7 z8
  go_enter Tryz.func39, Tryz.ntmps39
  go_wp2
  go_ret
  exact ⟨⟨true, rfl, fun _ => HN.out⟩, belowA⟩
end Go.Proofs.YtkokiahmgmeokaaGreat
