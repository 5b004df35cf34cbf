/- Bookings: valid. -/
import Derived.BigQuiet
import Derived.BigRegion
import Derived.Deep.DeepCutAuto
import Derived.Deep.CutBlock
import Derived.Test.YtlgjnelicnaopaaGreatYd
set_option linter.unusedVariables false
set_option linter.unusedSimpArgs false
namespace Go.Proofs.YtlgjnelicnaopaaGreat
open Go Go.RowKit Iv
attribute [local go_sem] Oper.semAt_some
attribute [local go_sem] B_getElem B_size B_app B_extract B_get B_toList

def BvPost (cs : List Con) (b : Bkg) (w : World) (e : Ending) (w' : World) : Prop := (∃ r : Bool, e = .returned (.bool r) ∧ (r = true → bVal cs b) ∧ (bVal cs b → r = true)) ∧ Below w.heap.size w w'
set_option maxRecDepth 100000 in
set_option maxHeartbeats 4000000 in
theorem bval_any (qs : List Int) (cs : List Con) (uq uc : Value) (b : Bkg) (w : World) (hq : RRow intC 1 w w.heap.size uq qs) (hc : RRow conC 7 w w.heap.size uc cs) :
    Calls Tryz.prog 39 #[.agg #[uq, uc], .agg #[.int .i64 b.ct, .int .i64 b.bg, .int .i64 b.en, .int .i64 b.tk]] w (BvPost cs b w) := by
  obtain ⟨ct, bg, en, tk⟩ := b
  obtain ⟨aq, cq, rfl, -⟩ := hq
  obtain ⟨ac, cc, rfl, c1, c2, c3, c4⟩ := hc
  unfold maxLen at c2
  have hlc : cs.length ≤ 9223372036854775807 := by omega
  have HD := Lib.hid c4
  clear c3 c4
  simp only
  by_cases z1 : ct < 0
  · have d1 : decide (ct < 0) = true := decide_eq_true z1
    have HN : Hid (¬ bVal cs ⟨ct, bg, en, tk⟩) := Lib.hid (fun h => by have : 0 ≤ ct := h.1.1; omega)
    clear z1
    go_enter Tryz.func39, Tryz.ntmps39
    go_wp2
    go_ret
    exact ⟨⟨false, rfl, (fun h => by cases h), fun h => absurd h HN.out⟩, belowA⟩
  obtain ⟨n, rfl⟩ : ∃ n : Nat, ct = (n : Int) := ⟨ct.toNat, by omega⟩
  have d1 : decide ((n : Int) < 0) = false := decide_eq_false z1
  have n0 : (0 : Int) ≤ (n : Int) := by omega
  by_cases z2 : n < cs.length
  case neg =>
    have d2 : decide ((n : Int) ≥ (cs.length : Int)) = true := decide_eq_true (by omega)
    have d2' : (cs.length : Int) ≤ (n : Int) := by omega
    have HN : Hid (¬ bVal cs ⟨n, bg, en, tk⟩) := Lib.hid (fun h => by have : (n : Int) < cs.length := h.1.2; omega)
    clear z1
    go_enter Tryz.func39, Tryz.ntmps39
    go_wp2
    go_ret
    exact ⟨⟨false, rfl, (fun h => by cases h), fun h => absurd h HN.out⟩, belowA⟩
  have d2 : decide ((n : Int) ≥ (cs.length : Int)) = false := decide_eq_false (by omega)
  have d2' : (n : Int) < (cs.length : Int) := by omega
  clear z1
  by_cases z3 : tk < 0
  · have d3 : decide (tk < 0) = true := decide_eq_true z3
    have HN : Hid (¬ bVal cs ⟨n, bg, en, tk⟩) := Lib.hid (fun h => by have : 0 ≤ tk := h.2.1.1; omega)
    clear z3
    go_enter Tryz.func39, Tryz.ntmps39
    go_wp2
    go_ret
    exact ⟨⟨false, rfl, (fun h => by cases h), fun h => absurd h HN.out⟩, belowA⟩
  have d3 : decide (tk < 0) = false := decide_eq_false z3
  by_cases z4 : tk > 1152921504606846976
  · have d4 : decide (tk > 1152921504606846976) = true := decide_eq_true z4
    have HN : Hid (¬ bVal cs ⟨n, bg, en, tk⟩) := Lib.hid (fun h => by have : tk ≤ 1152921504606846976 := h.2.1.2; omega)
    clear z3 z4
    go_enter Tryz.func39, Tryz.ntmps39
    go_wp2
    go_ret
    exact ⟨⟨false, rfl, (fun h => by cases h), fun h => absurd h HN.out⟩, belowA⟩
  have d4 : decide (tk > 1152921504606846976) = false := decide_eq_false z4
  have HTK : Hid (0 ≤ tk ∧ tk ≤ 1152921504606846976) := Lib.hid ⟨by omega, by omega⟩
  clear z3 z4
  obtain ⟨bb, o, rfl, hbn, hcell⟩ := HD.out (by omega)
  obtain ⟨x, hx⟩ : ∃ x, cs[n]? = some x := ⟨_, List.getElem?_eq_getElem z2⟩
  have q0 : w.cell? ⟨bb, o + n * 7, none⟩ = some (.int .i64 x.fr) := hcell n x hx 0 _ rfl
  have q1 : w.cell? ⟨bb, o + n * 7 + 1, none⟩ = some (.int .i64 x.tt) := hcell n x hx 1 _ rfl
  have q2 : w.cell? ⟨bb, o + n * 7 + 2, none⟩ = some (.int .i64 x.st) := hcell n x hx 2 _ rfl
  have q3 : w.cell? ⟨bb, o + n * 7 + 3, none⟩ = some (.int .i64 x.en) := hcell n x hx 3 _ rfl
  have q4 : w.cell? ⟨bb, o + n * 7 + 4, none⟩ = some (.int .i64 x.ra) := hcell n x hx 4 _ rfl
  have q5 : w.cell? ⟨bb, o + n * 7 + 5, none⟩ = some (.int .i64 x.rg) := hcell n x hx 5 _ rfl
  have q6 : w.cell? ⟨bb, o + n * 7 + 6, none⟩ = some (.int .i64 x.lo) := hcell n x hx 6 _ rfl
  have HX := Lib.hid hx
  clear hx hcell
  by_cases z5 : bg ≥ x.st
  case neg =>
    have d5 : decide (bg ≥ x.st) = false := decide_eq_false z5
    have HN : Hid (¬ bVal cs ⟨n, bg, en, tk⟩) := Lib.hid (fun h => by have : x.st ≤ bg := (h.2.2 x (by simpa using HX.out)).1; omega)
    clear z5
    go_enter Tryz.func39, Tryz.ntmps39
    go_wp2
    go_ret
    exact ⟨⟨false, rfl, (fun h => by cases h), fun h => absurd h HN.out⟩, belowA⟩
  have d5 : decide (bg ≥ x.st) = true := decide_eq_true z5
  by_cases z6 : bg < en
  case neg =>
    have d6 : decide (bg < en) = false := decide_eq_false z6
    have HN : Hid (¬ bVal cs ⟨n, bg, en, tk⟩) := Lib.hid (fun h => by have : bg < en := (h.2.2 x (by simpa using HX.out)).2.1; omega)
    clear z5 z6
    go_enter Tryz.func39, Tryz.ntmps39
    go_wp2
    go_ret
    exact ⟨⟨false, rfl, (fun h => by cases h), fun h => absurd h HN.out⟩, belowA⟩
  have d6 : decide (bg < en) = true := decide_eq_true z6
  by_cases z7 : en ≤ x.en
  case neg =>
    have d7 : decide (en ≤ x.en) = false := decide_eq_false z7
    have HN : Hid (¬ bVal cs ⟨n, bg, en, tk⟩) := Lib.hid (fun h => by have : en ≤ x.en := (h.2.2 x (by simpa using HX.out)).2.2; omega)
    clear z5 z6 z7
    go_enter Tryz.func39, Tryz.ntmps39
    go_wp2
    go_ret
    exact ⟨⟨false, rfl, (fun h => by cases h), fun h => absurd h HN.out⟩, belowA⟩
  have d7 : decide (en ≤ x.en) = true := decide_eq_true z7
  have HN : Hid (bVal cs ⟨n, bg, en, tk⟩) := Lib.hid ⟨⟨n0, d2'⟩, HTK.out, fun c hc => by
    have hc : cs[n]? = some c := by simpa using hc
    rw [HX.out] at hc; cases hc
    exact ⟨z5, z6, z7⟩⟩
  clear z5 z6 z7
  go_enter Tryz.func39, Tryz.ntmps39
  go_wp2
  go_ret
  exact ⟨⟨true, rfl, fun _ => HN.out, fun _ => rfl⟩, belowA⟩
end Go.Proofs.YtlgjnelicnaopaaGreat
