/- Joined by port.py: XSd -/
import Derived.BigQuiet
import Derived.BigRegion
import Derived.Deep.DeepCutAuto
import Derived.Deep.CutBlock
import Derived.Laws.AppendOwn
import Derived.Test.YtlgjnelicnaopaaGreatSc
import Derived.Test.YtlgjnelicnaopaaGreatJk
set_option linter.unusedVariables false
set_option linter.unusedSimpArgs false
/-! XSd -/
namespace Go.Proofs.YtlgjnelicnaopaaGreat
open Go Go.RowKit Iv
attribute [local go_sem] Oper.semAt_some
attribute [local go_sem] B_getElem B_size B_app B_extract B_get B_toList
def mrg : List Sp → Sp → List Sp
  | [], x => [x]
  | y :: r, x => if y.1 ≤ x.2 then mrg r (if y.1 < x.1 then y.1 else x.1, if x.2 < y.2 then y.2 else x.2) else x :: y :: r
def ins2 : List Sp → Sp → List Sp
  | [], x => [x]
  | y :: r, x => if y.2 < x.1 then y :: ins2 r x else mrg (y :: r) x
theorem mnI (a b : Int) : (if b < a then b else a) = min a b := by rw [Int.min_def]; split <;> split <;> omega
theorem mxI (a b : Int) : (if a < b then b else a) = max a b := by rw [Int.max_def]; split <;> split <;> omega
theorem mrg_ins : ∀ {l : List Sp} {x : Sp} {b : Int}, NF b l → (∀ y ∈ l, x.1 ≤ y.2) → mrg l x = ins l x
  | [], x, b, _, _ => rfl
  | y :: r, x, b, h, hx => by
    have h0 := hx y (by simp)
    unfold mrg ins
    rw [if_neg (show ¬ y.2 < x.1 by omega)]
    by_cases z : y.1 ≤ x.2
    · rw [if_pos z, if_pos z, mnI, mxI]
      refine mrg_ins h.2.2 (fun u hu => ?_)
      have := (h.2.2.lo u hu)
      show min x.1 y.1 ≤ u.2
      omega
    · rw [if_neg z, if_neg z]
theorem ins2_ins : ∀ {l : List Sp} {x : Sp} {b : Int}, NF b l → ins2 l x = ins l x
  | [], x, b, _ => rfl
  | y :: r, x, b, h => by
    by_cases z : y.2 < x.1
    · unfold ins2 ins
      rw [if_pos z, if_pos z, ins2_ins h.2.2]
    · unfold ins2
      rw [if_neg z]
      refine mrg_ins h (fun u hu => ?_)
      rcases List.mem_cons.1 hu with rfl | hu
      · omega
      · have := h.2.2.lo u hu; omega
theorem ins2_skip {x : Sp} : ∀ {l : List Sp} {k : Nat}, (∀ y ∈ l.take k, y.2 < x.1) → k ≤ l.length → ins2 l x = l.take k ++ ins2 (l.drop k) x
  | l, 0, _, _ => by simp
  | [], k + 1, _, h => by simp at h
  | y :: r, k + 1, h, hk => by
    have h0 := h y (by simp)
    have ih := ins2_skip (x := x) (l := r) (k := k) (fun z hz => h z (by simp [hz])) (by simpa using hk)
    rw [show ins2 (y :: r) x = y :: ins2 r x from if_pos h0, ih]
    simp
theorem ins2_at {x y : Sp} {l : List Sp} {k : Nat} (hy : l[k]? = some y) (h : ¬ y.2 < x.1) : ins2 (l.drop k) x = mrg (l.drop k) x := by
  have h1 : k < l.length := by
    rcases Nat.lt_or_ge k l.length with z | z
    · exact z
    · rw [List.getElem?_eq_none z] at hy; cases hy
  rw [List.drop_eq_getElem_cons h1]
  rw [List.getElem?_eq_getElem h1] at hy
  rw [Option.some.inj hy]
  exact if_neg h
theorem mrg_at {x y : Sp} {l : List Sp} {k : Nat} (hy : l[k]? = some y) : mrg (l.drop k) x = if y.1 ≤ x.2 then mrg (l.drop (k + 1)) (if y.1 < x.1 then y.1 else x.1, if x.2 < y.2 then y.2 else x.2) else x :: l.drop k := by
  have h1 : k < l.length := by
    rcases Nat.lt_or_ge k l.length with z | z
    · exact z
    · rw [List.getElem?_eq_none z] at hy; cases hy
  rw [List.drop_eq_getElem_cons h1]
  rw [List.getElem?_eq_getElem h1] at hy
  rw [Option.some.inj hy]
  rfl
theorem sps_append (a b : List Sp) : sps (a ++ b) = sps a ++ sps b := by unfold sps; rw [List.flatMap_append]
theorem sps_drop (l : List Sp) (k j : Nat) : (sps (l.drop k))[j]? = (sps l)[k * 2 + j]? := by
  have h : ∀ (l : List Sp) (k : Nat), sps (l.drop k) = (sps l).drop (k * 2) := by
    intro l
    induction l with
    | nil => intro k; simp [sps]
    | cons x r ih =>
      intro k
      cases k with
      | zero => simp
      | succ k =>
        rw [List.drop_succ_cons, ih k]
        show _ = (spC x ++ sps r).drop ((k + 1) * 2)
        rw [show (k + 1) * 2 = 2 + k * 2 by omega, ← List.drop_drop]
        rfl
  rw [h, List.getElem?_drop]
end Go.Proofs.YtlgjnelicnaopaaGreat
