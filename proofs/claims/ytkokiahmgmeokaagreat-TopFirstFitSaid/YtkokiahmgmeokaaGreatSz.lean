/- Joined by port.py: XSc -/
import Derived.BigQuiet
import Derived.BigRegion
import Derived.Deep.DeepCutAuto
import Derived.Deep.CutBlock
import Derived.Test.YtkokiahmgmeokaaGreatSb
import Derived.Laws.AppendOwn
import Derived.Test.YtkokiahmgmeokaaGreatJkz
set_option linter.unusedVariables false
set_option linter.unusedSimpArgs false
/-! XSc -/
namespace Go.Proofs.YtkokiahmgmeokaaGreat
open Go Go.RowKit Iv
attribute [local go_sem] Oper.semAt_some
attribute [local go_sem] B_getElem B_size B_app B_extract B_get B_toList
def inX (x : Sp) (t : Int) : Bool := decide (x.1 ≤ t) && decide (t < x.2)
def totS (l : List Sp) : Int := (l.map fun x => x.2 - x.1).sum
theorem totS_step {l : List Sp} {k : Nat} {x : Sp} (h : l[k]? = some x) : totS (l.take (k + 1)) = totS (l.take k) + (x.2 - x.1) := by
  unfold totS
  rw [List.take_add_one, h]
  simp
theorem totS_le : ∀ {l : List Sp} {b : Int}, NF b l → (∀ x ∈ l, x.2 ≤ 1152921504606846976) → ∀ k, 0 ≤ totS (l.take k) ∧ (0 < l.length → totS (l.take k) ≤ 1152921504606846976 - b)
  | [], b, _, _, k => by simp [totS]
  | x :: r, b, h, hm, 0 => by have := h.1; have := h.2.1; have := hm x (by simp); simp [totS]; omega
  | x :: r, b, h, hm, k + 1 => by
    have ih := totS_le h.2.2 (fun y hy => hm y (by simp [hy])) k
    have := h.1; have := h.2.1; have := hm x (by simp)
    have e : totS ((x :: r).take (k + 1)) = (x.2 - x.1) + totS (r.take k) := by simp [totS]
    rw [e]
    refine ⟨by omega, fun _ => ?_⟩
    cases r with
    | nil => simp [totS]; omega
    | cons y s => have := ih.2 (by simp); omega
def totA (l : List Sp) : Int := if chkSp l ≠ 0 then 0 else totS l
theorem infoSpan : (Tryz.prog.info? 50).map (fun i => (i.zero, i.size, i.bytes)) = some (some (.agg #[.int .i64 0, .int .i64 0]), 2, 16) := by kernel_rfl
end Go.Proofs.YtkokiahmgmeokaaGreat
/- Joined by port.py: XSd -/
set_option linter.unusedVariables false
set_option linter.unusedSimpArgs false
/-! XSd -/
namespace Go.Proofs.YtkokiahmgmeokaaGreat
open Go Go.RowKit Iv
attribute [local go_sem] Oper.semAt_some
attribute [local go_sem] B_getElem B_size B_app B_extract B_get B_toList
def mrg : List Sp → Sp → List Sp
  | [], x => [x]
  | y :: r, x => if y.1 ≤ x.2 then mrg r (if y.1 < x.1 then y.1 else x.1, if x.2 < y.2 then y.2 else x.2) else x :: y :: r
def ins2 : List Sp → Sp → List Sp
  | [], x => [x]
  | y :: r, x => if y.2 < x.1 then y :: ins2 r x else mrg (y :: r) x
theorem mnI (a b : Int) : (if b < a then b else a) = min a b := by rw [Int.min_def]; split <;> split <;> omega
theorem mxI (a b : Int) : (if a < b then b else a) = max a b := by rw [Int.max_def]; split <;> split <;> omega
theorem mrg_ins : ∀ {l : List Sp} {x : Sp} {b : Int}, NF b l → (∀ y ∈ l, x.1 ≤ y.2) → mrg l x = ins l x
  | [], x, b, _, _ => rfl
  | y :: r, x, b, h, hx => by
    have h0 := hx y (by simp)
    unfold mrg ins
    rw [if_neg (show ¬ y.2 < x.1 by omega)]
    by_cases z : y.1 ≤ x.2
    · rw [if_pos z, if_pos z, mnI, mxI]
      refine mrg_ins h.2.2 (fun u hu => ?_)
      have := (h.2.2.lo u hu)
      show min x.1 y.1 ≤ u.2
      omega
    · rw [if_neg z, if_neg z]
theorem ins2_ins : ∀ {l : List Sp} {x : Sp} {b : Int}, NF b l → ins2 l x = ins l x
  | [], x, b, _ => rfl
  | y :: r, x, b, h => by
    by_cases z : y.2 < x.1
    · unfold ins2 ins
      rw [if_pos z, if_pos z, ins2_ins h.2.2]
    · unfold ins2
      rw [if_neg z]
      refine mrg_ins h (fun u hu => ?_)
      rcases List.mem_cons.1 hu with rfl | hu
      · omega
      · have := h.2.2.lo u hu; omega
theorem ins2_skip {x : Sp} : ∀ {l : List Sp} {k : Nat}, (∀ y ∈ l.take k, y.2 < x.1) → k ≤ l.length → ins2 l x = l.take k ++ ins2 (l.drop k) x
  | l, 0, _, _ => by simp
  | [], k + 1, _, h => by simp at h
  | y :: r, k + 1, h, hk => by
    have h0 := h y (by simp)
    have ih := ins2_skip (x := x) (l := r) (k := k) (fun z hz => h z (by simp [hz])) (by simpa using hk)
    rw [show ins2 (y :: r) x = y :: ins2 r x from if_pos h0, ih]
    simp
theorem ins2_at {x y : Sp} {l : List Sp} {k : Nat} (hy : l[k]? = some y) (h : ¬ y.2 < x.1) : ins2 (l.drop k) x = mrg (l.drop k) x := by
  have h1 : k < l.length := by
    rcases Nat.lt_or_ge k l.length with z | z
    · exact z
    · rw [List.getElem?_eq_none z] at hy; cases hy
  rw [List.drop_eq_getElem_cons h1]
  rw [List.getElem?_eq_getElem h1] at hy
  rw [Option.some.inj hy]
  exact if_neg h
theorem mrg_at {x y : Sp} {l : List Sp} {k : Nat} (hy : l[k]? = some y) : mrg (l.drop k) x = if y.1 ≤ x.2 then mrg (l.drop (k + 1)) (if y.1 < x.1 then y.1 else x.1, if x.2 < y.2 then y.2 else x.2) else x :: l.drop k := by
  have h1 : k < l.length := by
    rcases Nat.lt_or_ge k l.length with z | z
    · exact z
    · rw [List.getElem?_eq_none z] at hy; cases hy
  rw [List.drop_eq_getElem_cons h1]
  rw [List.getElem?_eq_getElem h1] at hy
  rw [Option.some.inj hy]
  rfl
theorem sps_append (a b : List Sp) : sps (a ++ b) = sps a ++ sps b := by unfold sps; rw [List.flatMap_append]
theorem sps_drop (l : List Sp) (k j : Nat) : (sps (l.drop k))[j]? = (sps l)[k * 2 + j]? := by
  have h : ∀ (l : List Sp) (k : Nat), sps (l.drop k) = (sps l).drop (k * 2) := by
    intro l
    induction l with
    | nil => intro k; simp [sps]
    | cons x r ih =>
      intro k
      cases k with
      | zero => simp
      | succ k =>
        rw [List.drop_succ_cons, ih k]
        show _ = (spC x ++ sps r).drop ((k + 1) * 2)
        rw [show (k + 1) * 2 = 2 + k * 2 by omega, ← List.drop_drop]
        rfl
  rw [h, List.getElem?_drop]
end Go.Proofs.YtkokiahmgmeokaaGreat
/- Joined by port.py: XSe -/
set_option linter.unusedVariables false
set_option linter.unusedSimpArgs false
/-! XSe -/
namespace Go.Proofs.YtkokiahmgmeokaaGreat
open Go Go.RowKit Iv
attribute [local go_sem] Oper.semAt_some
attribute [local go_sem] B_getElem B_size B_app B_extract B_get B_toList
/-- a result, if it is not too long -/
def limS (l : List Sp) : List Sp × Int := if 1000 < l.length then ([], 4) else (l, 0)
def SpsPost (r : List Sp × Int) (w : World) (e : Ending) (w' : World) : Prop := ∃ u, e = .returned (.tuple #[u, .int .i64 r.2]) ∧ RSps w' w'.heap.size u r.1 ∧ Below w.heap.size w w'
def SpsPostF (r : List Sp × Int) (w : World) (e : Ending) (w' : World) : Prop := ∃ u, e = .returned (.tuple #[u, .int .i64 r.2]) ∧ RSps w' w'.heap.size u r.1 ∧ RFrom w.heap.size u ∧ Below w.heap.size w w'
theorem RSps.empty {w : World} {g c : Nat} (h : g < w.heap.size) (hc : c ≤ maxLen) : RSps w w.heap.size (.slice (some ⟨g, 0, none⟩) 0 c) [] := ⟨_, c, rfl, Nat.zero_le _, hc, (fun h => by cases h), fun h => by cases h⟩
theorem RSps.empty0 {w : World} {a : Option Addr} {c : Nat} (h : a = none → c = 0) (hc : c ≤ maxLen) : RSps w w.heap.size (.slice a 0 c) [] := ⟨_, c, rfl, Nat.zero_le _, hc, h, fun h => by cases h⟩
def rUnionS (a b : List Sp) : List Sp × Int := if chkSp a ≠ 0 ∨ chkSp b ≠ 0 then ([], 1) else limS (b.foldl ins2 a)
theorem ins2_len : ∀ (l : List Sp) (x : Sp), 0 < (ins2 l x).length ∧ (ins2 l x).length ≤ l.length + 1
  | [], x => by simp [ins2]
  | y :: r, x => by
    have ih := ins2_len r x
    have hm : ∀ (m : List Sp) (z : Sp), 0 < (mrg m z).length ∧ (mrg m z).length ≤ m.length + 1 := by
      intro m
      induction m with
      | nil => intro z; simp [mrg]
      | cons u s ih => intro z; unfold mrg; split; (have := ih (if u.1 < z.1 then u.1 else z.1, if z.2 < u.2 then u.2 else z.2); simp; omega); simp
    have := hm (y :: r) x
    unfold ins2
    split
    · simp; omega
    · exact this
end Go.Proofs.YtkokiahmgmeokaaGreat
/- Joined by port.py: XSg -/
set_option linter.unusedVariables false
set_option linter.unusedSimpArgs false
/-! XSg -/
namespace Go.Proofs.YtkokiahmgmeokaaGreat
open Go Go.RowKit Iv
attribute [local go_sem] Oper.semAt_some
attribute [local go_sem] B_getElem B_size B_app B_extract B_get B_toList
/-- the cells of a side -/
def sdC (v : Value) (at_ : Nat) (i : Bool) : Array Value := #[v, .int .i64 (at_ : Int), .bool i]
structure SdOk (w : World) (N : Nat) (v : Value) (l : List Sp) (at_ : Nat) (i : Bool) : Prop where
  row : RSps w N v l
  le : at_ ≤ l.length
  lt : i = true → at_ < l.length
def nxtV (s : Sd) : Int := (nxt s).getD 0
def nxtB (s : Sd) : Bool := (nxt s).isSome
theorem nxt_end {l : List Sp} {i : Bool} : nxt (l.drop l.length, i) = none := by rw [List.drop_length]; rfl
theorem nxt_at {l : List Sp} {k : Nat} {x : Sp} (h : l[k]? = some x) (i : Bool) : nxt (l.drop k, i) = some (if i = true then x.2 else x.1) := by
  have h1 : k < l.length := by
    rcases Nat.lt_or_ge k l.length with z | z
    · exact z
    · rw [List.getElem?_eq_none z] at h; cases h
  rw [List.drop_eq_getElem_cons h1]
  rw [List.getElem?_eq_getElem h1] at h
  rw [Option.some.inj h]
  cases i <;> rfl
/-- what pass makes of a side -/
def passA (l : List Sp) (at_ : Nat) (i : Bool) (t : Int) : Nat × Bool := if nxt (l.drop at_, i) = some t then (if i = true then (at_ + 1, false) else (at_, true)) else (at_, i)
theorem passA_eq (l : List Sp) (at_ : Nat) (i : Bool) (t : Int) : (l.drop (passA l at_ i t).1, (passA l at_ i t).2) = pass (l.drop at_, i) t := by
  unfold passA pass
  by_cases z : nxt (l.drop at_, i) = some t
  · rw [if_pos z, if_pos z]
    cases i with
    | true => simp [List.tail_drop]
    | false => simp
  · rw [if_neg z, if_neg z]
theorem nxt_some_lt {l : List Sp} {at_ : Nat} {i : Bool} {t : Int} (h : nxt (l.drop at_, i) = some t) : at_ < l.length := by
  rcases Nat.lt_or_ge at_ l.length with z | z
  · exact z
  · rw [List.drop_eq_nil_iff.2 z] at h; cases h
theorem passA_ok {w : World} {N : Nat} {v : Value} {l : List Sp} {at_ : Nat} {i : Bool} (h : SdOk w N v l at_ i) (t : Int) : SdOk w N v l (passA l at_ i t).1 (passA l at_ i t).2 := by
  refine ⟨h.row, ?_, ?_⟩
  · unfold passA
    have := h.le
    split
    · rename_i z
      have := nxt_some_lt z
      split <;> (simp only; omega)
    · exact this
  · unfold passA
    split
    · rename_i z
      have := nxt_some_lt z
      split
      · intro h; cases h
      · intro _; exact this
    · exact h.lt
end Go.Proofs.YtkokiahmgmeokaaGreat
