/- Joined by port.py: XSc -/
import Derived.BigQuiet
import Derived.BigRegion
import Derived.Deep.DeepCutAuto
import Derived.Deep.CutBlock
import Derived.Test.YtmknchdciblfjaaGreatSb
import Derived.Test.YtmknchdciblfjaaGreatJa
import Derived.Test.YtmknchdciblfjaaGreatJb
import Derived.Test.YtmknchdciblfjaaGreatJe
import Derived.Test.YtmknchdciblfjaaGreatJh
import Derived.Test.YtmknchdciblfjaaGreatJo
import Derived.Test.YtmknchdciblfjaaGreatJp
import Derived.Test.YtmknchdciblfjaaGreatKaz
import Derived.Test.YtmknchdciblfjaaGreatJw
set_option linter.unusedVariables false
set_option linter.unusedSimpArgs false
/-! XSc -/
namespace Go.Proofs.YtmknchdciblfjaaGreat
open Go Go.RowKit Iv
attribute [local go_sem] Oper.semAt_some
attribute [local go_sem] B_getElem B_size B_app B_extract B_get B_toList
theorem infoSpan : (Tryz.prog.info? 154).map (fun i => (i.zero, i.size, i.bytes)) = some (some (.agg #[.int .i64 0, .int .i64 0]), 2, 16) := by kernel_rfl
end Go.Proofs.YtmknchdciblfjaaGreat
/- Joined by port.py: XSg -/
set_option linter.unusedVariables false
set_option linter.unusedSimpArgs false
/-! XSg -/
namespace Go.Proofs.YtmknchdciblfjaaGreat
open Go Go.RowKit Iv
attribute [local go_sem] Oper.semAt_some
attribute [local go_sem] B_getElem B_size B_app B_extract B_get B_toList
/-- the cells of a side -/
def sdC (v : Value) (at_ : Nat) (i : Bool) : Array Value := #[v, .int .i64 (at_ : Int), .bool i]
def SdBlk (w : World) (sb : Nat) (v : Value) (at_ : Nat) (i : Bool) : Prop := w.heap[sb]? = some (.cells (sdC v at_ i) 348 (0, 0))
structure SdOk (w : World) (N : Nat) (v : Value) (l : List Sp) (at_ : Nat) (i : Bool) : Prop where
  row : RSps w N v l
  le : at_ ≤ l.length
  lt : i = true → at_ < l.length
def nxtV (s : Sd) : Int := (nxt s).getD 0
def nxtB (s : Sd) : Bool := (nxt s).isSome
theorem nxt_end {l : List Sp} {i : Bool} : nxt (l.drop l.length, i) = none := by rw [List.drop_length]; rfl
theorem nxt_at {l : List Sp} {k : Nat} {x : Sp} (h : l[k]? = some x) (i : Bool) : nxt (l.drop k, i) = some (if i = true then x.2 else x.1) := by
  have h1 : k < l.length := by
    rcases Nat.lt_or_ge k l.length with z | z
    · exact z
    · rw [List.getElem?_eq_none z] at h; cases h
  rw [List.drop_eq_getElem_cons h1]
  rw [List.getElem?_eq_getElem h1] at h
  rw [Option.some.inj h]
  cases i <;> rfl
set_option maxRecDepth 100000 in
set_option maxHeartbeats 16000000 in
theorem next_any (l : List Sp) (v : Value) (at_ sb : Nat) (i : Bool) (w : World) (hs : SdBlk w sb v at_ i) (ho : SdOk w w.heap.size v l at_ i) :
    Calls Tryz.prog 248 #[.pointer (some ⟨sb, 0, none⟩)] w fun e w' => e = .returned (.tuple #[.int .i64 (nxtV (l.drop at_, i)), .bool (nxtB (l.drop at_, i))]) ∧ Below w.heap.size w w' := by
  obtain ⟨⟨a, c, rfl, h1, h2, h3, h4⟩, hle, hlt⟩ := ho
  unfold maxLen at h2
  have H4 := Lib.hid h4
  have hs' : w.heap[sb]? = some (.cells #[.slice a l.length c, .int .i64 (at_ : Int), .bool i] 348 (0, 0)) := hs
  have cs := fun q => cellB hs' q
  have HS := Lib.hid hs'
  have zs : sb < w.heap.size := by
    rcases Nat.lt_or_ge sb w.heap.size with z | z
    · exact z
    · rw [Array.getElem?_eq_none z] at hs'; cases hs'
  clear h3 h4 hs hs'
  by_cases hz : at_ = l.length
  · subst hz
    unfold nxtV nxtB
    rw [nxt_end]
    have dz : ((l.length : Int) == (l.length : Int)) = true := by simp
    clear hlt
    go_enter Tryz.func248, Tryz.ntmps248
    go_upto_region 1 with fail
    go_quiet (fail)
    go_wp2
    go_ret2
    exact ⟨rfl, belowA⟩
  · have hlt' : at_ < l.length := by omega
    have dz : ((at_ : Int) == (l.length : Int)) = false := by rw [beq_eq_false_iff_ne]; omega
    obtain ⟨b, o, rfl, hb, hc⟩ := H4.out (by omega)
    obtain ⟨x, hx⟩ : ∃ x, l[at_]? = some x := ⟨_, List.getElem?_eq_getElem hlt'⟩
    have q0 : w.cell? ⟨b, o + at_ * 2, none⟩ = some (.int .i64 x.1) := sp0 hc hx
    have q1 : w.cell? ⟨b, o + at_ * 2 + 1, none⟩ = some (.int .i64 x.2) := sp1 hc hx
    have k0 : (0 : Int) ≤ (at_ : Int) := by omega
    have k1 : (at_ : Int) < (l.length : Int) := by omega
    unfold nxtV nxtB
    rw [nxt_at hx]
    clear hlt hc hx hz
    cases i with
    | true =>
      go_enter Tryz.func248, Tryz.ntmps248
      go_upto_region 1 with fail
      go_quiet (fail)
      go_upto_region 4 with fail
      go_quiet (fail)
      go_wp2
      go_ret2
      exact ⟨rfl, belowA⟩
    | false =>
      go_enter Tryz.func248, Tryz.ntmps248
      go_upto_region 1 with fail
      go_quiet (fail)
      go_upto_region 5 with fail
      go_quiet (fail)
      go_wp2
      go_ret2
      exact ⟨rfl, belowA⟩
/-- what pass makes of a side -/
def passA (l : List Sp) (at_ : Nat) (i : Bool) (t : Int) : Nat × Bool := if nxt (l.drop at_, i) = some t then (if i = true then (at_ + 1, false) else (at_, true)) else (at_, i)
theorem passA_eq (l : List Sp) (at_ : Nat) (i : Bool) (t : Int) : (l.drop (passA l at_ i t).1, (passA l at_ i t).2) = pass (l.drop at_, i) t := by
  unfold passA pass
  by_cases z : nxt (l.drop at_, i) = some t
  · rw [if_pos z, if_pos z]
    cases i with
    | true => simp [List.tail_drop]
    | false => simp
  · rw [if_neg z, if_neg z]
theorem nxt_some_lt {l : List Sp} {at_ : Nat} {i : Bool} {t : Int} (h : nxt (l.drop at_, i) = some t) : at_ < l.length := by
  rcases Nat.lt_or_ge at_ l.length with z | z
  · exact z
  · rw [List.drop_eq_nil_iff.2 z] at h; cases h
theorem passA_ok {w : World} {N : Nat} {v : Value} {l : List Sp} {at_ : Nat} {i : Bool} (h : SdOk w N v l at_ i) (t : Int) : SdOk w N v l (passA l at_ i t).1 (passA l at_ i t).2 := by
  refine ⟨h.row, ?_, ?_⟩
  · unfold passA
    have := h.le
    split
    · rename_i z
      have := nxt_some_lt z
      split <;> (simp only; omega)
    · exact this
  · unfold passA
    split
    · rename_i z
      have := nxt_some_lt z
      split
      · intro h; cases h
      · intro _; exact this
    · exact h.lt
/-- steps of a call that writes into sides -/
inductive SdSteps : World → World → Prop
  | refl (A : World) : SdSteps A A
  | low {A B C : World} : SdSteps A B → Below B.heap.size B C → SdSteps A C
  | set {A B : World} (sb q : Nat) (u : Value) (cs : Array Value) : SdSteps A B → B.heap[sb]? = some (.cells cs 348 (0, 0)) → SdSteps A (B.setCell ⟨sb, q, none⟩ u)
theorem SdSteps.trans {A B C : World} (h : SdSteps A B) (k : SdSteps B C) : SdSteps A C := by
  induction k with
  | refl => exact h
  | low _ hb ih => exact .low ih hb
  | set sb q u cs _ hc ih => exact .set sb q u cs ih hc
theorem SdSteps.size {A B : World} (h : SdSteps A B) : A.heap.size ≤ B.heap.size := by
  induction h with
  | refl => exact Nat.le_refl _
  | low _ hb ih => have := hb.size; omega
  | set sb q u cs _ hc ih => simpa using ih
theorem SdSteps.keep {A B : World} (h : SdSteps A B) : ∀ (q : Nat) (o : Obj), A.heap[q]? = some o → (∀ cs f, o ≠ .cells cs 348 f) → B.heap[q]? = some o := by
  induction h with
  | refl => intro q o h _; exact h
  | low _ hb ih => intro q o h1 h2; have := ih q o h1 h2; exact (hb.block q (Array.getElem?_eq_some_iff.1 this).1).trans this
  | set sb p u cs _ hc ih =>
    intro q o h1 h2
    have := ih q o h1 h2
    refine (heap_setCell_other _ ⟨sb, p, none⟩ q u (fun e => ?_)).trans this
    have e : q = sb := e
    subst e
    rw [hc] at this
    exact h2 cs (0, 0) (Option.some.inj this).symm
set_option maxRecDepth 100000 in
set_option maxHeartbeats 16000000 in
theorem spass_any (l : List Sp) (v : Value) (at_ sb : Nat) (i : Bool) (t : Int) (w : World) (hs : SdBlk w sb v at_ i) (ho : SdOk w w.heap.size v l at_ i) (hl : l.length ≤ 1000) :
    Calls Tryz.prog 249 #[.pointer (some ⟨sb, 0, none⟩), .int .i64 t] w fun e w' => (∃ u, e = .returned u) ∧ SdSteps w w' ∧ SdBlk w' sb v (passA l at_ i t).1 (passA l at_ i t).2 ∧ ∀ q, q < w.heap.size → q ≠ sb → w'.heap[q]? = w.heap[q]? := by
  have HS := Lib.hid hs
  have HO := Lib.hid ho
  have zs : sb < w.heap.size := by
    rcases Nat.lt_or_ge sb w.heap.size with z | z
    · exact z
    · unfold SdBlk at hs; rw [Array.getElem?_eq_none z] at hs; cases hs
  obtain ⟨a, c, rfl, _⟩ := ho.row
  have hle := ho.le
  obtain ⟨V, hV⟩ : ∃ q, nxtV (l.drop at_, i) = q := ⟨_, rfl⟩
  obtain ⟨E, hE⟩ : ∃ q, nxtB (l.drop at_, i) = q := ⟨_, rfl⟩
  have HV := Lib.hid hV
  have HE := Lib.hid hE
  have HN : Hid (nxt (l.drop at_, i) = if E = true then some V else none) := Lib.hid (by
    rw [← hV, ← hE]
    unfold nxtV nxtB
    cases nxt (l.drop at_, i) <;> rfl)
  obtain ⟨A', hA⟩ : ∃ q, passA l at_ i t = q := ⟨_, rfl⟩
  have HA := Lib.hid hA
  clear hs ho hV hE
  rw [hA]
  clear hA
  have hcase : (E = false ∨ (E = true ∧ V ≠ t)) ∨ (E = true ∧ V = t) := by
    cases E with
    | false => exact .inl (.inl rfl)
    | true =>
      by_cases z : V = t
      · exact .inr ⟨rfl, z⟩
      · exact .inl (.inr ⟨rfl, z⟩)
  rcases hcase with hc | ⟨rfl, rfl⟩
  · have HAA : Hid (A' = (at_, i)) := Lib.hid (by
      rw [← HA.out]
      unfold passA
      rw [if_neg]
      rw [HN.out]
      rcases hc with rfl | ⟨rfl, h⟩
      · simp
      · simp [h])
    rw [HAA.out]
    have HNE : Hid (E = true → (V != t) = true) := Lib.hid (fun h => by
      rcases hc with rfl | ⟨_, h2⟩
      · cases h
      · rw [bne_iff_ne]; exact h2)
    clear hc
    cases E with
    | false =>
      go_enter Tryz.func249, Tryz.ntmps249
      go_wp2_with fail
      refine (next_any l _ at_ sb i _ HS.out HO.out).mono ?_
      rw [HV.out, HE.out]
      rintro e w1 ⟨rfl, hb1⟩
      go_wp2
      refine bodyPost_ret (results_none rfl _ _ _) rfl ?_
      exact ⟨⟨_, rfl⟩, .low (.refl _) belowA, (hb1.block _ zs).trans HS.out, fun q hq _ => hb1.block q hq⟩
    | true =>
      have dv := HNE.out rfl
      go_enter Tryz.func249, Tryz.ntmps249
      go_wp2_with fail
      refine (next_any l _ at_ sb i _ HS.out HO.out).mono ?_
      rw [HV.out, HE.out]
      rintro e w1 ⟨rfl, hb1⟩
      go_wp2
      refine bodyPost_ret (results_none rfl _ _ _) rfl ?_
      exact ⟨⟨_, rfl⟩, .low (.refl _) belowA, (hb1.block _ zs).trans HS.out, fun q hq _ => hb1.block q hq⟩
  · have hlt : at_ < l.length := nxt_some_lt (t := V) (by rw [HN.out]; rfl)
    have HAA : Hid (A' = if i = true then (at_ + 1, false) else (at_, true)) := Lib.hid (by
      rw [← HA.out]
      unfold passA
      rw [if_pos (by rw [HN.out]; rfl)])
    have dv : (V != V) = false := by simp
    cases i with
    | true =>
      have HAB : Hid (A' = (at_ + 1, false)) := Lib.hid HAA.out
      rw [HAB.out]
      have hwa : IntKind.i64.wrap ((at_ : Int) + 1) = (at_ : Int) + 1 := by rw [IntKind.wrap_i64]; omega
      go_enter Tryz.func249, Tryz.ntmps249
      go_wp2_with fail
      refine (next_any l _ at_ sb true _ HS.out HO.out).mono ?_
      rw [HV.out, HE.out]
      rintro e w1 ⟨rfl, hb1⟩
      have hs1 : w1.heap[sb]? = some (.cells #[.slice a l.length c, .int .i64 (at_ : Int), .bool true] 348 (0, 0)) := (hb1.block _ zs).trans HS.out
      have cs := fun q => cellB hs1 q
      have fs := fun q => frozenB hs1 q
      have HS1 := Lib.hid hs1
      have HB1 := Lib.hid hb1
      clear hs1 hb1
      go_wp2
      go_end0
      have h2 := setB HS1.out 1 (.int .i64 ((at_ : Int) + 1))
      refine ⟨⟨_, rfl⟩, .set sb 2 _ _ (.set sb 1 _ _ (.low (.refl _) HB1.out) HS1.out) h2, setB h2 2 (.bool false), fun q hq hne => ?_⟩
      exact (heap_setCell_other _ ⟨sb, 2, none⟩ q _ hne).trans ((heap_setCell_other _ ⟨sb, 1, none⟩ q _ hne).trans (HB1.out.block q hq))
    | false =>
      have HAB : Hid (A' = (at_, true)) := Lib.hid HAA.out
      rw [HAB.out]
      go_enter Tryz.func249, Tryz.ntmps249
      go_wp2_with fail
      refine (next_any l _ at_ sb false _ HS.out HO.out).mono ?_
      rw [HV.out, HE.out]
      rintro e w1 ⟨rfl, hb1⟩
      have hs1 : w1.heap[sb]? = some (.cells #[.slice a l.length c, .int .i64 (at_ : Int), .bool false] 348 (0, 0)) := (hb1.block _ zs).trans HS.out
      have cs := fun q => cellB hs1 q
      have fs := fun q => frozenB hs1 q
      have HS1 := Lib.hid hs1
      have HB1 := Lib.hid hb1
      clear hs1 hb1
      go_wp2
      go_end0
      refine ⟨⟨_, rfl⟩, .set sb 2 _ _ (.low (.refl _) HB1.out) HS1.out, setB HS1.out 2 (.bool true), fun q hq hne => ?_⟩
      exact (heap_setCell_other _ ⟨sb, 2, none⟩ q _ hne).trans (HB1.out.block q hq)
end Go.Proofs.YtmknchdciblfjaaGreat
