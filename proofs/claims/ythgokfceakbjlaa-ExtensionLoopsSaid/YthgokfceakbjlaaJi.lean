/- Joined by port.py: XPb XPc XEo XEq -/
import Derived.Test.YthgokfceakbjlaaJp
import Derived.Test.YthgokfceakbjlaaJa
import Derived.Test.YthgokfceakbjlaaJb
import Derived.Test.YthgokfceakbjlaaJe
import Derived.Test.YthgokfceakbjlaaJg
import Derived.Test.YthgokfceakbjlaaJh
import Derived.Test.YthgokfceakbjlaaJo
set_option linter.unusedVariables false
set_option linter.unusedSimpArgs false
/-! XPb -/
namespace Go.Proofs.Ythgokfceakbjlaa
theorem caE_iff : ∀ {l : List Blk} {p : Option Int}, caE p l = 0 ↔ (∀ x ∈ l, blkE x = 0) ∧ (∀ q, p = some q → ∀ x ∈ l, q < x.kind) ∧ l.Pairwise (fun a b => a.kind < b.kind)
  | [], p => by simp [caE]
  | y :: l, p => by
    rw [caE]
    by_cases h1 : blkE y = 0
    · rw [if_neg (by simp [h1])]
      by_cases h2 : ∃ q, p = some q ∧ y.kind ≤ q
      · rw [if_pos h2]
        refine ⟨fun h => (by cases h), fun h => ?_⟩
        obtain ⟨q, hq, hle⟩ := h2
        have := h.2.1 q hq y (by simp)
        omega
      · rw [if_neg h2, caE_iff]
        refine ⟨fun ⟨a, b, c⟩ => ⟨fun x hx => ?_, fun q hq x hx => ?_, ?_⟩, fun ⟨a, b, c⟩ => ⟨fun x hx => a x (by simp [hx]), fun q hq x hx => ?_, (List.pairwise_cons.1 c).2⟩⟩
        · rcases List.mem_cons.1 hx with rfl | hx
          · exact h1
          · exact a x hx
        · have hy : q < y.kind := by
            rcases Int.lt_or_le q y.kind with h | h
            · exact h
            · exact absurd ⟨q, hq, h⟩ h2
          rcases List.mem_cons.1 hx with rfl | hx
          · exact hy
          · have := b _ rfl x hx; omega
        · exact List.pairwise_cons.2 ⟨fun x hx => b _ rfl x hx, c⟩
        · injection hq with hq; subst hq; exact (List.pairwise_cons.1 c).1 x hx
    · rw [if_pos h1]
      exact ⟨fun h => absurd h h1, fun h => absurd (h.1 y (by simp)) h1⟩
theorem chkAll_iff {l : List Blk} : chkAll l = 0 ↔ l.length ≤ 8 ∧ (∀ x ∈ l, blkE x = 0) ∧ l.Pairwise (fun a b => a.kind < b.kind) := by
  unfold chkAll
  by_cases h : 8 < l.length
  · rw [if_pos h]
    refine ⟨fun h => (by cases h), fun h2 => ?_⟩
    omega
  · rw [if_neg h, caE_iff]
    exact ⟨fun ⟨a, _, c⟩ => ⟨by omega, a, c⟩, fun ⟨_, a, c⟩ => ⟨a, (fun q hq => by cases hq), c⟩⟩
theorem chkAll_filter {l : List Blk} (P : Blk → Bool) (h : chkAll l = 0) : chkAll (l.filter P) = 0 := by
  obtain ⟨a, b, c⟩ := chkAll_iff.1 h
  exact chkAll_iff.2 ⟨Nat.le_trans (List.length_filter_le _ _) a, fun x hx => b x ((List.mem_filter.1 hx).1), c.filter _⟩
theorem wit_known {known : List Int} {f : Int} {x : Blk} (h : known.contains x.kind = true) : wit known f x = false := by unfold wit; rw [h]; simp
theorem prS_ok {l : List Blk} {known : List Int} (h : chkAll l = 0) : prS l known = if l.any (wit known 2) = true then ([], l.any (wit known 8), 28) else (l.filter (fun x => !wit known 4 x), l.any (wit known 8), 0) := by
  unfold prS; rw [if_neg (by simp [h])]
theorem prS_all {l : List Blk} (h : chkAll l = 0) : prS l (l.map (·.kind)) = (l, false, 0) := by
  have hw : ∀ f, ∀ x ∈ l, wit (l.map (·.kind)) f x = false := fun f x hx => wit_known (List.contains_iff_mem.2 (List.mem_map_of_mem hx))
  have ha : ∀ f, l.any (wit (l.map (·.kind)) f) = false := fun f => List.any_eq_false.2 fun x hx => by rw [hw f x hx]; simp
  rw [prS_ok h, ha 2, ha 8, if_neg (by simp), List.filter_eq_self.2 fun x hx => by rw [hw 4 x hx]; rfl]
theorem prS_again {l : List Blk} {known : List Int} (h : chkAll l = 0) (h0 : (prS l known).2.2 = 0) : ∃ r, prS (prS l known).1 known = ((prS l known).1, r, 0) := by
  rw [prS_ok h] at h0 ⊢
  by_cases hd : l.any (wit known 2) = true
  · rw [if_pos hd] at h0; cases h0
  · rw [if_neg hd]
    simp only
    have hd' : l.any (wit known 2) = false := by simpa using hd
    refine ⟨(l.filter (fun x => !wit known 4 x)).any (wit known 8), ?_⟩
    rw [prS_ok (chkAll_filter _ h)]
    have : (l.filter (fun x => !wit known 4 x)).any (wit known 2) = false := List.any_eq_false.2 fun x hx => List.any_eq_false.1 hd' x ((List.mem_filter.1 hx).1)
    rw [this, if_neg (by simp), List.filter_filter]
    simp only [Bool.and_self]
theorem wit_more {known : List Int} {m f : Int} {x : Blk} (h : wit known f x = false) : wit (known ++ [m]) f x = false := by
  unfold wit at h ⊢
  cases hf : hasF x.flags f with
  | false => simp
  | true =>
    rw [hf] at h
    have hc : known.contains x.kind = true := by simpa using h
    have : (known ++ [m]).contains x.kind = true := List.contains_iff_mem.2 (List.mem_append.2 (.inl (List.contains_iff_mem.1 hc)))
    rw [this]; simp
theorem prS_more {l : List Blk} {known : List Int} {m : Int} (h : chkAll l = 0) (h0 : (prS l known).2.2 = 0) : (prS l (known ++ [m])).2.2 = 0 ∧ (prS l known).1.length ≤ (prS l (known ++ [m])).1.length := by
  rw [prS_ok h] at h0 ⊢
  rw [prS_ok h]
  by_cases hd : l.any (wit known 2) = true
  · rw [if_pos hd] at h0; cases h0
  · rw [if_neg hd]
    have hd' : l.any (wit known 2) = false := by simpa using hd
    have h2 : l.any (wit (known ++ [m]) 2) = false := List.any_eq_false.2 fun x hx => by
      have := List.any_eq_false.1 hd' x hx
      rw [wit_more (by simpa using this)]; simp
    rw [if_neg (by rw [h2]; simp)]
    refine ⟨rfl, ?_⟩
    simp only
    rw [← List.countP_eq_length_filter, ← List.countP_eq_length_filter]
    refine List.countP_mono_left fun x hx hw => ?_
    have : wit known 4 x = false := by simpa using hw
    rw [wit_more this]; rfl
theorem prS_cases {l : List Blk} {known : List Int} (h : chkAll l = 0) : ((prS l known).2.2 = 28 ∧ (prS l known).1 = []) ∨ (prS l known).2.2 = 0 := by
  rw [prS_ok h]
  by_cases hd : l.any (wit known 2) = true
  · rw [if_pos hd]; exact .inl ⟨rfl, rfl⟩
  · rw [if_neg hd]; exact .inr rfl
theorem prS_sub {l : List Blk} {known : List Int} : ∀ x ∈ (prS l known).1, x ∈ l := fun x hx => by
  unfold prS at hx
  split at hx
  · simp at hx
  · split at hx
    · simp at hx
    · exact (List.mem_filter.1 hx).1
end Go.Proofs.Ythgokfceakbjlaa
/-! XPc -/
namespace Go.Proofs.Ythgokfceakbjlaa
abbrev Srt (l : List Blk) : Prop := l.Pairwise (fun a b => a.kind < b.kind)
def ltK (k : Int) (l : List Blk) : List Blk := l.filter (fun x => decide (x.kind < k))
def gtK (k : Int) (l : List Blk) : List Blk := l.filter (fun x => decide (k < x.kind))
def eqK (k : Int) (l : List Blk) : List Blk := l.filter (fun x => x.kind == k)
theorem mem_ltK {k : Int} {l : List Blk} {x : Blk} : x ∈ ltK k l ↔ x ∈ l ∧ x.kind < k := by simp [ltK, List.mem_filter]
theorem mem_gtK {k : Int} {l : List Blk} {x : Blk} : x ∈ gtK k l ↔ x ∈ l ∧ k < x.kind := by simp [gtK, List.mem_filter]
theorem mem_eqK {k : Int} {l : List Blk} {x : Blk} : x ∈ eqK k l ↔ x ∈ l ∧ x.kind = k := by simp [eqK, List.mem_filter]
theorem srt_split : ∀ {l : List Blk} {k : Int}, Srt l → l = ltK k l ++ eqK k l ++ gtK k l
  | [], _, _ => rfl
  | x :: l, k, h => by
    obtain ⟨h1, h2⟩ := List.pairwise_cons.1 h
    have ih := srt_split (k := k) h2
    by_cases a : x.kind < k
    · have e1 : ltK k (x :: l) = x :: ltK k l := by simp [ltK, a]
      have e2 : eqK k (x :: l) = eqK k l := by simp [eqK, show ¬ x.kind = k by omega]
      have e3 : gtK k (x :: l) = gtK k l := by simp [gtK, show ¬ k < x.kind by omega]
      rw [e1, e2, e3]
      simp only [List.cons_append]
      rw [← ih]
    · have e1 : ltK k (x :: l) = [] := List.filter_eq_nil_iff.2 fun y hy => by
        rcases List.mem_cons.1 hy with rfl | hy
        · simpa using a
        · have := h1 y hy; simp; omega
      by_cases b : x.kind = k
      · have e2 : eqK k l = [] := List.filter_eq_nil_iff.2 fun y hy => by have := h1 y hy; simp; omega
        have e3 : ltK k l = [] := List.filter_eq_nil_iff.2 fun y hy => by have := h1 y hy; simp; omega
        have e4 : eqK k (x :: l) = [x] := by rw [show eqK k (x :: l) = x :: eqK k l by simp [eqK, b], e2]
        have e5 : gtK k (x :: l) = gtK k l := by simp [gtK, show ¬ k < x.kind by omega]
        rw [e1, e4, e5]
        rw [e2, e3] at ih
        simpa using ih
      · have e2 : eqK k (x :: l) = eqK k l := by simp [eqK, b]
        have e4 : eqK k l = [] := List.filter_eq_nil_iff.2 fun y hy => by have := h1 y hy; simp; omega
        have e3 : ltK k l = [] := List.filter_eq_nil_iff.2 fun y hy => by have := h1 y hy; simp; omega
        have e5 : gtK k (x :: l) = x :: gtK k l := by simp [gtK, show k < x.kind by omega]
        rw [e1, e2, e4, e5]
        rw [e3, e4] at ih
        simpa using ih
def neK (k : Int) (l : List Blk) : List Blk := l.filter (fun x => x.kind != k)
theorem neK_eq {l : List Blk} {k : Int} (h : Srt l) : neK k l = ltK k l ++ gtK k l := by
  have hs := srt_split (k := k) h
  have : neK k (ltK k l ++ eqK k l ++ gtK k l) = ltK k l ++ gtK k l := by
    unfold neK
    rw [List.filter_append, List.filter_append, List.filter_eq_self.2 (fun x hx => ?_), List.filter_eq_nil_iff.2 (fun x hx => ?_), List.filter_eq_self.2 (fun x hx => ?_)]
    · simp
    · have := (mem_gtK.1 hx).2; simp; omega
    · have := (mem_eqK.1 hx).2; simp [this]
    · have := (mem_ltK.1 hx).2; simp; omega
  rw [← hs] at this
  exact this
theorem putL_eq (l : List Blk) (b : Blk) : putL l b = ltK b.kind l ++ [b] ++ gtK b.kind l := rfl
theorem lt_lt (k : Int) (l : List Blk) : ltK k (ltK k l) = ltK k l := by simp [ltK, List.filter_filter]
theorem gt_gt (k : Int) (l : List Blk) : gtK k (gtK k l) = gtK k l := by simp [gtK, List.filter_filter]
theorem lt_gt (k : Int) (l : List Blk) : ltK k (gtK k l) = [] := List.filter_eq_nil_iff.2 fun x hx => by have := (mem_gtK.1 hx).2; simp; omega
theorem gt_lt (k : Int) (l : List Blk) : gtK k (ltK k l) = [] := List.filter_eq_nil_iff.2 fun x hx => by have := (mem_ltK.1 hx).2; simp; omega
theorem ltK_put (l : List Blk) (b : Blk) : ltK b.kind (putL l b) = ltK b.kind l := by
  rw [putL_eq]
  show List.filter _ _ = _
  rw [List.filter_append, List.filter_append]
  show ltK b.kind (ltK b.kind l) ++ _ ++ ltK b.kind (gtK b.kind l) = _
  rw [lt_lt, lt_gt]; simp
theorem gtK_put (l : List Blk) (b : Blk) : gtK b.kind (putL l b) = gtK b.kind l := by
  rw [putL_eq]
  show List.filter _ _ = _
  rw [List.filter_append, List.filter_append]
  show gtK b.kind (ltK b.kind l) ++ _ ++ gtK b.kind (gtK b.kind l) = _
  rw [gt_gt, gt_lt]; simp
theorem srt_put {l : List Blk} (b : Blk) (h : Srt l) : Srt (putL l b) := by
  rw [putL_eq]
  refine List.pairwise_append.2 ⟨List.pairwise_append.2 ⟨h.filter _, by simp, fun x hx y hy => ?_⟩, h.filter _, fun x hx y hy => ?_⟩
  · simp at hy; subst hy; exact (mem_ltK.1 hx).2
  · have h2 := (mem_gtK.1 hy).2
    rcases List.mem_append.1 hx with hx | hx
    · have := (mem_ltK.1 hx).2; omega
    · simp at hx; subst hx; exact h2
theorem mem_put {l : List Blk} {b x : Blk} (h : x ∈ putL l b) : x ∈ l ∨ x = b := by
  rw [putL_eq] at h
  rcases List.mem_append.1 h with h | h
  · rcases List.mem_append.1 h with h | h
    · exact .inl (mem_ltK.1 h).1
    · simp at h; exact .inr h
  · exact .inl (mem_gtK.1 h).1
theorem chk_put {l : List Blk} {b : Blk} (h : chkAll l = 0) (hb : blkE b = 0) (hl : ¬ 8 < (putL l b).length) : chkAll (putL l b) = 0 := by
  obtain ⟨_, h2, h3⟩ := chkAll_iff.1 h
  exact chkAll_iff.2 ⟨by omega, fun x hx => by rcases mem_put hx with hx | rfl; exact h2 x hx; exact hb, srt_put b h3⟩
theorem findS_mem {l : List Blk} {y : Blk} (h : Srt l) (hy : y ∈ l) : findS l y.kind = (y, true) := by
  obtain ⟨q, hq, hx⟩ := List.mem_iff_getElem.1 hy
  refine findS_some (q := q) (by rw [List.getElem?_eq_getElem hq, hx]) (fun z hz => ?_) (by simp)
  obtain ⟨j, hj, hzj⟩ := List.mem_iff_getElem.1 hz
  have hj' : j < q := by simp at hj; omega
  have := List.pairwise_iff_getElem.1 h j q (by omega) hq hj'
  rw [List.getElem_take] at hzj
  rw [hzj, hx] at this
  simp; omega
theorem mem_put_self (l : List Blk) (b : Blk) : b ∈ putL l b := by rw [putL_eq]; simp
theorem find_put_self {l : List Blk} {b : Blk} (h : Srt l) : findS (putL l b) b.kind = (b, true) := findS_mem (srt_put b h) (mem_put_self l b)
theorem find_put_other {l : List Blk} {b y : Blk} (h : Srt l) (hy : y ∈ l) (hk : y.kind ≠ b.kind) : findS (putL l b) y.kind = (y, true) := by
  refine findS_mem (srt_put b h) ?_
  rw [putL_eq]
  rcases Int.lt_or_gt_of_ne hk with h1 | h1
  · exact List.mem_append.2 (.inl (List.mem_append.2 (.inl (mem_ltK.2 ⟨hy, h1⟩))))
  · exact List.mem_append.2 (.inr (mem_gtK.2 ⟨hy, h1⟩))
theorem ne_put {l : List Blk} {b : Blk} (h : Srt l) : neK b.kind (putL l b) = neK b.kind l := by rw [neK_eq (srt_put b h), ltK_put, gtK_put, neK_eq h]
theorem find_cases (l : List Blk) (k : Int) : (findS l k = (zBlk, false) ∧ ∀ x ∈ l, x.kind ≠ k) ∨ ∃ x ∈ l, x.kind = k ∧ findS l k = (x, true) := by
  unfold findS
  cases hf : l.find? (fun x => x.kind == k) with
  | none => exact .inl ⟨rfl, fun x hx => by simpa using List.find?_eq_none.1 hf x hx⟩
  | some x => exact .inr ⟨x, List.mem_of_find?_eq_some hf, by simpa using List.find?_some hf, rfl⟩
theorem ne_none {l : List Blk} {k : Int} (h : ∀ x ∈ l, x.kind ≠ k) : neK k l = l := List.filter_eq_self.2 fun x hx => by simpa using h x hx
theorem put_back {l : List Blk} {b old : Blk} (h : Srt l) (ho : old ∈ l) (hk : old.kind = b.kind) : putL (putL l b) old = l := by
  rw [putL_eq, hk, ltK_put, gtK_put]
  have hs := srt_split (k := b.kind) h
  have hm : eqK b.kind l = [old] := by
    have h1 : old ∈ eqK b.kind l := mem_eqK.2 ⟨ho, hk⟩
    have h2 : Srt (eqK b.kind l) := h.filter _
    cases he : eqK b.kind l with
    | nil => rw [he] at h1; simp at h1
    | cons x r =>
      rw [he] at h1 h2
      have hx : x.kind = b.kind := (mem_eqK (l := l).1 (by rw [he]; simp)).2
      obtain ⟨h3, _⟩ := List.pairwise_cons.1 h2
      have hr : r = [] := by
        cases r with
        | nil => rfl
        | cons y r =>
          have hy : y.kind = b.kind := (mem_eqK (l := l).1 (by rw [he]; simp)).2
          have := h3 y (by simp)
          omega
      subst hr
      simp at h1
      rw [h1]
  rw [← hm]
  exact hs.symm
theorem put_twice {l : List Blk} {b c : Blk} (hk : c.kind = b.kind) : putL (putL l b) c = putL l c := by
  rw [putL_eq, hk, ltK_put, gtK_put, putL_eq, hk]
theorem putS_ok {l : List Blk} {b : Blk} (h : (putS l b).2 = 0) : chkAll l = 0 ∧ blkE b = 0 ∧ ¬ 8 < (putL l b).length ∧ putS l b = (putL l b, 0) := by
  unfold putS at h ⊢
  by_cases h1 : chkAll l = 0
  · rw [if_neg (by simp [h1])] at h ⊢
    by_cases h2 : blkE b = 0
    · rw [if_neg (by simp [h2])] at h ⊢
      by_cases h3 : 8 < (putL l b).length
      · rw [if_pos h3] at h; cases h
      · rw [if_neg h3]; exact ⟨h1, h2, h3, rfl⟩
    · rw [if_pos h2] at h; exact absurd h h2
  · rw [if_pos h1] at h; cases h
theorem putS_bad {l : List Blk} {b : Blk} (h : (putS l b).2 ≠ 0) : (putS l b).1 = [] := by
  unfold putS at h ⊢
  split
  · rfl
  · split
    · rfl
    · split
      · rfl
      · rename_i h1 h2 h3
        rw [if_neg h1, if_neg h2, if_neg h3] at h
        exact absurd rfl h
theorem putS_back {l : List Blk} {b old : Blk} (h : (putS l b).2 = 0) (ho : old ∈ l) (hk : old.kind = b.kind) : putS (putL l b) old = (l, 0) := by
  obtain ⟨h1, h2, h3, _⟩ := putS_ok h
  obtain ⟨hl, hx, hs⟩ := chkAll_iff.1 h1
  unfold putS
  rw [if_neg (by simp [chk_put h1 h2 h3]), if_neg (by simp [hx old ho]), put_back hs ho hk, if_neg (by omega)]
theorem putS_twice {l : List Blk} {b c : Blk} (h : (putS l b).2 = 0) (hk : c.kind = b.kind) : putS (putL l b) c = putS l c := by
  obtain ⟨h1, h2, h3, _⟩ := putS_ok h
  unfold putS
  rw [if_neg (by simp [chk_put h1 h2 h3]), if_neg (c := chkAll l ≠ 0) (by simp [h1]), put_twice hk]
end Go.Proofs.Ythgokfceakbjlaa
/-! XEo -/
namespace Go.Proofs.Ythgokfceakbjlaa
open Go Go.RowKit
attribute [local go_sem] B_getElem B_size B_app B_extract B_get B_toList
set_option maxRecDepth 100000 in
set_option maxHeartbeats 1000000 in
theorem rfind_any (l : List Blk) (u : Value) (k : Int) (w : World) (h : RBlks w w.heap.size u l) :
    Calls Try.prog 68 #[u, .int .i64 k] w fun e w' => e = .returned (.tuple #[.agg #[.int .i64 (findS l k).1.kind, .int .i64 (findS l k).1.flags, .string (B (findS l k).1.data)], .bool (findS l k).2]) ∧ Below w.heap.size w w' := by
  obtain ⟨a, c, rfl, h1, h2, h3, h4⟩ := h
  unfold maxLen at h2
  have hlen : l.length ≤ 9223372036854775807 := by omega
  have H4 := Lib.hid h4
  clear h3 h4
  go_enter Try.func68, Try.ntmps68
  go_wp2
  go_loopw [6] (fun i wr => ∃ q : Nat, q ≤ l.length ∧ i = .int .i64 q ∧ Hid (∀ x ∈ l.take q, (x.kind == k) = false) ∧ Below w.heap.size w wr ∧ Hid (wr.heap[w.heap.size]? = some (.cells #[.int .i64 0, .int .i64 0, .string (B [])] 56 (0, 0)))) (fun i _ => l.length - (intOf i).toNat)
  case atStart => exact ⟨0, Nat.zero_le _, rfl, Lib.hid (by simp), (by repeat' (first | with_reducible (first | refine bset ?_ ?_ | exact Below.refl _ _ | assumption | refine bdrewN ?_ _ | refine bdrew ?_ | refine balloc0 ?_ | refine balloc ?_ ?_ | (apply btrans0; rotate_left; assumption) | (apply btrans; rotate_left; assumption)) | exact Below.refl _ _ | assumption | (apply btrans0; rotate_left; assumption) | (apply btrans; rotate_left; assumption) | (simp; done) | omega | (simp; omega))), Lib.hid (by exact heap_new)⟩
  case round =>
    obtain ⟨q, hk, rfl, HF, hB, HZ⟩ := hrel
    have ca := fun o => cellB HZ.out o
    have fa := fun o => frozenB HZ.out o
    have zr : w.heap.size < wr.heap.size := (Array.getElem?_eq_some_iff.1 HZ.out).1
    by_cases hlt : q < l.length
    · obtain ⟨bb, o, rfl, hbn, hcell⟩ := H4.out (by omega)
      obtain ⟨x, hx⟩ : ∃ x, l[q]? = some x := ⟨_, List.getElem?_eq_getElem hlt⟩
      obtain ⟨c1, c2, c3⟩ := (hcell q x hx).keep (fun o => hB.cell (p := ⟨bb, o, none⟩) hbn)
      have k0 : (0 : Int) ≤ (q : Int) := by omega
      have k1 : (q : Int) < (l.length : Int) := by omega
      have HX := Lib.hid hx
      clear hx hcell
      by_cases hq : x.kind = k
      · have hq2 : (x.kind == k) = true := beq_iff_eq.2 hq
        have HS := Lib.hid (findS_some HX.out HF.out hq2)
        clear hq
        go_wp2
        rw [HS.out]
        refine bodyPost_ret (v := .tuple #[.agg #[.int .i64 x.kind, .int .i64 x.flags, .string (B x.data)], .bool true]) (by simp [results, Try.results68, go_sem, World.cell?_setCell_same', ca]) rfl ?_
        exact ⟨rfl, (by repeat' (first | with_reducible (first | refine bset ?_ ?_ | exact Below.refl _ _ | assumption | refine bdrewN ?_ _ | refine bdrew ?_ | refine balloc0 ?_ | refine balloc ?_ ?_ | (apply btrans0; rotate_left; assumption) | (apply btrans; rotate_left; assumption)) | exact Below.refl _ _ | assumption | (apply btrans0; rotate_left; assumption) | (apply btrans; rotate_left; assumption) | (simp; done) | omega | (simp; omega)))⟩
      · have hq2 : (x.kind == k) = false := beq_eq_false_iff_ne.2 hq
        have HQ := Lib.hid hq2
        clear hq ca fa
        go_wp2
        go_roundw
        case rel =>
          refine ⟨q + 1, by omega, by go_num, Lib.hid ?_, hB, HZ⟩
          intro y hy
          rw [List.take_add_one, HX.out] at hy
          rcases List.mem_append.1 hy with hy | hy
          · exact HF.out y hy
          · simp at hy; subst hy; exact HQ.out
        case measure => simp [intOf]; omega
    · obtain rfl : q = l.length := by omega
      have HS := Lib.hid (findS_none (l := l) (k := k) (by have := HF.out; rwa [List.take_length] at this))
      go_wp2
      rw [HS.out]
      refine bodyPost_ret (v := .tuple #[.agg #[.int .i64 0, .int .i64 0, .string { data := #[] }], .bool false]) (by simp [results, Try.results68, go_sem, World.cell?_setCell_same', ca]) rfl ?_
      exact ⟨rfl, (by repeat' (first | with_reducible (first | refine bset ?_ ?_ | exact Below.refl _ _ | assumption | refine bdrewN ?_ _ | refine bdrew ?_ | refine balloc0 ?_ | refine balloc ?_ ?_ | (apply btrans0; rotate_left; assumption) | (apply btrans; rotate_left; assumption)) | exact Below.refl _ _ | assumption | (apply btrans0; rotate_left; assumption) | (apply btrans; rotate_left; assumption) | (simp; done) | omega | (simp; omega)))⟩
set_option maxRecDepth 100000 in
set_option maxHeartbeats 1000000 in
theorem rremove_any (l : List Blk) (u : Value) (k : Int) (w : World) (h : RBlks w w.heap.size u l) (hl : l.length ≤ 1000) :
    Calls Try.prog 93 #[u, .int .i64 k] w (BlksPost (l.filter (fun x => x.kind != k)) w) := by
  obtain ⟨a, c, rfl, h1, h2, h3, h4⟩ := h
  unfold maxLen at h2
  have H4 := Lib.hid h4
  obtain ⟨i0, hin, hz0, hz1, hz2⟩ := info_parts infoBlk
  clear h3 h4
  go_enter Try.func93, Try.ntmps93
  go_wp2
  go_loopw [6, 5] (fun i s wr => ∃ (q n' : Nat) (vo : Value), s = vo ∧ q ≤ l.length ∧ i = .int .i64 q ∧ n' ≤ q ∧ wr.ownsRow w.heap.size 56 3 vo n' (((l.take q).filter (fun x => x.kind != k)).flatMap blkC) ∧ Below w.heap.size w wr) (fun i _ _ => l.length - (intOf i).toNat)
  case atStart => exact ⟨0, 0, _, rfl, Nat.zero_le _, rfl, Nat.le_refl _, World.ownsRow_made w #[] 0 (Nat.le_refl _) (by simp) rfl, (by repeat' (first | with_reducible (first | refine bset ?_ ?_ | exact Below.refl _ _ | assumption | refine bdrewN ?_ _ | refine bdrew ?_ | refine balloc0 ?_ | refine balloc ?_ ?_ | (apply btrans0; rotate_left; assumption) | (apply btrans; rotate_left; assumption)) | exact Below.refl _ _ | assumption | (apply btrans0; rotate_left; assumption) | (apply btrans; rotate_left; assumption) | (simp; done) | omega | (simp; omega)))⟩
  case round =>
    obtain ⟨q, n', vo, e7, hk, rfl, hn, hown, hB⟩ := hrel
    have e7' := e7.symm
    clear e7
    subst e7'
    by_cases hlt : q < l.length
    · obtain ⟨bb, o, rfl, hbn, hcell⟩ := H4.out (by omega)
      obtain ⟨x, hx⟩ : ∃ x, l[q]? = some x := ⟨_, List.getElem?_eq_getElem hlt⟩
      obtain ⟨c1, c2, c3⟩ := (hcell q x hx).keep (fun o => hB.cell (p := ⟨bb, o, none⟩) hbn)
      have k0 : (0 : Int) ≤ (q : Int) := by omega
      have k1 : (q : Int) < (l.length : Int) := by omega
      have HX := Lib.hid hx
      have hsz := hB.size
      clear hx hcell
      by_cases hq : x.kind = k
      · have hq2 : (x.kind == k) = true := beq_iff_eq.2 hq
        have HQ : Hid ((fun x : Blk => x.kind != k) x = false) := Lib.hid (by simp [hq])
        clear hq
        go_wp2
        go_roundw
        case rel => exact ⟨q + 1, n', _, rfl, by omega, by go_num, by omega, by rw [flat_skip HX.out HQ.out]; exact hown, hB⟩
        case measure => simp [intOf]; omega
      · have hq2 : (x.kind == k) = false := beq_eq_false_iff_ne.2 hq
        have HQ : Hid ((fun x : Blk => x.kind != k) x = true) := Lib.hid (by simpa using hq)
        clear hq
        go_wp2_with (at_builtin; refine wpList_append_lies _ rfl _ _ _ rfl w.heap.size 56 i0 _ 3 32 Try.underlying26 hin hz0 hz1 hz2 rfl (by omega) vo n' _ rfl (hown.alloc _) ⟨wr.heap.size, 0, none⟩ 1 1 (blkC x) rfl rfl (news_one (t := 56) (by exact heap_new)) (blkC_one x) (by omega) (by simp only [maxLen]; omega) (by omega) (by simp; omega) (wr.heap.size + 1) (by simp) ?_; intro g cap w5 hown5 hg5 hat5 hlt5)
        have hB4 : Below w.heap.size w w5 := (balloc hB (by omega)).grown hg5 (by simp; omega) (fun q hq => (hown.lt q hq).1)
        have HO := Lib.hid hown5
        clear hown5 hg5 hat5 hown
        go_wp2
        go_roundw
        case rel => exact ⟨q + 1, n' + 1, _, rfl, by omega, by go_num, by omega, by rw [flat_snoc HX.out HQ.out]; exact HO.out, hB4⟩
        case measure => simp [intOf]; omega
    · obtain rfl : q = l.length := by omega
      rw [List.take_length] at hown
      have hn' : n' = (l.filter (fun x => x.kind != k)).length := by have := hown.1; rw [flat_len blkC 3 blkC_len] at this; omega
      subst hn'
      go_wp2
      go_ret
      exact ⟨_, rfl, RBlks.of_own hown, hB, hown⟩
end Go.Proofs.Ythgokfceakbjlaa
/-! XEq -/
namespace Go.Proofs.Ythgokfceakbjlaa
open Go Go.RowKit
attribute [local go_sem] B_getElem B_size B_app B_extract B_get B_toList
theorem RBlks.lit0 (w : World) (N : Nat) (a : Addr) : RBlks w N (.slice (some a) 0 0) [] := ⟨some a, 0, rfl, Nat.le_refl _, by simp [maxLen], (fun h => by cases h), fun h => by simp at h⟩
theorem any_snoc {P : Blk → Bool} {l : List Blk} {k : Nat} {x : Blk} (hx : l[k]? = some x) : (l.take (k + 1)).any P = ((l.take k).any P || P x) := by rw [List.take_add_one, hx]; simp
theorem wit_not {known : List Int} {f : Int} {x : Blk} {q : Bool} (h : known.contains x.kind = false) (hq : hasF x.flags f = q) : wit known f x = q := by unfold wit; rw [h, hq]; simp
theorem lt_ne (k : Int) (l : List Blk) : ltK k (neK k l) = ltK k l := by
  unfold ltK neK
  rw [List.filter_filter]
  refine List.filter_congr fun x _ => ?_
  by_cases h : x.kind < k
  · have : ¬ x.kind = k := by omega
    simp [h, this]
  · simp [h]
theorem gt_ne (k : Int) (l : List Blk) : gtK k (neK k l) = gtK k l := by
  unfold gtK neK
  rw [List.filter_filter]
  refine List.filter_congr fun x _ => ?_
  by_cases h : k < x.kind
  · have : ¬ x.kind = k := by omega
    simp [h, this]
  · simp [h]
theorem put_len {l : List Blk} {b : Blk} (h : Srt l) : (putL l b).length = (neK b.kind l).length + 1 := by
  rw [neK_eq h, putL_eq]; simp; omega
def RPutPost (r : List Blk × Int) (w : World) (e : Ending) (w' : World) : Prop := ∃ v, e = .returned (.tuple #[v, .int .i64 r.2]) ∧ RBlks w' w'.heap.size v r.1 ∧ Below w.heap.size w w'
set_option maxRecDepth 100000 in
set_option maxHeartbeats 3000000 in
theorem rput_any (l : List Blk) (u : Value) (b : Blk) (w : World) (h : RBlks w w.heap.size u l) (hd : ∀ x ∈ l, x.data.length ≤ maxLen) (hb : b.data.length ≤ maxLen) :
    Calls Try.prog 69 #[u, .agg #[.int .i64 b.kind, .int .i64 b.flags, .string (B b.data)]] w (RPutPost (putS l b) w) := by
  obtain ⟨ua, uc, rfl, _⟩ := id h
  have HR := Lib.hid h
  have HD := Lib.hid hd
  unfold maxLen at hb
  clear h hd
  by_cases hc : chkAll l = 0
  case neg =>
    have hp : putS l b = ([], 1) := by unfold putS; rw [if_pos hc]
    have hc' : (chkAll l == 0) = false := beq_eq_false_iff_ne.2 hc
    rw [hp]
    obtain ⟨E, hE⟩ : ∃ E, chkAll l = E := ⟨_, rfl⟩
    have HE := Lib.hid hE
    rw [hE] at hc'
    clear hc hp hE
    go_enter Try.func69, Try.ntmps69
    go_wp2_with fail
    refine (checkAll_any l _ _ (HR.out.below (C := w.heap.size) (by repeat' (first | with_reducible (first | refine bset ?_ ?_ | exact Below.refl _ _ | assumption | refine bdrewN ?_ _ | refine bdrew ?_ | refine balloc0 ?_ | refine balloc ?_ ?_ | (apply btrans0; rotate_left; assumption) | (apply btrans; rotate_left; assumption)) | exact Below.refl _ _ | assumption | (apply btrans0; rotate_left; assumption) | (apply btrans; rotate_left; assumption) | (simp; done) | omega | (simp; omega))) (Nat.le_refl _) (by simp)) HD.out).mono ?_
    rw [HE.out]
    rintro e w1 ⟨rfl, hb1⟩
    go_wp2
    go_ret2
    exact ⟨_, rfl, RBlks.lit0 _ _ _, (by repeat' (first | with_reducible (first | refine bset ?_ ?_ | exact Below.refl _ _ | assumption | refine bdrewN ?_ _ | refine bdrew ?_ | refine balloc0 ?_ | refine balloc ?_ ?_ | (apply btrans0; rotate_left; assumption) | (apply btrans; rotate_left; assumption)) | exact Below.refl _ _ | assumption | (apply btrans0; rotate_left; assumption) | (apply btrans; rotate_left; assumption) | (simp; done) | omega | (simp; omega)))⟩
  obtain ⟨hl8, _⟩ := chkAll_zero hc
  have HC := Lib.hid hc
  obtain ⟨_, _, hs⟩ := chkAll_iff.1 hc
  have HS := Lib.hid hs
  clear hc hs
  by_cases hE : blkE b = 0
  case neg =>
    have hp : putS l b = ([], blkE b) := by unfold putS; rw [if_neg (by simp [HC.out]), if_pos hE]
    have hE2 : (blkE b == 0) = false := beq_eq_false_iff_ne.2 hE
    rw [hp]
    obtain ⟨E, hEE⟩ : ∃ E, blkE b = E := ⟨_, rfl⟩
    have HEE := Lib.hid hEE
    rw [hEE] at hE2 ⊢
    clear hp hE hEE
    go_enter Try.func69, Try.ntmps69
    go_wp2_with fail
    refine (checkAll_any l _ _ (HR.out.below (C := w.heap.size) (by repeat' (first | with_reducible (first | refine bset ?_ ?_ | exact Below.refl _ _ | assumption | refine bdrewN ?_ _ | refine bdrew ?_ | refine balloc0 ?_ | refine balloc ?_ ?_ | (apply btrans0; rotate_left; assumption) | (apply btrans; rotate_left; assumption)) | exact Below.refl _ _ | assumption | (apply btrans0; rotate_left; assumption) | (apply btrans; rotate_left; assumption) | (simp; done) | omega | (simp; omega))) (Nat.le_refl _) (by simp)) HD.out).mono ?_
    rw [HC.out]
    rintro e w1 ⟨rfl, hb1⟩
    obtain ⟨k1, f1⟩ := bcell hb1
    have z1 : w.heap.size < w1.heap.size := by have := hb1.size; simp at this; omega
    go_wp2_with fail
    refine (rbcheck_any b _ hb).mono ?_
    rw [HEE.out]
    rintro e w2 ⟨rfl, hb2⟩
    go_wp2
    go_ret2
    exact ⟨_, rfl, RBlks.lit0 _ _ _, (by repeat' (first | with_reducible (first | refine bset ?_ ?_ | exact Below.refl _ _ | assumption | refine bdrewN ?_ _ | refine bdrew ?_ | refine balloc0 ?_ | refine balloc ?_ ?_ | (apply btrans0; rotate_left; assumption) | (apply btrans; rotate_left; assumption)) | exact Below.refl _ _ | assumption | (apply btrans0; rotate_left; assumption) | (apply btrans; rotate_left; assumption) | (simp; done) | omega | (simp; omega)))⟩
  have HE := Lib.hid hE
  obtain ⟨i0, hin, hz0, hz1, hz2⟩ := info_parts infoBlk
  clear hE
  go_enter Try.func69, Try.ntmps69
  go_wp2_with fail
  refine (checkAll_any l _ _ (HR.out.below (C := w.heap.size) (by repeat' (first | with_reducible (first | refine bset ?_ ?_ | exact Below.refl _ _ | assumption | refine bdrewN ?_ _ | refine bdrew ?_ | refine balloc0 ?_ | refine balloc ?_ ?_ | (apply btrans0; rotate_left; assumption) | (apply btrans; rotate_left; assumption)) | exact Below.refl _ _ | assumption | (apply btrans0; rotate_left; assumption) | (apply btrans; rotate_left; assumption) | (simp; done) | omega | (simp; omega))) (Nat.le_refl _) (by simp)) HD.out).mono ?_
  rw [HC.out]
  rintro e w1 ⟨rfl, hb1⟩
  have z1 : w.heap.size < w1.heap.size := by have := hb1.size; simp at this; omega
  have hB1 : Below w.heap.size w w1 := (by repeat' (first | with_reducible (first | refine bset ?_ ?_ | exact Below.refl _ _ | assumption | refine bdrewN ?_ _ | refine bdrew ?_ | refine balloc0 ?_ | refine balloc ?_ ?_ | (apply btrans0; rotate_left; assumption) | (apply btrans; rotate_left; assumption)) | exact Below.refl _ _ | assumption | (apply btrans0; rotate_left; assumption) | (apply btrans; rotate_left; assumption) | (simp; done) | omega | (simp; omega)))
  have K1 : w1.heap[w.heap.size]? = some (.cells #[.int .i64 b.kind, .int .i64 b.flags, .string (B b.data)] 56 (0, 0)) := (hb1.block _ (by simp)).trans heap_new
  have ca := fun o => cellB K1 o
  clear hb1
  go_wp2_with fail
  refine (rbcheck_any b _ hb).mono ?_
  rw [HE.out]
  rintro e w2 ⟨rfl, hb2⟩
  have z2 : w1.heap.size ≤ w2.heap.size := hb2.size
  have z2' : w.heap.size < w2.heap.size := by omega
  have hB2 : Below w.heap.size w w2 := (by repeat' (first | with_reducible (first | refine bset ?_ ?_ | exact Below.refl _ _ | assumption | refine bdrewN ?_ _ | refine bdrew ?_ | refine balloc0 ?_ | refine balloc ?_ ?_ | (apply btrans0; rotate_left; assumption) | (apply btrans; rotate_left; assumption)) | exact Below.refl _ _ | assumption | (apply btrans0; rotate_left; assumption) | (apply btrans; rotate_left; assumption) | (simp; done) | omega | (simp; omega)))
  have K2 := (hb2.block w.heap.size z1).trans K1
  clear hb2 ca K1 hB1
  have ca := fun o => cellB K2 o
  go_wp2_with fail
  refine (rremove_any l _ b.kind _ (HR.out.below hB2 (Nat.le_refl _) hB2.size) (by omega)).mono ?_
  obtain ⟨rs, hrs⟩ : ∃ rs, l.filter (fun x => x.kind != b.kind) = rs := ⟨_, rfl⟩
  have hrl : rs.length ≤ 8 := by rw [← hrs]; exact Nat.le_trans (List.length_filter_le _ _) hl8
  rw [hrs]
  have HRS : Hid (neK b.kind l = rs) := Lib.hid hrs
  clear hrs
  rintro e w3 ⟨v3, rfl, hr3, hb3, _⟩
  have z3 : w2.heap.size ≤ w3.heap.size := hb3.size
  have z3' : w.heap.size < w3.heap.size := by omega
  have hB3 : Below w.heap.size w w3 := hB2.trans (hb3.mono (by omega))
  have K3 := (hb3.block w.heap.size z2').trans K2
  clear hb3 ca K2 hB2
  obtain ⟨ra, rc, rfl, hrc, hrm, _, hcell3⟩ := id hr3
  have HC3 := Lib.hid hcell3
  clear hr3 hcell3
  by_cases h8 : rs.length = 8
  · have h8' : ((rs.length : Int) == 8) = true := beq_iff_eq.2 (by omega)
    have hp : putS l b = ([], 4) := by unfold putS; rw [if_neg (by simp [HC.out]), if_neg (by simp [HE.out]), if_pos (by rw [put_len HS.out, HRS.out]; omega)]
    have HP := Lib.hid hp
    have h8n : (rs.length == 8) = true := beq_iff_eq.2 h8
    have h8d : decide (rs.length = 8) = true := decide_eq_true h8
    clear hp h8
    go_wp2
    go_ret2
    exact ⟨_, by rw [HP.out]; rfl, by rw [HP.out]; exact RBlks.lit0 _ _ _, (by repeat' (first | with_reducible (first | refine bset ?_ ?_ | exact Below.refl _ _ | assumption | refine bdrewN ?_ _ | refine bdrew ?_ | refine balloc0 ?_ | refine balloc ?_ ?_ | (apply btrans0; rotate_left; assumption) | (apply btrans; rotate_left; assumption)) | exact Below.refl _ _ | assumption | (apply btrans0; rotate_left; assumption) | (apply btrans; rotate_left; assumption) | (simp; done) | omega | (simp; omega)))⟩
  have h8' : ((rs.length : Int) == 8) = false := beq_eq_false_iff_ne.2 (by omega)
  have hp : putS l b = (putL l b, 0) := by unfold putS; rw [if_neg (by simp [HC.out]), if_neg (by simp [HE.out]), if_neg (by rw [put_len HS.out, HRS.out]; omega)]
  have HP := Lib.hid hp
  have h8n : (rs.length == 8) = false := beq_eq_false_iff_ne.2 h8
  have h8d : decide (rs.length = 8) = false := decide_eq_false h8
  clear hp h8
  go_wp2
  go_loopw [9, 8] (fun i s wr => ∃ (q n' : Nat) (vo : Value), s = vo ∧ q ≤ rs.length ∧ i = .int .i64 q ∧ n' ≤ q ∧ wr.ownsRow w3.heap.size 56 3 vo (n') (((rs.take q).filter (fun x => decide (x.kind < b.kind))).flatMap blkC) ∧ Below w3.heap.size w3 wr) (fun i _ _ => rs.length - (intOf i).toNat)
  case atStart => exact ⟨0, 0, _, rfl, Nat.zero_le _, rfl, Nat.le_refl _, World.ownsRow_made w3 #[] 0 (Nat.le_refl _) (by simp) rfl, balloc0 (Below.refl _ _)⟩
  case round =>
    obtain ⟨q, n', vo, e7, hk, rfl, hn, hown, hB⟩ := hrel
    have e7' := e7.symm
    clear e7
    subst e7'
    have HBw : Below w.heap.size w wr := hB3.trans (hB.mono (by omega))
    have zr : w3.heap.size ≤ wr.heap.size := hB.size
    have KR := (hB.block w.heap.size z3').trans K3
    have zw : w.heap.size < wr.heap.size := by omega
    by_cases hlt : q < rs.length
    · obtain ⟨bb, o, rfl, hbn, hcell⟩ := HC3.out (by omega)
      obtain ⟨x, hx⟩ : ∃ x, rs[q]? = some x := ⟨_, List.getElem?_eq_getElem hlt⟩
      obtain ⟨c1, c2, c3⟩ := (hcell q x hx).keep (fun o => hB.cell (p := ⟨bb, o, none⟩) hbn)
      have cb : wr.cell? ⟨w.heap.size, 0, none⟩ = some (.int .i64 b.kind) := cellB KR 0
      have hbr : bb < wr.heap.size := by omega
      have k0 : (0 : Int) ≤ (q : Int) := by omega
      have k1 : (q : Int) < (rs.length : Int) := by omega
      have HX := Lib.hid hx
      clear hx hcell KR
      by_cases ht : x.kind < b.kind
      · have ht2 : decide (x.kind < b.kind) = true := decide_eq_true ht
        have HQ : Hid ((fun x => decide (x.kind < b.kind)) x = true) := Lib.hid (by simpa using ht)
        clear ht
        go_wp2
        refine wp_region_plan (fun V => V.cell? ⟨bb, o + q * 3, none⟩ = some (.int .i64 x.kind) ∧ V.cell? ⟨w.heap.size, 0, none⟩ = some (.int .i64 b.kind)) [0, 0, 0, 0, 1, 0, 1, 0] [0, 1, 2, 3, 4, 5, 6, 7] (by kernel_rfl) (by kernel_rfl) ?_ ?_
        case refine_1 => exact ⟨c1, cb⟩
        (iterate 8 (refine plan_held rfl (by decide) (by rfl) (fun w1 hS => by (try (have hS := hS rfl; obtain hS := hS; repeat (obtain ⟨_, hS⟩ := hS))); go_simp; rfl) ?_; simp only [Act.put, List.setIfInBounds_toArray, List.set_cons_zero, List.set_cons_succ]))
        refine plan_done ?_
        go_wp2_with (at_builtin; refine wpList_append_lies _ rfl _ _ _ rfl w3.heap.size 56 i0 _ 3 32 Try.underlying26 hin hz0 hz1 hz2 rfl (by omega) vo (n') _ rfl (show ((wr.alloc (.cells (blkC x).toArray 56)).drew).ownsRow _ _ _ _ _ _ from hown.alloc _) ⟨wr.heap.size, 0, none⟩ 1 1 (blkC x) rfl rfl (news_one (t := 56) (by exact heap_alloc_new wr _)) (blkC_one x) (by omega) (by simp only [maxLen]; omega) (by omega) (by simp; omega) (wr.heap.size + 1) (by simp) ?_; intro g cap w9 hown9 hg9 hat9 hlt9)
        have hB9 : Below w3.heap.size w3 w9 := (show Below w3.heap.size w3 ((wr.alloc (.cells (blkC x).toArray 56)).drew) from bdrew (balloc hB zr)).grown hg9 (by simp; omega) (fun q hq => (hown.lt q hq).1)
        have HO := Lib.hid hown9
        clear hown9 hg9 hat9 hown HBw
        go_wp2
        go_roundw
        case rel => exact ⟨q + 1, n' + 1, _, rfl, by omega, by go_num, by omega, by have h := HO.out; rw [flat_snoc HX.out HQ.out]; first | exact h | (rw [← List.append_assoc]; exact h), hB9⟩
        case measure => simp [intOf]; omega
      · have ht2 : decide (x.kind < b.kind) = false := decide_eq_false ht
        have HQ : Hid ((fun x => decide (x.kind < b.kind)) x = false) := Lib.hid (by simpa using ht)
        clear ht
        go_wp2
        refine wp_region_plan (fun V => V.cell? ⟨bb, o + q * 3, none⟩ = some (.int .i64 x.kind) ∧ V.cell? ⟨w.heap.size, 0, none⟩ = some (.int .i64 b.kind)) [0, 0, 0, 0, 1, 0, 1, 0] [0, 1, 2, 3, 4, 5, 6, 7] (by kernel_rfl) (by kernel_rfl) ?_ ?_
        case refine_1 => exact ⟨c1, cb⟩
        (iterate 8 (refine plan_held rfl (by decide) (by rfl) (fun w1 hS => by (try (have hS := hS rfl; obtain hS := hS; repeat (obtain ⟨_, hS⟩ := hS))); go_simp; rfl) ?_; simp only [Act.put, List.setIfInBounds_toArray, List.set_cons_zero, List.set_cons_succ]))
        refine plan_done ?_
        go_wp2
        go_roundw
        case rel => exact ⟨q + 1, n', _, rfl, by omega, by go_num, by omega, by rw [flat_skip HX.out HQ.out]; exact hown, bdrew hB⟩
        case measure => simp [intOf]; omega
    · obtain rfl : q = rs.length := by omega
      rw [List.take_length] at hown
      have hn' : n' = (rs.filter (fun x => decide (x.kind < b.kind))).length := by have := hown.1; rw [flat_len blkC 3 blkC_len] at this; omega
      subst hn'
      have hN1 : (rs.filter (fun x => decide (x.kind < b.kind))).length ≤ rs.length := List.length_filter_le _ _
      have cb := fun o => cellB KR o
      go_wp2_with (at_builtin; refine wpList_append_lies _ rfl _ _ _ rfl w3.heap.size 56 i0 _ 3 32 Try.underlying26 hin hz0 hz1 hz2 rfl (by omega) vo (rs.filter (fun x => decide (x.kind < b.kind))).length _ rfl (hown.alloc _) ⟨wr.heap.size, 0, none⟩ 1 1 (blkC b) rfl rfl (news_one (t := 56) (by exact heap_new)) (blkC_one b) (by omega) (by simp only [maxLen]; omega) (by omega) (by simp; omega) (wr.heap.size + 1) (by simp) ?_; intro g cap w5 hown5 hg5 hat5 hlt5)
      have hB5 : Below w3.heap.size w3 w5 := (balloc hB zr).grown hg5 (by simp; omega) (fun q hq => (hown.lt q hq).1)
      have HO1 := Lib.hid hown5
      clear hown5 hg5 hat5 hown HBw KR hB cb
      go_wp2
      go_loopw [10, 8] (fun i s wr => ∃ (q n' : Nat) (vo : Value), s = vo ∧ q ≤ rs.length ∧ i = .int .i64 q ∧ n' ≤ q ∧ wr.ownsRow w3.heap.size 56 3 vo ((rs.filter (fun x => decide (x.kind < b.kind))).length + 1 + n') (((rs.filter (fun x => decide (x.kind < b.kind))).flatMap blkC ++ blkC b) ++ ((rs.take q).filter (fun x => decide (b.kind < x.kind))).flatMap blkC) ∧ Below w3.heap.size w3 wr) (fun i _ _ => rs.length - (intOf i).toNat)
      case atStart => exact ⟨0, 0, _, rfl, Nat.zero_le _, rfl, Nat.le_refl _, by simpa using HO1.out, hB5⟩
      case round =>
        obtain ⟨q, n', vo, e7, hk, rfl, hn, hown, hB⟩ := hrel
        have e7' := e7.symm
        clear e7
        subst e7'
        have HBw : Below w.heap.size w wr := hB3.trans (hB.mono (by omega))
        have zr : w3.heap.size ≤ wr.heap.size := hB.size
        have KR := (hB.block w.heap.size z3').trans K3
        have zw : w.heap.size < wr.heap.size := by omega
        by_cases hlt : q < rs.length
        · obtain ⟨bb, o, rfl, hbn, hcell⟩ := HC3.out (by omega)
          obtain ⟨x, hx⟩ : ∃ x, rs[q]? = some x := ⟨_, List.getElem?_eq_getElem hlt⟩
          obtain ⟨c1, c2, c3⟩ := (hcell q x hx).keep (fun o => hB.cell (p := ⟨bb, o, none⟩) hbn)
          have cb : wr.cell? ⟨w.heap.size, 0, none⟩ = some (.int .i64 b.kind) := cellB KR 0
          have hbr : bb < wr.heap.size := by omega
          have k0 : (0 : Int) ≤ (q : Int) := by omega
          have k1 : (q : Int) < (rs.length : Int) := by omega
          have HX := Lib.hid hx
          clear hx hcell KR
          by_cases ht : b.kind < x.kind
          · have ht2 : decide (b.kind < x.kind) = true := decide_eq_true ht
            have HQ : Hid ((fun x => decide (b.kind < x.kind)) x = true) := Lib.hid (by simpa using ht)
            clear ht
            go_wp2
            refine wp_region_plan (fun V => V.cell? ⟨bb, o + q * 3, none⟩ = some (.int .i64 x.kind) ∧ V.cell? ⟨w.heap.size, 0, none⟩ = some (.int .i64 b.kind)) [0, 0, 0, 0, 1, 0, 1, 0] [0, 1, 2, 3, 4, 5, 6, 7] (by kernel_rfl) (by kernel_rfl) ?_ ?_
            case refine_1 => exact ⟨c1, cb⟩
            (iterate 8 (refine plan_held rfl (by decide) (by rfl) (fun w1 hS => by (try (have hS := hS rfl; obtain hS := hS; repeat (obtain ⟨_, hS⟩ := hS))); go_simp; rfl) ?_; simp only [Act.put, List.setIfInBounds_toArray, List.set_cons_zero, List.set_cons_succ]))
            refine plan_done ?_
            go_wp2_with (at_builtin; refine wpList_append_lies _ rfl _ _ _ rfl w3.heap.size 56 i0 _ 3 32 Try.underlying26 hin hz0 hz1 hz2 rfl (by omega) vo ((rs.filter (fun x => decide (x.kind < b.kind))).length + 1 + n') _ rfl (show ((wr.alloc (.cells (blkC x).toArray 56)).drew).ownsRow _ _ _ _ _ _ from hown.alloc _) ⟨wr.heap.size, 0, none⟩ 1 1 (blkC x) rfl rfl (news_one (t := 56) (by exact heap_alloc_new wr _)) (blkC_one x) (by omega) (by simp only [maxLen]; omega) (by omega) (by simp; omega) (wr.heap.size + 1) (by simp) ?_; intro g cap w9 hown9 hg9 hat9 hlt9)
            have hB9 : Below w3.heap.size w3 w9 := (show Below w3.heap.size w3 ((wr.alloc (.cells (blkC x).toArray 56)).drew) from bdrew (balloc hB zr)).grown hg9 (by simp; omega) (fun q hq => (hown.lt q hq).1)
            have HO := Lib.hid hown9
            clear hown9 hg9 hat9 hown HBw
            go_wp2
            go_roundw
            case rel => exact ⟨q + 1, n' + 1, _, rfl, by omega, by go_num, by omega, by have h := HO.out; rw [flat_snoc HX.out HQ.out]; first | exact h | (rw [← List.append_assoc]; exact h), hB9⟩
            case measure => simp [intOf]; omega
          · have ht2 : decide (b.kind < x.kind) = false := decide_eq_false ht
            have HQ : Hid ((fun x => decide (b.kind < x.kind)) x = false) := Lib.hid (by simpa using ht)
            clear ht
            go_wp2
            refine wp_region_plan (fun V => V.cell? ⟨bb, o + q * 3, none⟩ = some (.int .i64 x.kind) ∧ V.cell? ⟨w.heap.size, 0, none⟩ = some (.int .i64 b.kind)) [0, 0, 0, 0, 1, 0, 1, 0] [0, 1, 2, 3, 4, 5, 6, 7] (by kernel_rfl) (by kernel_rfl) ?_ ?_
            case refine_1 => exact ⟨c1, cb⟩
            (iterate 8 (refine plan_held rfl (by decide) (by rfl) (fun w1 hS => by (try (have hS := hS rfl; obtain hS := hS; repeat (obtain ⟨_, hS⟩ := hS))); go_simp; rfl) ?_; simp only [Act.put, List.setIfInBounds_toArray, List.set_cons_zero, List.set_cons_succ]))
            refine plan_done ?_
            go_wp2
            go_roundw
            case rel => exact ⟨q + 1, n', _, rfl, by omega, by go_num, by omega, by rw [flat_skip HX.out HQ.out]; exact hown, bdrew hB⟩
            case measure => simp [intOf]; omega
        · obtain rfl : q = rs.length := by omega
          rw [List.take_length] at hown
          have hn' : n' = (rs.filter (fun x => decide (b.kind < x.kind))).length := by have := hown.1; simp only [List.length_append, flat_len blkC 3 blkC_len, blkC_len] at this; omega
          subst hn'
          have hL : (rs.filter (fun x => decide (x.kind < b.kind))).flatMap blkC ++ blkC b ++ (rs.filter (fun x => decide (b.kind < x.kind))).flatMap blkC = (putL l b).flatMap blkC := by
            have e1 : rs.filter (fun x => decide (x.kind < b.kind)) = ltK b.kind l := by rw [← HRS.out]; exact lt_ne _ _
            have e2 : rs.filter (fun x => decide (b.kind < x.kind)) = gtK b.kind l := by rw [← HRS.out]; exact gt_ne _ _
            rw [e1, e2, putL_eq]
            simp [List.flatMap_append]
          rw [hL] at hown
          have H7 := Lib.hid (RBlks.of_own hown)
          clear hown hL
          go_wp2
          go_ret2
          exact ⟨_, by rw [HP.out]; rfl, by rw [HP.out]; exact H7.out, HBw⟩
end Go.Proofs.Ythgokfceakbjlaa
