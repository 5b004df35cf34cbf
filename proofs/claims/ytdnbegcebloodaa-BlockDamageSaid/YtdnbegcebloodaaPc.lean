/- The plain law of Put, Find, Remove. -/
import Derived.Test.YtdnbegcebloodaaEn
import Derived.Test.YtdnbegcebloodaaPb
set_option linter.unusedVariables false
set_option linter.unusedSimpArgs false
namespace Go.Proofs.Ytdnbegcebloodaa

abbrev Srt (l : List Blk) : Prop := l.Pairwise (fun a b => a.kind < b.kind)
def ltK (k : Int) (l : List Blk) : List Blk := l.filter (fun x => decide (x.kind < k))
def gtK (k : Int) (l : List Blk) : List Blk := l.filter (fun x => decide (k < x.kind))
def eqK (k : Int) (l : List Blk) : List Blk := l.filter (fun x => x.kind == k)
theorem mem_ltK {k : Int} {l : List Blk} {x : Blk} : x ∈ ltK k l ↔ x ∈ l ∧ x.kind < k := by simp [ltK, List.mem_filter]
theorem mem_gtK {k : Int} {l : List Blk} {x : Blk} : x ∈ gtK k l ↔ x ∈ l ∧ k < x.kind := by simp [gtK, List.mem_filter]
theorem mem_eqK {k : Int} {l : List Blk} {x : Blk} : x ∈ eqK k l ↔ x ∈ l ∧ x.kind = k := by simp [eqK, List.mem_filter]
theorem srt_split : ∀ {l : List Blk} {k : Int}, Srt l → l = ltK k l ++ eqK k l ++ gtK k l
  | [], _, _ => rfl
  | x :: l, k, h => by
    obtain ⟨h1, h2⟩ := List.pairwise_cons.1 h
    have ih := srt_split (k := k) h2
    by_cases a : x.kind < k
    · have e1 : ltK k (x :: l) = x :: ltK k l := by simp [ltK, a]
      have e2 : eqK k (x :: l) = eqK k l := by simp [eqK, show ¬ x.kind = k by omega]
      have e3 : gtK k (x :: l) = gtK k l := by simp [gtK, show ¬ k < x.kind by omega]
      rw [e1, e2, e3]
      simp only [List.cons_append]
      rw [← ih]
    · have e1 : ltK k (x :: l) = [] := List.filter_eq_nil_iff.2 fun y hy => by
        rcases List.mem_cons.1 hy with rfl | hy
        · simpa using a
        · have := h1 y hy; simp; omega
      by_cases b : x.kind = k
      · have e2 : eqK k l = [] := List.filter_eq_nil_iff.2 fun y hy => by have := h1 y hy; simp; omega
        have e3 : ltK k l = [] := List.filter_eq_nil_iff.2 fun y hy => by have := h1 y hy; simp; omega
        have e4 : eqK k (x :: l) = [x] := by rw [show eqK k (x :: l) = x :: eqK k l by simp [eqK, b], e2]
        have e5 : gtK k (x :: l) = gtK k l := by simp [gtK, show ¬ k < x.kind by omega]
        rw [e1, e4, e5]
        rw [e2, e3] at ih
        simpa using ih
      · have e2 : eqK k (x :: l) = eqK k l := by simp [eqK, b]
        have e4 : eqK k l = [] := List.filter_eq_nil_iff.2 fun y hy => by have := h1 y hy; simp; omega
        have e3 : ltK k l = [] := List.filter_eq_nil_iff.2 fun y hy => by have := h1 y hy; simp; omega
        have e5 : gtK k (x :: l) = x :: gtK k l := by simp [gtK, show k < x.kind by omega]
        rw [e1, e2, e4, e5]
        rw [e3, e4] at ih
        simpa using ih
def neK (k : Int) (l : List Blk) : List Blk := l.filter (fun x => x.kind != k)
theorem neK_eq {l : List Blk} {k : Int} (h : Srt l) : neK k l = ltK k l ++ gtK k l := by
  have hs := srt_split (k := k) h
  have : neK k (ltK k l ++ eqK k l ++ gtK k l) = ltK k l ++ gtK k l := by
    unfold neK
    rw [List.filter_append, List.filter_append, List.filter_eq_self.2 (fun x hx => ?_), List.filter_eq_nil_iff.2 (fun x hx => ?_), List.filter_eq_self.2 (fun x hx => ?_)]
    · simp
    · have := (mem_gtK.1 hx).2; simp; omega
    · have := (mem_eqK.1 hx).2; simp [this]
    · have := (mem_ltK.1 hx).2; simp; omega
  rw [← hs] at this
  exact this
theorem putL_eq (l : List Blk) (b : Blk) : putL l b = ltK b.kind l ++ [b] ++ gtK b.kind l := rfl
theorem lt_lt (k : Int) (l : List Blk) : ltK k (ltK k l) = ltK k l := by simp [ltK, List.filter_filter]
theorem gt_gt (k : Int) (l : List Blk) : gtK k (gtK k l) = gtK k l := by simp [gtK, List.filter_filter]
theorem lt_gt (k : Int) (l : List Blk) : ltK k (gtK k l) = [] := List.filter_eq_nil_iff.2 fun x hx => by have := (mem_gtK.1 hx).2; simp; omega
theorem gt_lt (k : Int) (l : List Blk) : gtK k (ltK k l) = [] := List.filter_eq_nil_iff.2 fun x hx => by have := (mem_ltK.1 hx).2; simp; omega
theorem ltK_put (l : List Blk) (b : Blk) : ltK b.kind (putL l b) = ltK b.kind l := by
  rw [putL_eq]
  show List.filter _ _ = _
  rw [List.filter_append, List.filter_append]
  show ltK b.kind (ltK b.kind l) ++ _ ++ ltK b.kind (gtK b.kind l) = _
  rw [lt_lt, lt_gt]; simp
theorem gtK_put (l : List Blk) (b : Blk) : gtK b.kind (putL l b) = gtK b.kind l := by
  rw [putL_eq]
  show List.filter _ _ = _
  rw [List.filter_append, List.filter_append]
  show gtK b.kind (ltK b.kind l) ++ _ ++ gtK b.kind (gtK b.kind l) = _
  rw [gt_gt, gt_lt]; simp
theorem srt_put {l : List Blk} (b : Blk) (h : Srt l) : Srt (putL l b) := by
  rw [putL_eq]
  refine List.pairwise_append.2 ⟨List.pairwise_append.2 ⟨h.filter _, by simp, fun x hx y hy => ?_⟩, h.filter _, fun x hx y hy => ?_⟩
  · simp at hy; subst hy; exact (mem_ltK.1 hx).2
  · have h2 := (mem_gtK.1 hy).2
    rcases List.mem_append.1 hx with hx | hx
    · have := (mem_ltK.1 hx).2; omega
    · simp at hx; subst hx; exact h2
theorem mem_put {l : List Blk} {b x : Blk} (h : x ∈ putL l b) : x ∈ l ∨ x = b := by
  rw [putL_eq] at h
  rcases List.mem_append.1 h with h | h
  · rcases List.mem_append.1 h with h | h
    · exact .inl (mem_ltK.1 h).1
    · simp at h; exact .inr h
  · exact .inl (mem_gtK.1 h).1
theorem chk_put {l : List Blk} {b : Blk} (h : chkAll l = 0) (hb : blkE b = 0) (hl : ¬ 8 < (putL l b).length) : chkAll (putL l b) = 0 := by
  obtain ⟨_, h2, h3⟩ := chkAll_iff.1 h
  exact chkAll_iff.2 ⟨by omega, fun x hx => by rcases mem_put hx with hx | rfl; exact h2 x hx; exact hb, srt_put b h3⟩
theorem findS_mem {l : List Blk} {y : Blk} (h : Srt l) (hy : y ∈ l) : findS l y.kind = (y, true) := by
  obtain ⟨q, hq, hx⟩ := List.mem_iff_getElem.1 hy
  refine findS_some (q := q) (by rw [List.getElem?_eq_getElem hq, hx]) (fun z hz => ?_) (by simp)
  obtain ⟨j, hj, hzj⟩ := List.mem_iff_getElem.1 hz
  have hj' : j < q := by simp at hj; omega
  have := List.pairwise_iff_getElem.1 h j q (by omega) hq hj'
  rw [List.getElem_take] at hzj
  rw [hzj, hx] at this
  simp; omega
theorem mem_put_self (l : List Blk) (b : Blk) : b ∈ putL l b := by rw [putL_eq]; simp
theorem find_put_self {l : List Blk} {b : Blk} (h : Srt l) : findS (putL l b) b.kind = (b, true) := findS_mem (srt_put b h) (mem_put_self l b)
theorem find_put_other {l : List Blk} {b y : Blk} (h : Srt l) (hy : y ∈ l) (hk : y.kind ≠ b.kind) : findS (putL l b) y.kind = (y, true) := by
  refine findS_mem (srt_put b h) ?_
  rw [putL_eq]
  rcases Int.lt_or_gt_of_ne hk with h1 | h1
  · exact List.mem_append.2 (.inl (List.mem_append.2 (.inl (mem_ltK.2 ⟨hy, h1⟩))))
  · exact List.mem_append.2 (.inr (mem_gtK.2 ⟨hy, h1⟩))
theorem ne_put {l : List Blk} {b : Blk} (h : Srt l) : neK b.kind (putL l b) = neK b.kind l := by rw [neK_eq (srt_put b h), ltK_put, gtK_put, neK_eq h]
theorem find_cases (l : List Blk) (k : Int) : (findS l k = (zBlk, false) ∧ ∀ x ∈ l, x.kind ≠ k) ∨ ∃ x ∈ l, x.kind = k ∧ findS l k = (x, true) := by
  unfold findS
  cases hf : l.find? (fun x => x.kind == k) with
  | none => exact .inl ⟨rfl, fun x hx => by simpa using List.find?_eq_none.1 hf x hx⟩
  | some x => exact .inr ⟨x, List.mem_of_find?_eq_some hf, by simpa using List.find?_some hf, rfl⟩
theorem ne_none {l : List Blk} {k : Int} (h : ∀ x ∈ l, x.kind ≠ k) : neK k l = l := List.filter_eq_self.2 fun x hx => by simpa using h x hx
theorem put_back {l : List Blk} {b old : Blk} (h : Srt l) (ho : old ∈ l) (hk : old.kind = b.kind) : putL (putL l b) old = l := by
  rw [putL_eq, hk, ltK_put, gtK_put]
  have hs := srt_split (k := b.kind) h
  have hm : eqK b.kind l = [old] := by
    have h1 : old ∈ eqK b.kind l := mem_eqK.2 ⟨ho, hk⟩
    have h2 : Srt (eqK b.kind l) := h.filter _
    cases he : eqK b.kind l with
    | nil => rw [he] at h1; simp at h1
    | cons x r =>
      rw [he] at h1 h2
      have hx : x.kind = b.kind := (mem_eqK (l := l).1 (by rw [he]; simp)).2
      obtain ⟨h3, _⟩ := List.pairwise_cons.1 h2
      have hr : r = [] := by
        cases r with
        | nil => rfl
        | cons y r =>
          have hy : y.kind = b.kind := (mem_eqK (l := l).1 (by rw [he]; simp)).2
          have := h3 y (by simp)
          omega
      subst hr
      simp at h1
      rw [h1]
  rw [← hm]
  exact hs.symm
theorem put_twice {l : List Blk} {b c : Blk} (hk : c.kind = b.kind) : putL (putL l b) c = putL l c := by
  rw [putL_eq, hk, ltK_put, gtK_put, putL_eq, hk]
theorem putS_ok {l : List Blk} {b : Blk} (h : (putS l b).2 = 0) : chkAll l = 0 ∧ blkE b = 0 ∧ ¬ 8 < (putL l b).length ∧ putS l b = (putL l b, 0) := by
  unfold putS at h ⊢
  by_cases h1 : chkAll l = 0
  · rw [if_neg (by simp [h1])] at h ⊢
    by_cases h2 : blkE b = 0
    · rw [if_neg (by simp [h2])] at h ⊢
      by_cases h3 : 8 < (putL l b).length
      · rw [if_pos h3] at h; cases h
      · rw [if_neg h3]; exact ⟨h1, h2, h3, rfl⟩
    · rw [if_pos h2] at h; exact absurd h h2
  · rw [if_pos h1] at h; cases h
theorem putS_bad {l : List Blk} {b : Blk} (h : (putS l b).2 ≠ 0) : (putS l b).1 = [] := by
  unfold putS at h ⊢
  split
  · rfl
  · split
    · rfl
    · split
      · rfl
      · rename_i h1 h2 h3
        rw [if_neg h1, if_neg h2, if_neg h3] at h
        exact absurd rfl h
theorem putS_back {l : List Blk} {b old : Blk} (h : (putS l b).2 = 0) (ho : old ∈ l) (hk : old.kind = b.kind) : putS (putL l b) old = (l, 0) := by
  obtain ⟨h1, h2, h3, _⟩ := putS_ok h
  obtain ⟨hl, hx, hs⟩ := chkAll_iff.1 h1
  unfold putS
  rw [if_neg (by simp [chk_put h1 h2 h3]), if_neg (by simp [hx old ho]), put_back hs ho hk, if_neg (by omega)]
theorem putS_twice {l : List Blk} {b c : Blk} (h : (putS l b).2 = 0) (hk : c.kind = b.kind) : putS (putL l b) c = putS l c := by
  obtain ⟨h1, h2, h3, _⟩ := putS_ok h
  unfold putS
  rw [if_neg (by simp [chk_put h1 h2 h3]), if_neg (c := chkAll l ≠ 0) (by simp [h1]), put_twice hk]
end Go.Proofs.Ytdnbegcebloodaa
