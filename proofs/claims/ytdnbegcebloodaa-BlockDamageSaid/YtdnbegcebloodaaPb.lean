/- The plain law of Process: valid lists, what remains. -/
import Derived.Test.YtdnbegcebloodaaEe
set_option linter.unusedVariables false
set_option linter.unusedSimpArgs false
namespace Go.Proofs.Ytdnbegcebloodaa

theorem caE_iff : ∀ {l : List Blk} {p : Option Int}, caE p l = 0 ↔ (∀ x ∈ l, blkE x = 0) ∧ (∀ q, p = some q → ∀ x ∈ l, q < x.kind) ∧ l.Pairwise (fun a b => a.kind < b.kind)
  | [], p => by simp [caE]
  | y :: l, p => by
    rw [caE]
    by_cases h1 : blkE y = 0
    · rw [if_neg (by simp [h1])]
      by_cases h2 : ∃ q, p = some q ∧ y.kind ≤ q
      · rw [if_pos h2]
        refine ⟨fun h => (by cases h), fun h => ?_⟩
        obtain ⟨q, hq, hle⟩ := h2
        have := h.2.1 q hq y (by simp)
        omega
      · rw [if_neg h2, caE_iff]
        refine ⟨fun ⟨a, b, c⟩ => ⟨fun x hx => ?_, fun q hq x hx => ?_, ?_⟩, fun ⟨a, b, c⟩ => ⟨fun x hx => a x (by simp [hx]), fun q hq x hx => ?_, (List.pairwise_cons.1 c).2⟩⟩
        · rcases List.mem_cons.1 hx with rfl | hx
          · exact h1
          · exact a x hx
        · have hy : q < y.kind := by
            rcases Int.lt_or_le q y.kind with h | h
            · exact h
            · exact absurd ⟨q, hq, h⟩ h2
          rcases List.mem_cons.1 hx with rfl | hx
          · exact hy
          · have := b _ rfl x hx; omega
        · exact List.pairwise_cons.2 ⟨fun x hx => b _ rfl x hx, c⟩
        · injection hq with hq; subst hq; exact (List.pairwise_cons.1 c).1 x hx
    · rw [if_pos h1]
      exact ⟨fun h => absurd h h1, fun h => absurd (h.1 y (by simp)) h1⟩
theorem chkAll_iff {l : List Blk} : chkAll l = 0 ↔ l.length ≤ 8 ∧ (∀ x ∈ l, blkE x = 0) ∧ l.Pairwise (fun a b => a.kind < b.kind) := by
  unfold chkAll
  by_cases h : 8 < l.length
  · rw [if_pos h]
    refine ⟨fun h => (by cases h), fun h2 => ?_⟩
    omega
  · rw [if_neg h, caE_iff]
    exact ⟨fun ⟨a, _, c⟩ => ⟨by omega, a, c⟩, fun ⟨_, a, c⟩ => ⟨a, (fun q hq => by cases hq), c⟩⟩
theorem chkAll_filter {l : List Blk} (P : Blk → Bool) (h : chkAll l = 0) : chkAll (l.filter P) = 0 := by
  obtain ⟨a, b, c⟩ := chkAll_iff.1 h
  exact chkAll_iff.2 ⟨Nat.le_trans (List.length_filter_le _ _) a, fun x hx => b x ((List.mem_filter.1 hx).1), c.filter _⟩

theorem wit_known {known : List Int} {f : Int} {x : Blk} (h : known.contains x.kind = true) : wit known f x = false := by unfold wit; rw [h]; simp
theorem prS_ok {l : List Blk} {known : List Int} (h : chkAll l = 0) : prS l known = if l.any (wit known 2) = true then ([], l.any (wit known 8), 28) else (l.filter (fun x => !wit known 4 x), l.any (wit known 8), 0) := by
  unfold prS; rw [if_neg (by simp [h])]
theorem prS_all {l : List Blk} (h : chkAll l = 0) : prS l (l.map (·.kind)) = (l, false, 0) := by
  have hw : ∀ f, ∀ x ∈ l, wit (l.map (·.kind)) f x = false := fun f x hx => wit_known (List.contains_iff_mem.2 (List.mem_map_of_mem hx))
  have ha : ∀ f, l.any (wit (l.map (·.kind)) f) = false := fun f => List.any_eq_false.2 fun x hx => by rw [hw f x hx]; simp
  rw [prS_ok h, ha 2, ha 8, if_neg (by simp), List.filter_eq_self.2 fun x hx => by rw [hw 4 x hx]; rfl]
theorem prS_again {l : List Blk} {known : List Int} (h : chkAll l = 0) (h0 : (prS l known).2.2 = 0) : ∃ r, prS (prS l known).1 known = ((prS l known).1, r, 0) := by
  rw [prS_ok h] at h0 ⊢
  by_cases hd : l.any (wit known 2) = true
  · rw [if_pos hd] at h0; cases h0
  · rw [if_neg hd]
    simp only
    have hd' : l.any (wit known 2) = false := by simpa using hd
    refine ⟨(l.filter (fun x => !wit known 4 x)).any (wit known 8), ?_⟩
    rw [prS_ok (chkAll_filter _ h)]
    have : (l.filter (fun x => !wit known 4 x)).any (wit known 2) = false := List.any_eq_false.2 fun x hx => List.any_eq_false.1 hd' x ((List.mem_filter.1 hx).1)
    rw [this, if_neg (by simp), List.filter_filter]
    simp only [Bool.and_self]
theorem wit_more {known : List Int} {m f : Int} {x : Blk} (h : wit known f x = false) : wit (known ++ [m]) f x = false := by
  unfold wit at h ⊢
  cases hf : hasF x.flags f with
  | false => simp
  | true =>
    rw [hf] at h
    have hc : known.contains x.kind = true := by simpa using h
    have : (known ++ [m]).contains x.kind = true := List.contains_iff_mem.2 (List.mem_append.2 (.inl (List.contains_iff_mem.1 hc)))
    rw [this]; simp
theorem prS_more {l : List Blk} {known : List Int} {m : Int} (h : chkAll l = 0) (h0 : (prS l known).2.2 = 0) : (prS l (known ++ [m])).2.2 = 0 ∧ (prS l known).1.length ≤ (prS l (known ++ [m])).1.length := by
  rw [prS_ok h] at h0 ⊢
  rw [prS_ok h]
  by_cases hd : l.any (wit known 2) = true
  · rw [if_pos hd] at h0; cases h0
  · rw [if_neg hd]
    have hd' : l.any (wit known 2) = false := by simpa using hd
    have h2 : l.any (wit (known ++ [m]) 2) = false := List.any_eq_false.2 fun x hx => by
      have := List.any_eq_false.1 hd' x hx
      rw [wit_more (by simpa using this)]; simp
    rw [if_neg (by rw [h2]; simp)]
    refine ⟨rfl, ?_⟩
    simp only
    rw [← List.countP_eq_length_filter, ← List.countP_eq_length_filter]
    refine List.countP_mono_left fun x hx hw => ?_
    have : wit known 4 x = false := by simpa using hw
    rw [wit_more this]; rfl
theorem prS_cases {l : List Blk} {known : List Int} (h : chkAll l = 0) : ((prS l known).2.2 = 28 ∧ (prS l known).1 = []) ∨ (prS l known).2.2 = 0 := by
  rw [prS_ok h]
  by_cases hd : l.any (wit known 2) = true
  · rw [if_pos hd]; exact .inl ⟨rfl, rfl⟩
  · rw [if_neg hd]; exact .inr rfl
theorem prS_sub {l : List Blk} {known : List Int} : ∀ x ∈ (prS l known).1, x ∈ l := fun x hx => by
  unfold prS at hx
  split at hx
  · simp at hx
  · split at hx
    · simp at hx
    · exact (List.mem_filter.1 hx).1
end Go.Proofs.Ytdnbegcebloodaa
