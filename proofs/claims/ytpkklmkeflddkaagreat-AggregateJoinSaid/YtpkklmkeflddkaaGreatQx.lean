/- Chapter 19: the plain law of AggregatePacked: what its loops compute. -/
import Derived.Test.YtpkklmkeflddkaaGreatQv
set_option linter.unusedVariables false
set_option linter.unusedSimpArgs false
namespace Go.Proofs.YtpkklmkeflddkaaGreat
open Go Go.RowKit
theorem mem_iff {ks : Nat → Nat} {n k i : Nat} : i ∈ mem ks n k ↔ i < n ∧ ks i = k := by
  unfold mem
  simp [List.mem_filter, List.mem_range]
theorem mem_asc {ks : Nat → Nat} {n k j a b : Nat} (ha : (mem ks n k)[j]? = some a) (hb : (mem ks n k)[j + 1]? = some b) : a < b := by
  have hp : (mem ks n k).Pairwise (· < ·) := List.Pairwise.filter _ (List.pairwise_lt_range)
  obtain ⟨h1, e1⟩ := List.getElem?_eq_some_iff.1 ha
  obtain ⟨h2, e2⟩ := List.getElem?_eq_some_iff.1 hb
  have := List.pairwise_iff_getElem.1 hp j (j + 1) h1 h2 (by omega)
  omega
def grpX (ks : Nat → Nat) (n k j : Nat) : List Int := (List.range n).map fun i => if ks i < k ∨ (ks i = k ∧ i ∈ (mem ks n k).take j) then (ks i : Int) else 0
theorem grpX_len (ks : Nat → Nat) (n k j : Nat) : (grpX ks n k j).length = n := by simp [grpX]
theorem grpX_get {ks : Nat → Nat} {n k j i : Nat} (hi : i < n) : (grpX ks n k j)[i]? = some (if ks i < k ∨ (ks i = k ∧ i ∈ (mem ks n k).take j) then (ks i : Int) else 0) := by
  unfold grpX
  rw [List.getElem?_map, List.getElem?_range hi]
  rfl
theorem grpX_zero (ks : Nat → Nat) (n : Nat) : grpX ks n 0 0 = List.replicate n 0 := by
  unfold grpX
  refine List.ext_getElem? fun i => ?_
  rw [List.getElem?_map]
  rcases Nat.lt_or_ge i n with z | z
  · rw [List.getElem?_range z]
    simp [z]
  · rw [List.getElem?_eq_none (by simpa using z), List.getElem?_eq_none (by simpa using z)]
    rfl
theorem grpX_set {ks : Nat → Nat} {n k j i : Nat} (hi : (mem ks n k)[j]? = some i) : (grpX ks n k j).set i (k : Int) = grpX ks n k (j + 1) := by
  obtain ⟨h1, h2⟩ := mem_iff.1 (List.mem_of_getElem? hi)
  have ht : (mem ks n k).take (j + 1) = (mem ks n k).take j ++ [i] := by rw [List.take_add_one, hi]; rfl
  refine List.ext_getElem? fun q => ?_
  rcases Nat.lt_or_ge q n with z | z
  · rw [List.getElem?_set, grpX_get z, grpX_get z, ht]
    by_cases hq : i = q
    · subst hq
      rw [if_pos rfl, if_pos (by rw [grpX_len]; exact z), if_pos (Or.inr ⟨h2, by simp⟩), h2]
    · rw [if_neg hq]
      have : (q ∈ (mem ks n k).take j ++ [i]) ↔ q ∈ (mem ks n k).take j := by simp; omega
      simp only [this]
  · rw [List.getElem?_eq_none (by rw [List.length_set, grpX_len]; exact z), List.getElem?_eq_none (by rw [grpX_len]; exact z)]
theorem grpX_next (ks : Nat → Nat) (n k : Nat) : grpX ks n k (mem ks n k).length = grpX ks n (k + 1) 0 := by
  refine List.ext_getElem? fun q => ?_
  rcases Nat.lt_or_ge q n with z | z
  · rw [grpX_get z, grpX_get z, List.take_length]
    have : (ks q < k ∨ (ks q = k ∧ q ∈ mem ks n k)) ↔ (ks q < k + 1 ∨ (ks q = k + 1 ∧ q ∈ (mem ks n (k + 1)).take 0)) := by
      simp only [mem_iff, List.take_zero, List.not_mem_nil, and_false, or_false]
      omega
    simp only [this]
  · rw [List.getElem?_eq_none (by rw [grpX_len]; exact z), List.getElem?_eq_none (by rw [grpX_len]; exact z)]
theorem grpX_end {ks : Nat → Nat} {n K i : Nat} (h : ∀ j, j < n → ks j < K) (hi : i < n) : (grpX ks n K 0)[i]? = some (ks i : Int) := by
  rw [grpX_get hi, if_pos (Or.inl (h i hi))]
def cntC (ks : Nat → Nat) (n k : Nat) : Nat := ((List.range n).filter fun i => decide (ks i < k)).length
theorem cntC_zero (ks : Nat → Nat) (n : Nat) : cntC ks n 0 = 0 := by simp [cntC]
theorem cntC_next (ks : Nat → Nat) (n k : Nat) : cntC ks n (k + 1) = cntC ks n k + (mem ks n k).length := by
  induction n with
  | zero => simp [cntC, mem]
  | succ n ih =>
    unfold cntC mem at *
    rw [List.range_succ, List.filter_append, List.filter_append, List.filter_append, List.length_append, List.length_append, List.length_append, ih]
    by_cases h1 : ks n < k
    · have h2 : ks n < k + 1 := by omega
      have h3 : ks n ≠ k := by omega
      simp [h1, h2, h3]
      omega
    · by_cases h3 : ks n = k
      · have h2 : ks n < k + 1 := by omega
        simp [h1, h2, h3]
        omega
      · have h2 : ¬ ks n < k + 1 := by omega
        simp [h1, h2, h3]
theorem cntC_le (ks : Nat → Nat) (n k : Nat) : cntC ks n k ≤ n := by
  have := List.length_filter_le (fun i => decide (ks i < k)) (List.range n)
  simpa [cntC] using this
theorem cntC_le2 (ks : Nat → Nat) (n k : Nat) : cntC ks n k + (mem ks n k).length ≤ n := by
  rw [← cntC_next]
  exact cntC_le ks n (k + 1)
theorem cntC_end {ks : Nat → Nat} {n K : Nat} (h : ∀ j, j < n → ks j < K) : cntC ks n K = n := by
  unfold cntC
  rw [List.filter_eq_self.2 (fun i hi => by simpa using h i (List.mem_range.1 hi))]
  simp
def sumT (l : List Int) (ks : Nat → Nat) (n k j : Nat) : Int := (((mem ks n k).take j).map fun i => l.getD i 0).sum
theorem sumT_zero (l : List Int) (ks : Nat → Nat) (n k : Nat) : sumT l ks n k 0 = 0 := by simp [sumT]
theorem sumT_next {l : List Int} {ks : Nat → Nat} {n k j i : Nat} (hi : (mem ks n k)[j]? = some i) : sumT l ks n k (j + 1) = sumT l ks n k j + l.getD i 0 := by
  unfold sumT
  rw [List.take_add_one, hi]
  simp
theorem sumT_end (l : List Int) (ks : Nat → Nat) (n k : Nat) : sumT l ks n k (mem ks n k).length = sumK l ks n k := by
  unfold sumT sumK
  rw [List.take_length]
theorem take_sum : ∀ (L : List Int) (j : Nat), (∀ x ∈ L, 0 ≤ x) → 0 ≤ (L.take j).sum ∧ (L.take j).sum ≤ L.sum
  | [], j, _ => by simp
  | a :: L, 0, h => by
    have := take_sum L L.length (fun x hx => h x (by simp [hx]))
    rw [List.take_length] at this
    have := h a (by simp)
    simp
    omega
  | a :: L, j + 1, h => by
    have := take_sum L j (fun x hx => h x (by simp [hx]))
    have := h a (by simp)
    simp
    omega
theorem getD_pos {l : List Int} (h : ∀ x ∈ l, 1 ≤ x) (i : Nat) : 0 ≤ l.getD i 0 := by
  rw [List.getD_eq_getElem?_getD]
  cases hx : l[i]? with
  | none => simp
  | some x => have := h x (List.mem_of_getElem? hx); simp; omega
theorem sumT_le {l : List Int} (h : ∀ x ∈ l, 1 ≤ x) (ks : Nat → Nat) (n k j : Nat) : 0 ≤ sumT l ks n k j ∧ sumT l ks n k j ≤ sumK l ks n k := by
  unfold sumT sumK
  rw [List.map_take]
  exact take_sum _ _ (fun x hx => by
    obtain ⟨i, _, rfl⟩ := List.mem_map.1 hx
    exact getD_pos h i)
theorem sumK_mono {l : List Int} (h : ∀ x ∈ l, 1 ≤ x) (ks : Nat → Nat) (k : Nat) : ∀ (n j : Nat), j ≤ n → 0 ≤ sumK l ks j k ∧ sumK l ks j k ≤ sumK l ks n k
  | 0, j, hj => by
    have : j = 0 := by omega
    subst this
    simp [sumK, mem]
  | n + 1, j, hj => by
    rcases Nat.lt_or_ge j (n + 1) with z | z
    · have := sumK_mono h ks k n j (by omega)
      rw [sum_succ]
      have := getD_pos h n
      split <;> omega
    · have : j = n + 1 := by omega
      subst this
      refine ⟨?_, Int.le_refl _⟩
      have := sumK_mono h ks k n n (Nat.le_refl _)
      rw [sum_succ]
      have := getD_pos h n
      split <;> omega
theorem pack_num {most : Int} {l : List Int} {gs : List (List Int)} (h : packS l most = (gs, 0)) : 1 ≤ most ∧ most ≤ 1152921504606846976 ∧ ∀ x ∈ l, 1 ≤ x ∧ x ≤ most := by
  unfold packS at h
  split at h
  · injection h with _ h; cases h
  split at h
  · injection h with _ h; cases h
  rename_i h2
  split at h
  · injection h with _ h; cases h
  rename_i h3
  simp only [not_or, Bool.not_eq_true] at h2 h3
  refine ⟨by omega, by omega, fun x hx => ?_⟩
  have a1 := List.any_eq_false.1 h2.2.2 x hx
  have a2 := List.any_eq_false.1 h3 x hx
  simp at a1 a2
  omega
theorem pack_err {most : Int} {l : List Int} {gs : List (List Int)} {e : Int} (h : packS l most = (gs, e)) (he : e ≠ 0) : gs = [] := by
  unfold packS at h
  split at h
  · injection h with h _; exact h.symm
  split at h
  · injection h with h _; exact h.symm
  split at h
  · injection h with h _; exact h.symm
  · injection h with _ h; exact absurd h.symm he
end Go.Proofs.YtpkklmkeflddkaaGreat
