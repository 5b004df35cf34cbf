/- Chapter 19: what the groups of Groups are: the plain law of AggregateGrouped. -/
import Derived.Test.YtpkklmkeflddkaaGreatRc
import Derived.Test.YtpkklmkeflddkaaGreatQx
set_option linter.unusedVariables false
set_option linter.unusedSimpArgs false
namespace Go.Proofs.YtpkklmkeflddkaaGreat
open Go Go.RowKit
def pick (l : List Bun) (g : List Int) : List Bun := g.map fun i => l.getD i.toNat zBun
def fitOk (most : Int) (g : List Bun) : Prop := chkJ g = 0 ∧ crtS g < endS g ∧ ((payS g).length : Int) ≤ most
theorem fitB_ok {most : Int} {b : Bun} {g : List Bun} (h : fitB most b g = true) : fitOk most (g ++ [b]) := by
  unfold fitB at h
  simp only [Bool.and_eq_true, decide_eq_true_eq] at h
  exact ⟨h.1.1, h.1.2, h.2⟩
/-- the bundles below i in group k -/
def grpB (l : List Bun) (ks : Nat → Nat) (i k : Nat) : List Bun := (mem ks i k).map fun j => l.getD j zBun
theorem pick_grp (l : List Bun) (ks : Nat → Nat) (i k : Nat) : pick l (grpI ks i k) = grpB l ks i k := by
  unfold pick grpI grpB
  rw [List.map_map]
  rfl
structure GrInv (most : Int) (l : List Bun) (i : Nat) (ks : Nat → Nat) (st : GSt) : Prop where
  len : st.1.length = st.2.length
  at1 : ∀ k, k < st.2.length → st.1[k]? = some (grpI ks i k)
  at2 : ∀ k, k < st.2.length → st.2[k]? = some (grpB l ks i k)
  lt : ∀ j, j < i → ks j < st.2.length
  ne : ∀ k, k < st.2.length → ∃ j, j < i ∧ ks j = k
  fit : ∀ k, k < st.2.length → 1 < (mem ks i k).length → fitOk most (grpB l ks i k)
theorem grpB_succ (l : List Bun) (ks : Nat → Nat) (i k : Nat) : grpB l ks (i + 1) k = grpB l ks i k ++ if ks i == k then [l.getD i zBun] else [] := by
  unfold grpB
  rw [mem_succ, List.map_append]
  cases h : ks i == k <;> simp
theorem grK_le {most : Int} {b : Bun} {gb : List (List Bun)} : grK most b gb ≤ gb.length := List.findIdx_le_length
theorem grK_at {most : Int} {b : Bun} {gb : List (List Bun)} {g : List Bun} (h : gb[grK most b gb]? = some g) : fitB most b g = true := by
  have hl : grK most b gb < gb.length := by
    rcases Nat.lt_or_ge (grK most b gb) gb.length with z | z
    · exact z
    · rw [List.getElem?_eq_none z] at h; cases h
  have := List.findIdx_getElem (xs := gb) (p := fitB most b) (w := hl)
  rw [List.getElem?_eq_getElem hl] at h
  rw [← Option.some.inj h]
  exact this
theorem GrInv.step {most : Int} {l : List Bun} {i : Nat} {ks : Nat → Nat} {st : GSt} {b : Bun} (h : GrInv most l i ks st) (hn : l[i]? = some b) :
    GrInv most l (i + 1) (updK ks i (grK most b st.2)) (grStep most i b st) := by
  obtain ⟨gs, gb⟩ := st
  have hd : l.getD i zBun = b := by rw [List.getD_eq_getElem?_getD, hn]; rfl
  obtain ⟨K, hK⟩ : ∃ K, grK most b gb = K := ⟨_, rfl⟩
  have hKl : K ≤ gb.length := by rw [← hK]; exact grK_le
  have hlen := h.len
  have hat1 := h.at1
  have hat2 := h.at2
  have hlt := h.lt
  have hne := h.ne
  have hfit := h.fit
  simp only at hlen hat1 hat2 hlt hne hfit
  have hui : updK ks i K i = K := by unfold updK; rw [if_pos rfl]
  have huj : ∀ j, j < i → updK ks i K j = ks j := fun j hj => by unfold updK; rw [if_neg (by omega)]
  have hgm : ∀ k, grpI (updK ks i K) i k = grpI ks i k := fun k => by unfold grpI; rw [mem_upd (Nat.le_refl _)]
  have hgb : ∀ k, grpB l (updK ks i K) i k = grpB l ks i k := fun k => by unfold grpB; rw [mem_upd (Nat.le_refl _)]
  show GrInv most l (i + 1) (updK ks i (grK most b gb)) (grPut (grK most b gb) i b (grGrow (grK most b gb) (gs, gb)))
  rw [hK]
  rcases Nat.lt_or_ge K gb.length with z | z
  · have hg : grGrow K (gs, gb) = (gs, gb) := if_pos z
    rw [hg]
    have hKat := grK_at (most := most) (b := b) (gb := gb) (g := grpB l ks i K) (by rw [hK]; exact hat2 K z)
    have e1 : gs.getD K [] = grpI ks i K := by rw [List.getD_eq_getElem?_getD, hat1 K z]; rfl
    have e2 : gb.getD K [] = grpB l ks i K := by rw [List.getD_eq_getElem?_getD, hat2 K z]; rfl
    unfold grPut
    simp only
    rw [e1, e2]
    refine ⟨by simp [hlen], ?_, ?_, ?_, ?_, ?_⟩
    · intro k hk
      simp only [List.length_set] at hk
      rw [grp_succ, hui, List.getElem?_set, hgm]
      by_cases hkk : K = k
      · subst hkk
        rw [if_pos rfl, if_pos (by omega)]
        simp
      · rw [if_neg hkk, hat1 k hk]
        simp [hkk]
    · intro k hk
      simp only [List.length_set] at hk
      rw [grpB_succ, hui, List.getElem?_set, hgb, hd]
      by_cases hkk : K = k
      · subst hkk
        rw [if_pos rfl, if_pos (by omega)]
        simp
      · rw [if_neg hkk, hat2 k hk]
        simp [hkk]
    · intro j hj
      rw [List.length_set]
      rcases Nat.lt_or_ge j i with y | y
      · rw [huj j y]; exact hlt j y
      · have : j = i := by omega
        subst this
        rw [hui]; exact z
    · intro k hk
      rw [List.length_set] at hk
      obtain ⟨j, hj, hjk⟩ := hne k hk
      exact ⟨j, by omega, by rw [huj j hj]; exact hjk⟩
    · intro k hk hm
      rw [List.length_set] at hk
      rw [grpB_succ, hui, hgb, hd]
      rw [mem_succ, hui, mem_upd (Nat.le_refl _)] at hm
      by_cases hkk : K = k
      · subst hkk
        simp only [beq_self_eq_true, if_true]
        exact fitB_ok hKat
      · have hk2 : (K == k) = false := by rw [beq_eq_false_iff_ne]; exact hkk
        rw [hk2] at hm ⊢
        simp only [Bool.false_eq_true, if_false, List.append_nil] at hm ⊢
        exact hfit k hk hm
  · have hKe : K = gb.length := by omega
    have hg : grGrow K (gs, gb) = (gs ++ [[]], gb ++ [[]]) := if_neg (by simp only; omega)
    rw [hg]
    have hmem : mem ks i K = [] := by
      unfold mem
      refine List.filter_eq_nil_iff.2 fun j hj => ?_
      have := hlt j (List.mem_range.1 hj)
      simp
      omega
    have hs0 : grpB l ks i K = [] := by unfold grpB; rw [hmem]; rfl
    have hg0 : grpI ks i K = [] := by unfold grpI; rw [hmem]; rfl
    have e1 : (gs ++ [[]]).getD K [] = [] := by rw [List.getD_eq_getElem?_getD, List.getElem?_append_right (by omega), show K - gs.length = 0 from by omega]; rfl
    have e2 : (gb ++ [[]]).getD K [] = [] := by rw [List.getD_eq_getElem?_getD, List.getElem?_append_right (by omega), show K - gb.length = 0 from by omega]; rfl
    unfold grPut
    simp only
    rw [e1, e2]
    refine ⟨by simp [hlen], ?_, ?_, ?_, ?_, ?_⟩
    · intro k hk
      simp only [List.length_set, List.length_append, List.length_cons, List.length_nil] at hk
      rw [grp_succ, hui, List.getElem?_set, hgm]
      by_cases hkk : K = k
      · subst hkk
        rw [if_pos rfl, if_pos (by simp; omega), hg0]
        simp
      · rw [if_neg hkk, List.getElem?_append_left (by omega), hat1 k (by omega)]
        simp [hkk]
    · intro k hk
      simp only [List.length_set, List.length_append, List.length_cons, List.length_nil] at hk
      rw [grpB_succ, hui, List.getElem?_set, hgb, hd]
      by_cases hkk : K = k
      · subst hkk
        rw [if_pos rfl, if_pos (by simp; omega), hs0]
        simp
      · rw [if_neg hkk, List.getElem?_append_left (by omega), hat2 k (by omega)]
        simp [hkk]
    · intro j hj
      rw [List.length_set, List.length_append, List.length_cons, List.length_nil]
      rcases Nat.lt_or_ge j i with y | y
      · rw [huj j y]; have := hlt j y; omega
      · have : j = i := by omega
        subst this
        rw [hui]; omega
    · intro k hk
      rw [List.length_set, List.length_append, List.length_cons, List.length_nil] at hk
      by_cases hkk : k = K
      · exact ⟨i, by omega, by rw [hui, hkk]⟩
      obtain ⟨j, hj, hjk⟩ := hne k (by omega)
      exact ⟨j, by omega, by rw [huj j hj]; exact hjk⟩
    · intro k hk hm
      rw [List.length_set, List.length_append, List.length_cons, List.length_nil] at hk
      rw [grpB_succ, hui, hgb, hd]
      rw [mem_succ, hui, mem_upd (Nat.le_refl _)] at hm
      by_cases hkk : K = k
      · subst hkk
        rw [hmem] at hm
        simp at hm
      · have hk2 : (K == k) = false := by rw [beq_eq_false_iff_ne]; exact hkk
        rw [hk2] at hm ⊢
        simp only [Bool.false_eq_true, if_false, List.append_nil] at hm ⊢
        exact hfit k (by omega) hm
theorem group_inv {most : Int} {l : List Bun} : ∀ (r : List Bun) (i : Nat) (ks : Nat → Nat) (st : GSt), l.drop i = r → i ≤ l.length → GrInv most l i ks st → ∃ ks', GrInv most l l.length ks' (groupL most r i st)
  | [], i, ks, st, hr, hi, h => by
    have : l.length ≤ i := List.drop_eq_nil_iff.1 hr
    have : i = l.length := by omega
    subst this
    exact ⟨ks, h⟩
  | n :: r, i, ks, st, hr, hi, h => by
    have hn : l[i]? = some n := by
      have := congrArg (fun m : List Bun => m[0]?) hr
      simpa using this
    have hil : i < l.length := by
      rcases Nat.lt_or_ge i l.length with z | z
      · exact z
      · rw [List.getElem?_eq_none z] at hn; cases hn
    have hr' : l.drop (i + 1) = r := by
      have := congrArg List.tail hr
      simpa [List.tail_drop] using this
    exact group_inv r (i + 1) _ _ hr' hil (h.step hn)
theorem group_facts {most : Int} {l : List Bun} {gs : List (List Int)} (h : grS l most = (gs, 0)) : (∃ ks gb, GrInv most l l.length ks (gs, gb)) ∧ l.length ≤ 64 ∧ 1 ≤ most ∧ most ≤ 4096 := by
  unfold grS at h
  split at h
  · injection h with _ h; cases h
  split at h
  · injection h with _ h; cases h
  split at h
  · injection h with _ h; cases h
  split at h
  · injection h with _ h; cases h
  rename_i h1 _ _ h3
  injection h with h _
  obtain ⟨ks, hi⟩ := group_inv l 0 (fun _ => 0) ([], []) rfl (by omega) (⟨rfl, fun k hk => (by cases hk), fun k hk => (by cases hk), fun j hj => (by omega), fun k hk => (by cases hk), fun k hk => (by cases hk)⟩ : GrInv most l 0 (fun _ => 0) ([], []))
  exact ⟨⟨ks, (groupL most l 0 ([], [])).2, by rw [← h]; exact hi⟩, by omega, by omega, by omega⟩
theorem group_err {most : Int} {l : List Bun} {gs : List (List Int)} {e : Int} (h : grS l most = (gs, e)) (he : e ≠ 0) : gs = [] := by
  unfold grS at h
  split at h
  · injection h with h _; exact h.symm
  split at h
  · injection h with h _; exact h.symm
  split at h
  · injection h with h _; exact h.symm
  split at h
  · injection h with h _; exact h.symm
  · injection h with _ h; exact absurd h.symm he
/-- a group of several bundles can be joined -/
theorem fit_join {most : Int} {g : List Bun} (h : fitOk most g) (hm : most ≤ 4096) : (joinS g 1).2 = 0 ∧ (joinS g 1).1.payload = payS g := by
  obtain ⟨h1, h2, h3⟩ := h
  obtain ⟨y, r, rfl, _⟩ := chkJ_zero h1
  unfold joinS
  rw [if_neg (by rw [h1]; simp), if_neg (by omega), if_neg (by simpa using h2), if_neg (by omega)]
  exact ⟨rfl, rfl⟩
/-- the counters: met -/
def metX (ks : Nat → Nat) (n k j : Nat) : List Int := (List.range n).map fun i => if ks i < k ∨ (ks i = k ∧ i ∈ (mem ks n k).take j) then (1 : Int) else 0
theorem metX_len (ks : Nat → Nat) (n k j : Nat) : (metX ks n k j).length = n := by simp [metX]
theorem metX_get {ks : Nat → Nat} {n k j i : Nat} (hi : i < n) : (metX ks n k j)[i]? = some (if ks i < k ∨ (ks i = k ∧ i ∈ (mem ks n k).take j) then (1 : Int) else 0) := by
  unfold metX
  rw [List.getElem?_map, List.getElem?_range hi]
  rfl
theorem metX_zero (ks : Nat → Nat) (n : Nat) : metX ks n 0 0 = List.replicate n 0 := by
  unfold metX
  refine List.ext_getElem? fun i => ?_
  rw [List.getElem?_map]
  rcases Nat.lt_or_ge i n with z | z
  · rw [List.getElem?_range z]
    simp [z]
  · rw [List.getElem?_eq_none (by simpa using z), List.getElem?_eq_none (by simpa using z)]
    rfl
theorem metX_old {ks : Nat → Nat} {n k j i : Nat} (hi : (mem ks n k)[j]? = some i) : (metX ks n k j)[i]? = some 0 := by
  obtain ⟨h1, h2⟩ := mem_iff.1 (List.mem_of_getElem? hi)
  rw [metX_get h1, if_neg]
  rintro (h | ⟨_, h⟩)
  · omega
  · have hp : (mem ks n k).Pairwise (· < ·) := List.Pairwise.filter _ (List.pairwise_lt_range)
    obtain ⟨q, hq⟩ := List.getElem?_of_mem h
    have hqj : q < j := by
      rcases Nat.lt_or_ge q ((mem ks n k).take j).length with z | z
      · rw [List.length_take] at z; omega
      · rw [List.getElem?_eq_none z] at hq; cases hq
    rw [List.getElem?_take_of_lt hqj] at hq
    obtain ⟨a1, e1⟩ := List.getElem?_eq_some_iff.1 hq
    obtain ⟨a2, e2⟩ := List.getElem?_eq_some_iff.1 hi
    have := List.pairwise_iff_getElem.1 hp q j a1 a2 hqj
    omega
theorem metX_set {ks : Nat → Nat} {n k j i : Nat} (hi : (mem ks n k)[j]? = some i) : (metX ks n k j).set i 1 = metX ks n k (j + 1) := by
  obtain ⟨h1, h2⟩ := mem_iff.1 (List.mem_of_getElem? hi)
  have ht : (mem ks n k).take (j + 1) = (mem ks n k).take j ++ [i] := by rw [List.take_add_one, hi]; rfl
  refine List.ext_getElem? fun q => ?_
  rcases Nat.lt_or_ge q n with z | z
  · rw [List.getElem?_set, metX_get z, metX_get z, ht]
    by_cases hq : i = q
    · subst hq
      rw [if_pos rfl, if_pos (by rw [metX_len]; exact z), if_pos (Or.inr ⟨h2, by simp⟩)]
    · rw [if_neg hq]
      have : (q ∈ (mem ks n k).take j ++ [i]) ↔ q ∈ (mem ks n k).take j := by simp; omega
      simp only [this]
  · rw [List.getElem?_eq_none (by rw [List.length_set, metX_len]; exact z), List.getElem?_eq_none (by rw [metX_len]; exact z)]
theorem metX_next (ks : Nat → Nat) (n k : Nat) : metX ks n k (mem ks n k).length = metX ks n (k + 1) 0 := by
  refine List.ext_getElem? fun q => ?_
  rcases Nat.lt_or_ge q n with z | z
  · rw [metX_get z, metX_get z, List.take_length]
    have : (ks q < k ∨ (ks q = k ∧ q ∈ mem ks n k)) ↔ (ks q < k + 1 ∨ (ks q = k + 1 ∧ q ∈ (mem ks n (k + 1)).take 0)) := by
      simp only [mem_iff, List.take_zero, List.not_mem_nil, and_false, or_false]
      omega
    simp only [this]
  · rw [List.getElem?_eq_none (by rw [metX_len]; exact z), List.getElem?_eq_none (by rw [metX_len]; exact z)]
theorem metX_end {ks : Nat → Nat} {n K i : Nat} (h : ∀ j, j < n → ks j < K) (hi : i < n) : (metX ks n K 0)[i]? = some 1 := by
  rw [metX_get hi, if_pos (Or.inl (h i hi))]
/-- the reference's state: the groups alone say which bundles they hold -/
theorem pick_append (l : List Bun) (g : List Int) (i : Nat) (b : Bun) (hb : l[i]? = some b) : pick l (g ++ [(i : Int)]) = pick l g ++ [b] := by
  unfold pick
  rw [List.map_append]
  simp [List.getD_eq_getElem?_getD, hb]
theorem rjS_zero (l : List Bun) : (rjS l 0 == 0) = (decide (chkJ l = 0) && decide (crtS l < endS l)) := by
  unfold rjS
  by_cases h1 : chkJ l = 0
  · rw [if_neg (by simpa using h1), if_neg (by omega)]
    by_cases h2 : crtS l < endS l
    · rw [if_neg (by simpa using h2)]; simp [h1, h2]
    · rw [if_pos h2]; simp [h2]
  · rw [if_pos h1]; simp [h1]
end Go.Proofs.YtpkklmkeflddkaaGreat
