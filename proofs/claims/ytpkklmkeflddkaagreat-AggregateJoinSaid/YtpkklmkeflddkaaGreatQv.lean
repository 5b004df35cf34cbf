/- Chapter 19: what Pack's groups are: the plain law of AggregatePacked. -/
import Derived.Test.YtpkklmkeflddkaaGreatQh
set_option linter.unusedVariables false
set_option linter.unusedSimpArgs false
namespace Go.Proofs.YtpkklmkeflddkaaGreat
open Go Go.RowKit
/-- the indices below i in group k -/
def mem (ks : Nat → Nat) (i k : Nat) : List Nat := (List.range i).filter fun j => ks j == k
def sumK (l : List Int) (ks : Nat → Nat) (i k : Nat) : Int := ((mem ks i k).map fun j => l.getD j 0).sum
def grpI (ks : Nat → Nat) (i k : Nat) : List Int := (mem ks i k).map fun (j : Nat) => (j : Int)
structure PkInv (most : Int) (l : List Int) (i : Nat) (ks : Nat → Nat) (st : PSt) : Prop where
  len : st.1.length = st.2.length
  at1 : ∀ k, k < st.2.length → st.1[k]? = some (grpI ks i k)
  at2 : ∀ k, k < st.2.length → st.2[k]? = some (sumK l ks i k)
  lt : ∀ j, j < i → ks j < st.2.length
  ne : ∀ k, k < st.2.length → ∃ j, j < i ∧ ks j = k
  top : ∀ k, k < st.2.length → sumK l ks i k ≤ most
  first : ∀ j, j < i → ∀ k, k < ks j → most < l.getD j 0 + sumK l ks j k
def updK (ks : Nat → Nat) (i k : Nat) : Nat → Nat := fun j => if j = i then k else ks j
theorem mem_upd {ks : Nat → Nat} {i k m j : Nat} (h : j ≤ i) : mem (updK ks i m) j k = mem ks j k := by
  unfold mem
  refine List.filter_congr fun x hx => ?_
  have := List.mem_range.1 hx
  unfold updK
  rw [if_neg (by omega)]
theorem sum_upd {l : List Int} {ks : Nat → Nat} {i k m j : Nat} (h : j ≤ i) : sumK l (updK ks i m) j k = sumK l ks j k := by unfold sumK; rw [mem_upd h]
theorem mem_succ (ks : Nat → Nat) (i k : Nat) : mem ks (i + 1) k = mem ks i k ++ if ks i == k then [i] else [] := by
  unfold mem
  rw [List.range_succ, List.filter_append]
  congr 1
  cases h : ks i == k <;> simp [h]
theorem sum_succ (l : List Int) (ks : Nat → Nat) (i k : Nat) : sumK l ks (i + 1) k = sumK l ks i k + if ks i == k then l.getD i 0 else 0 := by
  unfold sumK
  rw [mem_succ, List.map_append, List.sum_append]
  cases h : ks i == k <;> simp
theorem grp_succ (ks : Nat → Nat) (i k : Nat) : grpI ks (i + 1) k = grpI ks i k ++ if ks i == k then [(i : Int)] else [] := by
  unfold grpI
  rw [mem_succ, List.map_append]
  cases h : ks i == k <;> simp
theorem pk_ge {most n : Int} {ss : List Int} {k : Nat} {s : Int} (hk : k < pkK most n ss) (hs : ss[k]? = some s) : most < n + s := by
  have := List.not_of_lt_findIdx hk
  have hl : k < ss.length := by
    rcases Nat.lt_or_ge k ss.length with z | z
    · exact z
    · rw [List.getElem?_eq_none z] at hs; cases hs
  rw [List.getElem?_eq_getElem hl] at hs
  have hs := Option.some.inj hs
  rw [hs] at this
  simp at this
  omega
theorem PkInv.step {most : Int} {l : List Int} {i : Nat} {ks : Nat → Nat} {st : PSt} {n : Int} (h : PkInv most l i ks st) (hn : l[i]? = some n) (hm : n ≤ most) :
    PkInv most l (i + 1) (updK ks i (pkK most n st.2)) (pkStep most i n st) := by
  obtain ⟨gs, ss⟩ := st
  have hd : l.getD i 0 = n := by rw [List.getD_eq_getElem?_getD, hn]; rfl
  obtain ⟨K, hK⟩ : ∃ K, pkK most n ss = K := ⟨_, rfl⟩
  have hKl : K ≤ ss.length := by rw [← hK]; exact pkK_le
  have hlen := h.len
  have hat1 := h.at1
  have hat2 := h.at2
  have hlt := h.lt
  have hne := h.ne
  have htop := h.top
  have hfi := h.first
  simp only at hlen hat1 hat2 hlt hne htop
  have hui : updK ks i K i = K := by unfold updK; rw [if_pos rfl]
  have huj : ∀ j, j < i → updK ks i K j = ks j := fun j hj => by unfold updK; rw [if_neg (by omega)]
  have hge : ∀ k, k < K → most < n + sumK l ks i k := fun k hk => pk_ge (by rw [hK]; exact hk) (hat2 k (by omega))
  have hfirst : ∀ j, j < i + 1 → ∀ k, k < updK ks i K j → most < l.getD j 0 + sumK l (updK ks i K) j k := by
    intro j hj k hk
    rw [sum_upd (by omega)]
    rcases Nat.lt_or_ge j i with z | z
    · rw [huj j z] at hk
      exact hfi j z k hk
    · have : j = i := by omega
      subst this
      rw [hui] at hk
      rw [hd]
      exact hge k hk
  show PkInv most l (i + 1) (updK ks i (pkK most n ss)) (pkPut (pkK most n ss) i n (pkGrow (pkK most n ss) (gs, ss)))
  rw [hK]
  rcases Nat.lt_or_ge K ss.length with z | z
  · have hg : pkGrow K (gs, ss) = (gs, ss) := if_pos z
    rw [hg]
    have hKat := pkK_at (most := most) (n := n) (ss := ss) (s := sumK l ks i K) (by rw [hK]; exact hat2 K z)
    have e1 : gs.getD K [] = grpI ks i K := by rw [List.getD_eq_getElem?_getD, hat1 K z]; rfl
    have e2 : ss.getD K 0 = sumK l ks i K := by rw [List.getD_eq_getElem?_getD, hat2 K z]; rfl
    unfold pkPut
    simp only
    rw [e1, e2]
    refine ⟨by simp [hlen], ?_, ?_, ?_, ?_, ?_, hfirst⟩
    · intro k hk
      simp only [List.length_set] at hk
      rw [grp_succ, hui, List.getElem?_set]
      by_cases hkk : K = k
      · subst hkk
        rw [if_pos rfl, if_pos (by omega)]
        unfold grpI
        rw [mem_upd (Nat.le_refl _)]
        simp
      · rw [if_neg hkk, hat1 k hk]
        unfold grpI
        rw [mem_upd (Nat.le_refl _)]
        simp [hkk]
    · intro k hk
      simp only [List.length_set] at hk
      rw [sum_succ, hui, List.getElem?_set, sum_upd (Nat.le_refl _), hd]
      by_cases hkk : K = k
      · subst hkk
        rw [if_pos rfl, if_pos (by omega)]
        simp
      · rw [if_neg hkk, hat2 k hk]
        simp [hkk]
    · intro j hj
      rw [List.length_set]
      rcases Nat.lt_or_ge j i with y | y
      · rw [huj j y]; exact hlt j y
      · have : j = i := by omega
        subst this
        rw [hui]; exact z
    · intro k hk
      rw [List.length_set] at hk
      obtain ⟨j, hj, hjk⟩ := hne k hk
      exact ⟨j, by omega, by rw [huj j hj]; exact hjk⟩
    · intro k hk
      rw [List.length_set] at hk
      rw [sum_succ, hui, sum_upd (Nat.le_refl _), hd]
      by_cases hkk : K = k
      · subst hkk
        simp
        omega
      · have := htop k hk
        simp [hkk]
        exact this
  · have hKe : K = ss.length := by omega
    have hg : pkGrow K (gs, ss) = (gs ++ [[]], ss ++ [0]) := if_neg (by simp only; omega)
    rw [hg]
    have hmem : mem ks i K = [] := by
      unfold mem
      refine List.filter_eq_nil_iff.2 fun j hj => ?_
      have := hlt j (List.mem_range.1 hj)
      simp
      omega
    have hs0 : sumK l ks i K = 0 := by unfold sumK; rw [hmem]; rfl
    have hg0 : grpI ks i K = [] := by unfold grpI; rw [hmem]; rfl
    have e1 : (gs ++ [[]]).getD K [] = [] := by rw [List.getD_eq_getElem?_getD, List.getElem?_append_right (by omega), show K - gs.length = 0 from by omega]; rfl
    have e2 : (ss ++ [0]).getD K 0 = 0 := by rw [List.getD_eq_getElem?_getD, List.getElem?_append_right (by omega), show K - ss.length = 0 from by omega]; rfl
    unfold pkPut
    simp only
    rw [e1, e2]
    refine ⟨by simp [hlen], ?_, ?_, ?_, ?_, ?_, hfirst⟩
    · intro k hk
      simp only [List.length_set, List.length_append, List.length_cons, List.length_nil] at hk
      rw [grp_succ, hui, List.getElem?_set]
      by_cases hkk : K = k
      · subst hkk
        rw [if_pos rfl, if_pos (by simp; omega)]
        unfold grpI
        rw [mem_upd (Nat.le_refl _), hmem]
        simp
      · rw [if_neg hkk, List.getElem?_append_left (by omega), hat1 k (by omega)]
        unfold grpI
        rw [mem_upd (Nat.le_refl _)]
        simp [hkk]
    · intro k hk
      simp only [List.length_set, List.length_append, List.length_cons, List.length_nil] at hk
      rw [sum_succ, hui, List.getElem?_set, sum_upd (Nat.le_refl _), hd]
      by_cases hkk : K = k
      · subst hkk
        rw [if_pos rfl, if_pos (by simp; omega), hs0]
        simp
      · rw [if_neg hkk, List.getElem?_append_left (by omega), hat2 k (by omega)]
        simp [hkk]
    · intro j hj
      rw [List.length_set, List.length_append, List.length_cons, List.length_nil]
      rcases Nat.lt_or_ge j i with y | y
      · rw [huj j y]; have := hlt j y; omega
      · have : j = i := by omega
        subst this
        rw [hui]; omega
    · intro k hk
      rw [List.length_set, List.length_append, List.length_cons, List.length_nil] at hk
      by_cases hkk : k = K
      · exact ⟨i, by omega, by rw [hui, hkk]⟩
      obtain ⟨j, hj, hjk⟩ := hne k (by omega)
      exact ⟨j, by omega, by rw [huj j hj]; exact hjk⟩
    · intro k hk
      rw [List.length_set, List.length_append, List.length_cons, List.length_nil] at hk
      rw [sum_succ, hui, sum_upd (Nat.le_refl _), hd]
      by_cases hkk : K = k
      · subst hkk
        rw [hs0]
        simp
        exact hm
      · have := htop k (by omega)
        simp [hkk]
        exact this
theorem pack_inv {most : Int} {l : List Int} (hm : ∀ n ∈ l, n ≤ most) : ∀ (r : List Int) (i : Nat) (ks : Nat → Nat) (st : PSt), l.drop i = r → i ≤ l.length → PkInv most l i ks st → ∃ ks', PkInv most l l.length ks' (packL most r i st)
  | [], i, ks, st, hr, hi, h => by
    have : l.length ≤ i := List.drop_eq_nil_iff.1 hr
    have : i = l.length := by omega
    subst this
    exact ⟨ks, h⟩
  | n :: r, i, ks, st, hr, hi, h => by
    have hn : l[i]? = some n := by
      have := congrArg (fun m : List Int => m[0]?) hr
      simpa using this
    have hil : i < l.length := by
      rcases Nat.lt_or_ge i l.length with z | z
      · exact z
      · rw [List.getElem?_eq_none z] at hn; cases hn
    have hr' : l.drop (i + 1) = r := by
      have := congrArg List.tail hr
      simpa [List.tail_drop] using this
    exact pack_inv hm r (i + 1) _ _ hr' hil (h.step hn (hm n (List.mem_of_getElem? hn)))
theorem pack_facts {most : Int} {l : List Int} {gs : List (List Int)} (h : packS l most = (gs, 0)) : ∃ ks ss, PkInv most l l.length ks (gs, ss) := by
  unfold packS at h
  split at h
  · injection h with _ h; cases h
  split at h
  · injection h with _ h; cases h
  split at h
  · injection h with _ h; cases h
  rename_i h3
  injection h with h _
  have hm : ∀ n ∈ l, n ≤ most := fun n hn => by
    have := List.any_eq_false.1 (by simpa using h3 : l.any (fun n => decide (n > most)) = false) n hn
    simp at this
    omega
  obtain ⟨ks, hi⟩ := pack_inv hm l 0 (fun _ => 0) ([], []) rfl (by omega) ⟨rfl, fun k hk => (by cases hk), fun k hk => (by cases hk), fun j hj => (by omega), fun k hk => (by cases hk), fun k hk => (by cases hk), fun j hj => by omega⟩
  exact ⟨ks, (packL most l 0 ([], [])).2, by rw [← h]; exact hi⟩
end Go.Proofs.YtpkklmkeflddkaaGreat
