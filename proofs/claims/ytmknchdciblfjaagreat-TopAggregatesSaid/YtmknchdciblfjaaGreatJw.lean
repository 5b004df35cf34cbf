/- Joined by port.py: XGp XGq XTl -/
import Derived.Test.YtmknchdciblfjaaGreatJs
import Derived.Test.YtmknchdciblfjaaGreatJa
import Derived.Test.YtmknchdciblfjaaGreatJb
import Derived.Test.YtmknchdciblfjaaGreatJc
import Derived.Test.YtmknchdciblfjaaGreatJe
import Derived.Test.YtmknchdciblfjaaGreatJh
import Derived.Test.YtmknchdciblfjaaGreatJm
import Derived.Test.YtmknchdciblfjaaGreatJo
import Derived.Test.YtmknchdciblfjaaGreatJp
import Derived.Test.YtmknchdciblfjaaGreatJqz
import Derived.Test.YtmknchdciblfjaaGreatKaz
set_option linter.unusedVariables false
set_option linter.unusedSimpArgs false
/-! XGp -/
namespace Go.Proofs.YtmknchdciblfjaaGreat
open Go Go.RowKit
theorem ordB_pw : ∀ {l : List Blk}, ordB l = true ↔ l.Pairwise (fun a b => a.kind < b.kind)
  | [] => by simp [ordB]
  | [x] => by simp [ordB]
  | x :: y :: r => by
    have ih := ordB_pw (l := y :: r)
    unfold ordB
    rw [Bool.and_eq_true, ih, decide_eq_true_eq, List.pairwise_cons (a := x)]
    constructor
    · rintro ⟨h1, h2⟩
      refine ⟨fun a ha => ?_, h2⟩
      rcases List.mem_cons.1 ha with rfl | ha
      · exact h1
      · exact Int.lt_trans h1 ((List.pairwise_cons.1 h2).1 a ha)
    · rintro ⟨h1, h2⟩
      exact ⟨h1 y (by simp), h2⟩
theorem firstE_all : ∀ {l : List Blk}, firstE l = 0 ↔ ∀ x ∈ l, blkE x = 0
  | [] => by simp [firstE]
  | x :: r => by
    have ih := firstE_all (l := r)
    unfold firstE
    by_cases h : blkE x = 0
    · simp [h, ih]
    · simp [h]
theorem blksE_filter {l : List Blk} (P : Blk → Bool) (h : blksE l = 0) : blksE (l.filter P) = 0 := by
  obtain ⟨h1, h2, h3⟩ := blksE_zero h
  have h4 : (l.filter P).length ≤ l.length := List.length_filter_le _ _
  have h5 : firstE (l.filter P) = 0 := firstE_all.2 fun x hx => firstE_all.1 h2 x (List.mem_filter.1 hx).1
  have h6 : ordB (l.filter P) = true := ordB_pw.2 (List.Pairwise.filter _ (ordB_pw.1 h3))
  unfold blksE
  rw [if_neg (by omega), if_neg (by simp [h5]), if_pos h6]
theorem cutE_zero {b : Bun} (h : cutE b = 0) : hasF b.flags 2 = false ∧ b.payload ≠ [] := by
  unfold cutE at h
  split at h
  · simp at h
  · split at h
    · simp at h
    · rename_i h1 h2
      exact ⟨by simpa using h1, h2⟩
theorem cutS_pay {b : Bun} {f t : Int} (h1 : b.off ≤ f) (h2 : f ≤ t) (h3 : t ≤ b.off + b.payload.length) : ((cutS b f t).payload.length : Int) = t - f := by
  simp [cutS]
  omega
theorem chk_cutS {b : Bun} {f t : Int} (h : chkE b = 0) (hc : cutE b = 0) (h1 : b.off ≤ f) (h2 : f < t) (h3 : t ≤ b.off + b.payload.length) : chkE (cutS b f t) = 0 := by
  obtain ⟨c1, c2, c3, c4, c5, c6, c7⟩ := chkE_zero h
  obtain ⟨v1, v2, v3, v4, v5, v6, v7, v8, v9, v10⟩ := valid_facts h
  obtain ⟨k1, k2⟩ := cutE_zero hc
  have k3 : 1 ≤ b.payload.length := by
    cases hp : b.payload with
    | nil => exact absurd hp k2
    | cons => simp
  have hp := cutS_pay h1 (by omega) h3
  have ht : (cutS b f t).tot = if b.tot = 0 then (b.payload.length : Int) else b.tot := rfl
  have ho : (cutS b f t).off = f := rfl
  have i1 : idB (cutS b f t) = true := by
    simp only [idB, decide_eq_true_eq] at c1 ⊢
    rw [ht, ho]
    refine ⟨c1.1, c1.2.1, c1.2.2.1, c1.2.2.2.1, c1.2.2.2.2.1, c1.2.2.2.2.2.1, Or.inr ?_⟩
    split
    · rename_i z
      have := v9 z
      omega
    · rename_i z
      have := v10 (by omega)
      omega
  have i2 : flB (cutS b f t) = true := by
    have e : (cutS b f t).flags = b.flags := rfl
    simp only [flB, e, k1, Bool.and_false, Bool.not_false, Bool.and_true] at c2 ⊢
    exact c2
  have i3 : blksE (cutS b f t).blocks = 0 := by
    have e : (cutS b f t).blocks = if 0 < f then b.blocks.filter keepC else b.blocks := rfl
    rw [e]
    split
    · exact blksE_filter _ c3
    · exact c3
  have i4 : payE (cutS b f t) = 0 := by
    unfold payE
    rw [if_neg (by omega), if_neg]
    rintro ⟨_, h5⟩
    apply h5
    rw [ho, hp, ht]
    refine ⟨by omega, ?_⟩
    split
    · rename_i z
      have := v9 z
      omega
    · rename_i z
      have := v10 (by omega)
      omega
  unfold chkE
  have e1 : idE (cutS b f t) = 0 := by unfold idE; rw [if_pos i1]
  have e2 : flE (cutS b f t) = 0 := by unfold flE; rw [if_pos i2]
  have e3 : (cutS b f t).life = b.life := rfl
  have e4 : (cutS b f t).crt = b.crt := rfl
  have e5 : (cutS b f t).prio = b.prio := rfl
  have e6 : endE (cutS b f t).dk (cutS b f t).dn = 0 := c7
  rw [e1, e2, i3, i4, e3, e4, e5, e6, if_neg (by simp), if_neg (by simp), if_neg (by omega), if_neg (by omega), if_neg (by simp), if_neg (by simp)]
theorem chk_fits {b : Bun} (h : chkE b = 0) : Fits b := by
  obtain ⟨v1, v2, v3, v4, v5, v6, v7, v8, v9, v10⟩ := valid_facts h
  refine ⟨by unfold maxLen; omega, fun x hx => ?_⟩
  have h1 := firstE_all.1 (blksE_zero (chkE_zero h).2.2.1).2.1 x hx
  unfold blkE at h1
  unfold maxLen
  split at h1
  · simp at h1
  · split at h1
    · simp at h1
    · split at h1
      · simp at h1
      · omega
def partsR (b : Bun) (n : Int) (p : Bool) : List Bun × Int := if p = true then piecesR b n else splitR b n
/-- cuts' places rise from 0 to the length -/
structure Cuts (Ff : Nat → Nat) (K len : Nat) : Prop where
  zero : Ff 0 = 0
  top : Ff K = len
  step : ∀ k, k < K → Ff k < Ff (k + 1)
theorem Cuts.mono {Ff : Nat → Nat} {K len : Nat} (h : Cuts Ff K len) : ∀ {i j : Nat}, i ≤ j → j ≤ K → Ff i ≤ Ff j := by
  intro i j hij hj
  induction j with
  | zero => obtain rfl : i = 0 := by omega
            exact Nat.le_refl _
  | succ j ih =>
    rcases Nat.lt_or_ge i (j + 1) with hlt | hge
    · have := h.step j (by omega)
      have := ih (by omega) (by omega)
      omega
    · obtain rfl : i = j + 1 := by omega
      exact Nat.le_refl _
theorem Cuts.le {Ff : Nat → Nat} {K len : Nat} (h : Cuts Ff K len) {k : Nat} (hk : k ≤ K) : Ff k ≤ len := h.top ▸ h.mono hk (Nat.le_refl _)
def partC (b : Bun) (Ff : Nat → Nat) (k : Nat) : Bun := cutS b (b.off + (Ff k : Int)) (b.off + (Ff (k + 1) : Int))
theorem partsOf_eq (b : Bun) (Ff : Nat → Nat) (K : Nat) : partsOf b Ff K = (List.range K).map (partC b Ff) := by simp [partsOf, spans, partC, Function.comp_def]
theorem partsOf_get (b : Bun) (Ff : Nat → Nat) (K k : Nat) (h : k < K) : (partsOf b Ff K)[k]? = some (partC b Ff k) := by simp [partsOf_eq, h]
theorem partsOf_length (b : Bun) (Ff : Nat → Nat) (K : Nat) : (partsOf b Ff K).length = K := by simp [partsOf_eq]
theorem part_len {b : Bun} {Ff : Nat → Nat} {K k : Nat} (h : Cuts Ff K b.payload.length) (hk : k < K) : (partC b Ff k).payload.length = Ff (k + 1) - Ff k := by
  have h1 := h.step k hk
  have h2 := h.le (show k + 1 ≤ K by omega)
  have := cutS_pay (b := b) (f := b.off + (Ff k : Int)) (t := b.off + (Ff (k + 1) : Int)) (by omega) (by omega) (by omega)
  unfold partC
  omega
theorem part_chk {b : Bun} {Ff : Nat → Nat} {K k : Nat} (hb : chkE b = 0) (hc : cutE b = 0) (h : Cuts Ff K b.payload.length) (hk : k < K) : chkE (partC b Ff k) = 0 := by
  have h1 := h.step k hk
  have h2 := h.le (show k + 1 ≤ K by omega)
  exact chk_cutS hb hc (by omega) (by omega) (by omega)
theorem sCuts {m len : Nat} (hm : 1 ≤ m) : Cuts (sF m len) (sK m len) len := ⟨by simp [sF], by
  have := sK_ge (len := len) hm
  unfold sF; omega, fun k hk => by
  have := sK_lt hm hk
  unfold sF
  rw [Nat.succ_mul]
  omega⟩
theorem pCuts {n len : Nat} (hn : 1 ≤ n) (hl : n ≤ len) : Cuts (pF n len) n len := ⟨by simp [pF], pF_n hn, fun k hk => by
  have h1 : 1 ≤ len / n := (Nat.one_le_div_iff (by omega)).2 hl
  rw [pF_succ]
  split <;> omega⟩
theorem sK_two {m len : Nat} (hm : 1 ≤ m) (h : m < len) : 2 ≤ sK m len := by
  have := sK_ge (len := len) hm
  rcases Nat.lt_or_ge (sK m len) 2 with h1 | h1
  · exfalso
    have : sK m len * m ≤ 1 * m := Nat.mul_le_mul_right _ (by omega)
    omega
  · exact h1
theorem split_cases (b : Bun) (n : Int) : ((splitR b n).2 ≠ 0 ∧ (splitR b n).1 = []) ∨ ((splitR b n).2 = 0 ∧ chkE b = 0 ∧ 1 ≤ n ∧
    (((b.payload.length : Int) ≤ n ∧ (splitR b n).1 = [b]) ∨ (cutE b = 0 ∧ n < (b.payload.length : Int) ∧ (splitR b n).1 = partsOf b (sF n.toNat b.payload.length) (sK n.toNat b.payload.length)))) := by
  unfold splitR
  split
  · left; simp
  · rename_i h0
    split
    · left; simp
    · split
      · right; exact ⟨rfl, by simpa using h0, by omega, Or.inl ⟨by assumption, rfl⟩⟩
      · split
        · left; rename_i h; exact ⟨h, rfl⟩
        · right; rename_i h; exact ⟨rfl, by simpa using h0, by omega, Or.inr ⟨by simpa using h, by omega, rfl⟩⟩
theorem pieces_cases (b : Bun) (n : Int) : ((piecesR b n).2 ≠ 0 ∧ (piecesR b n).1 = []) ∨ ((piecesR b n).2 = 0 ∧ chkE b = 0 ∧ 1 ≤ n ∧
    ((n = 1 ∧ (piecesR b n).1 = [b]) ∨ (cutE b = 0 ∧ 2 ≤ n ∧ n ≤ (b.payload.length : Int) ∧ (piecesR b n).1 = partsOf b (pF n.toNat b.payload.length) n.toNat))) := by
  unfold piecesR
  split
  · left; simp
  · rename_i h0
    split
    · left; simp
    · split
      · right; exact ⟨rfl, by simpa using h0, by omega, Or.inl ⟨by assumption, rfl⟩⟩
      · split
        · left; rename_i h; exact ⟨h, rfl⟩
        · rename_i h
          split
          · left; simp
          · right; exact ⟨rfl, by simpa using h0, by omega, Or.inr ⟨by simpa using h, by omega, by omega, rfl⟩⟩
theorem parts_cases (b : Bun) (n : Int) (p : Bool) : ((partsR b n p).2 ≠ 0 ∧ (partsR b n p).1 = []) ∨ ((partsR b n p).2 = 0 ∧ chkE b = 0 ∧
    ((partsR b n p).1 = [b] ∨ (cutE b = 0 ∧ ∃ Ff K, 2 ≤ K ∧ Cuts Ff K b.payload.length ∧ (partsR b n p).1 = partsOf b Ff K))) := by
  unfold partsR
  cases p
  · rw [if_neg (by simp)]
    rcases split_cases b n with h | ⟨h1, h2, h3, h | ⟨h4, h5, h6⟩⟩
    · exact .inl h
    · exact .inr ⟨h1, h2, .inl h.2⟩
    · exact .inr ⟨h1, h2, .inr ⟨h4, _, _, sK_two (by omega) (by omega), sCuts (by omega), h6⟩⟩
  · rw [if_pos rfl]
    rcases pieces_cases b n with h | ⟨h1, h2, h3, h | ⟨h4, h5, h6, h7⟩⟩
    · exact .inl h
    · exact .inr ⟨h1, h2, .inl h.2⟩
    · exact .inr ⟨h1, h2, .inr ⟨h4, _, _, by omega, pCuts (by omega) (by omega), h7⟩⟩
theorem parts_bytes_take {b : Bun} {Ff : Nat → Nat} {K : Nat} (h : Cuts Ff K b.payload.length) : ∀ k, k ≤ K → ((List.range k).map (partC b Ff)).flatMap (·.payload) = b.payload.take (Ff k)
  | 0, _ => by simp [h.zero]
  | k + 1, hk => by
    have ih := parts_bytes_take h k (by omega)
    rw [List.range_succ, List.map_append, List.flatMap_append, ih]
    have h1 := h.step k (by omega)
    have e : (partC b Ff k).payload = (b.payload.drop (Ff k)).take (Ff (k + 1) - Ff k) := by
      simp only [partC, cutS]
      congr 1
      · omega
      · congr 1; omega
    simp only [List.map_cons, List.map_nil, List.flatMap_cons, List.flatMap_nil, List.append_nil, e]
    have : Ff (k + 1) = Ff k + (Ff (k + 1) - Ff k) := by omega
    conv => rhs; rw [this, List.take_add]
theorem parts_bytes {b : Bun} {n : Int} {p : Bool} {l : List Bun} (h : partsR b n p = (l, 0)) : chkE b = 0 ∧ l.flatMap (·.payload) = b.payload ∧
    ∀ (k : Nat) (x : Bun), l[k]? = some x → chkE x = 0 ∧ x.off = b.off + (((l.take k).flatMap (·.payload)).length : Int) := by
  rcases parts_cases b n p with ⟨h1, _⟩ | ⟨_, h2, h3 | ⟨h4, Ff, K, hK, hC, h5⟩⟩
  · rw [h] at h1; exact absurd rfl h1
  · rw [h] at h3
    simp only at h3
    subst h3
    refine ⟨h2, by simp, fun k x hx => ?_⟩
    match k, hx with
    | 0, hx =>
      simp at hx
      subst hx
      exact ⟨h2, by simp⟩
  · rw [h] at h5
    simp only at h5
    subst h5
    have hb : ∀ k, k ≤ K → ((partsOf b Ff K).take k).flatMap (·.payload) = b.payload.take (Ff k) := fun k hk => by
      rw [← parts_bytes_take hC k hk, partsOf_eq, ← List.map_take, List.take_range, Nat.min_eq_left hk]
    refine ⟨h2, ?_, fun k x hx => ?_⟩
    · have := hb K (Nat.le_refl _)
      rw [List.take_of_length_le (by rw [partsOf_length]; exact Nat.le_refl _), hC.top, List.take_of_length_le (Nat.le_refl _)] at this
      exact this
    · have hk : k < K := by
        have := (List.getElem?_eq_some_iff.1 hx).1
        rw [partsOf_length] at this
        exact this
      rw [partsOf_get b Ff K k hk] at hx
      simp at hx
      subst hx
      refine ⟨part_chk h2 h4 hC hk, ?_⟩
      rw [hb k (by omega), List.length_take, Nat.min_eq_left (hC.le (by omega))]
      rfl
theorem split_sizes {b : Bun} {n : Int} {l : List Bun} (h : splitR b n = (l, 0)) : ∀ (k : Nat) (x : Bun), l[k]? = some x → (x.payload.length : Int) ≤ n ∧ (k + 1 < l.length → (x.payload.length : Int) = n) ∧ (1 < l.length → 0 < x.payload.length) := by
  rcases split_cases b n with ⟨h1, _⟩ | ⟨_, h2, h3, ⟨h4, h5⟩ | ⟨h4, h5, h6⟩⟩
  · rw [h] at h1; exact absurd rfl h1
  · rw [h] at h5
    simp only at h5
    subst h5
    intro k x hx
    match k, hx with
    | 0, hx =>
      simp at hx
      subst hx
      exact ⟨h4, by simp, by simp⟩
  · rw [h] at h6
    simp only at h6
    subst h6
    intro k x hx
    obtain ⟨m, rfl⟩ := Int.eq_ofNat_of_zero_le (show 0 ≤ n by omega)
    rw [Int.toNat_natCast] at *
    have hC := sCuts (m := m) (len := b.payload.length) (by omega)
    have hk : k < sK m b.payload.length := by
      have := (List.getElem?_eq_some_iff.1 hx).1
      rw [partsOf_length] at this
      exact this
    rw [partsOf_get _ _ _ _ hk] at hx
    simp at hx
    subst hx
    have e := part_len hC hk
    have s := hC.step k hk
    have hs : sF m b.payload.length (k + 1) ≤ sF m b.payload.length k + m := by
      unfold sF; rw [Nat.succ_mul]; omega
    have hx := sK_lt (len := b.payload.length) (m := m) (show 1 ≤ m by omega) hk
    refine ⟨by omega, fun hl => ?_, fun _ => by omega⟩
    rw [partsOf_length] at hl
    have hx2 := sK_lt (len := b.payload.length) (m := m) (show 1 ≤ m by omega) hl
    have : sF m b.payload.length (k + 1) = sF m b.payload.length k + m := by
      unfold sF; rw [Nat.succ_mul] at hx2 ⊢; omega
    omega
theorem isF_cutS {b : Bun} {f t : Int} : cutE b = 0 → b.off ≤ f → f < t → t ≤ b.off + b.payload.length → cutE (cutS b f t) = 0 := fun hc h1 h2 h3 => by
  obtain ⟨k1, k2⟩ := cutE_zero hc
  have hp := cutS_pay h1 (by omega) h3
  unfold cutE
  rw [if_neg (by rw [show (cutS b f t).flags = b.flags from rfl, k1]; simp), if_neg]
  intro e
  rw [e] at hp
  simp at hp
  omega
end Go.Proofs.YtmknchdciblfjaaGreat
/-! XGq -/
namespace Go.Proofs.YtmknchdciblfjaaGreat
open Go Go.RowKit Go.Shelf
attribute [local go_sem] B_getElem B_size B_app B_extract B_get B_toList
/-- an operation of a plan that is not wanted, an effect behind all loads -/
theorem plan_skipL {P : Program} {Q : Exit → Act → World → Prop} {S : World → Prop} {kd : List Nat} {l rl : List Oper} {i : Nat} {r : List Nat} {o : Oper} {a : Act} {w : World} (hd : l.drop i = o :: rl) (hk : kd.getD i 2 = 3) (hw : Region.wanted o (yielded l.toArray a.tmps) = false)
    (h : wpPlan P l.toArray Q S kd r (a.put o.dst undef) w) : wpPlan P l.toArray Q S kd (i :: r) a w := by
  have ho := drop_get hd
  unfold wpPlan
  rw [ho]
  simp only
  rw [if_neg (by omega), if_neg (by omega)]
  unfold wpOp
  simp only [ho, hw]
  exact h
end Go.Proofs.YtmknchdciblfjaaGreat
/-! XTl -/
namespace Go.Proofs.YtmknchdciblfjaaGreat
open Go Go.RowKit
theorem fits_valid {b : Bun} (h : chkE b = 0) : Fits b := by
  refine ⟨?_, blks_fit (blks_chk (chkE_zero h).2.2.1)⟩
  have := (payE_zero (chkE_zero h).2.2.2.1).1
  unfold maxLen; omega
end Go.Proofs.YtmknchdciblfjaaGreat
