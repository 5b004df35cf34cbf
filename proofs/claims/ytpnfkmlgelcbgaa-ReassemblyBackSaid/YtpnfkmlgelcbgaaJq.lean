/- Joined by port.py: XGp -/
import Derived.Test.YtpnfkmlgelcbgaaJb
import Derived.Test.YtpnfkmlgelcbgaaJc
import Derived.Test.YtpnfkmlgelcbgaaJh
import Derived.Test.YtpnfkmlgelcbgaaJi
set_option linter.unusedVariables false
set_option linter.unusedSimpArgs false
/-! XGp -/
namespace Go.Proofs.Ytpnfkmlgelcbgaa
open Go Go.RowKit
theorem ordB_pw : ∀ {l : List Blk}, ordB l = true ↔ l.Pairwise (fun a b => a.kind < b.kind)
  | [] => by simp [ordB]
  | [x] => by simp [ordB]
  | x :: y :: r => by
    have ih := ordB_pw (l := y :: r)
    unfold ordB
    rw [Bool.and_eq_true, ih, decide_eq_true_eq, List.pairwise_cons (a := x)]
    constructor
    · rintro ⟨h1, h2⟩
      refine ⟨fun a ha => ?_, h2⟩
      rcases List.mem_cons.1 ha with rfl | ha
      · exact h1
      · exact Int.lt_trans h1 ((List.pairwise_cons.1 h2).1 a ha)
    · rintro ⟨h1, h2⟩
      exact ⟨h1 y (by simp), h2⟩
theorem firstE_all : ∀ {l : List Blk}, firstE l = 0 ↔ ∀ x ∈ l, blkE x = 0
  | [] => by simp [firstE]
  | x :: r => by
    have ih := firstE_all (l := r)
    unfold firstE
    by_cases h : blkE x = 0
    · simp [h, ih]
    · simp [h]
theorem blksE_filter {l : List Blk} (P : Blk → Bool) (h : blksE l = 0) : blksE (l.filter P) = 0 := by
  obtain ⟨h1, h2, h3⟩ := blksE_zero h
  have h4 : (l.filter P).length ≤ l.length := List.length_filter_le _ _
  have h5 : firstE (l.filter P) = 0 := firstE_all.2 fun x hx => firstE_all.1 h2 x (List.mem_filter.1 hx).1
  have h6 : ordB (l.filter P) = true := ordB_pw.2 (List.Pairwise.filter _ (ordB_pw.1 h3))
  unfold blksE
  rw [if_neg (by omega), if_neg (by simp [h5]), if_pos h6]
theorem cutE_zero {b : Bun} (h : cutE b = 0) : hasF b.flags 2 = false ∧ b.payload ≠ [] := by
  unfold cutE at h
  split at h
  · simp at h
  · split at h
    · simp at h
    · rename_i h1 h2
      exact ⟨by simpa using h1, h2⟩
theorem cutS_pay {b : Bun} {f t : Int} (h1 : b.off ≤ f) (h2 : f ≤ t) (h3 : t ≤ b.off + b.payload.length) : ((cutS b f t).payload.length : Int) = t - f := by
  simp [cutS]
  omega
theorem chk_cutS {b : Bun} {f t : Int} (h : chkE b = 0) (hc : cutE b = 0) (h1 : b.off ≤ f) (h2 : f < t) (h3 : t ≤ b.off + b.payload.length) : chkE (cutS b f t) = 0 := by
  obtain ⟨c1, c2, c3, c4, c5, c6, c7⟩ := chkE_zero h
  obtain ⟨v1, v2, v3, v4, v5, v6, v7, v8, v9, v10⟩ := valid_facts h
  obtain ⟨k1, k2⟩ := cutE_zero hc
  have k3 : 1 ≤ b.payload.length := by
    cases hp : b.payload with
    | nil => exact absurd hp k2
    | cons => simp
  have hp := cutS_pay h1 (by omega) h3
  have ht : (cutS b f t).tot = if b.tot = 0 then (b.payload.length : Int) else b.tot := rfl
  have ho : (cutS b f t).off = f := rfl
  have i1 : idB (cutS b f t) = true := by
    simp only [idB, decide_eq_true_eq] at c1 ⊢
    rw [ht, ho]
    refine ⟨c1.1, c1.2.1, c1.2.2.1, c1.2.2.2.1, c1.2.2.2.2.1, c1.2.2.2.2.2.1, Or.inr ?_⟩
    split
    · rename_i z
      have := v9 z
      omega
    · rename_i z
      have := v10 (by omega)
      omega
  have i2 : flB (cutS b f t) = true := by
    have e : (cutS b f t).flags = b.flags := rfl
    simp only [flB, e, k1, Bool.and_false, Bool.not_false, Bool.and_true] at c2 ⊢
    exact c2
  have i3 : blksE (cutS b f t).blocks = 0 := by
    have e : (cutS b f t).blocks = if 0 < f then b.blocks.filter keepC else b.blocks := rfl
    rw [e]
    split
    · exact blksE_filter _ c3
    · exact c3
  have i4 : payE (cutS b f t) = 0 := by
    unfold payE
    rw [if_neg (by omega), if_neg]
    rintro ⟨_, h5⟩
    apply h5
    rw [ho, hp, ht]
    refine ⟨by omega, ?_⟩
    split
    · rename_i z
      have := v9 z
      omega
    · rename_i z
      have := v10 (by omega)
      omega
  unfold chkE
  have e1 : idE (cutS b f t) = 0 := by unfold idE; rw [if_pos i1]
  have e2 : flE (cutS b f t) = 0 := by unfold flE; rw [if_pos i2]
  have e3 : (cutS b f t).life = b.life := rfl
  have e4 : (cutS b f t).crt = b.crt := rfl
  have e5 : (cutS b f t).prio = b.prio := rfl
  have e6 : endE (cutS b f t).dk (cutS b f t).dn = 0 := c7
  rw [e1, e2, i3, i4, e3, e4, e5, e6, if_neg (by simp), if_neg (by simp), if_neg (by omega), if_neg (by omega), if_neg (by simp), if_neg (by simp)]
theorem chk_fits {b : Bun} (h : chkE b = 0) : Fits b := by
  obtain ⟨v1, v2, v3, v4, v5, v6, v7, v8, v9, v10⟩ := valid_facts h
  refine ⟨by unfold maxLen; omega, fun x hx => ?_⟩
  have h1 := firstE_all.1 (blksE_zero (chkE_zero h).2.2.1).2.1 x hx
  unfold blkE at h1
  unfold maxLen
  split at h1
  · simp at h1
  · split at h1
    · simp at h1
    · split at h1
      · simp at h1
      · omega
theorem isF_cutS {b : Bun} {f t : Int} : cutE b = 0 → b.off ≤ f → f < t → t ≤ b.off + b.payload.length → cutE (cutS b f t) = 0 := fun hc h1 h2 h3 => by
  obtain ⟨k1, k2⟩ := cutE_zero hc
  have hp := cutS_pay h1 (by omega) h3
  unfold cutE
  rw [if_neg (by rw [show (cutS b f t).flags = b.flags from rfl, k1]; simp), if_neg]
  intro e
  rw [e] at hp
  simp at hp
  omega
/-- a cut of a cut is one cut, but for the blocks -/
theorem cut_cut {b : Bun} {f t f' t' : Int} (h1 : b.off ≤ f) (h2 : f ≤ f') (h3 : f' < t') (h4 : t' ≤ t) (h5 : t ≤ b.off + b.payload.length) (hz : 0 ≤ b.off) (hl : 0 < b.payload.length) :
    { cutS (cutS b f t) f' t' with blocks := [] } = ({ cutS b f' t' with blocks := [] } : Bun) := by
  simp only [cutS, Bun.mk.injEq]
  refine ⟨trivial, trivial, trivial, trivial, ?_, trivial, trivial, trivial, trivial, trivial, trivial, ?_⟩
  · refine if_neg ?_
    show ¬ (if b.tot = 0 then (b.payload.length : Int) else b.tot) = 0
    by_cases z : b.tot = 0
    · rw [if_pos z]; omega
    · rw [if_neg z]; exact z
  · rw [List.drop_take, List.take_take, List.drop_drop]
    congr 1
    · omega
    · congr 1; omega
end Go.Proofs.Ytpnfkmlgelcbgaa
