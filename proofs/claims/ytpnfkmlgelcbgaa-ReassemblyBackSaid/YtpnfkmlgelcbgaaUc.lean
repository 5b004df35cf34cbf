/- Chapter 18: what a valid partial bundle is; when nothing is missing: plain law. -/
import Derived.Test.YtpnfkmlgelcbgaaSv
set_option linter.unusedVariables false
set_option linter.unusedSimpArgs false
namespace Go.Proofs.Ytpnfkmlgelcbgaa
open Go Go.RowKit Iv
theorem chkP_full {p : Par} (h : chkP p = 0) : (chkE p.head = 0 ∧ p.head.tot ≤ 0 ∧ p.head.payload = [] ∧ hasF p.head.flags 2 = false) ∧ (1 ≤ p.data.length ∧ p.data.length ≤ 4096) ∧ chkSp p.known = 0 ∧ rngBad p.known p.data.length = false ∧ dataBad p.data p.known = false ∧ (0 < fromS p.known → (copyB p.head.blocks).length = p.head.blocks.length) := by
  have h0 := chkP_zero h
  unfold chkP at h
  split at h
  · cases h
  · split at h
    · cases h
    · split at h
      · exact absurd h (by assumption)
      · split at h
        · cases h
        · split at h
          · cases h
          · split at h
            · cases h
            · rename_i n1 n2 n3 n4 n5 n6
              refine ⟨h0.1, ⟨by omega, by omega⟩, h0.2.2.1, Bool.eq_false_iff.2 n4, Bool.eq_false_iff.2 n5, fun hf => ?_⟩
              by_cases e : (copyB p.head.blocks).length = p.head.blocks.length
              · exact e
              · exact absurd ⟨hf, e⟩ n6
theorem chkP_of {p : Par} (h1 : chkE p.head = 0 ∧ p.head.tot ≤ 0 ∧ p.head.payload = [] ∧ hasF p.head.flags 2 = false) (h2 : 1 ≤ p.data.length ∧ p.data.length ≤ 4096) (h3 : chkSp p.known = 0) (h4 : rngBad p.known p.data.length = false) (h5 : dataBad p.data p.known = false) (h6 : 0 < fromS p.known → (copyB p.head.blocks).length = p.head.blocks.length) : chkP p = 0 := by
  unfold chkP
  rw [if_neg (by rintro (h | h | h | h); exact h h1.1; omega; exact h h1.2.2.1; rw [h1.2.2.2] at h; cases h), if_neg (by omega), if_neg (by simp [h3]), if_neg (by simp [h4]), if_neg (by simp [h5]), if_neg (fun h => h.2 (h6 h.1))]
theorem Iv.NF.rebase {b b' : Int} {l : List Sp} (h : NF b l) (h0 : ∀ x, l[0]? = some x → b' < x.1) : NF b' l := by
  cases l with
  | nil => trivial
  | cons x r => exact ⟨h0 x rfl, h.2.1, h.2.2⟩
/-- the known indices lie within the data -/
theorem rng_ok {l : List Sp} {n : Int} {b : Int} (h : rngBad l n = false) (hn : NF b l) : NF (-1) l ∧ (∀ y, l[l.length - 1]? = some y → y.2 ≤ n) ∧ 0 < l.length := by
  unfold rngBad at h
  cases e0 : l[0]? with
  | none => rw [e0] at h; cases h
  | some x =>
    cases e1 : l[l.length - 1]? with
    | none => rw [e0, e1] at h; cases h
    | some y =>
      rw [e0, e1] at h
      simp only [Bool.or_eq_false_iff, decide_eq_false_iff_not] at h
      refine ⟨hn.rebase (fun x' hx' => ?_), fun y' hy' => ?_, ?_⟩
      · rw [e0] at hx'; cases hx'; omega
      · cases hy'; omega
      · rcases Nat.eq_zero_or_pos l.length with z | z
        · rw [List.eq_nil_of_length_eq_zero z] at e0; cases e0
        · exact z
theorem tot_gap : ∀ {l : List Sp} {b n : Int}, NF b l → 0 < l.length → (∀ y, l[l.length - 1]? = some y → y.2 ≤ n) → totS l ≤ n - b - l.length
  | [x], b, n, h, _, hl => by
    have h1 := h.1
    have h2 := h.2.1
    have h3 := hl x rfl
    simp [totS]; omega
  | x :: z :: r, b, n, h, _, hl => by
    have ih := tot_gap (l := z :: r) (n := n) h.2.2 (by simp) (fun y hy => hl y (by simpa using hy))
    have h1 := h.1
    have e : totS (x :: z :: r) = (x.2 - x.1) + totS (z :: r) := by simp [totS]
    rw [e]
    simp only [List.length_cons] at ih ⊢
    omega
theorem tot_iff {l : List Sp} {n b : Int} (h : rngBad l n = false) (hn : NF b l) : totS l ≤ n ∧ ((totS l < n) ↔ ¬ (l.length = 1 ∧ l[0]? = some (0, n))) := by
  obtain ⟨h1, h2, h3⟩ := rng_ok h hn
  have g := tot_gap h1 h3 h2
  refine ⟨by omega, fun hl hc => ?_, fun hc => ?_⟩
  · obtain ⟨x, rfl⟩ := List.length_eq_one_iff.1 hc.1
    have : x = (0, n) := by simpa using hc.2
    subst this
    simp [totS] at hl
  · rcases Nat.lt_or_ge 1 l.length with z | z
    · omega
    · obtain ⟨x, rfl⟩ := List.length_eq_one_iff.1 (by omega : l.length = 1)
      have h4 := h2 x rfl
      have h5 := h1.1
      rcases Int.lt_or_le (totS [x]) n with q | q
      · exact q
      · refine absurd ⟨rfl, ?_⟩ hc
        simp [totS] at q
        have e1 : x.1 = 0 := by omega
        have e2 : x.2 = n := by omega
        rw [← e1, ← e2]
        rfl
theorem totA_eq {l : List Sp} (h : chkSp l = 0) : totA l = totS l := if_neg (by simp [h])
end Go.Proofs.Ytpnfkmlgelcbgaa
