/- TopMirrorTight: earliest arrivals and latest times: the plain law. -/
import Derived.Test.YtbpmccfbfpgijaaGreatYa
set_option linter.unusedVariables false
set_option linter.unusedSimpArgs false
namespace Go.Proofs.YtbpmccfbfpgijaaGreat.Mt
open Go Go.Proofs.YtbpmccfbfpgijaaGreat
def cf (c : Con) : Nat := c.fr.toNat
def ct (c : Con) : Nat := c.tt.toNat
/-- when it has arrived, if it is there at t -/
def arr (d : Con → Int) (c : Con) (t : Int) : Option Int := if max t c.st + d c ≤ c.en then some (max t c.st + d c + c.rg) else none
/-- when it must begin to arrive by a time -/
def bgn (d : Con → Int) (c : Con) (b : Int) : Int := if b = -1 then -1 else if min c.en (b - c.rg) - d c < c.st then -1 else min c.en (b - c.rg) - d c
def Pos (d : Con → Int) (cs : List Con) : Prop := ∀ c ∈ cs, 1 ≤ d c ∧ 1 ≤ c.rg ∧ 0 ≤ c.st
theorem bgn_le {d : Con → Int} {c : Con} {a b : Int} (h : a ≤ b) (hb : -1 ≤ a) : bgn d c a ≤ bgn d c b ∨ bgn d c a = -1 := by
  unfold bgn
  split
  · exact .inr rfl
  · split
    · exact .inr rfl
    · left
      rw [if_neg (by omega), if_neg (by omega)]
      omega
theorem bgn_ge (d : Con → Int) {c : Con} (b : Int) (hst : 0 ≤ c.st) : -1 ≤ bgn d c b := by
  unfold bgn
  split
  · omega
  · split <;> omega
theorem bgn_mono {d : Con → Int} {c : Con} {a b : Int} (h : a ≤ b) (hb : -1 ≤ a) (hst : 0 ≤ c.st) : bgn d c a ≤ bgn d c b := by
  rcases bgn_le (d := d) (c := c) h hb with h | h
  · exact h
  · have := bgn_ge d (c := c) b hst
    omega
theorem bgn_some {d : Con → Int} {c : Con} {b : Int} (h : 0 ≤ bgn d c b) : b ≠ -1 ∧ c.st ≤ bgn d c b ∧ bgn d c b + d c ≤ c.en ∧ bgn d c b + d c + c.rg ≤ b := by
  unfold bgn at h ⊢
  split at h
  · omega
  · rename_i h1
    rw [if_neg h1]
    split at h
    · omega
    · rename_i h2
      rw [if_neg h2]
      omega
theorem claimA {d : Con → Int} {cs : List Con} {F L : Nat → Int} {src dst : Nat} {D : Int} (hd : Pos d cs)
    (hs : ∀ v, 0 ≤ F v → v ≠ src → ∃ c ∈ cs, ct c = v ∧ 0 ≤ F (cf c) ∧ arr d c (F (cf c)) = some (F v))
    (hD : F dst = D) (h0 : 0 ≤ D) (hL0 : L dst = D) (hLf : ∀ c ∈ cs, cf c ≠ dst → bgn d c (L (ct c)) ≤ L (cf c)) : F src ≤ L src := by
  have key : ∀ (k : Nat) v, (F v).toNat ≤ k → 0 ≤ F v → F v ≤ L v → F v ≤ D → F src ≤ L src := by
    intro k
    induction k with
    | zero =>
      intro v hk h1 h2 h3
      by_cases hv : v = src
      · subst hv; exact h2
      · obtain ⟨c, hc, e1, e2, e3⟩ := hs v h1 hv
        have := hd c hc
        unfold arr at e3
        split at e3
        · injection e3 with e3
          omega
        · cases e3
    | succ k ih =>
      intro v hk h1 h2 h3
      by_cases hv : v = src
      · subst hv; exact h2
      · obtain ⟨c, hc, e1, e2, e3⟩ := hs v h1 hv
        have hp := hd c hc
        unfold arr at e3
        split at e3
        · rename_i hf
          injection e3 with e3
          have hne : cf c ≠ dst := fun e => by rw [e, hD] at e3; omega
          have hl := hLf c hc hne
          rw [e1] at hl
          have hb : F (cf c) ≤ bgn d c (L v) := by
            unfold bgn
            rw [if_neg (by omega), if_neg (by omega)]
            omega
          exact ih (cf c) (by omega) e2 (by omega) (by omega)
        · cases e3
  exact key _ dst (Nat.le_refl _) (by omega) (by omega) (by omega)
/-- a step along the latest times -/
theorem stepL {d : Con → Int} {cs : List Con} {F L : Nat → Int} (hd : Pos d cs) {c : Con} (hc : c ∈ cs)
    (hFc : ∀ c ∈ cs, 0 ≤ F (cf c) → ∀ t, arr d c (F (cf c)) = some t → 0 ≤ F (ct c) ∧ F (ct c) ≤ t)
    (h1 : bgn d c (L (ct c)) = L (cf c)) (h2 : 0 ≤ L (cf c)) (h3 : 0 ≤ F (cf c)) (h4 : F (cf c) ≤ L (cf c)) :
    (0 ≤ F (ct c) ∧ F (ct c) ≤ L (cf c) + d c + c.rg) ∧ L (cf c) + d c + c.rg ≤ L (ct c) := by
  rw [← h1] at h2 h4
  obtain ⟨b1, b2, b3, b4⟩ := bgn_some h2
  rw [← h1]
  have hf : max (F (cf c)) c.st + d c ≤ c.en := by omega
  have := hFc c hc h3 _ (if_pos hf)
  exact ⟨⟨this.1, by omega⟩, b4⟩
theorem claimB {d : Con → Int} {cs : List Con} {F L : Nat → Int} {src dst : Nat} {D : Int} (hd : Pos d cs)
    (hFc : ∀ c ∈ cs, 0 ≤ F (cf c) → ∀ t, arr d c (F (cf c)) = some t → 0 ≤ F (ct c) ∧ F (ct c) ≤ t)
    (hLs : ∀ v, v ≠ dst → 0 ≤ L v → ∃ c ∈ cs, cf c = v ∧ bgn d c (L (ct c)) = L v) (hLb : ∀ v, L v ≤ D) (hL0 : L dst = D)
    (h0 : 0 ≤ F src) (h1 : F src ≤ L src) : F dst ≤ D := by
  have key : ∀ (k : Nat) v, (D - L v).toNat ≤ k → 0 ≤ F v → F v ≤ L v → F dst ≤ D := by
    intro k
    induction k with
    | zero =>
      intro v hk h1 h2
      by_cases hv : v = dst
      · subst hv; omega
      · obtain ⟨c, hc, e1, e2⟩ := hLs v hv (by omega)
        subst e1
        have hp := hd c hc
        have := stepL hd hc hFc e2 (by omega) h1 h2
        have := hLb (ct c)
        omega
    | succ k ih =>
      intro v hk h1 h2
      by_cases hv : v = dst
      · subst hv; omega
      · obtain ⟨c, hc, e1, e2⟩ := hLs v hv (by omega)
        subst e1
        have hp := hd c hc
        have := stepL hd hc hFc e2 (by omega) h1 h2
        have := hLb (ct c)
        exact ih (ct c) (by omega) (by omega) (by omega)
  exact key _ src (Nat.le_refl _) h0 h1
end Go.Proofs.YtbpmccfbfpgijaaGreat.Mt
