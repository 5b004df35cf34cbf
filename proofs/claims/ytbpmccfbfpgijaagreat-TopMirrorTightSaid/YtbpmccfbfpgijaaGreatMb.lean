/- TopMirrorTight: the passes of latest.times: plain. -/
import Derived.Test.YtbpmccfbfpgijaaGreatMa
set_option linter.unusedVariables false
namespace Go.Proofs.YtbpmccfbfpgijaaGreat.Mt
open Go Go.Proofs.YtbpmccfbfpgijaaGreat
def at_ (L : List Int) (v : Nat) : Int := L.getD v (-1)
theorem at_set (L : List Int) (i : Nat) (t : Int) (v : Nat) (hi : i < L.length) : at_ (L.set i t) v = if v = i then t else at_ L v := by
  unfold at_
  rw [List.getD_eq_getElem?_getD, List.getD_eq_getElem?_getD, List.getElem?_set]
  by_cases h : i = v
  · subst h; simp [hi]
  · rw [if_neg h, if_neg (fun e => h e.symm)]
/-- one contact, in a pass -/
def better (d : Con → Int) (dst : Nat) (L : List Int) (c : Con) : Prop := cf c ≠ dst ∧ at_ L (cf c) < bgn d c (at_ L (ct c))
instance (d : Con → Int) (dst : Nat) (L : List Int) (c : Con) : Decidable (better d dst L c) := by unfold better; exact inferInstance
def impr (d : Con → Int) (dst : Nat) (L : List Int) (c : Con) : List Int := if better d dst L c then L.set (cf c) (bgn d c (at_ L (ct c))) else L
structure LInv (d : Con → Int) (dst : Nat) (D : Int) (cs : List Con) (n : Nat) (L : List Int) : Prop where
  len : L.length = n
  top : at_ L dst = D
  lo : ∀ v, -1 ≤ at_ L v
  hi : ∀ v, at_ L v ≤ D
  sup : ∀ v, v ≠ dst → 0 ≤ at_ L v → ∃ c ∈ cs, cf c = v ∧ at_ L v ≤ bgn d c (at_ L (ct c))
def msr (D : Int) (L : List Int) : Nat := (L.map fun x => (D - x).toNat).sum
theorem bgn_hi {d : Con → Int} {c : Con} {b D : Int} (h : b ≤ D) (h0 : -1 ≤ D) (hd : 1 ≤ d c ∧ 1 ≤ c.rg ∧ 0 ≤ c.st) : bgn d c b ≤ D := by
  unfold bgn
  split
  · exact h0
  · split <;> omega
theorem msr_set {D t : Int} : ∀ {L : List Int} {i : Nat}, i < L.length → at_ L i < t → t ≤ D → msr D (L.set i t) < msr D L
  | x :: L, 0, _, h, h2 => by
    have h' : x < t := h
    unfold msr
    simp only [List.set_cons_zero, List.map_cons, List.sum_cons]
    omega
  | x :: L, i + 1, hi, h, h2 => by
    have := msr_set (L := L) (i := i) (by simpa using hi) h h2
    unfold msr at this ⊢
    simp only [List.set_cons_succ, List.map_cons, List.sum_cons]
    omega
theorem LInv.impr {d : Con → Int} {dst : Nat} {D : Int} {cs : List Con} {n : Nat} {L : List Int} (h : LInv d dst D cs n L) (hd : Pos d cs) (hD : -1 ≤ D) {c : Con} (hc : c ∈ cs) (hn : cf c < n) :
    LInv d dst D cs n (impr d dst L c) ∧ (∀ v, at_ L v ≤ at_ (Mt.impr d dst L c) v) ∧ (better d dst L c → msr D (Mt.impr d dst L c) < msr D L) := by
  unfold Mt.impr
  by_cases hb : better d dst L c
  · rw [if_pos hb]
    have hi : cf c < L.length := by rw [h.len]; exact hn
    have hp := hd c hc
    have ht := bgn_hi (h.hi (ct c)) hD hp
    obtain ⟨b1, b2⟩ := hb
    have hup : ∀ v, at_ L v ≤ at_ (L.set (cf c) (bgn d c (at_ L (ct c)))) v := fun v => by
      rw [at_set _ _ _ _ hi]
      split
      · rename_i e; rw [e]; omega
      · exact Int.le_refl _
    refine ⟨⟨by rw [List.length_set]; exact h.len, ?_, fun v => Int.le_trans (h.lo v) (hup v), fun v => ?_, fun v hv h0 => ?_⟩, hup, fun _ => msr_set hi b2 ht⟩
    · rw [at_set _ _ _ _ hi, if_neg (fun e => b1 e.symm)]; exact h.top
    · rw [at_set _ _ _ _ hi]
      split
      · exact ht
      · exact h.hi v
    · rw [at_set _ _ _ _ hi] at h0 ⊢
      by_cases e : v = cf c
      · rw [if_pos e]
        exact ⟨c, hc, e.symm, bgn_mono (hup (ct c)) (h.lo _) hp.2.2⟩
      · rw [if_neg e] at h0 ⊢
        obtain ⟨c', hc', e', le'⟩ := h.sup v hv h0
        exact ⟨c', hc', e', Int.le_trans le' (bgn_mono (hup (ct c')) (h.lo _) (hd c' hc').2.2)⟩
  · rw [if_neg hb]
    exact ⟨h, fun v => Int.le_refl _, fun h' => absurd h' hb⟩
/-- nothing is better any more -/
theorem LInv.done {d : Con → Int} {dst : Nat} {D : Int} {cs : List Con} {n : Nat} {L : List Int} (h : LInv d dst D cs n L) (hn : ∀ c ∈ cs, ¬ better d dst L c) :
    (∀ c ∈ cs, cf c ≠ dst → bgn d c (at_ L (ct c)) ≤ at_ L (cf c)) ∧ ∀ v, v ≠ dst → 0 ≤ at_ L v → ∃ c ∈ cs, cf c = v ∧ bgn d c (at_ L (ct c)) = at_ L v := by
  have h1 : ∀ c ∈ cs, cf c ≠ dst → bgn d c (at_ L (ct c)) ≤ at_ L (cf c) := fun c hc hf => Int.not_lt.1 fun hl => hn c hc ⟨hf, hl⟩
  refine ⟨h1, fun v hv h0 => ?_⟩
  obtain ⟨c, hc, e, hle⟩ := h.sup v hv h0
  refine ⟨c, hc, e, ?_⟩
  have := h1 c hc (by rw [e]; exact hv)
  rw [e] at this
  omega
end Go.Proofs.YtbpmccfbfpgijaaGreat.Mt
