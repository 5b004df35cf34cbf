/- Layer 14 (extension): Forward, the plain law. -/
import Derived.Test.YthgokfceakbjlaaAl
set_option linter.unusedVariables false
set_option linter.unusedSimpArgs false
namespace Go.Proofs.Ythgokfceakbjlaa
open Go Go.RowKit
attribute [local go_sem] B_getElem B_size B_app B_extract B_get B_toList

/-- v's row lies in neither of two blocks -/
def Sep (g1 g2 : Nat) (v : Value) (l : List Blk) : Prop := 0 < l.length → ∀ b o n c, v = .slice (some ⟨b, o, none⟩) n c → b ≠ g1 ∧ b ≠ g2
theorem Sep.of_arg {w : World} {N g1 g2 : Nat} {v : Value} {l : List Blk} (h : RBlks w N v l) (h1 : N ≤ g1) (h2 : N ≤ g2) : Sep g1 g2 v l := fun hp b o n c e => by
  obtain ⟨a, c', rfl, _, _, _, h4⟩ := h
  obtain ⟨b', o', e', hb, _⟩ := h4 hp
  subst e'
  injection e with e _ _
  injection e with e
  injection e with e _ _
  omega
theorem Sep.of_from {N g1 g2 : Nat} {v : Value} {l : List Blk} (h : RFrom N v) (h1 : g1 < N) (h2 : g2 < N) : Sep g1 g2 v l := fun _ b o n c e => by
  have := h _ _ _ e
  simp only at this
  omega
theorem RBlks.apart {w W : World} {N M g1 g2 : Nat} {v : Value} {l : List Blk} (h : RBlks w N v l) (hs : Sep g1 g2 v l) (k : ∀ b o, b ≠ g1 → b ≠ g2 → W.cell? ⟨b, o, none⟩ = w.cell? ⟨b, o, none⟩) (hM : N ≤ M) : RBlks W M v l := by
  obtain ⟨a, c, rfl, h1, h2, h3, h4⟩ := h
  refine ⟨a, c, rfl, h1, h2, h3, fun hp => ?_⟩
  obtain ⟨b, o, e, hb, hi⟩ := h4 hp
  subst e
  obtain ⟨s1, s2⟩ := hs hp _ _ _ _ rfl
  exact ⟨b, o, rfl, by omega, fun i x hx => (hi i x hx).keep fun o => k b o s1 s2⟩
theorem fits_set {b : Bun} {k : Int} {s : List UInt8} (h : Fits b) (hs : s.length ≤ maxLen) : Fits (setS b k s).1 := by
  unfold setS
  split
  · exact ⟨by simp [zBun], fun x hx => by simp [zBun] at hx⟩
  · rename_i hz
    refine ⟨h.1, fun x hx => ?_⟩
    obtain ⟨_, _, _, h4⟩ := putS_ok (Decidable.not_not.1 hz)
    simp only at hx
    rw [h4] at hx
    rcases mem_put hx with hx | rfl
    · exact h.2 x hx
    · unfold setBlk
      split <;> exact hs
theorem fits_z : Fits zBun := ⟨by simp [zBun], fun x hx => by simp [zBun] at hx⟩
theorem fits_age {b : Bun} {x : Int} (h : Fits b) : Fits (setAgeS b x).1 := by
  unfold setAgeS
  split
  · exact fits_z
  · split
    · exact fits_z
    · exact fits_set h (by have := (intE_len x).2; unfold maxLen; omega)
theorem fits_hop {b : Bun} {x y : Int} (h : Fits b) : Fits (setHopS b x y).1 := by
  unfold setHopS
  split
  · exact fits_z
  · split
    · exact fits_z
    · exact fits_set h (by have := (intE_len x).2; have := (intE_len y).2; rw [List.length_append]; unfold maxLen; omega)
theorem fits_vis {b : Bun} {n : Int} (h : Fits b) : Fits (visitS b n).1 := by
  unfold visitS
  split
  · exact fits_z
  · split
    · exact fits_z
    · split
      · exact fits_z
      · split
        · exact fits_z
        · refine fits_set h ?_
          obtain ⟨⟨l, E⟩, hg⟩ : ∃ q, getS b 3 = q := ⟨_, rfl⟩
          rw [hg]
          have := (visB_facts (get3_vis hg)).1
          unfold listE
          have h1 := (intE_len ((l ++ [n]).length : Int)).2
          have h2 := flat_size (l ++ [n])
          simp only [List.length_append, List.length_singleton] at h1 h2 ⊢
          unfold maxLen
          omega
/-- the bundle behind the age's turn, the hops' turn, the visit's turn -/
def fwdA (b : Bun) (el : Int) : Bun := if (getS b 1).2 = 0 then (setAgeS b ((ageS b).1 + el)).1 else b
def fwdH (b y : Bun) : Bun := if (getS b 2).2 = 0 then (setHopS y (hopS b).1 ((hopS b).2.1 + 1)).1 else y
def fwdV (b y : Bun) (n : Int) : Bun := if (getS b 3).2 = 0 then (visitS y n).1 else y
def fwdE (b : Bun) (n el : Int) : Int :=
  if chkE b ≠ 0 then 1 else if nodeB n = false ∨ el < 0 ∨ 1099511627776 < el then 2
  else if (getS b 1).2 = 11 ∨ (getS b 2).2 = 11 ∨ (getS b 3).2 = 11 then 11
  else if (getS b 1).2 = 0 ∧ b.life ≤ (ageS b).1 + el then 17
  else if (getS b 2).2 = 0 ∧ (hopS b).1 < (hopS b).2.1 + 1 then 4
  else if (getS b 3).2 = 0 ∧ (getS b 3).1.contains n = true then 27 else 0
def fwdS (b : Bun) (n el : Int) : Bun × Int := if fwdE b n el ≠ 0 then (zBun, fwdE b n el) else (fwdV b (fwdH b (fwdA b el)) n, 0)
/-- a bundle comes back; its blocks may be the argument's own -/
def FwdPost (r : Bun × Int) (w : World) (e : Ending) (w' : World) : Prop := ∃ u, e = .returned (.tuple #[.agg (bunC r.1 u).toArray, .int .i64 r.2]) ∧ RBlks w' w'.heap.size u r.1.blocks ∧ Below w.heap.size w w'
end Go.Proofs.Ythgokfceakbjlaa
