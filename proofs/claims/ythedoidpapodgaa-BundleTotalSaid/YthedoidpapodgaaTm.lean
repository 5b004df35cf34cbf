/- The plain law of a bundle's bytes: damage, sizes. -/
import Derived.Test.YthedoidpapodgaaTl
import Derived.Test.YthedoidpapodgaaJm
set_option linter.unusedVariables false
set_option linter.unusedSimpArgs false
namespace Go.Proofs.Ythedoidpapodgaa
open Go Go.RowKit

theorem decB_zero {s : List UInt8} (h : (decBS s).2 = 0) : s = bunE (decBS s).1 ∧ chkE (decBS s).1 = 0 := enc_decB (show decBS s = ((decBS s).1, 0) by rw [← h])
theorem damB_set {b : Bun} {i : Nat} {x y : UInt8} (hx : (bunE b)[i]? = some x) (hy : x ≠ y) : (decBS ((bunE b).set i y)).2 ≠ 0 := by
  intro h
  obtain ⟨h1, _⟩ := decB_zero h
  have h2 := list_split hx
  have h3 := set_split (y := y) hx
  rw [h1] at h3
  exact hy (frame_byte (u := textE (bodyE b)) (v := textE (bodyE (decBS ((bunE b).set i y)).1)) h2 h3)
theorem damB_cut {b : Bun} (hb : chkE b = 0) {k : Nat} (hk : k < (bunE b).length) : (decBS ((bunE b).take k)).2 ≠ 0 := by
  intro h
  obtain ⟨h1, h2⟩ := decB_zero h
  obtain ⟨z, hz⟩ : ∃ z, (decBS ((bunE b).take k)).1 = z := ⟨_, rfl⟩
  rw [hz] at h1 h2
  have e1 := open_seal (bodyE z) ((bunE b).drop k) (by have := bodyE_len h2; omega)
  have e2 := open_seal (bodyE b) [] (by have := bodyE_len hb; omega)
  rw [List.append_nil] at e2
  have e3 : sealE (bodyE z) ++ (bunE b).drop k = bunE b := by
    rw [show sealE (bodyE z) = (bunE b).take k from h1.symm]; exact List.take_append_drop _ _
  rw [e3] at e1
  rw [show sealE (bodyE b) = bunE b from rfl] at e2
  rw [e1] at e2
  obtain ⟨_, h5, _⟩ := trip e2
  have h6 : (sealE (bodyE z)).length = k := by
    rw [show sealE (bodyE z) = (bunE b).take k from h1.symm, List.length_take]; omega
  rw [h6] at h5
  omega
theorem damB_more {b : Bun} (hb : chkE b = 0) {m : List UInt8} (hm : m ≠ []) : decBS (bunE b ++ m) = (zBun, 11) := by
  have e1 := open_seal (bodyE b) m (by have := bodyE_len hb; omega)
  refine decB_size (s := bunE b ++ m) e1 ?_
  rw [List.length_append]
  have : m.length ≠ 0 := fun h => hm (List.length_eq_zero_iff.1 h)
  show ((bunE b).length : Int) ≠ _
  omega

theorem hi_mono : ∀ (f a b : Nat), a ≤ b → (hi f a).length ≤ (hi f b).length
  | 0, _, _, _ => by simp [hi]
  | f + 1, a, b, h => by
    rw [hi, hi]
    by_cases ha : a = 0
    · rw [if_pos ha]; simp
    · rw [if_neg ha, if_neg (by omega)]
      have := hi_mono f (a / 128) (b / 128) (Nat.div_le_div_right h)
      simp only [List.length_append, List.length_cons, List.length_nil]
      omega
theorem intE_mono {a b : Nat} (h : a ≤ b) : (intE (a : Int)).length ≤ (intE (b : Int)).length := by
  unfold intE
  have hz : ∀ n : Nat, zz (n : Int) = 2 * n := fun n => by unfold zz; rw [if_neg (by omega)]; omega
  rw [hz, hz]
  have := hi_mono 10 (2 * a / 128) (2 * b / 128) (Nat.div_le_div_right (by omega))
  simp only [List.length_append, List.length_cons, List.length_nil]
  omega
theorem sealE_mono {s t : List UInt8} (h : s.length < t.length) : (sealE s).length < (sealE t).length := by
  rw [sealE_len, sealE_len]
  have := intE_mono (Nat.le_of_lt h)
  omega
theorem textE_mono {s t : List UInt8} (h : s.length < t.length) : (textE s).length < (textE t).length := by
  unfold textE
  rw [List.length_append, List.length_append]
  have := intE_mono (Nat.le_of_lt h)
  omega
theorem siz_longer {b : Bun} {m : List UInt8} (hb : chkE b = 0) (hm : 0 < m.length) (h : chkE { b with payload := b.payload ++ m } = 0) : sizS b < sizS { b with payload := b.payload ++ m } := by
  unfold sizS
  rw [bunR_ok hb, bunR_ok h]
  have : (bodyE b).length < (bodyE { b with payload := b.payload ++ m }).length := by
    have ht := textE_mono (s := b.payload) (t := b.payload ++ m) (by rw [List.length_append]; omega)
    unfold bodyE
    simp only [List.length_append]
    show _ + ((((nums b).flatMap intE).length) + _) < _ + ((((nums b).flatMap intE).length) + _)
    omega
  have := sealE_mono this
  unfold bunE
  omega
theorem ordB_tail : ∀ {x : Blk} {l : List Blk}, ordB (x :: l) = true → ordB l = true
  | x, [], _ => rfl
  | x, y :: l, h => by rw [ordB_step, Bool.and_eq_true] at h; exact h.2
theorem blksE_tail {x : Blk} {l : List Blk} (h : blksE (x :: l) = 0) : blksE l = 0 := by
  obtain ⟨h1, h2, h3⟩ := blksE_zero h
  unfold blksE
  rw [firstE] at h2
  split at h2
  · rename_i hx; exact absurd h2 hx
  · rw [List.length_cons] at h1
    rw [if_neg (by omega), if_neg (by simp [h2]), if_pos (ordB_tail h3)]
theorem chk_tail {b : Bun} {x : Blk} {l : List Blk} (hb : chkE b = 0) (hl : b.blocks = x :: l) : chkE { b with blocks := l } = 0 := by
  have h3 := (chkE_zero hb).2.2.1
  rw [hl] at h3
  have h4 := blksE_tail h3
  rw [← hl] at h3
  unfold chkE at hb ⊢
  have e1 : idE { b with blocks := l } = idE b := rfl
  have e2 : flE { b with blocks := l } = flE b := rfl
  have e3 : payE { b with blocks := l } = payE b := rfl
  rw [h3] at hb
  rw [e1, e2, e3]
  show (if idE b ≠ 0 then idE b else if endE b.dk b.dn ≠ 0 then endE b.dk b.dn else if b.life < 1 ∨ 1099511627776 - b.crt < b.life then 2 else if b.prio < 0 ∨ 2 < b.prio then 8 else if flE b ≠ 0 then flE b else if blksE l ≠ 0 then blksE l else payE b) = 0
  rw [h4]
  exact hb
theorem siz_shorter {b : Bun} {x : Blk} {l : List Blk} (hb : chkE b = 0) (hl : b.blocks = x :: l) : sizS { b with blocks := l } < sizS b := by
  have h2 := chk_tail hb hl
  unfold sizS
  rw [bunR_ok hb, bunR_ok h2]
  have : (bodyE { b with blocks := l }).length < (bodyE b).length := by
    unfold bodyE
    simp only [List.length_append]
    show _ + ((((nums b).flatMap intE).length) + _) < _ + ((((nums b).flatMap intE).length) + _)
    have hx : 0 < (encB x).length := by rw [show (encB x).length = _ from sealE_len _]; omega
    have hi := intE_mono (a := l.length) (b := l.length + 1) (by omega)
    have e : (encA l).length < (encA b.blocks).length := by
      rw [hl]
      unfold encA
      rw [List.length_append, List.length_append, List.flatMap_cons, List.length_append, List.length_cons]
      omega
    show _ + (_ + ((encA l).length + _)) < _
    omega
  have := sealE_mono this
  unfold bunE
  omega
theorem siz_pay {b : Bun} (hb : chkE b = 0) : (b.payload.length : Int) < sizS b := by
  unfold sizS
  rw [bunR_ok hb]
  have := bunE_pos b
  omega
theorem siz_bad {b : Bun} (hb : chkE b ≠ 0) : sizS b = 0 := by unfold sizS; rw [bunR_bad hb]; rfl
theorem siz_top (b : Bun) : 0 ≤ sizS b ∧ sizS b ≤ 30000 := by unfold sizS; have := bunR_len b; omega
theorem RBlks.tail {w : World} {N c : Nat} {b o : Nat} {x : Blk} {l : List Blk} (h : RBlks w N (.slice (some ⟨b, o, none⟩) (x :: l).length c) (x :: l)) (c' : Nat) (hc : c' = c - 1) : RBlks w N (.slice (some ⟨b, o + 3, none⟩) l.length c') l := by
  subst hc
  obtain ⟨a, c2, e, h1, h2, h3, h4⟩ := h
  injection e with e1 _ e2
  subst e1 e2
  rw [List.length_cons] at h1
  refine ⟨_, _, rfl, by omega, by omega, (fun h => by cases h), fun _ => ?_⟩
  obtain ⟨b', o', e, hb, hi⟩ := h4 (by simp)
  injection e with e
  injection e with e1 e2
  subst e1 e2
  refine ⟨b, o + 3, rfl, hb, fun i y hy => ?_⟩
  have := hi (i + 1) y (by simpa using hy)
  rw [show o + (i + 1) * 3 = o + 3 + i * 3 by omega] at this
  exact this
theorem RBlks.none_ {w : World} {N c : Nat} {a : Option Addr} (hc : c ≤ maxLen) (ha : a = none → c = 0) : RBlks w N (.slice a 0 c) [] :=
  ⟨a, c, rfl, Nat.zero_le _, hc, ha, fun h => by simp at h⟩
end Go.Proofs.Ythedoidpapodgaa
