/- The plain law of bundles' codes: what is written is read, and what is read was written. -/
import Derived.Test.YthedoidpapodgaaJm
import Derived.Test.YthedoidpapodgaaJn
set_option linter.unusedVariables false
set_option linter.unusedSimpArgs false
namespace Go.Proofs.Ythedoidpapodgaa
open Go Go.RowKit

def nums (b : Bun) : List Int := [b.src, b.crt, b.seq, b.off, b.tot, b.dk, b.dn, b.life, b.prio, b.flags]
def magicL : List UInt8 := [77, 66, 49]
def bodyE (b : Bun) : List UInt8 := textE magicL ++ ((nums b).flatMap intE ++ (encA b.blocks ++ textE b.payload))
/-- the bytes of a bundle -/
def bunE (b : Bun) : List UInt8 := sealE (bodyE b)
def bunR (b : Bun) : List UInt8 := if chkE b = 0 then bunE b else []
/-- f integers, one after the other, and their size -/
def rdNs : Nat → List UInt8 → Option (List Int × Nat)
  | 0, _ => some ([], 0)
  | f + 1, t => if (readS t).2.2 ≠ 0 then none else match rdNs f (t.drop (readS t).2.1.toNat) with
    | none => none
    | some (l, m) => some ((readS t).1 :: l, (readS t).2.1.toNat + m)
def mkBun (l : List Int) (bl : List Blk) (p : List UInt8) : Bun := ⟨l.getD 0 0, l.getD 1 0, l.getD 2 0, l.getD 3 0, l.getD 4 0, l.getD 5 0, l.getD 6 0, l.getD 7 0, l.getD 8 0, l.getD 9 0, bl, p⟩
/-- the bundle in a frame -/
def bodyD (t : List UInt8) : Option Bun :=
  let x := textS t
  if x.2.2 ≠ 0 ∨ x.1 ≠ magicL then none
  else match rdNs 10 (t.drop x.2.1.toNat) with
    | none => none
    | some (l, m) =>
      let y := decAS (t.drop (x.2.1.toNat + m))
      if y.2.2 ≠ 0 then none
      else
        let z := textS (t.drop (x.2.1.toNat + m + y.2.1))
        if z.2.2 ≠ 0 then none
        else if x.2.1.toNat + m + y.2.1 + z.2.1.toNat ≠ t.length then none
        else if chkE (mkBun l y.1 z.1) ≠ 0 then none else some (mkBun l y.1 z.1)
/-- what Decode answers -/
def decBS (s : List UInt8) : Bun × Int :=
  if (openS tailB s).2.2 ≠ 0 then (zBun, (openS tailB s).2.2)
  else if (openS tailB s).2.1 ≠ s.length then (zBun, 11)
  else match bodyD (openS tailB s).1 with
    | none => (zBun, 11)
    | some b => (b, 0)

theorem rdNs_enc : ∀ (l : List Int) (r : List UInt8), (∀ n ∈ l, -1152921504606846976 ≤ n ∧ n ≤ 1152921504606846976) → rdNs l.length (l.flatMap intE ++ r) = some (l, (l.flatMap intE).length)
  | [], r, _ => rfl
  | n :: l, r, h => by
    obtain ⟨h1, h2⟩ := h n (List.mem_cons_self ..)
    have hr := read_int n (l.flatMap intE ++ r) h1 h2
    have hi := rdNs_enc l r (fun m hm => h m (List.mem_cons_of_mem _ hm))
    have e : (n :: l).flatMap intE ++ r = intE n ++ (l.flatMap intE ++ r) := by simp
    rw [e, List.length_cons, rdNs, hr]
    simp only [Int.toNat_natCast, List.drop_left]
    rw [if_neg (by simp), hi]
    simp
theorem enc_rdNs : ∀ (f : Nat) (t : List UInt8) (l : List Int) (m : Nat), rdNs f t = some (l, m) → (∃ r, t = l.flatMap intE ++ r) ∧ m = (l.flatMap intE).length ∧ l.length = f
  | 0, t, l, m, h => by
    rw [rdNs] at h
    injection h with h
    injection h with h1 h2
    subst h1 h2
    exact ⟨⟨t, rfl⟩, rfl, rfl⟩
  | f + 1, t, l, m, h => by
    rw [rdNs] at h
    obtain ⟨⟨n, k, e⟩, hr⟩ : ∃ q, readS t = q := ⟨_, rfl⟩
    rw [hr] at h
    simp only at h
    split at h
    · cases h
    rename_i he
    obtain rfl : e = 0 := Decidable.not_not.1 he
    obtain ⟨r, rfl, rfl⟩ := int_read hr
    simp only [Int.toNat_natCast, List.drop_left] at h
    split at h
    · cases h
    rename_i l2 m2 h2
    injection h with h
    injection h with h1 h3
    subst h1 h3
    obtain ⟨⟨r2, rfl⟩, hm, hl⟩ := enc_rdNs f _ _ _ h2
    exact ⟨⟨r2, by simp⟩, by simp [hm], by simp [hl]⟩

theorem ordB_caE : ∀ (l : List Blk) (p : Option Int), firstE l = 0 → ordB l = true → (∀ x q, l.head? = some x → p = some q → q < x.kind) → caE p l = 0
  | [], _, _, _, _ => by simp [caE]
  | x :: l, p, h1, h2, h3 => by
    rw [firstE] at h1
    split at h1
    · rename_i h; exact absurd h1 h
    rename_i hx
    rw [caE, if_neg hx, if_neg (by rintro ⟨q, hq, hq2⟩; have := h3 x q rfl hq; omega)]
    refine ordB_caE l _ h1 ?_ ?_
    · unfold ordB at h2
      simp only [Bool.and_eq_true] at h2
      exact h2.2
    · intro y q hy hq
      injection hq with hq
      subst hq
      unfold ordB at h2
      simp only [Bool.and_eq_true] at h2
      cases l with
      | nil => cases hy
      | cons z l =>
        injection hy with hy
        subst hy
        simpa using h2.1
theorem blks_chk {l : List Blk} (h : blksE l = 0) : chkAll l = 0 := by
  obtain ⟨h1, h2, h3⟩ := blksE_zero h
  unfold chkAll
  rw [if_neg (by omega)]
  exact ordB_caE l none h2 h3 (fun _ _ _ h => by cases h)
theorem nums_len (b : Bun) : (nums b).length = 10 := rfl
theorem nums_ok {b : Bun} (h : chkE b = 0) : ∀ n ∈ nums b, -1152921504606846976 ≤ n ∧ n ≤ 1152921504606846976 := by
  have v := valid_facts h
  obtain ⟨h1, h2, h3, h4, h5, h6, h7⟩ := chkE_zero h
  have a := of_decide_eq_true h1
  have hd : -1152921504606846976 ≤ b.dk ∧ b.dk ≤ 1152921504606846976 ∧ -1152921504606846976 ≤ b.dn ∧ b.dn ≤ 1152921504606846976 := by
    unfold endE at h7
    split at h7
    · split at h7
      · omega
      · cases h7
    · split at h7
      · split at h7
        · omega
        · cases h7
      · cases h7
  intro n hn
  simp only [nums, List.mem_cons, List.not_mem_nil, or_false] at hn
  rcases hn with rfl | rfl | rfl | rfl | rfl | rfl | rfl | rfl | rfl | rfl <;> omega
theorem mk_nums (b : Bun) : mkBun (nums b) b.blocks b.payload = b := rfl
theorem nums_mk {l : List Int} (bl : List Blk) (p : List UInt8) (h : l.length = 10) : nums (mkBun l bl p) = l := by
  match l, h with
  | [_, _, _, _, _, _, _, _, _, _], _ => rfl
theorem nums_size (l : List Int) : (l.flatMap intE).length ≤ 11 * l.length := by
  induction l with
  | nil => simp
  | cons n l ih => have := (intE_len n).2; rw [List.flatMap_cons, List.length_append, List.length_cons]; omega
theorem encA_len {l : List Blk} (h : chkAll l = 0) : (encA l).length ≤ 10000 := by
  obtain ⟨h8, hb⟩ := chkAll_zero h
  have hf : ∀ (m : List Blk), (∀ x ∈ m, blkE x = 0) → (m.flatMap encB).length ≤ 1100 * m.length := by
    intro m
    induction m with
    | nil => intro _; simp
    | cons x m ih =>
      intro hm
      have h1 := ih fun y hy => hm y (List.mem_cons_of_mem _ hy)
      have h2 := encB_len x (blkE_zero (hm x (List.mem_cons_self ..))).2.2.2.2
      rw [List.flatMap_cons, List.length_append, List.length_cons]
      omega
  have h1 := hf l hb
  have h2 := intE_len l.length
  unfold encA
  rw [List.length_append]
  omega
theorem bodyE_len {b : Bun} (h : chkE b = 0) : (bodyE b).length ≤ 20000 := by
  have h1 := nums_size (nums b)
  rw [nums_len] at h1
  have h2 := encA_len (blks_chk (chkE_zero h).2.2.1)
  have h3 := (payE_zero (chkE_zero h).2.2.2.1).1
  have h4 := (textE_len b.payload).2
  have h5 := (textE_len magicL).2
  have h6 : magicL.length = 3 := rfl
  unfold bodyE
  simp only [List.length_append]
  omega
theorem body_writeB {b : Bun} (h : chkE b = 0) : bodyD (bodyE b) = some b := by
  have hp := (payE_zero (chkE_zero h).2.2.2.1).1
  have hc := blks_chk (chkE_zero h).2.2.1
  have h1 := read_text magicL ((nums b).flatMap intE ++ (encA b.blocks ++ textE b.payload)) (by decide)
  have h2 := rdNs_enc (nums b) (encA b.blocks ++ textE b.payload) (nums_ok h)
  rw [nums_len] at h2
  have h3 := decA_enc (textE b.payload) hc
  have h4 := read_text b.payload [] (by omega)
  rw [List.append_nil] at h4
  have d1 : (bodyE b).drop (textE magicL).length = (nums b).flatMap intE ++ (encA b.blocks ++ textE b.payload) := drop_app rfl
  have d2 : (bodyE b).drop ((textE magicL).length + ((nums b).flatMap intE).length) = encA b.blocks ++ textE b.payload := by
    unfold bodyE; rw [← List.append_assoc]; exact drop_app (by simp)
  have d3 : (bodyE b).drop ((textE magicL).length + ((nums b).flatMap intE).length + (encA b.blocks).length) = textE b.payload := by
    unfold bodyE; rw [← List.append_assoc, ← List.append_assoc]; exact drop_app (by simp [Nat.add_assoc])
  unfold bodyD
  have h1' : textS (bodyE b) = (magicL, ((textE magicL).length : Int), 0) := h1
  rw [h1']
  simp only [Int.toNat_natCast]
  rw [if_neg (by simp), d1, h2]
  simp only
  rw [d2, h3]
  simp only
  rw [if_neg (by simp), d3, h4]
  simp only [Int.toNat_natCast]
  rw [if_neg (by simp), if_neg (by unfold bodyE; simp only [List.length_append]; omega), mk_nums, if_neg (by simp [h])]
theorem body_readB {t : List UInt8} {b : Bun} (h : bodyD t = some b) : t = bodyE b ∧ chkE b = 0 := by
  unfold bodyD at h
  obtain ⟨⟨x, k, e⟩, hx⟩ : ∃ q, textS t = q := ⟨_, rfl⟩
  rw [hx] at h
  simp only at h
  split at h
  · cases h
  rename_i h1
  rw [not_or] at h1
  obtain rfl : e = 0 := Decidable.not_not.1 h1.1
  obtain rfl : x = magicL := Decidable.not_not.1 h1.2
  obtain ⟨⟨r1, rfl⟩, rfl, _⟩ := text_read hx
  simp only [Int.toNat_natCast, List.drop_left] at h
  split at h
  · cases h
  rename_i l m hl
  obtain ⟨⟨r2, rfl⟩, rfl, hlen⟩ := enc_rdNs _ _ _ _ hl
  have d2 : (textE magicL ++ (l.flatMap intE ++ r2)).drop ((textE magicL).length + (l.flatMap intE).length) = r2 := by
    rw [← List.append_assoc]; exact drop_app (by simp)
  rw [d2] at h
  obtain ⟨⟨bl, kb, eb⟩, hb⟩ : ∃ q, decAS r2 = q := ⟨_, rfl⟩
  rw [hb] at h
  simp only at h
  split at h
  · cases h
  rename_i h2
  obtain rfl : eb = 0 := Decidable.not_not.1 h2
  obtain ⟨⟨r3, rfl⟩, rfl, hc⟩ := enc_decA hb
  have d3 : (textE magicL ++ (l.flatMap intE ++ (encA bl ++ r3))).drop ((textE magicL).length + (l.flatMap intE).length + (encA bl).length) = r3 := by
    rw [← List.append_assoc, ← List.append_assoc]; exact drop_app (by simp [Nat.add_assoc])
  rw [d3] at h
  obtain ⟨⟨p, kp, ep⟩, hp⟩ : ∃ q, textS r3 = q := ⟨_, rfl⟩
  rw [hp] at h
  simp only at h
  split at h
  · cases h
  rename_i h3
  obtain rfl : ep = 0 := Decidable.not_not.1 h3
  obtain ⟨⟨r4, rfl⟩, rfl, _⟩ := text_read hp
  simp only [Int.toNat_natCast] at h
  split at h
  · cases h
  rename_i h4
  have h4' := Decidable.not_not.1 h4
  simp only [List.length_append] at h4'
  have : r4 = [] := List.length_eq_zero_iff.1 (by omega)
  subst this
  split at h
  · cases h
  rename_i h5
  injection h with h
  subst h
  refine ⟨?_, Decidable.not_not.1 h5⟩
  unfold bodyE
  rw [nums_mk _ _ hlen]
  simp [mkBun]
/-- what was written is read -/
theorem decB_enc {b : Bun} (h : chkE b = 0) : decBS (bunE b) = (b, 0) := by
  have ho := open_seal (bodyE b) [] (by have := bodyE_len h; omega)
  rw [List.append_nil] at ho
  unfold decBS
  have ho' : openS tailB (bunE b) = (bodyE b, ((sealE (bodyE b)).length : Int), 0) := ho
  rw [ho']
  simp only
  rw [if_neg (by simp), if_neg (by simp [bunE]), body_writeB h]
/-- what is read was written -/
theorem enc_decB {s : List UInt8} {b : Bun} (h : decBS s = (b, 0)) : s = bunE b ∧ chkE b = 0 := by
  unfold decBS at h
  obtain ⟨⟨t, k, e⟩, ho⟩ : ∃ q, openS tailB s = q := ⟨_, rfl⟩
  rw [ho] at h
  simp only at h
  split at h
  · rename_i h1; injection h with _ h2; exact absurd h2 h1
  rename_i he
  obtain rfl : e = 0 := Decidable.not_not.1 he
  split at h
  · injection h with _ h2; exact absurd h2 (by decide)
  rename_i hk
  have hk' := Decidable.not_not.1 hk
  split at h
  · injection h with _ h2; exact absurd h2 (by decide)
  rename_i b' hb
  injection h with h1 _
  subst h1
  obtain ⟨ht, hc⟩ := body_readB hb
  obtain ⟨⟨r, hs⟩, hk2, _⟩ := seal_open ho
  subst ht
  refine ⟨?_, hc⟩
  have hl := congrArg List.length hs
  rw [List.length_append] at hl
  have : r = [] := List.length_eq_zero_iff.1 (by omega)
  subst this
  rw [hs, List.append_nil]; rfl
theorem decB_err {s : List UInt8} {b : Bun} {e : Int} (h : decBS s = (b, e)) (he : e ≠ 0) : b = zBun := by
  unfold decBS at h
  split at h
  · injection h with h1 _; exact h1.symm
  · split at h
    · injection h with h1 _; exact h1.symm
    · split at h
      · injection h with h1 _; exact h1.symm
      · injection h with _ h2; exact absurd h2.symm he
end Go.Proofs.Ythedoidpapodgaa
