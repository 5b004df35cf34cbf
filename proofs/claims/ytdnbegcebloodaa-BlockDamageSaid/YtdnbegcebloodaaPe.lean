/- The plain law of frames, blocks and lists of blocks: what is written is read, and what is read was written. -/
import Derived.Test.YtdnbegcebloodaaPd
import Derived.Test.YtdnbegcebloodaaDo
set_option linter.unusedVariables false
set_option linter.unusedSimpArgs false
namespace Go.Proofs.Ytdnbegcebloodaa
open Go Go.RowKit

theorem take_app {α : Type} {a b : List α} {n : Nat} (h : n = a.length) : (a ++ b).take n = a := by subst h; exact List.take_left
theorem drop_app {α : Type} {a b : List α} {n : Nat} (h : n = a.length) : (a ++ b).drop n = b := by subst h; exact List.drop_left
theorem tailB_len (s : List UInt8) : (tailB s).length = 4 := rfl
theorem sealE_len (t : List UInt8) : (sealE t).length = (intE (t.length : Int)).length + t.length + 4 := by
  unfold sealE textE; simp [tailB_len]; omega
theorem open_seal (t r : List UInt8) (h : t.length ≤ 65536) : openS tailB (sealE t ++ r) = (t, ((sealE t).length : Int), 0) := by
  have hr := read_int t.length (t ++ (tailB (textE t) ++ r)) (by omega) (by omega)
  have hs : sealE t ++ r = intE (t.length : Int) ++ (t ++ (tailB (textE t) ++ r)) := by simp [sealE, textE]
  have hs2 : sealE t ++ r = textE t ++ (tailB (textE t) ++ r) := by simp [sealE]
  have hl := sealE_len t
  have hx : ((intE (t.length : Int)).length : Int) + (t.length : Int) = ((textE t).length : Int) := by unfold textE; rw [List.length_append]; omega
  unfold openS
  have hr' : readS (sealE t ++ r) = ((t.length : Int), ((intE (t.length : Int)).length : Int), 0) := by rw [hs]; exact hr
  rw [hr']
  simp only
  rw [if_neg (by simp), if_neg (by omega), hx]
  have hlen : (sealE t ++ r).length = (textE t).length + 4 + r.length := by rw [hs2]; simp [tailB_len]; omega
  rw [if_neg (by omega), Int.toNat_natCast]
  have e1 : (sealE t ++ r).take (textE t).length = textE t := by rw [hs2]; exact List.take_left
  have e2 : ((sealE t ++ r).drop (textE t).length).take 4 = tailB (textE t) := by rw [hs2, List.drop_left]; exact take_app rfl
  rw [e1, e2, if_neg (by simp), Int.toNat_natCast, Int.toNat_natCast]
  have e3 : ((sealE t ++ r).drop (intE (t.length : Int)).length).take t.length = t := by rw [hs, List.drop_left]; exact List.take_left
  rw [e3]
  have e4 : ((textE t).length : Int) + 4 = ((sealE t).length : Int) := by rw [hl]; omega
  rw [e4]
theorem seal_open {s t : List UInt8} {k : Int} (h : openS tailB s = (t, k, 0)) : (∃ r, s = sealE t ++ r) ∧ k = ((sealE t).length : Int) ∧ t.length ≤ 65536 := by
  obtain ⟨⟨n, c, e⟩, hr⟩ : ∃ x, readS s = x := ⟨_, rfl⟩
  unfold openS at h
  rw [hr] at h
  simp only at h
  split at h
  · rename_i h1; obtain ⟨_, _, h2⟩ := trip' h; exact absurd h2 h1
  rename_i he
  obtain rfl : e = 0 := Decidable.not_not.1 he
  split at h
  · obtain ⟨_, _, h2⟩ := trip' h; exact absurd h2 (by decide)
  rename_i hn
  split at h
  · obtain ⟨_, _, h2⟩ := trip' h; exact absurd h2 (by decide)
  rename_i hl
  split at h
  · obtain ⟨_, _, h2⟩ := trip' h; exact absurd h2 (by decide)
  rename_i ht
  obtain ⟨rfl, rfl, _⟩ := trip' h
  obtain ⟨r, rfl, rfl⟩ := int_read hr
  obtain ⟨m, rfl⟩ : ∃ m : Nat, n = m := ⟨n.toNat, by omega⟩
  simp only [Int.toNat_natCast, List.drop_left] at h ⊢
  rw [List.length_append] at hl
  have hm : m + 4 ≤ r.length := by omega
  have hd : (r.take m).length = m := by rw [List.length_take]; omega
  have hE : textE (r.take m) = intE (m : Int) ++ r.take m := by unfold textE; rw [hd]
  have hp : ((((intE (m : Int)).length : Int) + (m : Int))).toNat = (intE (m : Int)).length + m := by omega
  rw [hp] at ht
  have e1 : (intE (m : Int) ++ r).take ((intE (m : Int)).length + m) = textE (r.take m) := by rw [hE, List.take_append, List.take_of_length_le (by omega)]; simp
  have e2 : (intE (m : Int) ++ r).drop ((intE (m : Int)).length + m) = r.drop m := by rw [List.drop_append]; simp
  rw [e1, e2] at ht
  have ht' : tailB (textE (r.take m)) = (r.drop m).take 4 := Decidable.not_not.1 ht
  refine ⟨⟨(r.drop m).drop 4, ?_⟩, ?_, by omega⟩
  · unfold sealE
    rw [ht', hE, List.append_assoc, List.append_assoc, List.take_append_drop, List.take_append_drop]
  · rw [sealE_len, hd]; omega

theorem body_write {x : Blk} (h : blkE x = 0) : bodyS (intE x.kind ++ intE x.flags ++ textE x.data) = some x := by
  obtain ⟨v1, v2, v3, v4, v5⟩ := blkE_zero h
  have h1 := read_int x.kind (intE x.flags ++ textE x.data) (by omega) (by omega)
  have h2 := read_int x.flags (textE x.data) (by omega) (by omega)
  have h3 := read_text x.data [] (by omega)
  rw [List.append_nil] at h3
  unfold bodyS
  rw [List.append_assoc, h1]
  simp only [Int.toNat_natCast, List.drop_left]
  rw [h2]
  simp only [Int.toNat_natCast]
  have e1 : (intE x.kind ++ (intE x.flags ++ textE x.data)).drop ((intE x.kind).length + (intE x.flags).length) = textE x.data := by
    rw [← List.append_assoc]; exact drop_app (by simp)
  rw [e1, h3]
  simp only [Int.toNat_natCast]
  rw [if_neg (by simp), if_neg (by simp), if_neg (by simp), if_neg (by simp; omega), if_neg (by simp [h])]
theorem body_read {t : List UInt8} {x : Blk} (h : bodyS t = some x) : t = intE x.kind ++ intE x.flags ++ textE x.data ∧ blkE x = 0 := by
  have hE := bodyS_ok h
  refine ⟨?_, hE⟩
  unfold bodyS at h
  obtain ⟨⟨n1, k1, e1⟩, h1⟩ : ∃ q, readS t = q := ⟨_, rfl⟩
  rw [h1] at h
  simp only at h
  split at h
  · cases h
  rename_i q1
  obtain rfl : e1 = 0 := Decidable.not_not.1 q1
  obtain ⟨r1, rfl, rfl⟩ := int_read h1
  simp only [Int.toNat_natCast, List.drop_left] at h
  obtain ⟨⟨n2, k2, e2⟩, h2⟩ : ∃ q, readS r1 = q := ⟨_, rfl⟩
  rw [h2] at h
  simp only at h
  split at h
  · cases h
  rename_i q2
  obtain rfl : e2 = 0 := Decidable.not_not.1 q2
  obtain ⟨r2, rfl, rfl⟩ := int_read h2
  simp only [Int.toNat_natCast] at h
  have e1 : (intE n1 ++ (intE n2 ++ r2)).drop ((intE n1).length + (intE n2).length) = r2 := by
    rw [← List.append_assoc]; exact drop_app (by simp)
  rw [e1] at h
  obtain ⟨⟨d, k3, e3⟩, h3⟩ : ∃ q, textS r2 = q := ⟨_, rfl⟩
  rw [h3] at h
  simp only at h
  split at h
  · cases h
  rename_i q3
  obtain rfl : e3 = 0 := Decidable.not_not.1 q3
  obtain ⟨⟨r3, rfl⟩, rfl, _⟩ := text_read h3
  split at h
  · cases h
  rename_i q4
  have q4' := Decidable.not_not.1 q4
  simp only [Int.toNat_natCast, List.length_append] at q4'
  split at h
  · cases h
  injection h with h
  subst h
  have : r3 = [] := List.length_eq_zero_iff.1 (by omega)
  subst this
  simp

theorem dec_enc {x : Blk} (r : List UInt8) (h : blkE x = 0) : decS (encB x ++ r) = (x, ((encB x).length : Int), 0) := by
  obtain ⟨v1, v2, v3, v4, v5⟩ := blkE_zero h
  have hl : (intE x.kind ++ intE x.flags ++ textE x.data).length ≤ 65536 := by
    have a := intE_len x.kind
    have b := intE_len x.flags
    have c := textE_len x.data
    simp only [List.length_append]; omega
  unfold decS
  have ho : openS tailB (encB x ++ r) = (intE x.kind ++ intE x.flags ++ textE x.data, ((encB x).length : Int), 0) := open_seal _ r hl
  rw [ho]
  simp only
  rw [if_neg (by simp), body_write h]
theorem enc_dec {s : List UInt8} {x : Blk} {k : Int} (h : decS s = (x, k, 0)) : (∃ r, s = encB x ++ r) ∧ k = ((encB x).length : Int) ∧ blkE x = 0 := by
  unfold decS at h
  obtain ⟨⟨t, c, e⟩, ho⟩ : ∃ q, openS tailB s = q := ⟨_, rfl⟩
  rw [ho] at h
  simp only at h
  split at h
  · rename_i h1; obtain ⟨_, _, h2⟩ := trip' h; exact absurd h2 h1
  rename_i he
  obtain rfl : e = 0 := Decidable.not_not.1 he
  split at h
  · obtain ⟨_, _, h2⟩ := trip' h; exact absurd h2 (by decide)
  rename_i b hb
  obtain ⟨rfl, rfl, _⟩ := trip' h
  obtain ⟨ht, hE⟩ := body_read hb
  obtain ⟨⟨r, hs⟩, hk, _⟩ := seal_open ho
  subst ht
  exact ⟨⟨r, hs⟩, hk, hE⟩

theorem decR_enc : ∀ (l : List Blk) (p : Option Int) (r : List UInt8), caE p l = 0 → decR l.length p (l.flatMap encB ++ r) = (l, (l.flatMap encB).length, 0)
  | [], p, r, h => rfl
  | x :: l, p, r, h => by
    rw [caE] at h
    split at h
    · rename_i h1; exact absurd h h1
    rename_i h1
    split at h
    · cases h
    rename_i h2
    have hE : blkE x = 0 := Decidable.not_not.1 h1
    have hd := dec_enc (l.flatMap encB ++ r) hE
    have hi := decR_enc l (some x.kind) r h
    have e : (x :: l).flatMap encB ++ r = encB x ++ (l.flatMap encB ++ r) := by simp
    rw [e, List.length_cons, decR_ok hd h2 (by rw [Int.toNat_natCast, List.drop_left, hi])]
    rw [Int.toNat_natCast, List.drop_left, hi]
    simp
theorem enc_decR : ∀ (f : Nat) (p : Option Int) (s : List UInt8) (l : List Blk) (k : Nat), decR f p s = (l, k, 0) → (∃ r, s = l.flatMap encB ++ r) ∧ k = (l.flatMap encB).length ∧ l.length = f ∧ caE p l = 0
  | 0, p, s, l, k, h => by
    rw [decR] at h
    obtain ⟨rfl, rfl, _⟩ := trip' h
    exact ⟨⟨s, rfl⟩, rfl, rfl, by rw [caE]⟩
  | f + 1, p, s, l, k, h => by
    obtain ⟨⟨x, c, e⟩, hd⟩ : ∃ q, decS s = q := ⟨_, rfl⟩
    by_cases he : e = 0
    case neg =>
      rw [decR_err hd he] at h
      obtain ⟨_, _, h2⟩ := trip' h; exact absurd h2 he
    subst he
    by_cases hq : ∃ q, p = some q ∧ x.kind ≤ q
    · rw [decR_order hd hq] at h
      obtain ⟨_, _, h2⟩ := trip' h; exact absurd h2 (by decide)
    obtain ⟨⟨r, rfl⟩, rfl, hE⟩ := enc_dec hd
    have hdrop : (encB x ++ r).drop ((encB x).length : Int).toNat = r := by rw [Int.toNat_natCast]; exact List.drop_left
    obtain ⟨⟨l2, k2, e2⟩, h2⟩ : ∃ q, decR f (some x.kind) r = q := ⟨_, rfl⟩
    by_cases hz : e2 = 0
    case neg =>
      rw [decR_bad hd hq (by rw [hdrop, h2]; exact hz), hdrop, h2] at h
      obtain ⟨_, _, h3⟩ := trip' h; exact absurd h3 hz
    subst hz
    rw [decR_ok hd hq (by rw [hdrop, h2]), hdrop, h2] at h
    obtain ⟨rfl, rfl, _⟩ := trip' h
    obtain ⟨⟨r2, rfl⟩, hk, hlen, hc⟩ := enc_decR f _ _ _ _ h2
    refine ⟨⟨r2, by simp⟩, by simp [hk], by simp [hlen], ?_⟩
    rw [caE, if_neg (by simp [hE]), if_neg hq]
    exact hc
theorem decA_enc {l : List Blk} (r : List UInt8) (h : chkAll l = 0) : decAS (encA l ++ r) = (l, (encA l).length, 0) := by
  unfold chkAll at h
  split at h
  · cases h
  rename_i hl
  have hr := read_int l.length (l.flatMap encB ++ r) (by omega) (by omega)
  have hd := decR_enc l none r h
  have e : encA l ++ r = intE (l.length : Int) ++ (l.flatMap encB ++ r) := by simp [encA]
  unfold decAS
  rw [e, hr]
  simp only [Int.toNat_natCast, List.drop_left]
  rw [if_neg (by simp), if_neg (by omega), hd, if_neg (by simp)]
  simp [encA]
theorem enc_decA {s : List UInt8} {l : List Blk} {k : Nat} (h : decAS s = (l, k, 0)) : (∃ r, s = encA l ++ r) ∧ k = (encA l).length ∧ chkAll l = 0 := by
  unfold decAS at h
  obtain ⟨⟨n, c, e⟩, hr⟩ : ∃ q, readS s = q := ⟨_, rfl⟩
  rw [hr] at h
  simp only at h
  split at h
  · rename_i h1; obtain ⟨_, _, h2⟩ := trip' h; exact absurd h2 h1
  rename_i he
  obtain rfl : e = 0 := Decidable.not_not.1 he
  split at h
  · obtain ⟨_, _, h2⟩ := trip' h; exact absurd h2 (by decide)
  rename_i hn
  obtain ⟨r, rfl, rfl⟩ := int_read hr
  obtain ⟨m, rfl⟩ : ∃ m : Nat, n = m := ⟨n.toNat, by omega⟩
  simp only [Int.toNat_natCast, List.drop_left] at h
  obtain ⟨⟨l2, k2, e2⟩, h2⟩ : ∃ q, decR m none r = q := ⟨_, rfl⟩
  rw [h2] at h
  split at h
  · rename_i h1; obtain ⟨_, _, h3⟩ := trip' h; exact absurd h3 h1
  rename_i hz
  obtain rfl : e2 = 0 := Decidable.not_not.1 hz
  obtain ⟨rfl, rfl, _⟩ := trip' h
  obtain ⟨⟨r2, rfl⟩, hk, hlen, hc⟩ := enc_decR _ _ _ _ _ h2
  subst hlen
  refine ⟨⟨r2, by simp [encA]⟩, by simp [encA, hk], ?_⟩
  unfold chkAll
  simp only at hn ⊢
  rw [if_neg (by omega)]
  exact hc
end Go.Proofs.Ytdnbegcebloodaa
