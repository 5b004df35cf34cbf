/- The plain law of layer 1's codes: what is written is read, and what is read was written. -/
import Derived.Test.YtdnbegcebloodaaDf
set_option linter.unusedVariables false
set_option linter.unusedSimpArgs false
namespace Go.Proofs.Ytdnbegcebloodaa
open Go Go.RowKit

theorem trip' {α β γ : Type} {a a' : α} {b b' : β} {c c' : γ} (h : (a, b, c) = (a', b', c')) : a = a' ∧ b = b' ∧ c = c' := by
  injection h with h1 h2
  injection h2 with h2 h3
  exact ⟨h1, h2, h3⟩
theorem hi_zero (f : Nat) : hi f 0 = [] := by cases f <;> simp [hi]
theorem hi_length : ∀ (g f m : Nat), m < 128 ^ g → (hi f m).length ≤ g
  | g, 0, m, h => by simp [hi]
  | 0, f + 1, m, h => by
    have : m = 0 := by simpa using h
    subst this; simp [hi]
  | g + 1, f + 1, m, h => by
    rw [hi]
    split
    · simp
    · have := hi_length g f (m / 128) (by rw [Nat.pow_succ] at h; omega)
      simp; omega
theorem ofNat_toNat' {n : Nat} (h : n < 256) : (UInt8.ofNat n).toNat = n := by simp; omega
theorem hi_read (b0 : Bool) : ∀ (f m F : Nat) (r : List UInt8), m < 128 ^ f → (hi f m).length ≤ F → rdL b0 F (hi f m ++ r) 0 0 = rdL b0 (F - (hi f m).length) r m (hi f m).length
  | 0, m, F, r, h, hF => by
    have : m = 0 := by simpa using h
    subst this; simp [hi]
  | f + 1, m, F, r, h, hF => by
    rw [hi] at hF ⊢
    by_cases hm : m = 0
    · rw [if_pos hm]; subst hm; simp
    · rw [if_neg hm] at hF ⊢
      rw [List.append_assoc, hi_read b0 f (m / 128) F _ (by rw [Nat.pow_succ] at h; omega) (by rw [List.length_append] at hF; omega)]
      rw [List.length_append] at hF ⊢
      simp only [List.length_singleton] at hF ⊢
      obtain ⟨G, hG⟩ : ∃ G, F - (hi f (m / 128)).length = G + 1 := ⟨F - (hi f (m / 128)).length - 1, by omega⟩
      have ht : (UInt8.ofNat (128 + m % 128)).toNat = 128 + m % 128 := ofNat_toNat' (by omega)
      rw [hG, List.singleton_append, rdL_step, ht, if_pos (by omega)]
      congr 1
      · omega
      · omega
theorem hi_head : ∀ (f m : Nat), m < 128 ^ f → (hi f m).head? ≠ some 128 ∧ (m ≠ 0 → hi f m ≠ [])
  | 0, m, h => by simp [hi]; simpa using h
  | f + 1, m, h => by
    rw [hi]
    by_cases hm : m = 0
    · rw [if_pos hm]; simp [hm]
    · rw [if_neg hm]
      refine ⟨?_, fun _ => by simp⟩
      obtain ⟨h1, h2⟩ := hi_head f (m / 128) (by rw [Nat.pow_succ] at h; omega)
      by_cases hz : m / 128 = 0
      · rw [hz, hi_zero]
        simp only [List.nil_append, List.head?_cons]
        intro he
        injection he with he
        have ht : (UInt8.ofNat (128 + m % 128)).toNat = 128 + m % 128 := ofNat_toNat' (by omega)
        rw [he] at ht
        have : (128 : UInt8).toNat = 128 := rfl
        omega
      · obtain ⟨x, l, hxl⟩ := List.exists_cons_of_ne_nil (h2 hz)
        rw [hxl] at h1 ⊢
        simpa using h1
theorem finS_zz {n : Int} {i : Nat} (h1 : -1152921504606846976 ≤ n) (h2 : n ≤ 1152921504606846976) : finS false (zz n) i = (n, (i : Int), 0) := by
  unfold finS
  have : (if zz n % 2 = 1 then -(((zz n + 1) / 2 : Nat) : Int) else ((zz n / 2 : Nat) : Int)) = n := by
    unfold zz
    split
    · split <;> omega
    · split <;> omega
  rw [this]
  simp only [Bool.false_eq_true, false_or]
  rw [if_neg (by omega)]
/-- what was written is read -/
theorem read_int (n : Int) (r : List UInt8) (h1 : -1152921504606846976 ≤ n) (h2 : n ≤ 1152921504606846976) : readS (intE n ++ r) = (n, ((intE n).length : Int), 0) := by
  have hz := zz_lt h1 h2
  have hm : zz n / 128 < 128 ^ 10 := by omega
  have hl := hi_length 8 10 (zz n / 128) (by omega)
  obtain ⟨e1, e2⟩ := hi_head 10 (zz n / 128) hm
  have hc : (UInt8.ofNat (zz n % 128)).toNat = zz n % 128 := ofNat_toNat' (by omega)
  have hb : ((intE n ++ r).head? == some 128) = false := by
    unfold intE
    cases hh : hi 10 (zz n / 128) with
    | nil =>
      simp only [List.nil_append, List.singleton_append, List.head?_cons]
      refine beq_eq_false_iff_ne.2 fun he => ?_
      injection he with he
      rw [he] at hc
      have : (128 : UInt8).toNat = 128 := rfl
      omega
    | cons x l =>
      rw [hh] at e1
      exact beq_eq_false_iff_ne.2 (by simpa using e1)
  unfold readS
  rw [hb]
  unfold intE
  rw [List.append_assoc, hi_read false 10 _ 9 _ hm (by omega)]
  obtain ⟨G, hG⟩ : ∃ G, 9 - (hi 10 (zz n / 128)).length = G + 1 := ⟨9 - (hi 10 (zz n / 128)).length - 1, by omega⟩
  rw [hG, List.singleton_append, rdL_step, hc, if_neg (by omega), show zz n / 128 * 128 + zz n % 128 % 128 = zz n by omega, finS_zz h1 h2, List.length_append]
  rfl

/-- the number of some groups -/
def gval (l : List UInt8) : Nat := l.foldl (fun m b => m * 128 + b.toNat % 128) 0
theorem gval_snoc (l : List UInt8) (b : UInt8) : gval (l ++ [b]) = gval l * 128 + b.toNat % 128 := by simp [gval, List.foldl_append]
theorem rdL_split (b0 : Bool) : ∀ (f : Nat) (l : List UInt8) (done : List UInt8) (n k : Int), rdL b0 f l (gval done) done.length = (n, k, 0) → (∀ b ∈ done, 128 ≤ b.toNat) →
    ∃ (pre : List UInt8) (c : UInt8) (rest : List UInt8), done ++ l = pre ++ c :: rest ∧ (∀ b ∈ pre, 128 ≤ b.toNat) ∧ c.toNat < 128 ∧ pre.length < done.length + f ∧ finS b0 (gval pre * 128 + c.toNat) (pre.length + 1) = (n, k, 0)
  | 0, l, done, n, k, h, hd => by
    rw [rdL] at h
    obtain ⟨_, _, h⟩ := trip' h
    exact absurd h (by decide)
  | f + 1, [], done, n, k, h, hd => by
    rw [rdL] at h
    obtain ⟨_, _, h⟩ := trip' h
    exact absurd h (by decide)
  | f + 1, c :: r, done, n, k, h, hd => by
    rw [rdL_step] at h
    by_cases hc : 128 ≤ c.toNat
    · rw [if_pos hc, ← gval_snoc, show done.length + 1 = (done ++ [c]).length by simp] at h
      obtain ⟨pre, x, rest, h1, h2, h3, h4, h5⟩ := rdL_split b0 f r (done ++ [c]) n k h (by
        intro b hb
        rcases List.mem_append.1 hb with hb | hb
        · exact hd b hb
        · simp at hb; subst hb; exact hc)
      refine ⟨pre, x, rest, by rw [← h1]; simp, h2, h3, ?_, h5⟩
      simp at h4; omega
    · rw [if_neg hc] at h
      have hm : c.toNat % 128 = c.toNat := Nat.mod_eq_of_lt (by omega)
      rw [hm] at h
      exact ⟨done, c, r, rfl, hd, by omega, by omega, h⟩
theorem snoc_cases {α : Type} (l : List α) : l = [] ∨ ∃ p b, l = p ++ [b] := by
  rcases List.eq_nil_or_concat l with h | ⟨p, b, h⟩
  · exact .inl h
  · exact .inr ⟨p, b, by rw [h, List.concat_eq_append]⟩
theorem gval_pos : ∀ (n : Nat) (l : List UInt8), l.length = n → l ≠ [] → (∀ b ∈ l, 128 ≤ b.toNat) → l.head? ≠ some 128 → 0 < gval l
  | 0, l, hn, hl, _, _ => absurd (List.length_eq_zero_iff.1 hn) hl
  | n + 1, l, hn, hl, hb, hh => by
    rcases snoc_cases l with rfl | ⟨p, b, rfl⟩
    · exact absurd rfl hl
    · rw [gval_snoc]
      by_cases hp : p = []
      · subst hp
        have h1 := hb b (by simp)
        have h2 : b.toNat ≠ 128 := fun e => hh (by simp; exact UInt8.toNat_inj.1 e)
        have := b.toNat_lt
        omega
      · have := gval_pos n p (by simpa using hn) hp (fun x hx => hb x (by simp [hx])) (by
          obtain ⟨x, q, rfl⟩ := List.exists_cons_of_ne_nil hp
          simpa using hh)
        omega
theorem gval_hi : ∀ (f : Nat) (l : List UInt8), l.length ≤ f → (∀ b ∈ l, 128 ≤ b.toNat) → l.head? ≠ some 128 → hi f (gval l) = l
  | 0, l, hf, _, _ => by
    have : l = [] := List.length_eq_zero_iff.1 (by omega)
    subst this; rfl
  | f + 1, l, hf, hb, hh => by
    rcases snoc_cases l with rfl | ⟨p, b, rfl⟩
    · rfl
    · have hpos := gval_pos _ (p ++ [b]) rfl (by simp) hb hh
      have h1 := hb b (by simp)
      have h2 := b.toNat_lt
      rw [hi, if_neg (by omega), gval_snoc]
      have e1 : (gval p * 128 + b.toNat % 128) / 128 = gval p := by omega
      have e2 : (gval p * 128 + b.toNat % 128) % 128 = b.toNat % 128 := by omega
      rw [e1, e2, show 128 + b.toNat % 128 = b.toNat by omega]
      rw [gval_hi f p (by simp at hf; omega) (fun x hx => hb x (by simp [hx])) (by
        cases p with
        | nil => simp
        | cons x q => simpa using hh)]
      simp
/-- what is read was written -/
theorem int_read {l : List UInt8} {n k : Int} (h : readS l = (n, k, 0)) : ∃ r, l = intE n ++ r ∧ k = ((intE n).length : Int) := by
  have hok := (readS_ok h).1 rfl
  unfold readS at h
  obtain ⟨b0, hb0⟩ : ∃ b, (l.head? == some 128) = b := ⟨_, rfl⟩
  rw [hb0] at h
  obtain ⟨pre, c, rest, h1, h2, h3, h4, h5⟩ := rdL_split b0 9 l [] n k h (by simp)
  simp only [List.nil_append, List.length_nil] at h1 h4
  cases b0
  case true =>
    unfold finS at h5
    simp only [true_or, if_true] at h5
    obtain ⟨_, _, h5⟩ := trip' h5
    exact absurd h5 (by decide)
  have hh : l.head? ≠ some 128 := beq_eq_false_iff_ne.1 hb0
  have hp : hi 10 (gval pre) = pre := gval_hi 10 pre (by omega) h2 (by
    cases pre with
    | nil => simp
    | cons x q => rw [h1] at hh; simpa using hh)
  obtain ⟨X, hX⟩ : ∃ X, gval pre * 128 + c.toNat = X := ⟨_, rfl⟩
  rw [hX] at h5
  unfold finS at h5
  obtain ⟨o, ho⟩ : ∃ o : Int, o = if X % 2 = 1 then -(((X + 1) / 2 : Nat) : Int) else ((X / 2 : Nat) : Int) := ⟨_, rfl⟩
  simp only [← ho, Bool.false_eq_true, false_or] at h5
  split at h5
  · obtain ⟨_, _, h5⟩ := trip' h5
    exact absurd h5 (by decide)
  · obtain ⟨rfl, rfl, _⟩ := trip' h5
    have hz : zz o = X := by
      unfold zz
      split at ho <;> split <;> omega
    have e1 : X / 128 = gval pre := by omega
    have e2 : X % 128 = c.toNat := by omega
    have hE : intE o = pre ++ [c] := by
      unfold intE
      rw [hz, e1, e2, hp]
      simp
    refine ⟨rest, by rw [hE, h1]; simp, by rw [hE]; simp⟩

/-- the same for strings -/
theorem read_text (d r : List UInt8) (h : d.length ≤ 65536) : textS (textE d ++ r) = (d, ((textE d).length : Int), 0) := by
  have hr := read_int d.length (d ++ r) (by omega) (by omega)
  have hl : lenS (textE d ++ r) = ((d.length : Int), ((intE (d.length : Int)).length : Int), 0) := by
    unfold lenS textE
    rw [List.append_assoc, hr]
    simp only
    rw [if_neg (by simp), if_neg (by omega)]
  unfold textS
  rw [hl]
  simp only
  unfold textE
  rw [if_neg (by simp), if_neg (by simp only [List.length_append]; omega)]
  simp only [Int.toNat_natCast, List.append_assoc, List.drop_left, List.take_left, List.length_append]
  rfl
theorem text_read {l d : List UInt8} {k : Int} (h : textS l = (d, k, 0)) : (∃ r, l = textE d ++ r) ∧ k = ((textE d).length : Int) ∧ d.length ≤ 65536 := by
  obtain ⟨⟨n, c, e⟩, hl⟩ : ∃ x, lenS l = x := ⟨_, rfl⟩
  unfold textS at h
  rw [hl] at h
  simp only at h
  have hok := lenS_ok hl
  unfold lenS at hl
  by_cases he : e = 0
  case neg =>
    rw [if_pos he] at h
    obtain ⟨_, _, h⟩ := trip' h
    exact absurd h he
  subst he
  rw [if_neg (by simp)] at h
  split at h
  · obtain ⟨_, _, h⟩ := trip' h
    exact absurd h (by decide)
  rename_i hlt
  obtain ⟨rfl, rfl, _⟩ := trip' h
  have hb := hok.1 rfl
  split at hl
  · rename_i h1
    obtain ⟨_, _, h2⟩ := trip' hl
    exact absurd h2 h1
  split at hl
  · obtain ⟨_, _, h2⟩ := trip' hl
    exact absurd h2 (by decide)
  obtain ⟨r, rfl, hc⟩ := int_read hl
  subst hc
  obtain ⟨m, rfl⟩ : ∃ m : Nat, n = m := ⟨n.toNat, by omega⟩
  simp only [Int.toNat_natCast, List.drop_left] at h ⊢
  rw [List.length_append] at hlt
  have hm : m ≤ r.length := by omega
  have hd : (r.take m).length = m := by rw [List.length_take]; omega
  have hE : textE (r.take m) = intE (m : Int) ++ r.take m := by unfold textE; rw [hd]
  refine ⟨⟨r.drop m, ?_⟩, ?_, by omega⟩
  · rw [hE, List.append_assoc, List.take_append_drop]
  · rw [hE, List.length_append, hd]; omega
end Go.Proofs.Ytdnbegcebloodaa
