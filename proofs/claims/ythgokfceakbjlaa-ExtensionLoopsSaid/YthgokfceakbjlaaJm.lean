/- Joined by port.py: XDk XFe XPd XTa XTi XPg XTc -/
import Derived.Test.YthgokfceakbjlaaJb
import Derived.Laws.EntriesVeiled
import Derived.Test.YthgokfceakbjlaaJj
import Derived.Lib.ConvBytes
import Derived.Lib.AppendStr
import Derived.Test.YthgokfceakbjlaaJa
import Derived.Test.YthgokfceakbjlaaJc
import Derived.Test.YthgokfceakbjlaaJd
import Derived.Test.YthgokfceakbjlaaJe
import Derived.Test.YthgokfceakbjlaaJh
import Derived.Test.YthgokfceakbjlaaJo
set_option linter.unusedVariables false
set_option linter.unusedSimpArgs false
/-! XDk -/
namespace Go.Proofs.Ythgokfceakbjlaa
open Go Go.RowKit
attribute [local go_sem] B_getElem B_size B_app B_extract B_get B_toList
/-- a store into the box of the reader -/
theorem fld_set {w w1 : World} {rb o : Nat} {u : Value} (hb : Below w.heap.size w w1) (hr : rb < w.heap.size) : KpX w.heap.size rb w (w1.setCell ⟨rb, o, none⟩ u) ∧ Below rb w (w1.setCell ⟨rb, o, none⟩ u) :=
  ⟨⟨by simp; exact hb.size, fun k hk hk2 => (show (w1.setCell ⟨rb, o, none⟩ u).heap[k]? = w1.heap[k]? by simp [World.setCell, Array.getElem?_modify, Ne.symm hk2]).trans (hb.block k hk)⟩, bset (hb.mono (Nat.le_of_lt hr)) (Nat.le_refl _)⟩
theorem fld_none {w w1 : World} {rb : Nat} (hb : Below w.heap.size w w1) (hr : rb < w.heap.size) : KpX w.heap.size rb w w1 ∧ Below rb w w1 :=
  ⟨⟨hb.size, fun k hk hk2 => hb.block k hk⟩, hb.mono (Nat.le_of_lt hr)⟩
end Go.Proofs.Ythgokfceakbjlaa
/-! XFe -/
namespace Go.Proofs.Ythgokfceakbjlaa
open Go Go.RowKit
attribute [local go_sem] B_getElem B_size B_app B_extract B_get B_toList
theorem chkE_zero {b : Bun} (h : chkE b = 0) : idB b = true ∧ flB b = true ∧ blksE b.blocks = 0 ∧ payE b = 0 ∧ (1 ≤ b.life ∧ b.life ≤ 1099511627776 - b.crt) ∧ (0 ≤ b.prio ∧ b.prio ≤ 2) ∧ endE b.dk b.dn = 0 := by
  unfold chkE at h
  split at h
  · contradiction
  · rename_i h1
    split at h
    · contradiction
    · rename_i h2
      split at h
      · simp at h
      · split at h
        · simp at h
        · split at h
          · contradiction
          · rename_i h5
            split at h
            · contradiction
            · rename_i h6
              refine ⟨idE_zero (by simpa using h1), ?_, by simpa using h6, h, by omega, by omega, by simpa using h2⟩
              unfold flE at h5
              cases hb : flB b with
              | true => rfl
              | false => rw [hb] at h5; simp at h5
theorem blksE_zero {l : List Blk} (h : blksE l = 0) : l.length ≤ 8 ∧ firstE l = 0 ∧ ordB l = true := by
  unfold blksE at h
  split at h
  · simp at h
  · split at h
    · contradiction
    · split at h
      · rename_i h1 h2 h3; exact ⟨by omega, by simpa using h2, h3⟩
      · simp at h
theorem payE_zero {b : Bun} (h : payE b = 0) : b.payload.length ≤ 4096 ∧ (0 < b.tot → 1 ≤ b.payload.length ∧ (b.payload.length : Int) ≤ b.tot - b.off) := by
  unfold payE at h
  split at h
  · simp at h
  · split at h
    · simp at h
    · rename_i h1 h2
      refine ⟨by omega, fun ht => ?_⟩
      by_cases h3 : 1 ≤ b.payload.length ∧ (b.payload.length : Int) ≤ b.tot - b.off
      · exact h3
      · exact absurd ⟨ht, h3⟩ h2
/-- what a valid bundle's fields are -/
theorem valid_facts {b : Bun} (h : chkE b = 0) : 0 ≤ b.off ∧ b.off ≤ 4096 ∧ 0 ≤ b.tot ∧ b.tot ≤ 4096 ∧ b.payload.length ≤ 4096 ∧ 0 ≤ b.flags ∧ b.flags ≤ 127 ∧ b.blocks.length ≤ 8 ∧ (b.tot = 0 → b.off = 0) ∧ (0 < b.tot → 1 ≤ b.payload.length ∧ b.off + (b.payload.length : Int) ≤ b.tot) := by
  obtain ⟨h1, h2, h3, h4, _⟩ := chkE_zero h
  have a := of_decide_eq_true h1
  have c := payE_zero h4
  have d := blksE_zero h3
  unfold flB at h2
  simp only [Bool.and_eq_true, decide_eq_true_eq] at h2
  obtain ⟨⟨h5, _⟩, _⟩ := h2
  refine ⟨by omega, by omega, by omega, by omega, c.1, h5.1, h5.2, d.1, by omega, fun ht => ?_⟩
  have := c.2 ht
  omega
theorem valid_blocks {b : Bun} (h : chkE b = 0) : ∀ x ∈ b.blocks, 0 ≤ x.flags ∧ x.flags ≤ 15 := fun x hx => by
  obtain ⟨_, _, h3, _⟩ := chkE_zero h
  have := blkE_zero (firstE_zero (blksE_zero h3).2.1 x hx)
  omega
def zBun : Bun := ⟨0, 0, 0, 0, 0, 0, 0, 0, 0, 0, [], []⟩
end Go.Proofs.Ythgokfceakbjlaa
/-! XPd -/
namespace Go.Proofs.Ythgokfceakbjlaa
open Go Go.RowKit
theorem trip' {α β γ : Type} {a a' : α} {b b' : β} {c c' : γ} (h : (a, b, c) = (a', b', c')) : a = a' ∧ b = b' ∧ c = c' := by
  injection h with h1 h2
  injection h2 with h2 h3
  exact ⟨h1, h2, h3⟩
theorem hi_zero (f : Nat) : hi f 0 = [] := by cases f <;> simp [hi]
theorem hi_length : ∀ (g f m : Nat), m < 128 ^ g → (hi f m).length ≤ g
  | g, 0, m, h => by simp [hi]
  | 0, f + 1, m, h => by
    have : m = 0 := by simpa using h
    subst this; simp [hi]
  | g + 1, f + 1, m, h => by
    rw [hi]
    split
    · simp
    · have := hi_length g f (m / 128) (by rw [Nat.pow_succ] at h; omega)
      simp; omega
theorem ofNat_toNat' {n : Nat} (h : n < 256) : (UInt8.ofNat n).toNat = n := by simp; omega
theorem hi_read (b0 : Bool) : ∀ (f m F : Nat) (r : List UInt8), m < 128 ^ f → (hi f m).length ≤ F → rdL b0 F (hi f m ++ r) 0 0 = rdL b0 (F - (hi f m).length) r m (hi f m).length
  | 0, m, F, r, h, hF => by
    have : m = 0 := by simpa using h
    subst this; simp [hi]
  | f + 1, m, F, r, h, hF => by
    rw [hi] at hF ⊢
    by_cases hm : m = 0
    · rw [if_pos hm]; subst hm; simp
    · rw [if_neg hm] at hF ⊢
      rw [List.append_assoc, hi_read b0 f (m / 128) F _ (by rw [Nat.pow_succ] at h; omega) (by rw [List.length_append] at hF; omega)]
      rw [List.length_append] at hF ⊢
      simp only [List.length_singleton] at hF ⊢
      obtain ⟨G, hG⟩ : ∃ G, F - (hi f (m / 128)).length = G + 1 := ⟨F - (hi f (m / 128)).length - 1, by omega⟩
      have ht : (UInt8.ofNat (128 + m % 128)).toNat = 128 + m % 128 := ofNat_toNat' (by omega)
      rw [hG, List.singleton_append, rdL_step, ht, if_pos (by omega)]
      congr 1
      · omega
      · omega
theorem hi_head : ∀ (f m : Nat), m < 128 ^ f → (hi f m).head? ≠ some 128 ∧ (m ≠ 0 → hi f m ≠ [])
  | 0, m, h => by simp [hi]; simpa using h
  | f + 1, m, h => by
    rw [hi]
    by_cases hm : m = 0
    · rw [if_pos hm]; simp [hm]
    · rw [if_neg hm]
      refine ⟨?_, fun _ => by simp⟩
      obtain ⟨h1, h2⟩ := hi_head f (m / 128) (by rw [Nat.pow_succ] at h; omega)
      by_cases hz : m / 128 = 0
      · rw [hz, hi_zero]
        simp only [List.nil_append, List.head?_cons]
        intro he
        injection he with he
        have ht : (UInt8.ofNat (128 + m % 128)).toNat = 128 + m % 128 := ofNat_toNat' (by omega)
        rw [he] at ht
        have : (128 : UInt8).toNat = 128 := rfl
        omega
      · obtain ⟨x, l, hxl⟩ := List.exists_cons_of_ne_nil (h2 hz)
        rw [hxl] at h1 ⊢
        simpa using h1
theorem finS_zz {n : Int} {i : Nat} (h1 : -1152921504606846976 ≤ n) (h2 : n ≤ 1152921504606846976) : finS false (zz n) i = (n, (i : Int), 0) := by
  unfold finS
  have : (if zz n % 2 = 1 then -(((zz n + 1) / 2 : Nat) : Int) else ((zz n / 2 : Nat) : Int)) = n := by
    unfold zz
    split
    · split <;> omega
    · split <;> omega
  rw [this]
  simp only [Bool.false_eq_true, false_or]
  rw [if_neg (by omega)]
/-- what was written is read -/
theorem read_int (n : Int) (r : List UInt8) (h1 : -1152921504606846976 ≤ n) (h2 : n ≤ 1152921504606846976) : readS (intE n ++ r) = (n, ((intE n).length : Int), 0) := by
  have hz := zz_lt h1 h2
  have hm : zz n / 128 < 128 ^ 10 := by omega
  have hl := hi_length 8 10 (zz n / 128) (by omega)
  obtain ⟨e1, e2⟩ := hi_head 10 (zz n / 128) hm
  have hc : (UInt8.ofNat (zz n % 128)).toNat = zz n % 128 := ofNat_toNat' (by omega)
  have hb : ((intE n ++ r).head? == some 128) = false := by
    unfold intE
    cases hh : hi 10 (zz n / 128) with
    | nil =>
      simp only [List.nil_append, List.singleton_append, List.head?_cons]
      refine beq_eq_false_iff_ne.2 fun he => ?_
      injection he with he
      rw [he] at hc
      have : (128 : UInt8).toNat = 128 := rfl
      omega
    | cons x l =>
      rw [hh] at e1
      exact beq_eq_false_iff_ne.2 (by simpa using e1)
  unfold readS
  rw [hb]
  unfold intE
  rw [List.append_assoc, hi_read false 10 _ 9 _ hm (by omega)]
  obtain ⟨G, hG⟩ : ∃ G, 9 - (hi 10 (zz n / 128)).length = G + 1 := ⟨9 - (hi 10 (zz n / 128)).length - 1, by omega⟩
  rw [hG, List.singleton_append, rdL_step, hc, if_neg (by omega), show zz n / 128 * 128 + zz n % 128 % 128 = zz n by omega, finS_zz h1 h2, List.length_append]
  rfl
/-- the number of some groups -/
def gval (l : List UInt8) : Nat := l.foldl (fun m b => m * 128 + b.toNat % 128) 0
theorem gval_snoc (l : List UInt8) (b : UInt8) : gval (l ++ [b]) = gval l * 128 + b.toNat % 128 := by simp [gval, List.foldl_append]
theorem rdL_split (b0 : Bool) : ∀ (f : Nat) (l : List UInt8) (done : List UInt8) (n k : Int), rdL b0 f l (gval done) done.length = (n, k, 0) → (∀ b ∈ done, 128 ≤ b.toNat) →
    ∃ (pre : List UInt8) (c : UInt8) (rest : List UInt8), done ++ l = pre ++ c :: rest ∧ (∀ b ∈ pre, 128 ≤ b.toNat) ∧ c.toNat < 128 ∧ pre.length < done.length + f ∧ finS b0 (gval pre * 128 + c.toNat) (pre.length + 1) = (n, k, 0)
  | 0, l, done, n, k, h, hd => by
    rw [rdL] at h
    obtain ⟨_, _, h⟩ := trip' h
    exact absurd h (by decide)
  | f + 1, [], done, n, k, h, hd => by
    rw [rdL] at h
    obtain ⟨_, _, h⟩ := trip' h
    exact absurd h (by decide)
  | f + 1, c :: r, done, n, k, h, hd => by
    rw [rdL_step] at h
    by_cases hc : 128 ≤ c.toNat
    · rw [if_pos hc, ← gval_snoc, show done.length + 1 = (done ++ [c]).length by simp] at h
      obtain ⟨pre, x, rest, h1, h2, h3, h4, h5⟩ := rdL_split b0 f r (done ++ [c]) n k h (by
        intro b hb
        rcases List.mem_append.1 hb with hb | hb
        · exact hd b hb
        · simp at hb; subst hb; exact hc)
      refine ⟨pre, x, rest, by rw [← h1]; simp, h2, h3, ?_, h5⟩
      simp at h4; omega
    · rw [if_neg hc] at h
      have hm : c.toNat % 128 = c.toNat := Nat.mod_eq_of_lt (by omega)
      rw [hm] at h
      exact ⟨done, c, r, rfl, hd, by omega, by omega, h⟩
theorem snoc_cases {α : Type} (l : List α) : l = [] ∨ ∃ p b, l = p ++ [b] := by
  rcases List.eq_nil_or_concat l with h | ⟨p, b, h⟩
  · exact .inl h
  · exact .inr ⟨p, b, by rw [h, List.concat_eq_append]⟩
theorem gval_pos : ∀ (n : Nat) (l : List UInt8), l.length = n → l ≠ [] → (∀ b ∈ l, 128 ≤ b.toNat) → l.head? ≠ some 128 → 0 < gval l
  | 0, l, hn, hl, _, _ => absurd (List.length_eq_zero_iff.1 hn) hl
  | n + 1, l, hn, hl, hb, hh => by
    rcases snoc_cases l with rfl | ⟨p, b, rfl⟩
    · exact absurd rfl hl
    · rw [gval_snoc]
      by_cases hp : p = []
      · subst hp
        have h1 := hb b (by simp)
        have h2 : b.toNat ≠ 128 := fun e => hh (by simp; exact UInt8.toNat_inj.1 e)
        have := b.toNat_lt
        omega
      · have := gval_pos n p (by simpa using hn) hp (fun x hx => hb x (by simp [hx])) (by
          obtain ⟨x, q, rfl⟩ := List.exists_cons_of_ne_nil hp
          simpa using hh)
        omega
theorem gval_hi : ∀ (f : Nat) (l : List UInt8), l.length ≤ f → (∀ b ∈ l, 128 ≤ b.toNat) → l.head? ≠ some 128 → hi f (gval l) = l
  | 0, l, hf, _, _ => by
    have : l = [] := List.length_eq_zero_iff.1 (by omega)
    subst this; rfl
  | f + 1, l, hf, hb, hh => by
    rcases snoc_cases l with rfl | ⟨p, b, rfl⟩
    · rfl
    · have hpos := gval_pos _ (p ++ [b]) rfl (by simp) hb hh
      have h1 := hb b (by simp)
      have h2 := b.toNat_lt
      rw [hi, if_neg (by omega), gval_snoc]
      have e1 : (gval p * 128 + b.toNat % 128) / 128 = gval p := by omega
      have e2 : (gval p * 128 + b.toNat % 128) % 128 = b.toNat % 128 := by omega
      rw [e1, e2, show 128 + b.toNat % 128 = b.toNat by omega]
      rw [gval_hi f p (by simp at hf; omega) (fun x hx => hb x (by simp [hx])) (by
        cases p with
        | nil => simp
        | cons x q => simpa using hh)]
      simp
/-- what is read was written -/
theorem int_read {l : List UInt8} {n k : Int} (h : readS l = (n, k, 0)) : ∃ r, l = intE n ++ r ∧ k = ((intE n).length : Int) := by
  have hok := (readS_ok h).1 rfl
  unfold readS at h
  obtain ⟨b0, hb0⟩ : ∃ b, (l.head? == some 128) = b := ⟨_, rfl⟩
  rw [hb0] at h
  obtain ⟨pre, c, rest, h1, h2, h3, h4, h5⟩ := rdL_split b0 9 l [] n k h (by simp)
  simp only [List.nil_append, List.length_nil] at h1 h4
  cases b0
  case true =>
    unfold finS at h5
    simp only [true_or, if_true] at h5
    obtain ⟨_, _, h5⟩ := trip' h5
    exact absurd h5 (by decide)
  have hh : l.head? ≠ some 128 := beq_eq_false_iff_ne.1 hb0
  have hp : hi 10 (gval pre) = pre := gval_hi 10 pre (by omega) h2 (by
    cases pre with
    | nil => simp
    | cons x q => rw [h1] at hh; simpa using hh)
  obtain ⟨X, hX⟩ : ∃ X, gval pre * 128 + c.toNat = X := ⟨_, rfl⟩
  rw [hX] at h5
  unfold finS at h5
  obtain ⟨o, ho⟩ : ∃ o : Int, o = if X % 2 = 1 then -(((X + 1) / 2 : Nat) : Int) else ((X / 2 : Nat) : Int) := ⟨_, rfl⟩
  simp only [← ho, Bool.false_eq_true, false_or] at h5
  split at h5
  · obtain ⟨_, _, h5⟩ := trip' h5
    exact absurd h5 (by decide)
  · obtain ⟨rfl, rfl, _⟩ := trip' h5
    have hz : zz o = X := by
      unfold zz
      split at ho <;> split <;> omega
    have e1 : X / 128 = gval pre := by omega
    have e2 : X % 128 = c.toNat := by omega
    have hE : intE o = pre ++ [c] := by
      unfold intE
      rw [hz, e1, e2, hp]
      simp
    refine ⟨rest, by rw [hE, h1]; simp, by rw [hE]; simp⟩
/-- the same for strings -/
theorem read_text (d r : List UInt8) (h : d.length ≤ 65536) : textS (textE d ++ r) = (d, ((textE d).length : Int), 0) := by
  have hr := read_int d.length (d ++ r) (by omega) (by omega)
  have hl : lenS (textE d ++ r) = ((d.length : Int), ((intE (d.length : Int)).length : Int), 0) := by
    unfold lenS textE
    rw [List.append_assoc, hr]
    simp only
    rw [if_neg (by simp), if_neg (by omega)]
  unfold textS
  rw [hl]
  simp only
  unfold textE
  rw [if_neg (by simp), if_neg (by simp only [List.length_append]; omega)]
  simp only [Int.toNat_natCast, List.append_assoc, List.drop_left, List.take_left, List.length_append]
  rfl
theorem text_read {l d : List UInt8} {k : Int} (h : textS l = (d, k, 0)) : (∃ r, l = textE d ++ r) ∧ k = ((textE d).length : Int) ∧ d.length ≤ 65536 := by
  obtain ⟨⟨n, c, e⟩, hl⟩ : ∃ x, lenS l = x := ⟨_, rfl⟩
  unfold textS at h
  rw [hl] at h
  simp only at h
  have hok := lenS_ok hl
  unfold lenS at hl
  by_cases he : e = 0
  case neg =>
    rw [if_pos he] at h
    obtain ⟨_, _, h⟩ := trip' h
    exact absurd h he
  subst he
  rw [if_neg (by simp)] at h
  split at h
  · obtain ⟨_, _, h⟩ := trip' h
    exact absurd h (by decide)
  rename_i hlt
  obtain ⟨rfl, rfl, _⟩ := trip' h
  have hb := hok.1 rfl
  split at hl
  · rename_i h1
    obtain ⟨_, _, h2⟩ := trip' hl
    exact absurd h2 h1
  split at hl
  · obtain ⟨_, _, h2⟩ := trip' hl
    exact absurd h2 (by decide)
  obtain ⟨r, rfl, hc⟩ := int_read hl
  subst hc
  obtain ⟨m, rfl⟩ : ∃ m : Nat, n = m := ⟨n.toNat, by omega⟩
  simp only [Int.toNat_natCast, List.drop_left] at h ⊢
  rw [List.length_append] at hlt
  have hm : m ≤ r.length := by omega
  have hd : (r.take m).length = m := by rw [List.length_take]; omega
  have hE : textE (r.take m) = intE (m : Int) ++ r.take m := by unfold textE; rw [hd]
  refine ⟨⟨r.drop m, ?_⟩, ?_, by omega⟩
  · rw [hE, List.append_assoc, List.take_append_drop]
  · rw [hE, List.length_append, hd]; omega
end Go.Proofs.Ythgokfceakbjlaa
/-! XTa -/
namespace Go.Proofs.Ythgokfceakbjlaa
open Go Go.RowKit
/-- f integers, one after the other, and their size -/
def rdNs : Nat → List UInt8 → Option (List Int × Nat)
  | 0, _ => some ([], 0)
  | f + 1, t => if (readS t).2.2 ≠ 0 then none else match rdNs f (t.drop (readS t).2.1.toNat) with
    | none => none
    | some (l, m) => some ((readS t).1 :: l, (readS t).2.1.toNat + m)
theorem rdNs_enc : ∀ (l : List Int) (r : List UInt8), (∀ n ∈ l, -1152921504606846976 ≤ n ∧ n ≤ 1152921504606846976) → rdNs l.length (l.flatMap intE ++ r) = some (l, (l.flatMap intE).length)
  | [], r, _ => rfl
  | n :: l, r, h => by
    obtain ⟨h1, h2⟩ := h n (List.mem_cons_self ..)
    have hr := read_int n (l.flatMap intE ++ r) h1 h2
    have hi := rdNs_enc l r (fun m hm => h m (List.mem_cons_of_mem _ hm))
    have e : (n :: l).flatMap intE ++ r = intE n ++ (l.flatMap intE ++ r) := by simp
    rw [e, List.length_cons, rdNs, hr]
    simp only [Int.toNat_natCast, List.drop_left]
    rw [if_neg (by simp), hi]
    simp
theorem enc_rdNs : ∀ (f : Nat) (t : List UInt8) (l : List Int) (m : Nat), rdNs f t = some (l, m) → (∃ r, t = l.flatMap intE ++ r) ∧ m = (l.flatMap intE).length ∧ l.length = f
  | 0, t, l, m, h => by
    rw [rdNs] at h
    injection h with h
    injection h with h1 h2
    subst h1 h2
    exact ⟨⟨t, rfl⟩, rfl, rfl⟩
  | f + 1, t, l, m, h => by
    rw [rdNs] at h
    obtain ⟨⟨n, k, e⟩, hr⟩ : ∃ q, readS t = q := ⟨_, rfl⟩
    rw [hr] at h
    simp only at h
    split at h
    · cases h
    rename_i he
    obtain rfl : e = 0 := Decidable.not_not.1 he
    obtain ⟨r, rfl, rfl⟩ := int_read hr
    simp only [Int.toNat_natCast, List.drop_left] at h
    split at h
    · cases h
    rename_i l2 m2 h2
    injection h with h
    injection h with h1 h3
    subst h1 h3
    obtain ⟨⟨r2, rfl⟩, hm, hl⟩ := enc_rdNs f _ _ _ h2
    exact ⟨⟨r2, by simp⟩, by simp [hm], by simp [hl]⟩
end Go.Proofs.Ythgokfceakbjlaa
/-! XTi -/
namespace Go.Proofs.Ythgokfceakbjlaa
open Go Go.RowKit
attribute [local go_sem] B_getElem B_size B_app B_extract B_get B_toList
/-- what is left of the integers, joined to what is there -/
def moreN (l : List Int) (d : Nat) : Option (List Int × Nat) → Option (List Int × Nat)
  | none => none
  | some r => some (l ++ r.1, d + r.2)
theorem moreN_step {l : List Int} {d f : Nat} {s : List UInt8} {n k : Int} (h : readS s = (n, k, 0)) : moreN l d (rdNs (f + 1) s) = moreN (l ++ [n]) (d + k.toNat) (rdNs f (s.drop k.toNat)) := by
  rw [rdNs, h]
  simp only
  rw [if_neg (by simp)]
  cases rdNs f (s.drop k.toNat) with
  | none => rfl
  | some r => simp [moreN, Nat.add_assoc]
theorem moreN_bad {l : List Int} {d f : Nat} {s : List UInt8} {n k e : Int} (h : readS s = (n, k, e)) (he : e ≠ 0) : moreN l d (rdNs (f + 1) s) = none := by
  rw [rdNs, h]; simp only; rw [if_pos he]; rfl
end Go.Proofs.Ythgokfceakbjlaa
/-! XPg -/
namespace Go.Proofs.Ythgokfceakbjlaa
open Go Go.RowKit
theorem str_bytes (s : List UInt8) (w : World) : (convert 9 51 (.string (B s))).run Try.prog w = .ok (.slice (some ⟨w.heap.size, 0, none⟩) s.length (grownCap w s.length 0 5)) (Lib.bytesWorld w 5 (B s)) := by
  have := Lib.run_convert_string_bytes (P := Try.prog) w 9 51 5 (B s) Try.underlying9 Try.underlying51 Try.underlying5
  rw [B_size] at this
  exact this
theorem bytes_below {w : World} {e : TypeId} {s : ByteArray} : Below w.heap.size w (Lib.bytesWorld w e s) := ⟨rfl, rfl, rfl, by rw [Lib.bytesWorld_size]; omega, fun g hg => Lib.bytesWorld_at_old w e s g hg⟩
end Go.Proofs.Ythgokfceakbjlaa
/-! XTc -/
namespace Go.Proofs.Ythgokfceakbjlaa
open Go Go.RowKit
attribute [local go_sem] B_getElem B_size B_app B_extract B_get B_toList
/-- v owns a row of the bytes l, nothing within its capacity frozen -/
def OwnS (w : World) (base : Nat) (v : Value) (l : List UInt8) : Prop :=
  ∃ g cap cur fz, v = .slice (some ⟨g, 0, none⟩) l.length cap ∧ base ≤ g ∧ w.heap[g]? = some (.cells cur 5 fz) ∧ (∀ j, j < cap → ¬ (fz.1 ≤ j ∧ j < fz.2)) ∧ l.length ≤ cap ∧ cap ≤ maxLen ∧ cur.size = cap ∧ cur.toList.take l.length = Lib.strCells (B l)
theorem strCells_B (l : List UInt8) : Lib.strCells (B l) = l.map fun x => Value.int .u8 (x.toNat : Int) := rfl
theorem run_storeCells_M (P : Program) (g o : Nat) (t : TypeId) (fz : Nat × Nat) : ∀ (vs : List Value) (i : Nat) (cur : Array Value) (w : World), w.heap[g]? = some (.cells cur t fz) → (∀ j, j < cur.size → ¬ (fz.1 ≤ j ∧ j < fz.2)) → o + i + vs.length ≤ cur.size → (∀ v ∈ vs, v.oneCell' = true) →
    (storeCells ⟨g, o, none⟩ vs i).run P w = .ok () (w.setRow g (cur.toList.take (o + i) ++ vs ++ cur.toList.drop (o + i + vs.length)).toArray)
  | [], i, cur, w, hg, _, _, _ => by
    simp only [storeCells, List.append_nil, List.length_nil, Nat.add_zero, List.take_append_drop, Array.toArray_toList]
    rw [setRow_self w g cur t fz hg]
    rfl
  | v :: rest, i, cur, w, hg, hfz, hl, h1 => by
    have hi : o + i < cur.size := by simp at hl; omega
    have hadd : (⟨g, o, none⟩ : Addr).add i = ⟨g, o + i, none⟩ := by unfold Addr.add; split <;> simp_all
    have hcell : w.cell? ⟨g, o + i, none⟩ = some cur[o + i] := by simp [World.cell?, hg, hi]
    have hfro : w.frozen? ⟨g, o + i, none⟩ = false := by
      have := hfz (o + i) hi
      obtain ⟨lo, hi'⟩ := fz
      simp only [World.frozen?, hg, Bool.and_eq_false_iff, decide_eq_false_iff_not]
      simp only at this
      by_cases q : lo ≤ o + i
      · exact .inr fun r => this ⟨q, r⟩
      · exact .inl q
    have hst : (store ((⟨g, o, none⟩ : Addr).add i) v).run P w = .ok () (w.setRow g (cur.setIfInBounds (o + i) v)) := by
      rw [hadd, run_store P w _ v _ (h1 v (by simp)), hcell]
      simp [hfro, setCell_eq_setRow w g (o + i) cur t fz v hg]
    have ih := run_storeCells_M P g o t fz rest (i + 1) (cur.setIfInBounds (o + i) v) (w.setRow g (cur.setIfInBounds (o + i) v)) (setRow_heap w g cur _ t _ hg) (by simpa using hfz) (by simp at hl ⊢; omega) (fun x hx => h1 x (by simp [hx]))
    simp only [storeCells, Sem.run_bind, hst, Result.andThen_ok, ih, setRow_setRow]
    congr 3
    have e := list_seg_step cur.toList (o + i) v rest (by simp at hl ⊢; omega)
    simpa [Array.toList_setIfInBounds, Nat.add_assoc] using e
theorem run_append_S {P : Program} (w : World) (base : Nat) (t u ty : TypeId) (i : TypeInfo) (ht : P.underlying t = some (.slice 5)) (hu : P.underlying u = some .string) (hi : P.info? 5 = some i) (hz : i.zero = some (.int .u8 0))
    (hsize : i.size = 1) (hby : i.bytes = 1) (v : Value) (l : List UInt8) (hown : OwnS w base v l) (s : List UInt8) (hb : l.length + s.length ≤ 140737488355328) (hbase : base ≤ w.heap.size) :
    ∃ v' w', (Builtin.append_ #[t, u] ty #[v, .string (B s)]).run P w = .ok v' w' ∧ OwnS w' base v' (l ++ s) ∧ w.grownBy w' v.ownBlock := by
  obtain ⟨g, cap, cur, fz, rfl, hbg, hg, hfz, hnc, hcm, hcs, htake⟩ := hown
  have hsl : (Lib.strCells (B l)).length = l.length := by rw [Lib.strCells_length, B_size]
  have hsl2 : (Lib.strCells (B s)).length = s.length := by rw [Lib.strCells_length, B_size]
  have hss : (B s).size = s.length := B_size s
  have hcat : Lib.strCells (B (l ++ s)) = Lib.strCells (B l) ++ Lib.strCells (B s) := by rw [strCells_B, strCells_B, strCells_B, List.map_append]
  by_cases hroom : l.length + s.length ≤ cap
  · have hf := Lib.run_firstCells_string (P := P) w 1 (B s)
    have hst := run_storeCells_M P g l.length 5 fz (Lib.strCells (B s)) 0 cur w hg (by rw [hcs]; exact hfz) (by omega) (Lib.strCells_oneCell (B s))
    simp only [Nat.add_zero, Lib.strCells_length, B_size] at hst hf
    refine ⟨.slice (some ⟨g, 0, none⟩) (l.length + s.length) cap, w.setRow g (cur.toList.take l.length ++ Lib.strCells (B s) ++ cur.toList.drop (l.length + s.length)).toArray, ?_, ?_, ⟨rfl, rfl, rfl, by simp, fun k _ hk => setRow_other w g k _ (fun e => hk (by simp [Value.ownBlock, e]))⟩⟩
    · simp [Builtin.append_, run_underlying ht, run_underlying hu, sizeOf, typeInfo, hi, hsize, Builtin.lenOf, B_size, hroom, hf, Addr.add_lit, hst]
    · refine ⟨g, cap, _, fz, by rw [List.length_append], hbg, setRow_heap w g cur _ _ _ hg, hfz, by rw [List.length_append]; exact hroom, hcm, ?_, ?_⟩
      · simp only [List.size_toArray, List.length_append, List.length_take, List.length_drop, Array.length_toList, hsl2]
        omega
      · rw [htake, hcat]
        have : (l ++ s).length = (Lib.strCells (B l) ++ Lib.strCells (B s)).length := by rw [List.length_append, List.length_append, hsl, hsl2]
        rw [this]
        exact List.take_left
  · have holds : ∀ j u, (Lib.strCells (B l))[j]? = some u → w.cell? ((⟨g, 0, none⟩ : Addr).add j) = some u := by
      intro j u hu
      rw [addN, Nat.zero_add, cell_of_row w g j cur _ fz hg]
      rw [← htake, List.getElem?_take] at hu
      split at hu
      · simpa using hu
      · cases hu
    have hr := Lib.run_append_grow_string (P := P) w t u ty 5 i (.int .u8 0) ht hu hi hz ⟨g, 0, none⟩ l.length cap (Lib.strCells (B l)) (by rw [hsize, hsl, Nat.mul_one]) holds (B s) (by omega) (by omega) (by rw [hby]; exact growslice_fits (by omega) (by omega))
    have hge := grownCap_ge w (l.length + (B s).size) cap 5
    have hcm2 : grownCap w (l.length + (B s).size) cap 5 ≤ maxLen := grownCap_le_maxLen w (l.length + (B s).size) cap 5 (by unfold maxLen; omega)
    refine ⟨_, _, hr, ⟨w.heap.size, _, _, (0, 0), by rw [List.length_append, hss], hbase, heap_alloc_new w.drew _, by simp, by rw [List.length_append]; omega, hcm2, ?_, ?_⟩, ⟨rfl, rfl, rfl, by simp, fun k hk _ => Below.heap_alloc w.drew _ _ hk⟩⟩
    · have hz1 : (Value.int IntKind.u8 0).cells.size = 1 := rfl
      simp only [Array.size_append, List.size_toArray, size_zeroCells, hz1, hsl, hsl2]
      omega
    · simp only [Array.toList_append, List.append_assoc]
      rw [← List.append_assoc, ← hcat]
      have : (l ++ s).length = (Lib.strCells (B (l ++ s))).length := by rw [Lib.strCells_length, B_size]
      rw [this]
      exact List.take_left
theorem wpList_append_S {P : Program} {w : World} {ops : Array Oper} {rest : List Oper} {o : Oper} {a : Act} {Q : Exit → Act → World → Prop} (hgd : o.guard = none) (sl x : Operand) (t u : TypeId)
    (ho : o.op = .call { callee := .builtin .append, args := #[sl, x], argTypes := #[t, u] })
    (base : Nat) (i : TypeInfo) (ht : P.underlying t = some (.slice 5)) (hu : P.underlying u = some .string) (hi : P.info? 5 = some i) (hz : i.zero = some (.int .u8 0))
    (hsize : i.size = 1) (hby : i.bytes = 1) (v : Value) (l : List UInt8) (hs : a.eval sl = v) (hown : OwnS w base v l) (s : List UInt8) (hx : a.eval x = .string (B s)) (hb : l.length + s.length ≤ 140737488355328) (hbase : base ≤ w.heap.size)
    (h : ∀ v' w', OwnS w' base v' (l ++ s) → w.grownBy w' v.ownBlock → wpList P ops Q rest (a.put o.dst v') w') : wpList P ops Q (o :: rest) a w := by
  refine wpList_plain hgd fun K hK => ?_
  obtain ⟨v', w', hr, h2, h3⟩ := run_append_S (P := P) w base t u o.type i ht hu hi hz hsize hby v l hown s hb hbase
  unfold Oper.wp execOp
  simp only [ho, resolve, invoke, builtin, Sem.run_bind, Sem.run_pure, Result.andThen_ok, List.map_toArray, List.map_cons, List.map_nil, hs, hx, hr]
  exact hK _ _ (h v' w' h2 h3)
/-- []byte(s) -/
theorem OwnS.conv (w : World) (l : List UInt8) (h : l.length ≤ maxLen) : OwnS (Lib.bytesWorld w 5 (B l)) w.heap.size (.slice (some ⟨w.heap.size, 0, none⟩) l.length (grownCap w l.length 0 5)) l := by
  have hge := grownCap_ge w l.length 0 5
  have hsz : (Lib.bytesCells w 5 (B l)).size = grownCap w l.length 0 5 := by
    simp only [Lib.bytesCells, Array.size_append, Array.size_map, Array.size_replicate, B_size]
    have : (B l).data.size = l.length := B_size l
    omega
  refine ⟨w.heap.size, _, _, _, rfl, Nat.le_refl _, Lib.bytesWorld_at_new w _ (B l), ?_, hge, grownCap_le_maxLen w l.length 0 _ h, hsz, ?_⟩
  · intro j hj; rw [hsz]; simp only; omega
  · have e : (Lib.bytesCells w 5 (B l)).toList = Lib.strCells (B l) ++ List.replicate (grownCap w l.length 0 5 - l.length) (.int .u8 0) := by
      simp [Lib.bytesCells, Lib.strCells, B_size]
    rw [e]
    have : l.length = (Lib.strCells (B l)).length := by rw [Lib.strCells_length, B_size]
    rw [this]
    exact List.take_left
/-- string(b) -/
theorem OwnS.back {w : World} {base : Nat} {v : Value} {l : List UInt8} (h : OwnS w base v l) : (convert 51 9 v).run Try.prog w = .ok (.string (B l)) w := by
  obtain ⟨g, cap, cur, fz, rfl, hbg, hg, hfz, hnc, hcm, hcs, htake⟩ := h
  refine conv_bytes w 51 9 5 _ _ _ l Try.underlying51 Try.underlying5 Try.underlying9 rfl ?_ (fun h => by cases h)
  intro ad had j hj
  injection had with had
  subst had
  rw [addN, Nat.zero_add, cell_of_row w g j cur _ fz hg]
  have hu : (Lib.strCells (B l))[j]? = some (.int .u8 (l[j].toNat : Int)) := by rw [strCells_B, List.getElem?_map, List.getElem?_eq_getElem hj]; rfl
  rw [← htake, List.getElem?_take, if_pos hj] at hu
  simpa using hu
theorem OwnS.lt {w : World} {base : Nat} {v : Value} {l : List UInt8} (h : OwnS w base v l) : ∀ q, v.ownBlock = some q → base ≤ q ∧ q < w.heap.size := by
  obtain ⟨g, cap, cur, fz, rfl, hbg, hg, _⟩ := h
  intro q hq
  simp [Value.ownBlock] at hq
  subst hq
  exact ⟨hbg, (Array.getElem?_eq_some_iff.1 hg).1⟩
theorem OwnS.below {w w' : World} {base : Nat} {v : Value} {l : List UInt8} (h : OwnS w base v l) (k : Below w.heap.size w w') : OwnS w' base v l := by
  obtain ⟨g, cap, cur, fz, rfl, hbg, hg, r⟩ := h
  exact ⟨g, cap, cur, fz, rfl, hbg, (k.block g (Array.getElem?_eq_some_iff.1 hg).1).trans hg, r⟩
end Go.Proofs.Ythgokfceakbjlaa
