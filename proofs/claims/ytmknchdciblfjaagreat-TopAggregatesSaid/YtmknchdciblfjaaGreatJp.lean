/- Joined by port.py: XTa XTb XTc -/
import Derived.Lib.AppendStr
import Derived.Lib.ConvBytes
import Derived.Test.YtmknchdciblfjaaGreatJa
import Derived.Test.YtmknchdciblfjaaGreatJb
import Derived.Test.YtmknchdciblfjaaGreatJd
import Derived.Test.YtmknchdciblfjaaGreatJe
import Derived.Test.YtmknchdciblfjaaGreatJf
import Derived.Test.YtmknchdciblfjaaGreatJg
import Derived.Test.YtmknchdciblfjaaGreatJh
import Derived.Test.YtmknchdciblfjaaGreatJiz
import Derived.Test.YtmknchdciblfjaaGreatJk
import Derived.Test.YtmknchdciblfjaaGreatJl
import Derived.Test.YtmknchdciblfjaaGreatJm
import Derived.Test.YtmknchdciblfjaaGreatJo
import Derived.Test.YtmknchdciblfjaaGreatJs
set_option linter.unusedVariables false
set_option linter.unusedSimpArgs false
/-! XTa -/
namespace Go.Proofs.YtmknchdciblfjaaGreat
open Go Go.RowKit
def nums (b : Bun) : List Int := [b.src, b.crt, b.seq, b.off, b.tot, b.dk, b.dn, b.life, b.prio, b.flags]
def magicL : List UInt8 := [77, 66, 49]
def bodyE (b : Bun) : List UInt8 := textE magicL ++ ((nums b).flatMap intE ++ (encA b.blocks ++ textE b.payload))
/-- the bytes of a bundle -/
def bunE (b : Bun) : List UInt8 := sealE (bodyE b)
def bunR (b : Bun) : List UInt8 := if chkE b = 0 then bunE b else []
/-- f integers, one after the other, and their size -/
def rdNs : Nat → List UInt8 → Option (List Int × Nat)
  | 0, _ => some ([], 0)
  | f + 1, t => if (readS t).2.2 ≠ 0 then none else match rdNs f (t.drop (readS t).2.1.toNat) with
    | none => none
    | some (l, m) => some ((readS t).1 :: l, (readS t).2.1.toNat + m)
def mkBun (l : List Int) (bl : List Blk) (p : List UInt8) : Bun := ⟨l.getD 0 0, l.getD 1 0, l.getD 2 0, l.getD 3 0, l.getD 4 0, l.getD 5 0, l.getD 6 0, l.getD 7 0, l.getD 8 0, l.getD 9 0, bl, p⟩
/-- the bundle in a frame -/
def bodyD (t : List UInt8) : Option Bun :=
  let x := textS t
  if x.2.2 ≠ 0 ∨ x.1 ≠ magicL then none
  else match rdNs 10 (t.drop x.2.1.toNat) with
    | none => none
    | some (l, m) =>
      let y := decAS (t.drop (x.2.1.toNat + m))
      if y.2.2 ≠ 0 then none
      else
        let z := textS (t.drop (x.2.1.toNat + m + y.2.1))
        if z.2.2 ≠ 0 then none
        else if x.2.1.toNat + m + y.2.1 + z.2.1.toNat ≠ t.length then none
        else if chkE (mkBun l y.1 z.1) ≠ 0 then none else some (mkBun l y.1 z.1)
/-- what Decode answers -/
def decBS (s : List UInt8) : Bun × Int :=
  if (openS tailB s).2.2 ≠ 0 then (zBun, (openS tailB s).2.2)
  else if (openS tailB s).2.1 ≠ s.length then (zBun, 11)
  else match bodyD (openS tailB s).1 with
    | none => (zBun, 11)
    | some b => (b, 0)
theorem rdNs_enc : ∀ (l : List Int) (r : List UInt8), (∀ n ∈ l, -1152921504606846976 ≤ n ∧ n ≤ 1152921504606846976) → rdNs l.length (l.flatMap intE ++ r) = some (l, (l.flatMap intE).length)
  | [], r, _ => rfl
  | n :: l, r, h => by
    obtain ⟨h1, h2⟩ := h n (List.mem_cons_self ..)
    have hr := read_int n (l.flatMap intE ++ r) h1 h2
    have hi := rdNs_enc l r (fun m hm => h m (List.mem_cons_of_mem _ hm))
    have e : (n :: l).flatMap intE ++ r = intE n ++ (l.flatMap intE ++ r) := by simp
    rw [e, List.length_cons, rdNs, hr]
    simp only [Int.toNat_natCast, List.drop_left]
    rw [if_neg (by simp), hi]
    simp
theorem enc_rdNs : ∀ (f : Nat) (t : List UInt8) (l : List Int) (m : Nat), rdNs f t = some (l, m) → (∃ r, t = l.flatMap intE ++ r) ∧ m = (l.flatMap intE).length ∧ l.length = f
  | 0, t, l, m, h => by
    rw [rdNs] at h
    injection h with h
    injection h with h1 h2
    subst h1 h2
    exact ⟨⟨t, rfl⟩, rfl, rfl⟩
  | f + 1, t, l, m, h => by
    rw [rdNs] at h
    obtain ⟨⟨n, k, e⟩, hr⟩ : ∃ q, readS t = q := ⟨_, rfl⟩
    rw [hr] at h
    simp only at h
    split at h
    · cases h
    rename_i he
    obtain rfl : e = 0 := Decidable.not_not.1 he
    obtain ⟨r, rfl, rfl⟩ := int_read hr
    simp only [Int.toNat_natCast, List.drop_left] at h
    split at h
    · cases h
    rename_i l2 m2 h2
    injection h with h
    injection h with h1 h3
    subst h1 h3
    obtain ⟨⟨r2, rfl⟩, hm, hl⟩ := enc_rdNs f _ _ _ h2
    exact ⟨⟨r2, by simp⟩, by simp [hm], by simp [hl]⟩
theorem ordB_caE : ∀ (l : List Blk) (p : Option Int), firstE l = 0 → ordB l = true → (∀ x q, l.head? = some x → p = some q → q < x.kind) → caE p l = 0
  | [], _, _, _, _ => by simp [caE]
  | x :: l, p, h1, h2, h3 => by
    rw [firstE] at h1
    split at h1
    · rename_i h; exact absurd h1 h
    rename_i hx
    rw [caE, if_neg hx, if_neg (by rintro ⟨q, hq, hq2⟩; have := h3 x q rfl hq; omega)]
    refine ordB_caE l _ h1 ?_ ?_
    · unfold ordB at h2
      simp only [Bool.and_eq_true] at h2
      exact h2.2
    · intro y q hy hq
      injection hq with hq
      subst hq
      unfold ordB at h2
      simp only [Bool.and_eq_true] at h2
      cases l with
      | nil => cases hy
      | cons z l =>
        injection hy with hy
        subst hy
        simpa using h2.1
theorem blks_chk {l : List Blk} (h : blksE l = 0) : chkAll l = 0 := by
  obtain ⟨h1, h2, h3⟩ := blksE_zero h
  unfold chkAll
  rw [if_neg (by omega)]
  exact ordB_caE l none h2 h3 (fun _ _ _ h => by cases h)
theorem nums_len (b : Bun) : (nums b).length = 10 := rfl
theorem nums_ok {b : Bun} (h : chkE b = 0) : ∀ n ∈ nums b, -1152921504606846976 ≤ n ∧ n ≤ 1152921504606846976 := by
  have v := valid_facts h
  obtain ⟨h1, h2, h3, h4, h5, h6, h7⟩ := chkE_zero h
  have a := of_decide_eq_true h1
  have hd : -1152921504606846976 ≤ b.dk ∧ b.dk ≤ 1152921504606846976 ∧ -1152921504606846976 ≤ b.dn ∧ b.dn ≤ 1152921504606846976 := by
    unfold endE at h7
    split at h7
    · split at h7
      · omega
      · cases h7
    · split at h7
      · split at h7
        · omega
        · cases h7
      · cases h7
  intro n hn
  simp only [nums, List.mem_cons, List.not_mem_nil, or_false] at hn
  rcases hn with rfl | rfl | rfl | rfl | rfl | rfl | rfl | rfl | rfl | rfl <;> omega
theorem mk_nums (b : Bun) : mkBun (nums b) b.blocks b.payload = b := rfl
theorem nums_mk {l : List Int} (bl : List Blk) (p : List UInt8) (h : l.length = 10) : nums (mkBun l bl p) = l := by
  match l, h with
  | [_, _, _, _, _, _, _, _, _, _], _ => rfl
theorem nums_size (l : List Int) : (l.flatMap intE).length ≤ 11 * l.length := by
  induction l with
  | nil => simp
  | cons n l ih => have := (intE_len n).2; rw [List.flatMap_cons, List.length_append, List.length_cons]; omega
theorem encA_len {l : List Blk} (h : chkAll l = 0) : (encA l).length ≤ 10000 := by
  obtain ⟨h8, hb⟩ := chkAll_zero h
  have hf : ∀ (m : List Blk), (∀ x ∈ m, blkE x = 0) → (m.flatMap encB).length ≤ 1100 * m.length := by
    intro m
    induction m with
    | nil => intro _; simp
    | cons x m ih =>
      intro hm
      have h1 := ih fun y hy => hm y (List.mem_cons_of_mem _ hy)
      have h2 := encB_len x (blkE_zero (hm x (List.mem_cons_self ..))).2.2.2.2
      rw [List.flatMap_cons, List.length_append, List.length_cons]
      omega
  have h1 := hf l hb
  have h2 := intE_len l.length
  unfold encA
  rw [List.length_append]
  omega
theorem bodyE_len {b : Bun} (h : chkE b = 0) : (bodyE b).length ≤ 20000 := by
  have h1 := nums_size (nums b)
  rw [nums_len] at h1
  have h2 := encA_len (blks_chk (chkE_zero h).2.2.1)
  have h3 := (payE_zero (chkE_zero h).2.2.2.1).1
  have h4 := (textE_len b.payload).2
  have h5 := (textE_len magicL).2
  have h6 : magicL.length = 3 := rfl
  unfold bodyE
  simp only [List.length_append]
  omega
theorem body_writeB {b : Bun} (h : chkE b = 0) : bodyD (bodyE b) = some b := by
  have hp := (payE_zero (chkE_zero h).2.2.2.1).1
  have hc := blks_chk (chkE_zero h).2.2.1
  have h1 := read_text magicL ((nums b).flatMap intE ++ (encA b.blocks ++ textE b.payload)) (by decide)
  have h2 := rdNs_enc (nums b) (encA b.blocks ++ textE b.payload) (nums_ok h)
  rw [nums_len] at h2
  have h3 := decA_enc (textE b.payload) hc
  have h4 := read_text b.payload [] (by omega)
  rw [List.append_nil] at h4
  have d1 : (bodyE b).drop (textE magicL).length = (nums b).flatMap intE ++ (encA b.blocks ++ textE b.payload) := drop_app rfl
  have d2 : (bodyE b).drop ((textE magicL).length + ((nums b).flatMap intE).length) = encA b.blocks ++ textE b.payload := by
    unfold bodyE; rw [← List.append_assoc]; exact drop_app (by simp)
  have d3 : (bodyE b).drop ((textE magicL).length + ((nums b).flatMap intE).length + (encA b.blocks).length) = textE b.payload := by
    unfold bodyE; rw [← List.append_assoc, ← List.append_assoc]; exact drop_app (by simp [Nat.add_assoc])
  unfold bodyD
  have h1' : textS (bodyE b) = (magicL, ((textE magicL).length : Int), 0) := h1
  rw [h1']
  simp only [Int.toNat_natCast]
  rw [if_neg (by simp), d1, h2]
  simp only
  rw [d2, h3]
  simp only
  rw [if_neg (by simp), d3, h4]
  simp only [Int.toNat_natCast]
  rw [if_neg (by simp), if_neg (by unfold bodyE; simp only [List.length_append]; omega), mk_nums, if_neg (by simp [h])]
theorem body_readB {t : List UInt8} {b : Bun} (h : bodyD t = some b) : t = bodyE b ∧ chkE b = 0 := by
  unfold bodyD at h
  obtain ⟨⟨x, k, e⟩, hx⟩ : ∃ q, textS t = q := ⟨_, rfl⟩
  rw [hx] at h
  simp only at h
  split at h
  · cases h
  rename_i h1
  rw [not_or] at h1
  obtain rfl : e = 0 := Decidable.not_not.1 h1.1
  obtain rfl : x = magicL := Decidable.not_not.1 h1.2
  obtain ⟨⟨r1, rfl⟩, rfl, _⟩ := text_read hx
  simp only [Int.toNat_natCast, List.drop_left] at h
  split at h
  · cases h
  rename_i l m hl
  obtain ⟨⟨r2, rfl⟩, rfl, hlen⟩ := enc_rdNs _ _ _ _ hl
  have d2 : (textE magicL ++ (l.flatMap intE ++ r2)).drop ((textE magicL).length + (l.flatMap intE).length) = r2 := by
    rw [← List.append_assoc]; exact drop_app (by simp)
  rw [d2] at h
  obtain ⟨⟨bl, kb, eb⟩, hb⟩ : ∃ q, decAS r2 = q := ⟨_, rfl⟩
  rw [hb] at h
  simp only at h
  split at h
  · cases h
  rename_i h2
  obtain rfl : eb = 0 := Decidable.not_not.1 h2
  obtain ⟨⟨r3, rfl⟩, rfl, hc⟩ := enc_decA hb
  have d3 : (textE magicL ++ (l.flatMap intE ++ (encA bl ++ r3))).drop ((textE magicL).length + (l.flatMap intE).length + (encA bl).length) = r3 := by
    rw [← List.append_assoc, ← List.append_assoc]; exact drop_app (by simp [Nat.add_assoc])
  rw [d3] at h
  obtain ⟨⟨p, kp, ep⟩, hp⟩ : ∃ q, textS r3 = q := ⟨_, rfl⟩
  rw [hp] at h
  simp only at h
  split at h
  · cases h
  rename_i h3
  obtain rfl : ep = 0 := Decidable.not_not.1 h3
  obtain ⟨⟨r4, rfl⟩, rfl, _⟩ := text_read hp
  simp only [Int.toNat_natCast] at h
  split at h
  · cases h
  rename_i h4
  have h4' := Decidable.not_not.1 h4
  simp only [List.length_append] at h4'
  have : r4 = [] := List.length_eq_zero_iff.1 (by omega)
  subst this
  split at h
  · cases h
  rename_i h5
  injection h with h
  subst h
  refine ⟨?_, Decidable.not_not.1 h5⟩
  unfold bodyE
  rw [nums_mk _ _ hlen]
  simp [mkBun]
/-- what was written is read -/
theorem decB_enc {b : Bun} (h : chkE b = 0) : decBS (bunE b) = (b, 0) := by
  have ho := open_seal (bodyE b) [] (by have := bodyE_len h; omega)
  rw [List.append_nil] at ho
  unfold decBS
  have ho' : openS tailB (bunE b) = (bodyE b, ((sealE (bodyE b)).length : Int), 0) := ho
  rw [ho']
  simp only
  rw [if_neg (by simp), if_neg (by simp [bunE]), body_writeB h]
/-- what is read was written -/
theorem enc_decB {s : List UInt8} {b : Bun} (h : decBS s = (b, 0)) : s = bunE b ∧ chkE b = 0 := by
  unfold decBS at h
  obtain ⟨⟨t, k, e⟩, ho⟩ : ∃ q, openS tailB s = q := ⟨_, rfl⟩
  rw [ho] at h
  simp only at h
  split at h
  · rename_i h1; injection h with _ h2; exact absurd h2 h1
  rename_i he
  obtain rfl : e = 0 := Decidable.not_not.1 he
  split at h
  · injection h with _ h2; exact absurd h2 (by decide)
  rename_i hk
  have hk' := Decidable.not_not.1 hk
  split at h
  · injection h with _ h2; exact absurd h2 (by decide)
  rename_i b' hb
  injection h with h1 _
  subst h1
  obtain ⟨ht, hc⟩ := body_readB hb
  obtain ⟨⟨r, hs⟩, hk2, _⟩ := seal_open ho
  subst ht
  refine ⟨?_, hc⟩
  have hl := congrArg List.length hs
  rw [List.length_append] at hl
  have : r = [] := List.length_eq_zero_iff.1 (by omega)
  subst this
  rw [hs, List.append_nil]; rfl
end Go.Proofs.YtmknchdciblfjaaGreat
/-! XTb -/
namespace Go.Proofs.YtmknchdciblfjaaGreat
open Go Go.RowKit
attribute [local go_sem] B_getElem B_size B_app B_extract B_get B_toList
/-- the decoder's cells -/
def DecC (s : List UInt8) (a : Int) (q : Bool) : Array Value := #[.string (B s), .int .i64 a, .bool q]
/-- a decoder in box rb -/
def Dcr (w : World) (rb : Nat) (s : List UInt8) (a : Int) (q : Bool) : Prop := w.heap[rb]? = some (.cells (DecC s a q) 314 (0, 0))
theorem Dcr.lt {w : World} {rb : Nat} {s : List UInt8} {a : Int} {q : Bool} (h : Dcr w rb s a q) : rb < w.heap.size := by
  rcases Nat.lt_or_ge rb w.heap.size with z | z
  · exact z
  · unfold Dcr at h; rw [Array.getElem?_eq_none z] at h; cases h
/-- where the decoder stands behind a field of k bytes -/
def stA (a : Nat) (q : Bool) (k e : Int) : Nat := if q = true ∨ e ≠ 0 then a else a + k.toNat
def stQ (q : Bool) (e : Int) : Bool := q || decide (e ≠ 0)
def DcrPost (s : List UInt8) (v : Value) (a : Int) (q : Bool) (rb : Nat) (w : World) (e' : Ending) (w' : World) : Prop :=
  e' = .returned v ∧ Dcr w' rb s a q ∧ KpX w.heap.size rb w w' ∧ Below rb w w'
set_option maxHeartbeats 1000000 in
theorem drest_any (s : List UInt8) (a : Nat) (q : Bool) (rb : Nat) (w : World) (h : Dcr w rb s a q) (ha : a ≤ s.length) (hs : s.length ≤ 1000000000) :
    Calls Tryz.prog 211 #[.pointer (some ⟨rb, 0, none⟩)] w fun e w' => e = .returned (.string (B (s.drop a))) ∧ Below w.heap.size w w' := by
  unfold Dcr at h
  have ca := fun o => cellB h o
  simp only [DecC] at ca
  have ha2 : (a : Int) ≤ (s.length : Int) := by omega
  have ha0 : (0 : Int) ≤ (a : Int) := by omega
  have htk : (s.drop a).take (s.length - a) = s.drop a := List.take_of_length_le (by rw [List.length_drop]; exact Nat.le_refl _)
  clear h
  go_enter Tryz.func211, Tryz.ntmps211
  go_wp2
  refine wp_region_plan (fun V => ∀ o, V.cell? ⟨rb, o, none⟩ = #[Value.string (B s), .int .i64 a, .bool q][o]?) [0, 0, 0, 1, 0, 0, 0, 1, 0, 0] [0, 1, 2, 3, 4, 5, 6, 7, 8, 9] (by kernel_rfl) (by kernel_rfl) ?_ ?_
  case refine_1 => exact ca
  (iterate 10 (refine plan_held rfl (by decide) (by rfl) (fun w1 hS => by (try (have hS := hS rfl; obtain hS := hS; repeat (obtain ⟨_, hS⟩ := hS))); go_simp; rfl) ?_; simp only [Act.put, List.setIfInBounds_toArray, List.set_cons_zero, List.set_cons_succ]))
  refine plan_done ?_
  go_wp2
  go_ret
  exact ⟨rfl, belowA⟩
set_option maxHeartbeats 1000000 in
theorem pass_any (s : List UInt8) (a : Nat) (q : Bool) (k e : Int) (rb : Nat) (w : World) (h : Dcr w rb s a q) (ha : (a : Int) + k ≤ 2000000000) (hk : 0 ≤ k) :
    Calls Tryz.prog 250 #[.pointer (some ⟨rb, 0, none⟩), .int .i64 k, .int .i64 e] w fun e' w' => (∃ v, e' = .returned v) ∧ Dcr w' rb s (stA a q k e) (stQ q e) ∧ KpX w.heap.size rb w w' ∧ Below rb w w' := by
  have hrb := h.lt
  have hwk : IntKind.i64.wrap ((a : Int) + k) = (a : Int) + k := by rw [IntKind.wrap_i64]; omega
  have ha0 : (0 : Int) ≤ (a : Int) := by omega
  unfold Dcr at h
  have ca := fun o => cellB h o
  have fa := fun o => frozenB h o
  have H := Lib.hid h
  simp only [DecC] at ca
  clear h
  cases q
  case true =>
    rw [show stA a true k e = a from by unfold stA; rw [if_pos (.inl rfl)], show stQ true e = true from rfl]
    go_enter Tryz.func250, Tryz.ntmps250
    go_wp2
    go_end0
    exact ⟨⟨_, rfl⟩, by simpa [DecC, Dcr] using setB H.out 2 (.bool true), fld_set (Below.refl _ _) hrb⟩
  case false =>
    by_cases he : e = 0
    · subst he
      rw [show stQ false 0 = false from rfl]
      have HA : Hid (((stA a false k 0 : Nat) : Int) = (a : Int) + k) := Lib.hid (by unfold stA; rw [if_neg (by simp)]; omega)
      go_enter Tryz.func250, Tryz.ntmps250
      go_wp2
      go_end0
      refine ⟨⟨_, rfl⟩, ?_, ?_⟩
      · rw [HA.out]
        have h1 := setB H.out 2 (.bool false)
        have h2 := setB h1 1 (.int .i64 ((a : Int) + k))
        simpa [DecC, Dcr] using h2
      · have h1 := fld_set (o := 2) (u := .bool false) (Below.refl w.heap.size w) hrb
        have h2 := fld_set (w := w.setCell ⟨rb, 2, none⟩ (.bool false)) (o := 1) (u := .int .i64 ((a : Int) + k)) (Below.refl _ _) (rb := rb) (by simpa using hrb)
        refine ⟨h1.1.trans (by simpa using h2.1), h1.2.trans h2.2⟩
    · have he' : (e == 0) = false := beq_eq_false_iff_ne.2 he
      have he2 : (e != 0) = true := by rw [bne_iff_ne]; exact he
      rw [show stA a false k e = a from by unfold stA; rw [if_pos (.inr he)], show stQ false e = true from by unfold stQ; simp [he]]
      clear he
      go_enter Tryz.func250, Tryz.ntmps250
      go_wp2
      go_end0
      exact ⟨⟨_, rfl⟩, by simpa [DecC, Dcr] using setB H.out 2 (.bool true), fld_set (Below.refl _ _) hrb⟩
theorem stQ_err {q : Bool} {e : Int} (h : stQ q e = false) : q = false ∧ e = 0 := by
  unfold stQ at h; simpa using h
set_option maxHeartbeats 1000000 in
theorem dinteger_any (s : List UInt8) (a : Nat) (q : Bool) (n k e : Int) (rb : Nat) (w : World) (h : Dcr w rb s a q) (ha : a ≤ s.length) (hs : s.length ≤ 1000000000) (hr : readS (s.drop a) = (n, k, e)) :
    Calls Tryz.prog 209 #[.pointer (some ⟨rb, 0, none⟩)] w (DcrPost s (.int .i64 n) (stA a q k e) (stQ q e) rb w) := by
  have hrb := h.lt
  have hok := readS_ok hr
  have hl : (s.drop a).length ≤ 1000000000 := by rw [List.length_drop]; omega
  obtain ⟨hk0, hk9⟩ : 0 ≤ k ∧ k ≤ 9 := by
    by_cases he : e = 0
    · have := hok.1 he; omega
    · have := hok.2.2 he; omega
  have HR := Lib.hid hr
  have H := Lib.hid h
  clear h hr hok
  go_enter Tryz.func209, Tryz.ntmps209
  go_wp2_with fail
  refine (drest_any s a q rb _ H.out ha hs).mono ?_
  rintro e' w1 ⟨rfl, hb1⟩
  go_wp2_with fail
  refine (readint_any (s.drop a) n k e _ hl HR.out).mono ?_
  rintro e' w2 ⟨rfl, hb2⟩
  have hB2 : Below w.heap.size w w2 := belowA
  have h2 : Dcr w2 rb s a q := by unfold Dcr; rw [hB2.block rb hrb]; exact H.out
  have H2 := Lib.hid h2
  clear h2 hb1 hb2
  go_wp2_with fail
  refine (pass_any s a q k e rb _ H2.out (by omega) hk0).mono ?_
  rintro e' w3 ⟨⟨v, rfl⟩, h3, k3, b3⟩
  go_wp2
  go_ret
  obtain ⟨k4, b4⟩ := fld_none hB2 hrb
  exact ⟨rfl, h3, k4.trans ⟨k3.1, fun g hg hz => k3.2 g (by have := hB2.size; omega) hz⟩, b4.trans b3⟩
theorem textS_ok0 {l t : List UInt8} {k e : Int} (h : textS l = (t, k, e)) : 0 ≤ k ∧ k ≤ l.length := by
  have hok := textS_ok h
  by_cases he : e = 0
  · have := hok.1 he; omega
  · have := hok.2 he; omega
set_option maxHeartbeats 1000000 in
theorem dtext_any (s : List UInt8) (a : Nat) (q : Bool) (t : List UInt8) (k e : Int) (rb : Nat) (w : World) (h : Dcr w rb s a q) (ha : a ≤ s.length) (hs : s.length ≤ 1000000000) (hr : textS (s.drop a) = (t, k, e)) :
    Calls Tryz.prog 208 #[.pointer (some ⟨rb, 0, none⟩)] w (DcrPost s (.string (B t)) (stA a q k e) (stQ q e) rb w) := by
  have hrb := h.lt
  have hl : (s.drop a).length ≤ 1000000000 := by rw [List.length_drop]; omega
  obtain ⟨hk0, hk9⟩ := textS_ok0 hr
  have HR := Lib.hid hr
  have H := Lib.hid h
  clear h hr
  go_enter Tryz.func208, Tryz.ntmps208
  go_wp2_with fail
  refine (drest_any s a q rb _ H.out ha hs).mono ?_
  rintro e' w1 ⟨rfl, hb1⟩
  go_wp2_with fail
  refine (readtext_any (s.drop a) t k e _ hl HR.out).mono ?_
  rintro e' w2 ⟨rfl, hb2⟩
  have hB2 : Below w.heap.size w w2 := belowA
  have h2 : Dcr w2 rb s a q := by unfold Dcr; rw [hB2.block rb hrb]; exact H.out
  have H2 := Lib.hid h2
  clear h2 hb1 hb2
  go_wp2_with fail
  refine (pass_any s a q k e rb _ H2.out (by omega) hk0).mono ?_
  rintro e' w3 ⟨⟨v, rfl⟩, h3, k3, b3⟩
  go_wp2
  go_ret
  obtain ⟨k4, b4⟩ := fld_none hB2 hrb
  exact ⟨rfl, h3, k4.trans ⟨k3.1, fun g hg hz => k3.2 g (by have := hB2.size; omega) hz⟩, b4.trans b3⟩
theorem decAS_len {l : List UInt8} {L : List Blk} {k : Nat} {e : Int} (h : decAS l = (L, k, e)) : k ≤ l.length := by
  by_cases he : e = 0
  · subst he
    obtain ⟨⟨r, rfl⟩, rfl, _⟩ := enc_decA h
    rw [List.length_append]; omega
  · unfold decAS at h
    split at h
    · obtain ⟨_, rfl, _⟩ := trip h; omega
    · split at h
      · obtain ⟨_, rfl, _⟩ := trip h; omega
      · split at h
        · obtain ⟨_, rfl, _⟩ := trip h; omega
        · obtain ⟨_, _, rfl⟩ := trip h; exact absurd rfl he
/-- the blocks that a decoder reads lie in new memory -/
def DcrBPost (s : List UInt8) (L : List Blk) (a : Int) (q : Bool) (rb : Nat) (w : World) (e' : Ending) (w' : World) : Prop :=
  ∃ v, e' = .returned v ∧ RBlks w' w'.heap.size v L ∧ RFrom w.heap.size v ∧ Dcr w' rb s a q ∧ KpX w.heap.size rb w w' ∧ Below rb w w'
set_option maxHeartbeats 1000000 in
theorem dblocks_any (s : List UInt8) (a : Nat) (q : Bool) (L : List Blk) (k : Nat) (e : Int) (rb : Nat) (w : World) (h : Dcr w rb s a q) (ha : a ≤ s.length) (hs : s.length ≤ 1000000000) (hr : decAS (s.drop a) = (L, k, e)) :
    Calls Tryz.prog 210 #[.pointer (some ⟨rb, 0, none⟩)] w (DcrBPost s L (stA a q k e) (stQ q e) rb w) := by
  have hrb := h.lt
  have hl : (s.drop a).length ≤ 1000000000 := by rw [List.length_drop]; omega
  have hk := decAS_len hr
  have HR := Lib.hid hr
  have H := Lib.hid h
  clear h hr
  go_enter Tryz.func210, Tryz.ntmps210
  go_wp2_with fail
  refine (drest_any s a q rb _ H.out ha hs).mono ?_
  rintro e' w1 ⟨rfl, hb1⟩
  go_wp2_with fail
  refine (decodeAll_any (s.drop a) L k e _ hl HR.out).mono ?_
  rintro e' w2 ⟨v, rfl, hv, hb2, hf2⟩
  obtain ⟨va, vc, rfl, hvv⟩ := id hv
  have HV := Lib.hid hv
  have HF := Lib.hid hf2
  have hB2 : Below w.heap.size w w2 := belowA
  have z1 : w.heap.size ≤ w1.heap.size := hb1.size
  have h2 : Dcr w2 rb s a q := by unfold Dcr; rw [hB2.block rb hrb]; exact H.out
  have H2 := Lib.hid h2
  clear h2 hb1 hb2 hv hf2 hvv
  go_wp2_with fail
  refine (pass_any s a q k e rb _ H2.out (by omega) (by omega)).mono ?_
  rintro e' w3 ⟨⟨v, rfl⟩, h3, k3, b3⟩
  go_wp2
  go_ret
  obtain ⟨k4, b4⟩ := fld_none hB2 hrb
  refine ⟨_, rfl, ?_, HF.out.mono z1, h3, k4.trans ⟨k3.1, fun g hg hz => k3.2 g (by have := hB2.size; omega) hz⟩, b4.trans b3⟩
  exact HV.out.keepFrom (HF.out.mono z1) (fun b o hb1 hb2 => k3.cell (p := ⟨b, o, none⟩) (by exact hb2) (by show b ≠ rb; omega)) k3.1
/-- the places of a bundle's numbers -/
def ptrs (bb : Nat) : Array Value := #[.pointer (some ⟨bb, 0, none⟩), .pointer (some ⟨bb, 1, none⟩), .pointer (some ⟨bb, 2, none⟩), .pointer (some ⟨bb, 3, none⟩), .pointer (some ⟨bb, 4, none⟩), .pointer (some ⟨bb, 5, none⟩), .pointer (some ⟨bb, 6, none⟩), .pointer (some ⟨bb, 7, none⟩), .pointer (some ⟨bb, 8, none⟩), .pointer (some ⟨bb, 9, none⟩)]
set_option maxRecDepth 100000 in
set_option maxHeartbeats 2000000 in
theorem numbers_any (bb : Nat) (w : World) :
    Calls Tryz.prog 143 #[.pointer (some ⟨bb, 0, none⟩)] w fun e w' => e = .returned (.agg (ptrs bb)) ∧ Below w.heap.size w w' := by
  unfold ptrs
  go_enter Tryz.func143, Tryz.ntmps143
  go_wp2
  refine wp_region_plan (fun _ => True) [0, 0, 0, 0, 0, 0, 0, 0, 0, 0, 0, 0, 0, 0, 0, 0, 0, 0, 0, 0, 0, 0, 0, 0, 0, 0, 0, 0, 0, 0, 0, 0, 0, 3] [0, 1, 2, 3, 4, 5, 6, 7, 8, 9, 10, 11, 12, 13, 14, 15, 16, 17, 18, 19, 20, 21, 22, 23, 24, 25, 26, 27, 28, 29, 30, 31, 32, 33] (by kernel_rfl) (by kernel_rfl) ?_ ?_
  case refine_1 => trivial
  (iterate 33 (refine plan_held rfl (by decide) (by rfl) (fun w1 hS => by (try (have hS := hS rfl; obtain hS := hS; repeat (obtain ⟨_, hS⟩ := hS))); go_simp; rfl) ?_; simp only [Act.put, List.setIfInBounds_toArray, List.set_cons_zero, List.set_cons_succ]))
  (refine plan_late rfl rfl (by rfl) (fun K hK => ?_); go_simp)
  (refine hK _ _ ?_; clear hK K; (try simp only [Act.put, List.setIfInBounds_toArray, List.set_cons_zero, List.set_cons_succ]))
  refine plan_done ?_
  go_wp2
  refine bodyPost_ret (v := .agg #[.pointer (some ⟨bb, 0, none⟩), .pointer (some ⟨bb, 1, none⟩), .pointer (some ⟨bb, 2, none⟩), .pointer (some ⟨bb, 3, none⟩), .pointer (some ⟨bb, 4, none⟩), .pointer (some ⟨bb, 5, none⟩), .pointer (some ⟨bb, 6, none⟩), .pointer (some ⟨bb, 7, none⟩), .pointer (some ⟨bb, 8, none⟩), .pointer (some ⟨bb, 9, none⟩)]) (by simp [results, Tryz.results143, go_sem, World.cell?_setCell_same']) rfl ?_
  exact ⟨rfl, belowA⟩
end Go.Proofs.YtmknchdciblfjaaGreat
/-! XTc -/
namespace Go.Proofs.YtmknchdciblfjaaGreat
open Go Go.RowKit
attribute [local go_sem] B_getElem B_size B_app B_extract B_get B_toList
/-- v owns a row of the bytes l, nothing within its capacity frozen -/
def OwnS (w : World) (base : Nat) (v : Value) (l : List UInt8) : Prop :=
  ∃ g cap cur fz, v = .slice (some ⟨g, 0, none⟩) l.length cap ∧ base ≤ g ∧ w.heap[g]? = some (.cells cur 5 fz) ∧ (∀ j, j < cap → ¬ (fz.1 ≤ j ∧ j < fz.2)) ∧ l.length ≤ cap ∧ cap ≤ maxLen ∧ cur.size = cap ∧ cur.toList.take l.length = Lib.strCells (B l)
theorem strCells_B (l : List UInt8) : Lib.strCells (B l) = l.map fun x => Value.int .u8 (x.toNat : Int) := rfl
theorem run_storeCells_M (P : Program) (g o : Nat) (t : TypeId) (fz : Nat × Nat) : ∀ (vs : List Value) (i : Nat) (cur : Array Value) (w : World), w.heap[g]? = some (.cells cur t fz) → (∀ j, j < cur.size → ¬ (fz.1 ≤ j ∧ j < fz.2)) → o + i + vs.length ≤ cur.size → (∀ v ∈ vs, v.oneCell' = true) →
    (storeCells ⟨g, o, none⟩ vs i).run P w = .ok () (w.setRow g (cur.toList.take (o + i) ++ vs ++ cur.toList.drop (o + i + vs.length)).toArray)
  | [], i, cur, w, hg, _, _, _ => by
    simp only [storeCells, List.append_nil, List.length_nil, Nat.add_zero, List.take_append_drop, Array.toArray_toList]
    rw [setRow_self w g cur t fz hg]
    rfl
  | v :: rest, i, cur, w, hg, hfz, hl, h1 => by
    have hi : o + i < cur.size := by simp at hl; omega
    have hadd : (⟨g, o, none⟩ : Addr).add i = ⟨g, o + i, none⟩ := by unfold Addr.add; split <;> simp_all
    have hcell : w.cell? ⟨g, o + i, none⟩ = some cur[o + i] := by simp [World.cell?, hg, hi]
    have hfro : w.frozen? ⟨g, o + i, none⟩ = false := by
      have := hfz (o + i) hi
      obtain ⟨lo, hi'⟩ := fz
      simp only [World.frozen?, hg, Bool.and_eq_false_iff, decide_eq_false_iff_not]
      simp only at this
      by_cases q : lo ≤ o + i
      · exact .inr fun r => this ⟨q, r⟩
      · exact .inl q
    have hst : (store ((⟨g, o, none⟩ : Addr).add i) v).run P w = .ok () (w.setRow g (cur.setIfInBounds (o + i) v)) := by
      rw [hadd, run_store P w _ v _ (h1 v (by simp)), hcell]
      simp [hfro, setCell_eq_setRow w g (o + i) cur t fz v hg]
    have ih := run_storeCells_M P g o t fz rest (i + 1) (cur.setIfInBounds (o + i) v) (w.setRow g (cur.setIfInBounds (o + i) v)) (setRow_heap w g cur _ t _ hg) (by simpa using hfz) (by simp at hl ⊢; omega) (fun x hx => h1 x (by simp [hx]))
    simp only [storeCells, Sem.run_bind, hst, Result.andThen_ok, ih, setRow_setRow]
    congr 3
    have e := list_seg_step cur.toList (o + i) v rest (by simp at hl ⊢; omega)
    simpa [Array.toList_setIfInBounds, Nat.add_assoc] using e
theorem run_append_S {P : Program} (w : World) (base : Nat) (t u ty : TypeId) (i : TypeInfo) (ht : P.underlying t = some (.slice 5)) (hu : P.underlying u = some .string) (hi : P.info? 5 = some i) (hz : i.zero = some (.int .u8 0))
    (hsize : i.size = 1) (hby : i.bytes = 1) (v : Value) (l : List UInt8) (hown : OwnS w base v l) (s : List UInt8) (hb : l.length + s.length ≤ 140737488355328) (hbase : base ≤ w.heap.size) :
    ∃ v' w', (Builtin.append_ #[t, u] ty #[v, .string (B s)]).run P w = .ok v' w' ∧ OwnS w' base v' (l ++ s) ∧ w.grownBy w' v.ownBlock := by
  obtain ⟨g, cap, cur, fz, rfl, hbg, hg, hfz, hnc, hcm, hcs, htake⟩ := hown
  have hsl : (Lib.strCells (B l)).length = l.length := by rw [Lib.strCells_length, B_size]
  have hsl2 : (Lib.strCells (B s)).length = s.length := by rw [Lib.strCells_length, B_size]
  have hss : (B s).size = s.length := B_size s
  have hcat : Lib.strCells (B (l ++ s)) = Lib.strCells (B l) ++ Lib.strCells (B s) := by rw [strCells_B, strCells_B, strCells_B, List.map_append]
  by_cases hroom : l.length + s.length ≤ cap
  · have hf := Lib.run_firstCells_string (P := P) w 1 (B s)
    have hst := run_storeCells_M P g l.length 5 fz (Lib.strCells (B s)) 0 cur w hg (by rw [hcs]; exact hfz) (by omega) (Lib.strCells_oneCell (B s))
    simp only [Nat.add_zero, Lib.strCells_length, B_size] at hst hf
    refine ⟨.slice (some ⟨g, 0, none⟩) (l.length + s.length) cap, w.setRow g (cur.toList.take l.length ++ Lib.strCells (B s) ++ cur.toList.drop (l.length + s.length)).toArray, ?_, ?_, ⟨rfl, rfl, rfl, by simp, fun k _ hk => setRow_other w g k _ (fun e => hk (by simp [Value.ownBlock, e]))⟩⟩
    · simp [Builtin.append_, run_underlying ht, run_underlying hu, sizeOf, typeInfo, hi, hsize, Builtin.lenOf, B_size, hroom, hf, Addr.add_lit, hst]
    · refine ⟨g, cap, _, fz, by rw [List.length_append], hbg, setRow_heap w g cur _ _ _ hg, hfz, by rw [List.length_append]; exact hroom, hcm, ?_, ?_⟩
      · simp only [List.size_toArray, List.length_append, List.length_take, List.length_drop, Array.length_toList, hsl2]
        omega
      · rw [htake, hcat]
        have : (l ++ s).length = (Lib.strCells (B l) ++ Lib.strCells (B s)).length := by rw [List.length_append, List.length_append, hsl, hsl2]
        rw [this]
        exact List.take_left
  · have holds : ∀ j u, (Lib.strCells (B l))[j]? = some u → w.cell? ((⟨g, 0, none⟩ : Addr).add j) = some u := by
      intro j u hu
      rw [addN, Nat.zero_add, cell_of_row w g j cur _ fz hg]
      rw [← htake, List.getElem?_take] at hu
      split at hu
      · simpa using hu
      · cases hu
    have hr := Lib.run_append_grow_string (P := P) w t u ty 5 i (.int .u8 0) ht hu hi hz ⟨g, 0, none⟩ l.length cap (Lib.strCells (B l)) (by rw [hsize, hsl, Nat.mul_one]) holds (B s) (by omega) (by omega) (by rw [hby]; exact growslice_fits (by omega) (by omega))
    have hge := grownCap_ge w (l.length + (B s).size) cap 5
    have hcm2 : grownCap w (l.length + (B s).size) cap 5 ≤ maxLen := grownCap_le_maxLen w (l.length + (B s).size) cap 5 (by unfold maxLen; omega)
    refine ⟨_, _, hr, ⟨w.heap.size, _, _, (0, 0), by rw [List.length_append, hss], hbase, heap_alloc_new w.drew _, by simp, by rw [List.length_append]; omega, hcm2, ?_, ?_⟩, ⟨rfl, rfl, rfl, by simp, fun k hk _ => Below.heap_alloc w.drew _ _ hk⟩⟩
    · have hz1 : (Value.int IntKind.u8 0).cells.size = 1 := rfl
      simp only [Array.size_append, List.size_toArray, size_zeroCells, hz1, hsl, hsl2]
      omega
    · simp only [Array.toList_append, List.append_assoc]
      rw [← List.append_assoc, ← hcat]
      have : (l ++ s).length = (Lib.strCells (B (l ++ s))).length := by rw [Lib.strCells_length, B_size]
      rw [this]
      exact List.take_left
theorem wpList_append_S {P : Program} {w : World} {ops : Array Oper} {rest : List Oper} {o : Oper} {a : Act} {Q : Exit → Act → World → Prop} (hgd : o.guard = none) (sl x : Operand) (t u : TypeId)
    (ho : o.op = .call { callee := .builtin .append, args := #[sl, x], argTypes := #[t, u] })
    (base : Nat) (i : TypeInfo) (ht : P.underlying t = some (.slice 5)) (hu : P.underlying u = some .string) (hi : P.info? 5 = some i) (hz : i.zero = some (.int .u8 0))
    (hsize : i.size = 1) (hby : i.bytes = 1) (v : Value) (l : List UInt8) (hs : a.eval sl = v) (hown : OwnS w base v l) (s : List UInt8) (hx : a.eval x = .string (B s)) (hb : l.length + s.length ≤ 140737488355328) (hbase : base ≤ w.heap.size)
    (h : ∀ v' w', OwnS w' base v' (l ++ s) → w.grownBy w' v.ownBlock → wpList P ops Q rest (a.put o.dst v') w') : wpList P ops Q (o :: rest) a w := by
  refine wpList_plain hgd fun K hK => ?_
  obtain ⟨v', w', hr, h2, h3⟩ := run_append_S (P := P) w base t u o.type i ht hu hi hz hsize hby v l hown s hb hbase
  unfold Oper.wp execOp
  simp only [ho, resolve, invoke, builtin, Sem.run_bind, Sem.run_pure, Result.andThen_ok, List.map_toArray, List.map_cons, List.map_nil, hs, hx, hr]
  exact hK _ _ (h v' w' h2 h3)
/-- []byte(s) -/
theorem OwnS.conv (w : World) (l : List UInt8) (h : l.length ≤ maxLen) : OwnS (Lib.bytesWorld w 5 (B l)) w.heap.size (.slice (some ⟨w.heap.size, 0, none⟩) l.length (grownCap w l.length 0 5)) l := by
  have hge := grownCap_ge w l.length 0 5
  have hsz : (Lib.bytesCells w 5 (B l)).size = grownCap w l.length 0 5 := by
    simp only [Lib.bytesCells, Array.size_append, Array.size_map, Array.size_replicate, B_size]
    have : (B l).data.size = l.length := B_size l
    omega
  refine ⟨w.heap.size, _, _, _, rfl, Nat.le_refl _, Lib.bytesWorld_at_new w _ (B l), ?_, hge, grownCap_le_maxLen w l.length 0 _ h, hsz, ?_⟩
  · intro j hj; rw [hsz]; simp only; omega
  · have e : (Lib.bytesCells w 5 (B l)).toList = Lib.strCells (B l) ++ List.replicate (grownCap w l.length 0 5 - l.length) (.int .u8 0) := by
      simp [Lib.bytesCells, Lib.strCells, B_size]
    rw [e]
    have : l.length = (Lib.strCells (B l)).length := by rw [Lib.strCells_length, B_size]
    rw [this]
    exact List.take_left
/-- string(b) -/
theorem OwnS.back {w : World} {base : Nat} {v : Value} {l : List UInt8} (h : OwnS w base v l) : (convert 23 9 v).run Tryz.prog w = .ok (.string (B l)) w := by
  obtain ⟨g, cap, cur, fz, rfl, hbg, hg, hfz, hnc, hcm, hcs, htake⟩ := h
  refine conv_bytes w 23 9 5 _ _ _ l Tryz.underlying23 Tryz.underlying5 Tryz.underlying9 rfl ?_ (fun h => by cases h)
  intro ad had j hj
  injection had with had
  subst had
  rw [addN, Nat.zero_add, cell_of_row w g j cur _ fz hg]
  have hu : (Lib.strCells (B l))[j]? = some (.int .u8 (l[j].toNat : Int)) := by rw [strCells_B, List.getElem?_map, List.getElem?_eq_getElem hj]; rfl
  rw [← htake, List.getElem?_take, if_pos hj] at hu
  simpa using hu
theorem OwnS.lt {w : World} {base : Nat} {v : Value} {l : List UInt8} (h : OwnS w base v l) : ∀ q, v.ownBlock = some q → base ≤ q ∧ q < w.heap.size := by
  obtain ⟨g, cap, cur, fz, rfl, hbg, hg, _⟩ := h
  intro q hq
  simp [Value.ownBlock] at hq
  subst hq
  exact ⟨hbg, (Array.getElem?_eq_some_iff.1 hg).1⟩
theorem OwnS.below {w w' : World} {base : Nat} {v : Value} {l : List UInt8} (h : OwnS w base v l) (k : Below w.heap.size w w') : OwnS w' base v l := by
  obtain ⟨g, cap, cur, fz, rfl, hbg, hg, r⟩ := h
  exact ⟨g, cap, cur, fz, rfl, hbg, (k.block g (Array.getElem?_eq_some_iff.1 hg).1).trans hg, r⟩
theorem ptrs_run (bb k : Nat) (h : k < 10) (w : World) : (Instr.index 237 (.agg (ptrs bb)) (.int .i64 (k : Int))).run Tryz.prog w = .ok (.pointer (some ⟨bb, k, none⟩)) w := by
  unfold ptrs
  rcases (show k = 0 ∨ k = 1 ∨ k = 2 ∨ k = 3 ∨ k = 4 ∨ k = 5 ∨ k = 6 ∨ k = 7 ∨ k = 8 ∨ k = 9 by omega) with rfl | rfl | rfl | rfl | rfl | rfl | rfl | rfl | rfl | rfl
  all_goals kernel_rfl
theorem nums_cell (b : Bun) (u : Value) (k : Nat) (h : k < 10) : ∃ n, (nums b)[k]? = some n ∧ (bunC b u)[k]? = some (.int .i64 n) := by
  match k, h with
  | 0, _ => exact ⟨_, rfl, rfl⟩
  | 1, _ => exact ⟨_, rfl, rfl⟩
  | 2, _ => exact ⟨_, rfl, rfl⟩
  | 3, _ => exact ⟨_, rfl, rfl⟩
  | 4, _ => exact ⟨_, rfl, rfl⟩
  | 5, _ => exact ⟨_, rfl, rfl⟩
  | 6, _ => exact ⟨_, rfl, rfl⟩
  | 7, _ => exact ⟨_, rfl, rfl⟩
  | 8, _ => exact ⟨_, rfl, rfl⟩
  | 9, _ => exact ⟨_, rfl, rfl⟩
end Go.Proofs.YtmknchdciblfjaaGreat
