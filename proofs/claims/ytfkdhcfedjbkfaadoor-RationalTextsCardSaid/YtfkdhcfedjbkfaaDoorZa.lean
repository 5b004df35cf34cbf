/- Layer 4 (rational): texts of numbers; the scanner; plain law. -/
import Derived.Test.YtfkdhcfedjbkfaaDoorKb
import Derived.Test.YtfkdhcfedjbkfaaDoorSi
import Derived.Lib.SmallJoins
import Derived.Lib.AppendIntMem
import Derived.Lib.ItoaLen
set_option linter.unusedVariables false
set_option linter.unusedSimpArgs false
namespace Go.Proofs.YtfkdhcfedjbkfaaDoor
open Go Go.RowKit

theorem dd_step {u : Nat} (h : ¬ u < 10) : Lib.decDigits u = Lib.decDigits (u / 10) ++ [UInt8.ofNat (48 + u % 10)] := by
  rw [Lib.decDigits, dif_neg h]
def digB (c : UInt8) : Bool := 48 ≤ c.toNat && c.toNat ≤ 57
def dfold (p : Nat) (l : List UInt8) : Nat := l.foldl (fun n c => 10 * n + (c.toNat - 48)) p
def dval (l : List UInt8) : Nat := dfold 0 l
theorem dfold_snoc (p : Nat) (l : List UInt8) (c : UInt8) : dfold p (l ++ [c]) = 10 * dfold p l + (c.toNat - 48) := by unfold dfold; rw [List.foldl_append]; rfl
theorem dval_snoc (l : List UInt8) (c : UInt8) : dval (l ++ [c]) = 10 * dval l + (c.toNat - 48) := dfold_snoc 0 l c
theorem dig_nat (k : Nat) (h : k < 10) : (UInt8.ofNat (48 + k)).toNat = 48 + k := by rw [UInt8.toNat_ofNat']; omega
theorem dec_dig (u : Nat) : (∀ c ∈ Lib.decDigits u, digB c = true) ∧ dval (Lib.decDigits u) = u := by
  induction u using Nat.strongRecOn with
  | _ u ih =>
    by_cases h : u < 10
    · rw [Lib.decDigits_one h]
      have e := dig_nat u h
      refine ⟨fun c hc => ?_, ?_⟩
      · rw [List.mem_singleton.1 hc]; unfold digB; rw [e]; simp; omega
      · have := dval_snoc [] (UInt8.ofNat (48 + u)); rw [List.nil_append] at this; rw [this, e]; simp [dval, dfold]
    · rw [dd_step h]
      obtain ⟨h1, h2⟩ := ih (u / 10) (by omega)
      have e := dig_nat (u % 10) (by omega)
      refine ⟨fun c hc => ?_, ?_⟩
      · rcases List.mem_append.1 hc with hc | hc
        · exact h1 c hc
        · rw [List.mem_singleton.1 hc]; unfold digB; rw [e]; simp; omega
      · rw [dval_snoc, h2, e]; omega
theorem dec_len : ∀ (k u : Nat), u < 10 ^ (k + 1) → 1 ≤ (Lib.decDigits u).length ∧ (Lib.decDigits u).length ≤ k + 1
  | 0, u, h => by rw [Lib.decDigits_one (by simpa using h)]; simp
  | k + 1, u, h => by
    by_cases h1 : u < 10
    · rw [Lib.decDigits_one h1]; simp
    · rw [dd_step h1, List.length_append]
      have := dec_len k (u / 10) (by rw [Nat.pow_succ] at h; omega)
      simp; omega
theorem dec_ne (u : Nat) : Lib.decDigits u ≠ [] := by
  by_cases h1 : u < 10
  · rw [Lib.decDigits_one h1]; simp
  · rw [dd_step h1]; simp
theorem dec_head (u : Nat) (h : 1 ≤ u) : (Lib.decDigits u).head? ≠ some 48 := by
  induction u using Nat.strongRecOn with
  | _ u ih =>
    by_cases h1 : u < 10
    · rw [Lib.decDigits_one h1]
      intro e
      have e2 := congrArg UInt8.toNat (Option.some.inj e)
      rw [dig_nat u h1] at e2
      have : (48 : UInt8).toNat = 48 := rfl
      omega
    · rw [dd_step h1, List.head?_append]
      have := ih (u / 10) (by omega) (by omega)
      intro e
      cases hh : (Lib.decDigits (u / 10)).head? with
      | none => exact dec_ne _ (List.head?_eq_none_iff.1 hh)
      | some c => rw [hh] at this e; simp at e; exact this (by rw [e])
theorem dfold_le (p : Nat) : ∀ (l : List UInt8), p ≤ dfold p l
  | [] => Nat.le_refl _
  | c :: r => by
    have := dfold_le (10 * p + (c.toNat - 48)) r
    show p ≤ dfold (10 * p + (c.toNat - 48)) r
    omega
theorem dval_take (l : List UInt8) (k : Nat) : dval (l.take k) ≤ dval l := by
  have h : dval l = dfold (dval (l.take k)) (l.drop k) := by
    unfold dval dfold
    rw [← List.foldl_append, List.take_append_drop]
  rw [h]; exact dfold_le _ _

/-- the text of a number -/
def absT (a d : Nat) : List UInt8 := Lib.decDigits a ++ if d = 1 then [] else 47 :: Lib.decDigits d
def txt (n d : Int) : List UInt8 := Lib.itoa n ++ if d = 1 then [] else 47 :: Lib.itoa d
def prtS (r : R2) : List UInt8 × Int := if chk r ≠ 0 then ([], 1) else (txt r.1 r.2, 0)
theorem prtS_bad {r : R2} (h : chk r ≠ 0) : prtS r = ([], 1) := if_pos h
theorem prtS_ok {r : R2} (h : chk r = 0) : prtS r = (txt r.1 r.2, 0) := if_neg (by simpa using h)
theorem prtS_zero {r : R2} (h : (prtS r).2 = 0) : chk r = 0 ∧ (prtS r).1 = txt r.1 r.2 := by
  by_cases k : chk r = 0
  · exact ⟨k, by rw [prtS_ok k]⟩
  · rw [prtS_bad k] at h; exact absurd h (by decide)
theorem chk_ok {n d : Int} (h : chk (n, d) = 0) : -1099511627776 ≤ n ∧ n ≤ 1099511627776 ∧ 1 ≤ d ∧ d ≤ 1048576 ∧ Nat.gcd n.natAbs d.natAbs = 1 := by
  unfold chk at h
  simp only at h
  split at h
  · exact absurd h (by decide)
  · split at h
    · exact ⟨by omega, by omega, by omega, by omega, by assumption⟩
    · exact absurd h (by decide)
theorem newS_ok {n d : Int} (h : chk (n, d) = 0) : newS n d = ((n, d), 0) := by
  obtain ⟨h1, h2, h3, h4, h5⟩ := chk_ok h
  unfold newS lowS
  rw [if_neg (by omega), h5, Nat.div_one, Nat.div_one, if_neg (by omega)]
  by_cases k : n < 0
  · rw [decide_eq_true k, decide_eq_false (by omega), if_pos (by simp)]
    simp only [Prod.mk.injEq, and_true]
    omega
  · rw [decide_eq_false k, decide_eq_false (by omega), if_neg (by simp)]
    simp only [Prod.mk.injEq, and_true]
    omega
theorem itoa_abs (n : Int) : Lib.itoa n = if n < 0 then 45 :: Lib.decDigits n.natAbs else Lib.decDigits n.natAbs := by
  unfold Lib.itoa
  by_cases h : n < 0
  · rw [if_pos h, if_pos h]
  · rw [if_neg h, if_neg h, show n.toNat = n.natAbs by omega]
theorem txt_abs {n d : Int} (h : 1 ≤ d) : txt n d = if n < 0 then 45 :: absT n.natAbs d.natAbs else absT n.natAbs d.natAbs := by
  unfold txt absT
  rw [itoa_abs n]
  have e : (if d = 1 then [] else 47 :: Lib.itoa d) = if d.natAbs = 1 then [] else 47 :: Lib.decDigits d.natAbs := by
    by_cases h1 : d = 1
    · rw [if_pos h1, if_pos (by omega)]
    · rw [if_neg h1, if_neg (by omega), itoa_abs d, if_neg (by omega)]
  rw [e]
  by_cases k : n < 0
  · rw [if_pos k, if_pos k]; rfl
  · rw [if_neg k, if_neg k]
theorem absT_head (a d : Nat) : ∃ c r, absT a d = c :: r ∧ digB c = true := by
  unfold absT
  cases h : Lib.decDigits a with
  | nil => exact absurd h (dec_ne a)
  | cons c r => exact ⟨c, _, rfl, (dec_dig a).1 c (by rw [h]; simp)⟩
theorem txt_len {n d : Int} (h : chk (n, d) = 0) : (txt n d).length ≤ 30 := by
  obtain ⟨h1, h2, h3, h4, h5⟩ := chk_ok h
  rw [txt_abs h3]
  have a := (dec_len 13 n.natAbs (by omega)).2
  have b := (dec_len 6 d.natAbs (by omega)).2
  have c : (absT n.natAbs d.natAbs).length ≤ 22 := by
    unfold absT; rw [List.length_append]; split <;> simp <;> omega
  split <;> simp <;> omega

/-! the scanner -/
structure PSt where
  t : Nat
  dg : Nat
  p0 : Nat
  p1 : Nat
def stp (x : PSt) (c : UInt8) : Option PSt :=
  if 48 ≤ c.toNat ∧ c.toNat ≤ 57 ∧ x.dg < 16 then some (if x.t = 0 then ⟨x.t, x.dg + 1, 10 * x.p0 + (c.toNat - 48), x.p1⟩ else ⟨x.t, x.dg + 1, x.p0, 10 * x.p1 + (c.toNat - 48)⟩)
  else if c.toNat = 47 ∧ x.t = 0 ∧ 0 < x.dg then some ⟨1, 0, x.p0, x.p1⟩ else none
def scan (x : PSt) : List UInt8 → Option PSt
  | [] => some x
  | c :: r => (stp x c).bind fun y => scan y r
theorem scan_app : ∀ (a : List UInt8) (x : PSt) (b : List UInt8), scan x (a ++ b) = (scan x a).bind fun y => scan y b
  | [], x, b => rfl
  | c :: r, x, b => by
    show (stp x c).bind (fun y => scan y (r ++ b)) = ((stp x c).bind fun y => scan y r).bind fun y => scan y b
    cases h : stp x c with
    | none => rfl
    | some y => exact scan_app r y b
theorem scan_digits : ∀ (l : List UInt8) (x : PSt), (∀ c ∈ l, digB c = true) → x.dg + l.length ≤ 16 →
    scan x l = some (if x.t = 0 then ⟨x.t, x.dg + l.length, dfold x.p0 l, x.p1⟩ else ⟨x.t, x.dg + l.length, x.p0, dfold x.p1 l⟩)
  | [], x, _, _ => by
    show some x = _
    cases x
    simp only [List.length_nil, Nat.add_zero, dfold, List.foldl_nil]
    split <;> rfl
  | c :: r, x, h, hl => by
    simp only [List.length_cons] at hl
    have hc := h c (by simp)
    unfold digB at hc
    simp only [Bool.and_eq_true, decide_eq_true_eq] at hc
    have e : stp x c = some (if x.t = 0 then ⟨x.t, x.dg + 1, 10 * x.p0 + (c.toNat - 48), x.p1⟩ else ⟨x.t, x.dg + 1, x.p0, 10 * x.p1 + (c.toNat - 48)⟩) := by
      unfold stp; rw [if_pos ⟨hc.1, hc.2, by omega⟩]
    show (stp x c).bind (fun y => scan y r) = _
    rw [e]
    simp only [Option.bind_some]
    by_cases z : x.t = 0
    · rw [if_pos z, if_pos z, scan_digits r _ (fun d hd => h d (by simp [hd])) (by simp only; omega)]
      simp only [z, if_true, List.length_cons]
      congr 2
      omega
    · rw [if_neg z, if_neg z, scan_digits r _ (fun d hd => h d (by simp [hd])) (by simp only; omega)]
      simp only [z, if_false, List.length_cons]
      congr 2
      omega
def st0 : PSt := ⟨0, 0, 0, 0⟩
def finS (neg : Bool) (x : PSt) : Int × Int := (if neg = true then -(x.p0 : Int) else x.p0, if x.t = 0 then 1 else x.p1)
def okSt (x : PSt) : Prop := x.t ≤ 1 ∧ x.dg ≤ 16 ∧ x.p0 < 10 ^ 16 ∧ x.p1 < 10 ^ 16 ∧ (x.t = 0 → x.p0 < 10 ^ x.dg ∧ x.p1 = 0) ∧ (x.t ≠ 0 → x.p1 < 10 ^ x.dg)
theorem okSt0 : okSt st0 := ⟨by decide, by decide, by decide, by decide, fun _ => ⟨by decide, rfl⟩, fun h => absurd rfl h⟩
theorem pow_16 {n k : Nat} (h : n < 10 ^ k) (hk : k ≤ 16) : n < 10 ^ 16 := Nat.lt_of_lt_of_le h (Nat.pow_le_pow_right (by decide) hk)
theorem okSt_stp {x y : PSt} {c : UInt8} (h : okSt x) (e : stp x c = some y) : okSt y := by
  obtain ⟨h1, h2, h3, h4, h5, h6⟩ := h
  unfold stp at e
  by_cases k : 48 ≤ c.toNat ∧ c.toNat ≤ 57 ∧ x.dg < 16
  · rw [if_pos k] at e
    injection e with e
    by_cases z : x.t = 0
    · rw [if_pos z] at e
      subst e
      have q := h5 z
      have q1 : 10 * x.p0 + (c.toNat - 48) < 10 ^ (x.dg + 1) := by rw [Nat.pow_succ]; omega
      exact ⟨h1, k.2.2, pow_16 q1 k.2.2, h4, fun _ => ⟨q1, q.2⟩, fun hz => absurd z hz⟩
    · rw [if_neg z] at e
      subst e
      have q := h6 z
      have q1 : 10 * x.p1 + (c.toNat - 48) < 10 ^ (x.dg + 1) := by rw [Nat.pow_succ]; omega
      exact ⟨h1, k.2.2, h3, pow_16 q1 k.2.2, fun hz => absurd hz z, fun _ => q1⟩
  · rw [if_neg k] at e
    by_cases j : c.toNat = 47 ∧ x.t = 0 ∧ 0 < x.dg
    · rw [if_pos j] at e
      injection e with e
      subst e
      have q := h5 j.2.1
      exact ⟨by simp, by simp, h3, h4, fun hz => absurd hz (by simp), fun _ => by simp only; rw [q.2]; decide⟩
    · rw [if_neg j] at e; cases e
theorem okSt_scan : ∀ (l : List UInt8) (x y : PSt), okSt x → scan x l = some y → okSt y
  | [], x, y, h, e => by injection e with e; subst e; exact h
  | c :: r, x, y, h, e => by
    change (stp x c).bind (fun y => scan y r) = some y at e
    cases hs : stp x c with
    | none => rw [hs] at e; cases e
    | some z => rw [hs] at e; exact okSt_scan r z y (okSt_stp h hs) e
theorem scan_abs {a d : Nat} (ha : a < 10 ^ 14) (hd : d < 10 ^ 7) : ∃ x, scan st0 (absT a d) = some x ∧ x.p0 = a ∧ (d = 1 → x.t = 0) ∧ (d ≠ 1 → x.t = 1 ∧ x.p1 = d) := by
  have la := dec_len 13 a ha
  have ld := dec_len 6 d hd
  obtain ⟨ga, va⟩ := dec_dig a
  obtain ⟨gd, vd⟩ := dec_dig d
  have e1 := scan_digits (Lib.decDigits a) st0 ga (by simp only [st0]; omega)
  rw [if_pos (show st0.t = 0 from rfl)] at e1
  unfold absT
  rw [scan_app, e1]
  simp only [Option.bind_some]
  have v0 : dfold st0.p0 (Lib.decDigits a) = a := va
  by_cases z : d = 1
  · rw [if_pos z]
    exact ⟨_, rfl, v0, fun _ => rfl, fun h => absurd z h⟩
  · rw [if_neg z]
    show ∃ x, (stp _ 47).bind (fun y => scan y (Lib.decDigits d)) = some x ∧ _
    have e2 : stp ⟨st0.t, st0.dg + (Lib.decDigits a).length, dfold st0.p0 (Lib.decDigits a), st0.p1⟩ 47 = some ⟨1, 0, a, 0⟩ := by
      unfold stp
      rw [if_neg (by simp only; intro h; have := h.1; have e : (47 : UInt8).toNat = 47 := rfl; omega), if_pos ⟨rfl, rfl, by simp only [st0]; omega⟩, v0]
      rfl
    rw [e2]
    simp only [Option.bind_some]
    have e3 := scan_digits (Lib.decDigits d) ⟨1, 0, a, 0⟩ gd (by simp only; omega)
    rw [if_neg (show ¬ (⟨1, 0, a, 0⟩ : PSt).t = 0 from (by decide : ¬ (1 : Nat) = 0))] at e3
    rw [e3]
    exact ⟨_, rfl, rfl, fun h => absurd h z, fun _ => ⟨rfl, vd⟩⟩
theorem scan_txt {n d : Int} (h : chk (n, d) = 0) : ∃ x, scan st0 (absT n.natAbs d.natAbs) = some x ∧ finS (decide (n < 0)) x = (n, d) := by
  obtain ⟨h1, h2, h3, h4, h5⟩ := chk_ok h
  obtain ⟨x, e, a, b, c⟩ := scan_abs (a := n.natAbs) (d := d.natAbs) (by omega) (by omega)
  refine ⟨x, e, ?_⟩
  unfold finS
  rw [a]
  by_cases z : d = 1
  · rw [if_pos (b (by omega)), z]
    by_cases k : n < 0
    · rw [if_pos (by simpa using k)]; simp only [Prod.mk.injEq, and_true]; omega
    · rw [if_neg (by simpa using k)]; simp only [Prod.mk.injEq, and_true]; omega
  · have c := c (by omega)
    rw [if_neg (show ¬ x.t = 0 by omega), c.2]
    by_cases k : n < 0
    · rw [if_pos (by simpa using k)]; simp only [Prod.mk.injEq]; omega
    · rw [if_neg (by simpa using k)]; simp only [Prod.mk.injEq]; omega
/-- s without its sign, and whether there is one -/
def cutM (s : List UInt8) : List UInt8 × Bool := (Lib.trimPrefix s [45], Lib.hasPrefix s [45])
theorem cutM_cons (r : List UInt8) : cutM (45 :: r) = (r, true) := by simp [cutM, Lib.trimPrefix, Lib.hasPrefix, List.isPrefixOf]
theorem cutM_none {s : List UInt8} (h : s.head? ≠ some 45) : cutM s = (s, false) := by
  cases s with
  | nil => simp [cutM, Lib.trimPrefix, Lib.hasPrefix, List.isPrefixOf]
  | cons c r =>
    have hc : c ≠ 45 := fun e => h (by rw [e]; rfl)
    have : (45 == c) = false := by simpa using fun e : 45 = c => hc e.symm
    simp [cutM, Lib.trimPrefix, Lib.hasPrefix, List.isPrefixOf, this]
theorem cutM_txt {n d : Int} (h : 1 ≤ d) : cutM (txt n d) = (absT n.natAbs d.natAbs, decide (n < 0)) := by
  rw [txt_abs h]
  by_cases k : n < 0
  · rw [if_pos k, cutM_cons, decide_eq_true k]
  · rw [if_neg k, decide_eq_false k]
    obtain ⟨c, r, e, hc⟩ := absT_head n.natAbs d.natAbs
    refine cutM_none ?_
    rw [e]
    intro e2
    injection e2 with e2
    subst e2
    exact absurd hc (by decide)
/-- what parsing answers -/
def ParRes (s : List UInt8) (r : R2) (E : Int) : Prop := (E = 0 ∧ chk r = 0 ∧ txt r.1 r.2 = s) ∨ (E = 3 ∧ r = (0, 0) ∧ ∀ n d : Int, chk (n, d) = 0 → txt n d ≠ s)
theorem txt_inj {n d m e : Int} (h : chk (n, d) = 0) (k : chk (m, e) = 0) (ht : txt n d = txt m e) : n = m ∧ d = e := by
  obtain ⟨x, h1, h2⟩ := scan_txt h
  obtain ⟨y, k1, k2⟩ := scan_txt k
  have c := cutM_txt (n := n) (chk_ok h).2.2.1
  rw [ht, cutM_txt (chk_ok k).2.2.1] at c
  simp only [Prod.mk.injEq] at c
  rw [← c.1, k1] at h1
  injection h1 with h1
  rw [← c.2, ← h1, k2] at h2
  simp only [Prod.mk.injEq] at h2
  exact ⟨h2.1.symm, h2.2.symm⟩
theorem parRes_unique {s : List UInt8} {r r' : R2} {E E' : Int} (h : ParRes s r E) (k : ParRes s r' E') : r = r' ∧ E = E' := by
  rcases h with ⟨h1, h2, h3⟩ | ⟨h1, h2, h3⟩ <;> rcases k with ⟨k1, k2, k3⟩ | ⟨k1, k2, k3⟩
  · have := txt_inj (n := r.1) (d := r.2) (m := r'.1) (e := r'.2) h2 k2 (h3.trans k3.symm)
    exact ⟨Prod.ext this.1 this.2, h1.trans k1.symm⟩
  · exact absurd h3 (k3 r.1 r.2 h2)
  · exact absurd k3 (h3 r'.1 r'.2 k2)
  · exact ⟨h2.trans k2.symm, h1.trans k1.symm⟩
/-- scanning what is a number's text comes to that number -/
theorem scan_comp {s : List UInt8} {n d : Int} (h : chk (n, d) = 0) (ht : txt n d = s) : ∃ x, scan st0 (cutM s).1 = some x ∧ finS (cutM s).2 x = (n, d) := by
  rw [← ht, cutM_txt (chk_ok h).2.2.1]
  exact scan_txt h

/-! the reference's way -/
def NatRes (l : List UInt8) (a : Int) (ok : Bool) : Prop := 0 ≤ a ∧ a ≤ 100000000000000 ∧ ∀ u : Nat, u ≤ 1099511627776 → l = Lib.decDigits u → a = u ∧ ok = true
theorem no47 (u : Nat) : ∀ c ∈ Lib.decDigits u, c ≠ 47 := fun c hc e => by
  have := (dec_dig u).1 c hc
  rw [e] at this
  exact absurd this (by decide)
theorem split47 : ∀ {X P Y Q : List UInt8}, (∀ c ∈ X, c ≠ 47) → (∀ c ∈ P, c ≠ 47) → X ++ 47 :: Y = P ++ 47 :: Q → X = P ∧ Y = Q
  | [], [], Y, Q, _, _, h => ⟨rfl, by simpa using h⟩
  | [], p :: P, Y, Q, _, hp, h => by simp at h; exact absurd h.1.symm (hp p (by simp))
  | x :: X, [], Y, Q, hx, _, h => by simp at h; exact absurd h.1 (hx x (by simp))
  | x :: X, p :: P, Y, Q, hx, hp, h => by
    simp only [List.cons_append, List.cons.injEq] at h
    obtain ⟨a, b⟩ := split47 (fun c hc => hx c (by simp [hc])) (fun c hc => hp c (by simp [hc])) h.2
    exact ⟨by rw [h.1, a], b⟩
/-- how the reference splits a text -/
def Parts (rest num den : List UInt8) : Prop := ((∀ c ∈ rest, c ≠ 47) ∧ num = rest ∧ den = [49]) ∨ (∃ k, rest = num ++ 47 :: den ∧ (∀ c ∈ num, c ≠ 47) ∧ num.length = k)
theorem parts_txt {n d : Int} {num den : List UInt8} (h : chk (n, d) = 0) (hp : Parts (absT n.natAbs d.natAbs) num den) : num = Lib.decDigits n.natAbs ∧ den = Lib.decDigits d.natAbs := by
  obtain ⟨h1, h2, h3, h4, h5⟩ := chk_ok h
  unfold absT at hp
  by_cases z : d.natAbs = 1
  · rw [if_pos z, List.append_nil] at hp
    rcases hp with ⟨a, b, c⟩ | ⟨k, a, b, _⟩
    · exact ⟨b, by rw [c, z]; decide +kernel⟩
    · exact absurd rfl (no47 n.natAbs 47 (by rw [a]; simp))
  · rw [if_neg z] at hp
    rcases hp with ⟨a, b, c⟩ | ⟨k, a, b, _⟩
    · exact absurd rfl (a 47 (by simp))
    · obtain ⟨e1, e2⟩ := split47 (no47 n.natAbs) b a
      exact ⟨e1.symm, e2.symm⟩
/-- what the reference reads of a number's text -/
theorem ref_comp {s rest num den : List UInt8} {neg : Bool} {a b : Int} {ok1 ok2 : Bool} {n d : Int} (h : chk (n, d) = 0) (ht : txt n d = s) (hc : cutM s = (rest, neg)) (hp : Parts rest num den)
    (h1 : NatRes num a ok1) (h2 : NatRes den b ok2) : ok1 = true ∧ ok2 = true ∧ (if neg = true then -1 else 1) * a = n ∧ b = d := by
  obtain ⟨c1, c2, c3, c4, c5⟩ := chk_ok h
  rw [← ht, cutM_txt c3] at hc
  simp only [Prod.mk.injEq] at hc
  obtain ⟨rfl, rfl⟩ := hc
  obtain ⟨e1, e2⟩ := parts_txt h hp
  obtain ⟨a1, a2⟩ := h1.2.2 n.natAbs (by omega) e1
  obtain ⟨b1, b2⟩ := h2.2.2 d.natAbs (by omega) e2
  refine ⟨a2, b2, ?_, by omega⟩
  rw [a1]
  by_cases k : n < 0
  · rw [if_pos (by simpa using k)]; omega
  · rw [if_neg (by simpa using k)]; omega
end Go.Proofs.YtfkdhcfedjbkfaaDoor
