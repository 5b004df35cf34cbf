/- Chapter 18: sets of integers as lists of intervals: plain. -/
import Derived.Test.YtmknchdciblfjaaGreatJb
set_option linter.unusedVariables false
set_option linter.unusedSimpArgs false
namespace Go.Proofs.YtmknchdciblfjaaGreat.Iv
abbrev Sp := Int × Int
def inS (l : List Sp) (t : Int) : Bool := l.any fun x => decide (x.1 ≤ t) && decide (t < x.2)
theorem inS_iff {l : List Sp} {t : Int} : inS l t = true ↔ ∃ x ∈ l, x.1 ≤ t ∧ t < x.2 := by
  unfold inS
  simp [List.any_eq_true]
theorem inS_nil (t : Int) : inS [] t = false := rfl
theorem inS_cons (x : Sp) (r : List Sp) (t : Int) : inS (x :: r) t = ((decide (x.1 ≤ t) && decide (t < x.2)) || inS r t) := rfl
theorem inS_append (a b : List Sp) (t : Int) : inS (a ++ b) t = (inS a t || inS b t) := by unfold inS; rw [List.any_append]
/-- a set all of whose integers lie beyond b + 1 -/
def NF : Int → List Sp → Prop
  | _, [] => True
  | b, x :: r => b < x.1 ∧ x.1 < x.2 ∧ NF x.2 r
theorem NF.lo {b : Int} {l : List Sp} (h : NF b l) : ∀ x ∈ l, b < x.1 ∧ x.1 < x.2 := by
  induction l generalizing b with
  | nil => intro x hx; cases hx
  | cons y r ih =>
    intro x hx
    obtain ⟨h1, h2, h3⟩ := h
    rcases List.mem_cons.1 hx with rfl | hx
    · exact ⟨h1, h2⟩
    · have := ih h3 x hx
      omega
theorem NF.le {b c : Int} {l : List Sp} (h : NF b l) (hc : c ≤ b) : NF c l := by
  cases l with
  | nil => trivial
  | cons y r => exact ⟨by have := h.1; omega, h.2.1, h.2.2⟩
theorem NF.out {b t : Int} {l : List Sp} (h : NF b l) (ht : t ≤ b) : inS l t = false := by
  rw [Bool.eq_false_iff]
  intro hc
  obtain ⟨x, hx, h1, h2⟩ := inS_iff.1 hc
  have := h.lo x hx
  omega
theorem NF.uniq {l : List Sp} : ∀ {m : List Sp} {b c : Int}, NF b l → NF c m → (∀ t, inS l t = inS m t) → l = m := by
  induction l with
  | nil =>
    intro m b c _ h h2
    cases m with
    | nil => rfl
    | cons y s =>
      have := h2 y.1
      rw [inS_nil, inS_cons] at this
      have := h.2.1
      simp at *
      omega
  | cons x r ih =>
    intro m b c hl hm h
    cases m with
    | nil =>
      have := h x.1
      rw [inS_nil, inS_cons] at this
      have := hl.2.1
      simp at *
      omega
    | cons y s =>
      obtain ⟨a1, a2, a3⟩ := hl
      obtain ⟨b1, b2, b3⟩ := hm
      have e1 : x.1 = y.1 := by
        have p := h x.1
        have q := h y.1
        rw [inS_cons, inS_cons] at p q
        rcases Int.lt_trichotomy x.1 y.1 with z | z | z
        · have := NF.out (t := x.1) b3 (by omega)
          rw [this, decide_eq_true (Int.le_refl _), decide_eq_true a2, decide_eq_false (show ¬ y.1 ≤ x.1 by omega)] at p
          simp at p
        · exact z
        · have := NF.out (t := y.1) a3 (by omega)
          rw [this, decide_eq_true (Int.le_refl _), decide_eq_true b2, decide_eq_false (show ¬ x.1 ≤ y.1 by omega)] at q
          simp at q
      have e2 : x.2 = y.2 := by
        have p := h x.2
        have q := h y.2
        rw [inS_cons, inS_cons] at p q
        rcases Int.lt_trichotomy x.2 y.2 with z | z | z
        · rw [NF.out a3 (by omega)] at p
          simp at p
          omega
        · exact z
        · rw [NF.out b3 (by omega)] at q
          simp at q
          omega
      have hxy : x = y := Prod.ext e1 e2
      subst hxy
      rw [ih a3 b3 (fun t => ?_)]
      have p := h t
      rw [inS_cons, inS_cons] at p
      rcases Int.lt_or_le x.2 t with z | z
      · rw [show decide (t < x.2) = false from by simp; omega] at p
        simpa using p
      · rw [NF.out a3 z, NF.out b3 z]
/-! insert -/
def ins : List Sp → Sp → List Sp
  | [], x => [x]
  | y :: r, x => if y.2 < x.1 then y :: ins r x else if y.1 ≤ x.2 then ins r (min x.1 y.1, max x.2 y.2) else x :: y :: r
theorem ins_in : ∀ (l : List Sp) (x : Sp) (b : Int), NF b l → x.1 < x.2 → ∀ t, inS (ins l x) t = ((decide (x.1 ≤ t) && decide (t < x.2)) || inS l t)
  | [], x, b, _, _, t => by simp [ins, inS_cons]
  | y :: r, x, b, h, hx, t => by
    unfold ins
    by_cases h1 : y.2 < x.1
    · rw [if_pos h1, inS_cons, ins_in r x _ h.2.2 hx, inS_cons]
      simp only [Bool.or_left_comm]
    · rw [if_neg h1]
      by_cases h2 : y.1 ≤ x.2
      · rw [if_pos h2, ins_in r _ _ h.2.2 (by simp only; have := h.2.1; omega), inS_cons]
        rw [← Bool.or_assoc]
        congr 1
        rw [Bool.eq_iff_iff]
        simp
        have := h.2.1
        omega
      · rw [if_neg h2, inS_cons]
theorem ins_nf : ∀ (l : List Sp) (x : Sp) (b : Int), NF b l → b < x.1 → x.1 < x.2 → NF b (ins l x)
  | [], x, b, _, h1, h2 => ⟨h1, h2, trivial⟩
  | y :: r, x, b, h, hb, hx => by
    unfold ins
    by_cases h1 : y.2 < x.1
    · rw [if_pos h1]
      exact ⟨h.1, h.2.1, ins_nf r x _ h.2.2 h1 hx⟩
    · rw [if_neg h1]
      by_cases h2 : y.1 ≤ x.2
      · rw [if_pos h2]
        have := h.1
        have := h.2.1
        exact ins_nf r _ _ (h.2.2.le (by omega)) (by simp only; omega) (by simp only; omega)
      · rw [if_neg h2]
        exact ⟨hb, hx, by omega, h.2.1, h.2.2⟩
/-! both -/
def both1 (x : Sp) (b : List Sp) : List Sp := b.filterMap fun y => if max x.1 y.1 < min x.2 y.2 then some (max x.1 y.1, min x.2 y.2) else none
def both (a b : List Sp) : List Sp := a.flatMap fun x => both1 x b
theorem both1_in (x : Sp) : ∀ (b : List Sp) (t : Int), inS (both1 x b) t = ((decide (x.1 ≤ t) && decide (t < x.2)) && inS b t)
  | [], t => by simp [both1, inS_nil]
  | y :: r, t => by
    have ih := both1_in x r t
    unfold both1 at ih ⊢
    rw [List.filterMap_cons]
    by_cases h : max x.1 y.1 < min x.2 y.2
    · simp only [if_pos h]
      rw [inS_cons, ih, inS_cons, Bool.and_or_distrib_left]
      congr 1
      rw [Bool.eq_iff_iff]
      simp
      omega
    · simp only [if_neg h]
      rw [ih, inS_cons, Bool.and_or_distrib_left]
      have : ((decide (x.1 ≤ t) && decide (t < x.2)) && (decide (y.1 ≤ t) && decide (t < y.2))) = false := by
        rw [Bool.eq_false_iff]
        simp
        omega
      rw [this, Bool.false_or]
theorem both_in : ∀ (a b : List Sp) (t : Int), inS (both a b) t = (inS a t && inS b t)
  | [], b, t => by simp [both, inS_nil]
  | x :: r, b, t => by
    have ih := both_in r b t
    unfold both at ih ⊢
    rw [List.flatMap_cons, inS_append, ih, both1_in, inS_cons, Bool.and_or_distrib_right]
theorem nf_append : ∀ (a b : List Sp) (c d : Int), NF c a → c ≤ d → (∀ x ∈ a, x.2 ≤ d) → NF d b → NF c (a ++ b)
  | [], b, c, d, _, h, _, hb => hb.le h
  | x :: r, b, c, d, h, hd, h2, hb => ⟨h.1, h.2.1, nf_append r b _ d h.2.2 (h2 x (by simp)) (fun y hy => h2 y (by simp [hy])) hb⟩
theorem both1_nf (x : Sp) : ∀ (b : List Sp) (c : Int), NF c b → NF (max c (x.1 - 1)) (both1 x b) ∧ ∀ y ∈ both1 x b, y.2 ≤ x.2
  | [], c, _ => ⟨trivial, fun y hy => by simp [both1] at hy⟩
  | y :: r, c, h => by
    obtain ⟨i1, i2⟩ := both1_nf x r _ h.2.2
    obtain ⟨h1, h2, h3⟩ := h
    unfold both1 at i1 i2 ⊢
    rw [List.filterMap_cons]
    by_cases hh : max x.1 y.1 < min x.2 y.2
    · simp only [if_pos hh]
      refine ⟨⟨by simp only; omega, hh, i1.le (by omega)⟩, fun z hz => ?_⟩
      rcases List.mem_cons.1 hz with rfl | hz
      · simp only; omega
      · exact i2 z hz
    · simp only [if_neg hh]
      exact ⟨i1.le (by omega), i2⟩
theorem both_nf : ∀ (a b : List Sp) (c d : Int), NF c a → NF d b → NF c (both a b)
  | [], b, c, d, _, _ => trivial
  | x :: r, b, c, d, h, hb => by
    have ih := both_nf r b _ d h.2.2 hb
    obtain ⟨i1, i2⟩ := both1_nf x b d hb
    unfold both at ih ⊢
    rw [List.flatMap_cons]
    have := h.1
    have := h.2.1
    exact nf_append _ _ c x.2 (i1.le (by omega)) (by omega) i2 ih
/-! outside: the complement between f and m -/
def outs (m : Int) : Int → List Sp → List Sp
  | f, [] => if f < m then [(f, m)] else []
  | f, x :: r => if f < x.1 then (f, x.1) :: outs m x.2 r else outs m x.2 r
theorem outs_in (m : Int) : ∀ (l : List Sp) (f : Int), NF (f - 1) l → (∀ x ∈ l, x.2 ≤ m) → ∀ t, inS (outs m f l) t = (decide (f ≤ t) && decide (t < m) && !inS l t)
  | [], f, _, _, t => by
    unfold outs
    by_cases h : f < m
    · rw [if_pos h]; simp [inS_cons, inS_nil]
    · rw [if_neg h, inS_nil]
      symm
      rw [Bool.eq_false_iff]
      simp [inS_nil]
      omega
  | x :: r, f, h, hm, t => by
    obtain ⟨h1, h2, h3⟩ := h
    have hxm := hm x (by simp)
    have ih := outs_in m r x.2 (h3.le (by omega)) (fun y hy => hm y (by simp [hy])) t
    have ho := fun (ht : t ≤ x.2) => h3.out ht
    unfold outs
    by_cases hh : f < x.1
    · rw [if_pos hh, inS_cons, ih, inS_cons]
      rcases Int.lt_or_le x.2 t with z | z
      · cases inS r t <;> rw [Bool.eq_iff_iff] <;> simp <;> omega
      · rw [ho z]
        rw [Bool.eq_iff_iff]; simp; omega
    · rw [if_neg hh, ih, inS_cons]
      rcases Int.lt_or_le x.2 t with z | z
      · cases inS r t <;> rw [Bool.eq_iff_iff] <;> simp <;> omega
      · rw [ho z]
        rw [Bool.eq_iff_iff]; simp; omega
theorem outs_nf (m : Int) : ∀ (l : List Sp) (f : Int), NF (f - 1) l → NF (f - 1) (outs m f l)
  | [], f, _ => by
    unfold outs
    by_cases h : f < m
    · rw [if_pos h]; exact ⟨by simp only; omega, h, trivial⟩
    · rw [if_neg h]; trivial
  | x :: r, f, h => by
    obtain ⟨h1, h2, h3⟩ := h
    unfold outs
    by_cases hh : f < x.1
    · rw [if_pos hh]
      have : NF (x.2 - 1) (outs m x.2 r) := outs_nf m r x.2 (h3.le (by omega))
      exact ⟨by simp only; omega, hh, this.le (by simp only; omega)⟩
    · rw [if_neg hh]
      have : NF (x.2 - 1) (outs m x.2 r) := outs_nf m r x.2 (h3.le (by omega))
      exact this.le (by omega)

/-! the two sides of combine, and what it makes of them -/
abbrev Sd := List Sp × Bool
def nxt : Sd → Option Int
  | ([], _) => none
  | (x :: _, true) => some x.2
  | (x :: _, false) => some x.1
def pass (s : Sd) (t : Int) : Sd := if nxt s = some t then (if s.2 = true then (s.1.tail, false) else (s.1, true)) else s
def tmin (a b : Option Int) : Option Int := match a, b with
  | none, none => none
  | some m, none => some m
  | none, some n => some n
  | some m, some n => some (if n < m then n else m)
abbrev Pt := Int × Bool × Bool
def pts : Nat → Sd → Sd → List Pt
  | 0, _, _ => []
  | k + 1, a, b => match tmin (nxt a) (nxt b) with
    | none => []
    | some t => (t, (pass a t).2, (pass b t).2) :: pts k (pass a t) (pass b t)
abbrev CSt := List Sp × Option Int
def stepC (f : Bool → Bool → Bool) (st : CSt) (p : Pt) : CSt := match st.2, f p.2.1 p.2.2 with
  | none, true => (st.1, some p.1)
  | none, false => (st.1, none)
  | some s, true => (st.1, some s)
  | some s, false => (st.1 ++ [(s, p.1)], none)
def SV (T : Int) : Sd → Prop
  | (l, false) => NF T l
  | ([], true) => False
  | (x :: r, true) => T < x.2 ∧ NF x.2 r
def memS : Sd → Int → Bool
  | (l, false), t => inS l t
  | ([], true), _ => false
  | (x :: r, true), t => decide (t < x.2) || inS r t
theorem nf_at {T : Int} {l : List Sp} (h : NF T l) : inS l T = false := h.out (Int.le_refl _)
theorem sv_mem {T t' : Int} : ∀ {s : Sd}, SV T s → T ≤ t' → (∀ e, nxt s = some e → t' < e) → memS s t' = s.2
  | ([], false), _, _, _ => rfl
  | (x :: r, false), h, h1, h2 => by
    have h2 := h2 x.1 rfl
    show inS (x :: r) t' = false
    rw [inS_cons, NF.out h.2.2 (by have := h.2.1; omega), decide_eq_false (by omega)]
    rfl
  | (x :: r, true), h, h1, h2 => by
    have h2 := h2 x.2 rfl
    show (decide (t' < x.2) || inS r t') = true
    rw [decide_eq_true h2]
    rfl
theorem sv_gt {T : Int} : ∀ {s : Sd}, SV T s → ∀ e, nxt s = some e → T < e
  | ([], false), _, e, he => by cases he
  | (x :: r, false), h, e, he => by cases he; exact h.1
  | (x :: r, true), h, e, he => by cases he; exact h.1
theorem sv_pass {T t : Int} : ∀ {s : Sd}, SV T s → T < t → (∀ e, nxt s = some e → t ≤ e) → SV t (pass s t) ∧ ∀ t', t ≤ t' → memS (pass s t) t' = memS s t'
  | ([], false), h, h1, h2 => ⟨trivial, fun _ _ => rfl⟩
  | (x :: r, false), h, h1, h2 => by
    have h3 := h2 x.1 rfl
    unfold pass
    by_cases z : nxt (x :: r, false) = some t
    · have e : x.1 = t := Option.some.inj z
      rw [if_pos z]
      refine ⟨⟨by have := h.2.1; omega, h.2.2⟩, fun t' ht => ?_⟩
      show (decide (t' < x.2) || inS r t') = inS (x :: r) t'
      rw [inS_cons, decide_eq_true (show x.1 ≤ t' by omega)]
      rfl
    · rw [if_neg z]
      have : x.1 ≠ t := fun e => z (by rw [← e]; rfl)
      exact ⟨⟨by omega, h.2.1, h.2.2⟩, fun _ _ => rfl⟩
  | (x :: r, true), h, h1, h2 => by
    have h3 := h2 x.2 rfl
    unfold pass
    by_cases z : nxt (x :: r, true) = some t
    · have e : x.2 = t := Option.some.inj z
      rw [if_pos z]
      refine ⟨by rw [← e]; exact h.2, fun t' ht => ?_⟩
      show inS r t' = (decide (t' < x.2) || inS r t')
      rw [decide_eq_false (by omega)]
      rfl
    · rw [if_neg z]
      have : x.2 ≠ t := fun e => z (by rw [← e]; rfl)
      exact ⟨⟨by omega, h.2⟩, fun _ _ => rfl⟩
def wgt (s : Sd) : Nat := 2 * s.1.length - (if s.2 = true then 1 else 0)
theorem wgt_pass {t : Int} : ∀ {s : Sd} {T : Int}, SV T s → wgt (pass s t) ≤ wgt s ∧ (nxt s = some t → wgt (pass s t) < wgt s)
  | ([], false), _, _ => ⟨Nat.le_refl _, fun h => by cases h⟩
  | (x :: r, false), T, h => by
    unfold pass
    by_cases z : nxt (x :: r, false) = some t
    · rw [if_pos z]; exact ⟨by simp [wgt], fun _ => by simp [wgt]; omega⟩
    · rw [if_neg z]; exact ⟨Nat.le_refl _, fun h => absurd h z⟩
  | (x :: r, true), T, h => by
    unfold pass
    by_cases z : nxt (x :: r, true) = some t
    · rw [if_pos z]; exact ⟨by simp [wgt]; omega, fun _ => by simp [wgt]; omega⟩
    · rw [if_neg z]; exact ⟨Nat.le_refl _, fun h => absurd h z⟩
/-- what is still to come, behind T -/
def Out (f : Bool → Bool → Bool) (T : Int) (a b : Sd) : Option Int → List Sp → Prop
  | none, out => NF T out ∧ ∀ t, T ≤ t → inS out t = f (memS a t) (memS b t)
  | some s, out => ∃ e r, out = (s, e) :: r ∧ T < e ∧ NF e r ∧ ∀ t, T ≤ t → (decide (t < e) || inS r t) = f (memS a t) (memS b t)
theorem tmin_some {a b : Option Int} {t : Int} (h : tmin a b = some t) : (∀ e, a = some e → t ≤ e) ∧ (∀ e, b = some e → t ≤ e) ∧ (a = some t ∨ b = some t) := by
  cases a with
  | none => cases b with
    | none => cases h
    | some n => cases h; exact ⟨fun e he => (by cases he), fun e he => (by cases he; exact Int.le_refl _), .inr rfl⟩
  | some m => cases b with
    | none => cases h; exact ⟨fun e he => (by cases he; exact Int.le_refl _), fun e he => (by cases he), .inl rfl⟩
    | some n =>
      by_cases z : n < m
      · simp only [tmin, if_pos z] at h; cases h
        exact ⟨fun e he => (by cases he; omega), fun e he => (by cases he; exact Int.le_refl _), .inr rfl⟩
      · simp only [tmin, if_neg z] at h; cases h
        exact ⟨fun e he => (by cases he; exact Int.le_refl _), fun e he => (by cases he; omega), .inl rfl⟩
theorem tmin_none {a b : Option Int} (h : tmin a b = none) : a = none ∧ b = none := by
  cases a <;> cases b <;> first | exact ⟨rfl, rfl⟩ | cases h
theorem nxt_none {s : Sd} {T : Int} (h : SV T s) (hn : nxt s = none) : s = ([], false) := by
  obtain ⟨l, i⟩ := s
  cases l with
  | nil => cases i with
    | false => rfl
    | true => exact absurd h (by simp [SV])
  | cons x r => cases i <;> cases hn
theorem comb_fold (f : Bool → Bool → Bool) (hf : f false false = false) : ∀ (k : Nat) (a b : Sd) (T : Int) (done : List Sp) (st : Option Int), wgt a + wgt b ≤ k → SV T a → SV T b → st.isSome = f a.2 b.2 →
    ∃ out, (pts k a b).foldl (stepC f) (done, st) = (done ++ out, none) ∧ Out f T a b st out
  | 0, a, b, T, done, st, hk, ha, hb, hst => by
    have e1 : nxt a = none := by
      obtain ⟨l, i⟩ := a
      cases l with
      | nil => rfl
      | cons x r => simp [wgt] at hk; cases i <;> simp at hk <;> omega
    have e2 : nxt b = none := by
      obtain ⟨l, i⟩ := b
      cases l with
      | nil => rfl
      | cons x r => simp [wgt] at hk; cases i <;> simp at hk <;> omega
    have e1 := nxt_none ha e1
    have e2 := nxt_none hb e2
    subst e1 e2
    rw [show f ([], false).2 ([], false).2 = false from hf] at hst
    cases st with
    | some s => cases hst
    | none => exact ⟨[], by simp [pts], trivial, fun t _ => by rw [inS_nil]; exact hf.symm⟩
  | k + 1, a, b, T, done, st, hk, ha, hb, hst => by
    unfold pts
    cases ht : tmin (nxt a) (nxt b) with
    | none =>
      obtain ⟨e1, e2⟩ := tmin_none ht
      have e1 := nxt_none ha e1
      have e2 := nxt_none hb e2
      subst e1 e2
      rw [show f ([], false).2 ([], false).2 = false from hf] at hst
      cases st with
      | some s => cases hst
      | none => exact ⟨[], by simp, trivial, fun t _ => by rw [inS_nil]; exact hf.symm⟩
    | some t =>
      obtain ⟨h1, h2, h3⟩ := tmin_some ht
      have hT : T < t := by
        rcases h3 with h | h
        · exact sv_gt ha t h
        · exact sv_gt hb t h
      obtain ⟨pa, ma⟩ := sv_pass ha hT h1
      obtain ⟨pb, mb⟩ := sv_pass hb hT h2
      have wa := wgt_pass (t := t) ha
      have wb := wgt_pass (t := t) hb
      have hw : wgt (pass a t) + wgt (pass b t) ≤ k := by
        rcases h3 with h | h
        · have := wa.2 h; have := wb.1; omega
        · have := wb.2 h; have := wa.1; omega
      have hmid : ∀ t', T ≤ t' → t' < t → f (memS a t') (memS b t') = st.isSome := fun t' h4 h5 => by
        rw [sv_mem ha h4 (fun e he => by have := h1 e he; omega), sv_mem hb h4 (fun e he => by have := h2 e he; omega), hst]
      rw [List.foldl_cons]
      cases st with
      | none =>
        cases hfn : f (pass a t).2 (pass b t).2 with
        | true =>
          rw [show stepC f (done, none) (t, (pass a t).2, (pass b t).2) = (done, some t) from by unfold stepC; simp only [hfn]]
          obtain ⟨out, e1, e, r, e2, e3, e4, e5⟩ := comb_fold f hf k (pass a t) (pass b t) t done (some t) hw pa pb (by rw [hfn]; rfl)
          refine ⟨out, e1, ?_, fun t' h4 => ?_⟩
          · rw [e2]; exact ⟨hT, e3, e4⟩
          · rw [e2, inS_cons]
            rcases Int.lt_or_le t' t with z | z
            · rw [hmid t' h4 z, decide_eq_false (show ¬ (t, e).1 ≤ t' by simp only; omega), NF.out e4 (by omega)]
              rfl
            · rw [← ma t' z, ← mb t' z, ← e5 t' z, decide_eq_true (show (t, e).1 ≤ t' from z)]
              rfl
        | false =>
          rw [show stepC f (done, none) (t, (pass a t).2, (pass b t).2) = (done, none) from by unfold stepC; simp only [hfn]]
          obtain ⟨out, e1, e2, e3⟩ := comb_fold f hf k (pass a t) (pass b t) t done none hw pa pb (by rw [hfn]; rfl)
          refine ⟨out, e1, e2.le (by omega), fun t' h4 => ?_⟩
          rcases Int.lt_or_le t' t with z | z
          · rw [hmid t' h4 z, NF.out e2 (by omega)]
            rfl
          · rw [e3 t' z, ma t' z, mb t' z]
      | some s =>
        cases hfn : f (pass a t).2 (pass b t).2 with
        | true =>
          rw [show stepC f (done, some s) (t, (pass a t).2, (pass b t).2) = (done, some s) from by unfold stepC; simp only [hfn]]
          obtain ⟨out, e1, e, r, e2, e3, e4, e5⟩ := comb_fold f hf k (pass a t) (pass b t) t done (some s) hw pa pb (by rw [hfn]; rfl)
          refine ⟨out, e1, e, r, e2, by omega, e4, fun t' h4 => ?_⟩
          rcases Int.lt_or_le t' t with z | z
          · rw [hmid t' h4 z, decide_eq_true (show t' < e by omega)]
            rfl
          · rw [e5 t' z, ma t' z, mb t' z]
        | false =>
          rw [show stepC f (done, some s) (t, (pass a t).2, (pass b t).2) = (done ++ [(s, t)], none) from by unfold stepC; simp only [hfn]]
          obtain ⟨out, e1, e2, e3⟩ := comb_fold f hf k (pass a t) (pass b t) t (done ++ [(s, t)]) none hw pa pb (by rw [hfn]; rfl)
          refine ⟨(s, t) :: out, by rw [e1]; simp, t, out, rfl, hT, e2, fun t' h4 => ?_⟩
          rcases Int.lt_or_le t' t with z | z
          · rw [hmid t' h4 z, decide_eq_true z]
            rfl
          · rw [← ma t' z, ← mb t' z, ← e3 t' z, decide_eq_false (by omega)]
            rfl
/-- combine, of two sets -/
def cmb (f : Bool → Bool → Bool) (a b : List Sp) : List Sp := ((pts (2 * a.length + 2 * b.length) (a, false) (b, false)).foldl (stepC f) ([], none)).1
theorem cmb_spec (f : Bool → Bool → Bool) (hf : f false false = false) (a b : List Sp) (T : Int) (ha : NF T a) (hb : NF T b) :
    (pts (2 * a.length + 2 * b.length) (a, false) (b, false)).foldl (stepC f) ([], none) = (cmb f a b, none) ∧ NF T (cmb f a b) ∧ ∀ t, inS (cmb f a b) t = f (inS a t) (inS b t) := by
  obtain ⟨out, e1, e2, e3⟩ := comb_fold f hf (2 * a.length + 2 * b.length) (a, false) (b, false) T [] none (by simp [wgt]) ha hb hf.symm
  have e : cmb f a b = out := by unfold cmb; rw [e1]; rfl
  rw [e1, e]
  refine ⟨rfl, e2, fun t => ?_⟩
  rcases Int.lt_or_le t T with z | z
  · rw [NF.out e2 (by omega), NF.out ha (by omega), NF.out hb (by omega), hf]
  · exact e3 t z
end Go.Proofs.YtmknchdciblfjaaGreat.Iv
