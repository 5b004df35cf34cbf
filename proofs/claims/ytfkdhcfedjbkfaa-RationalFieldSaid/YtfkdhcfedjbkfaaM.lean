/- The plain law of layer 4: what the walks show is arithmetic on rational numbers. -/
import Derived.Test.YtfkdhcfedjbkfaaWj
import Derived.Test.YtfkdhcfedjbkfaaWk
namespace Go.Proofs.Ytfkdhcfedjbkfaa
open Go Go.RowKit

/-- == between two numbers, as one Bool -/
theorem eqRat (an ad bn bd : Int) (w : World) : Sem.run Try.prog (Go.binOp .eql 23 (.agg #[.int .i64 an, .int .i64 ad]) (.agg #[.int .i64 bn, .int .i64 bd])) w = .ok (.bool (an == bn && ad == bd)) w := by
  go_simp
  by_cases h : an = bn <;> by_cases k : ad = bd <;> simp [h, k]

def fin (q : Rat) : R2 × Int := if q.num.natAbs > 1099511627776 ∨ q.den > 1048576 then ((0, 0), 5) else ((q.num, (q.den : Int)), 0)
def rat (r : R2) : Rat := Rat.divInt r.1 r.2
structure Vld (r : R2) : Prop where
  lo : -1099511627776 ≤ r.1
  hi : r.1 ≤ 1099511627776
  dlo : 1 ≤ r.2
  dhi : r.2 ≤ 1048576
  cop : Nat.gcd r.1.natAbs r.2.natAbs = 1

theorem chk_iff (r : R2) : chk r = 0 ↔ Vld r := by
  unfold chk
  constructor
  · intro h
    split at h
    · omega
    · rename_i h1
      split at h
      · rename_i h2; exact ⟨by omega, by omega, by omega, by omega, h2⟩
      · omega
  · rintro ⟨h1, h2, h3, h4, h5⟩
    rw [if_neg (by omega), if_pos h5]

theorem rat_mk {r : R2} (h : Vld r) : (rat r).num = r.1 ∧ ((rat r).den : Int) = r.2 := by
  obtain ⟨n, d⟩ := r
  obtain ⟨h1, h2, h3, h4, h5⟩ := h
  obtain ⟨k, rfl⟩ := Int.eq_ofNat_of_zero_le (show 0 ≤ d by simp at h3; omega)
  simp at h3 h5
  have hz : k ≠ 0 := by omega
  have := @Rat.mk_eq_divInt n k hz h5
  unfold rat
  simp only
  rw [← this]
  exact ⟨rfl, rfl⟩

theorem rat_inj {r s : R2} (h : Vld r) (k : Vld s) (e : rat r = rat s) : r = s := by
  have h1 := rat_mk h; have h2 := rat_mk k
  rw [e] at h1
  obtain ⟨a, b⟩ := r
  obtain ⟨c, d⟩ := s
  simp only at h1 h2
  rw [← h1.1, ← h1.2, h2.1, h2.2]

theorem fin_vld {q : Rat} (h : (fin q).2 = 0) : Vld (fin q).1 ∧ rat (fin q).1 = q := by
  unfold fin at *
  split
  · rename_i h1; simp [h1] at h
  · rename_i h1
    refine ⟨⟨?_, ?_, ?_, ?_, ?_⟩, ?_⟩
    · simp; omega
    · simp; omega
    · simp; have := q.den_pos; omega
    · simp; omega
    · simp; exact q.reduced
    · unfold rat; exact Rat.num_divInt_den q

theorem fin_rat {r : R2} (h : Vld r) : fin (rat r) = (r, 0) := by
  have := rat_mk h
  obtain ⟨h1, h2, h3, h4, h5⟩ := h
  unfold fin
  rw [if_neg (by omega)]
  rw [this.1, this.2]

theorem fin_code (q : Rat) : (fin q).2 = 0 ∨ (fin q).2 = 5 := by
  unfold fin; split <;> simp

theorem sign_mul_div (n d : Int) (hd : d ≠ 0) (g : Nat) (hg : (g : Int) ∣ n) (hp : 0 < g) :
    d.sign * n / (g : Int) = if (!(decide (n < 0) == decide (d < 0))) = true then -((n.natAbs / g : Nat) : Int) else ((n.natAbs / g : Nat) : Int) := by
  obtain ⟨k, rfl⟩ := hg
  have hg0 : (g : Int) ≠ 0 := by omega
  have e1 : d.sign * ((g : Int) * k) = (g : Int) * (d.sign * k) := by
    rw [← Int.mul_assoc, Int.mul_comm d.sign, Int.mul_assoc]
  rw [e1, Int.mul_ediv_cancel_left _ hg0, Int.natAbs_mul, Int.natAbs_natCast, Nat.mul_div_cancel_left _ hp]
  have hk : ((g : Int) * k < 0) ↔ k < 0 := by
    constructor
    · intro h
      rcases Int.lt_or_le k 0 with h1 | h1
      · exact h1
      · have := Int.mul_nonneg (show (0 : Int) ≤ g by omega) h1; omega
    · intro h; exact Int.mul_neg_of_pos_of_neg (by omega) h
  have : decide ((g : Int) * k < 0) = decide (k < 0) := by simp [hk]
  rw [this]
  rcases Int.lt_trichotomy d 0 with h | h | h
  · rw [Int.sign_eq_neg_one_of_neg h]
    rcases Int.lt_or_le k 0 with h2 | h2
    · simp [h, h2]; omega
    · have : ¬ k < 0 := by omega
      simp [h, this]; omega
  · exact absurd h hd
  · rw [Int.sign_eq_one_of_pos h]
    have h' : ¬ d < 0 := by omega
    rcases Int.lt_or_le k 0 with h2 | h2
    · simp [h', h2]; omega
    · have : ¬ k < 0 := by omega
      simp [h', this]; omega

theorem num_den (n d : Int) (hd : d ≠ 0) :
    (Rat.divInt n d).num = (if (!(decide (n < 0) == decide (d < 0))) = true then -((n.natAbs / Nat.gcd n.natAbs d.natAbs : Nat) : Int) else ((n.natAbs / Nat.gcd n.natAbs d.natAbs : Nat) : Int)) ∧
    (Rat.divInt n d).den = d.natAbs / Nat.gcd n.natAbs d.natAbs := by
  have h1 := Rat.num_divInt n d
  have h2 := Rat.den_divInt n d
  rw [if_neg hd] at h2
  have hg : Int.gcd d n = Nat.gcd n.natAbs d.natAbs := by rw [Int.gcd_comm]; rfl
  rw [h1, h2, hg]
  refine ⟨sign_mul_div n d hd _ ?_ ?_, rfl⟩
  · have := Int.gcd_dvd_left n d; exact this
  · exact Nat.gcd_pos_of_pos_right _ (by omega)

theorem new_fin (n d : Int) (hd : d ≠ 0) : newS n d = fin (Rat.divInt n d) := by
  obtain ⟨h1, h2⟩ := num_den n d hd
  unfold newS lowS fin
  rw [if_neg hd]
  have e : (Rat.divInt n d).num.natAbs = n.natAbs / Nat.gcd n.natAbs d.natAbs := by
    rw [h1]; generalize n.natAbs / Nat.gcd n.natAbs d.natAbs = t; split <;> omega
  rw [e, h2, h1]

def sg (b : Bool) (n : Nat) : Int := if b = true then -(n : Int) else n
theorem sg_natAbs (b : Bool) (n : Nat) : (sg b n).natAbs = n := by unfold sg; split <;> omega
theorem num_den_sg (b : Bool) (n d : Nat) (hd : d ≠ 0) (hc : Nat.gcd n d = 1) : (Rat.divInt (sg b n) d).num = sg b n ∧ (Rat.divInt (sg b n) d).den = d := by
  have := @Rat.mk_eq_divInt (sg b n) d hd (by rw [sg_natAbs]; exact hc)
  rw [← this]; exact ⟨rfl, rfl⟩
theorem sg_of (n : Int) : sg (decide (n < 0)) n.natAbs = n := by
  unfold sg; by_cases h : n < 0 <;> simp [h] <;> omega
theorem sg_mul (b c : Bool) (n k : Nat) : sg (!(b == c)) (n * k) = sg b n * sg c k := by
  unfold sg; cases b <;> cases c <;> simp [Int.neg_mul, Int.mul_neg]

/-- the coprime parts of two fractions in lowest terms -/
theorem cross (a b c d : Nat) (a0 : 0 < a) (b0 : 0 < b) (c0 : 0 < c) (d0 : 0 < d) (hab : Nat.gcd a b = 1) (hcd : Nat.gcd c d = 1) :
    Nat.gcd (a / Nat.gcd a d * (c / Nat.gcd c b)) (b / Nat.gcd c b * (d / Nat.gcd a d)) = 1 := by
  have hg : 0 < Nat.gcd a d := Nat.gcd_pos_of_pos_right _ d0
  have hh : 0 < Nat.gcd c b := Nat.gcd_pos_of_pos_right _ b0
  have k1 : Nat.Coprime (a / Nat.gcd a d) (d / Nat.gcd a d) := Nat.coprime_div_gcd_div_gcd hg
  have k2 : Nat.Coprime (c / Nat.gcd c b) (b / Nat.gcd c b) := Nat.coprime_div_gcd_div_gcd hh
  have k3 : Nat.Coprime (a / Nat.gcd a d) (b / Nat.gcd c b) :=
    Nat.Coprime.coprime_dvd_left (Nat.div_dvd_of_dvd (Nat.gcd_dvd_left a d)) (Nat.Coprime.coprime_dvd_right (Nat.div_dvd_of_dvd (Nat.gcd_dvd_right c b)) hab)
  have k4 : Nat.Coprime (c / Nat.gcd c b) (d / Nat.gcd a d) :=
    Nat.Coprime.coprime_dvd_left (Nat.div_dvd_of_dvd (Nat.gcd_dvd_left c b)) (Nat.Coprime.coprime_dvd_right (Nat.div_dvd_of_dvd (Nat.gcd_dvd_right a d)) hcd)
  exact Nat.Coprime.mul_left (Nat.Coprime.mul_right k3 k1) (Nat.Coprime.mul_right k2 k4)

theorem prod_fin (neg : Bool) (a b c d : Nat) (b0 : 0 < b) (d0 : 0 < d) (hab : Nat.gcd a b = 1) (hcd : Nat.gcd c d = 1) :
    prodS neg a b c d = fin (Rat.divInt (sg neg (a * c)) ((b * d : Nat) : Int)) := by
  unfold prodS
  by_cases h : a = 0 ∨ c = 0
  · rw [if_pos h]
    have e : sg neg (a * c) = 0 := by
      have : a * c = 0 := by rcases h with h | h <;> simp [h]
      rw [this]; unfold sg; split <;> rfl
    rw [e, Rat.zero_divInt]; rfl
  · rw [if_neg h]
    have a0 : 0 < a := by omega
    have c0 : 0 < c := by omega
    have hx := cross a b c d a0 b0 c0 d0 hab hcd
    have hg : 0 < Nat.gcd a d := Nat.gcd_pos_of_pos_right _ d0
    have hh : 0 < Nat.gcd c b := Nat.gcd_pos_of_pos_right _ b0
    obtain ⟨A, hA⟩ := Nat.gcd_dvd_left a d
    obtain ⟨D, hD⟩ := Nat.gcd_dvd_right a d
    obtain ⟨C, hC⟩ := Nat.gcd_dvd_left c b
    obtain ⟨B, hB⟩ := Nat.gcd_dvd_right c b
    have qA : a / Nat.gcd a d = A := Nat.div_eq_of_eq_mul_right hg hA
    have qD : d / Nat.gcd a d = D := Nat.div_eq_of_eq_mul_right hg hD
    have qC : c / Nat.gcd c b = C := Nat.div_eq_of_eq_mul_right hh hC
    have qB : b / Nat.gcd c b = B := Nat.div_eq_of_eq_mul_right hh hB
    rw [qA, qB, qC, qD] at hx ⊢
    have C0 : 0 < C := by rcases Nat.eq_zero_or_pos C with h1 | h1; · rw [h1] at hC; omega
                          · exact h1
    have D0 : 0 < D := by rcases Nat.eq_zero_or_pos D with h1 | h1; · rw [h1] at hD; omega
                          · exact h1
    have B0 : 0 < B := by rcases Nat.eq_zero_or_pos B with h1 | h1; · rw [h1] at hB; omega
                          · exact h1
    have hBD : 0 < B * D := Nat.mul_pos B0 D0
    generalize Nat.gcd a d = g at *
    generalize Nat.gcd c b = k at *
    have e : Rat.divInt (sg neg (a * c)) ((b * d : Nat) : Int) = Rat.divInt (sg neg (A * C)) ((B * D : Nat) : Int) := by
      rw [Rat.divInt_eq_divInt_iff (by have : 0 < b * d := Nat.mul_pos b0 d0; omega) (by omega)]
      have e1 : a * c * (B * D) = A * C * (b * d) := by
        rw [hA, hB, hC, hD]
        simp only [Nat.mul_assoc, Nat.mul_comm, Nat.mul_left_comm]
      unfold sg
      split
      · rw [Int.neg_mul, Int.neg_mul]; congr 1; exact_mod_cast e1
      · exact_mod_cast e1
    rw [e]
    obtain ⟨n1, n2⟩ := num_den_sg neg (A * C) (B * D) (by omega) hx
    unfold fin
    rw [n1, n2, sg_natAbs]
    have i1 : A > 1099511627776 / C ↔ A * C > 1099511627776 := by
      constructor
      · intro h1
        rcases Nat.lt_or_ge 1099511627776 (A * C) with h2 | h2
        · exact h2
        · have := (Nat.le_div_iff_mul_le C0).2 h2; omega
      · intro h1
        rcases Nat.lt_or_ge (1099511627776 / C) A with h2 | h2
        · exact h2
        · have := (Nat.le_div_iff_mul_le C0).1 h2; omega
    have i2 : B > 1048576 / D ↔ B * D > 1048576 := by
      constructor
      · intro h1
        rcases Nat.lt_or_ge 1048576 (B * D) with h2 | h2
        · exact h2
        · have := (Nat.le_div_iff_mul_le D0).2 h2; omega
      · intro h1
        rcases Nat.lt_or_ge (1048576 / D) B with h2 | h2
        · exact h2
        · have := (Nat.le_div_iff_mul_le D0).1 h2; omega
    by_cases hc : A > 1099511627776 / C ∨ B > 1048576 / D
    · rw [if_pos hc, if_pos (by rw [← i1, ← i2]; exact hc)]
    · rw [if_neg hc, if_neg (by rw [← i1, ← i2]; exact hc)]
      unfold lowS
      rw [hx, Nat.div_one, Nat.div_one, if_neg (by rw [← i1, ← i2]; exact hc)]
      rfl

theorem mul_fin {a b : R2} (ha : Vld a) (hb : Vld b) : mul0 a b = fin (rat a * rat b) := by
  unfold mul0
  obtain ⟨a1, a2, a3, a4, a5⟩ := ha
  obtain ⟨b1, b2, b3, b4, b5⟩ := hb
  rw [prod_fin _ _ _ _ _ (by omega) (by omega) a5 b5]
  congr 1
  rw [sg_mul, sg_of, sg_of]
  unfold rat
  rw [Rat.divInt_mul_divInt]
  congr 1
  rw [Int.natCast_mul]; congr 1 <;> omega

theorem div_fin {a b : R2} (ha : Vld a) (hb : Vld b) (h0 : b.1 ≠ 0) : div0 a b = fin (rat a / rat b) := by
  unfold div0
  rw [if_neg h0]
  obtain ⟨a1, a2, a3, a4, a5⟩ := ha
  obtain ⟨b1, b2, b3, b4, b5⟩ := hb
  rw [prod_fin _ _ _ _ _ (by omega) (by omega) a5 (by rw [Nat.gcd_comm]; exact b5)]
  congr 1
  unfold rat
  rw [Rat.div_def, Rat.inv_divInt, Rat.divInt_mul_divInt]
  rw [Rat.divInt_eq_divInt_iff (by have : 0 < a.2.natAbs * b.1.natAbs := Nat.mul_pos (by omega) (by omega); omega) (by
    intro h; rcases Int.mul_eq_zero.1 h with h | h <;> omega)]
  rw [sg_mul, sg_of]
  have e2 : ((b.2.natAbs : Nat) : Int) = b.2 := by omega
  have e3 : ((a.2.natAbs : Nat) : Int) = a.2 := by omega
  rw [Int.natCast_mul, e3]
  unfold sg
  by_cases h : b.1 < 0
  · have e1 : ((b.1.natAbs : Nat) : Int) = -b.1 := by omega
    simp only [h, decide_true, if_true, e1, e2]
    simp only [Int.neg_mul, Int.mul_neg, Int.mul_assoc, Int.mul_comm, Int.mul_left_comm]
  · have e1 : ((b.1.natAbs : Nat) : Int) = b.1 := by omega
    simp only [h, decide_false, e1, e2]
    simp only [Bool.false_eq_true, if_false, Int.mul_assoc, Int.mul_comm, Int.mul_left_comm]

theorem add_fin {a b : R2} (ha : Vld a) (hb : Vld b) : add0 a b = fin (rat a + rat b) := by
  have h1 := ha.dlo
  have h2 := hb.dlo
  unfold add0
  rw [new_fin _ _ (by intro h; rcases Int.mul_eq_zero.1 h with h | h <;> omega)]
  unfold rat
  rw [Rat.divInt_add_divInt _ _ (by omega) (by omega)]
theorem sub_fin {a b : R2} (ha : Vld a) (hb : Vld b) : sub0 a b = fin (rat a - rat b) := by
  have h1 := ha.dlo
  have h2 := hb.dlo
  unfold sub0
  rw [new_fin _ _ (by intro h; rcases Int.mul_eq_zero.1 h with h | h <;> omega)]
  unfold rat
  rw [Rat.divInt_sub_divInt _ _ (by omega) (by omega)]
theorem rdiv_eq {a b : R2} (ha : Vld a) (hb : Vld b) : rdiv0 a b = div0 a b := by
  have h1 := ha.dlo
  have h2 := hb.dlo
  unfold rdiv0
  by_cases h : b.1 = 0
  · unfold newS div0; rw [if_pos h, if_pos (by rw [h]; simp)]
  · rw [div_fin ha hb h, new_fin _ _ (by intro h; rcases Int.mul_eq_zero.1 h with h | h <;> omega)]
    congr 1
    unfold rat
    rw [Rat.div_def, Rat.inv_divInt, Rat.divInt_mul_divInt]

theorem tdiv_gcd (n : Int) (g : Nat) (hg : 0 < g) (h : g ∣ n.natAbs) : n.tdiv (g : Int) = sg (decide (n < 0)) (n.natAbs / g) := by
  obtain ⟨k, hk⟩ := h
  have e := sg_of n
  rw [hk] at e ⊢
  rw [Nat.mul_div_cancel_left _ hg]
  by_cases hn : n < 0
  · simp only [sg, hn, decide_true, if_true] at e ⊢
    rw [← e, Int.natCast_mul, ← Int.mul_neg, Int.mul_tdiv_cancel_left _ (by omega)]
  · simp only [sg, hn, decide_false, Bool.false_eq_true, if_false] at e ⊢
    rw [← e, Int.natCast_mul, Int.mul_tdiv_cancel_left _ (by omega)]

theorem rmul_eq {a b : R2} (ha : Vld a) (hb : Vld b) : rmul0 a b = mul0 a b := by
  obtain ⟨a1, a2, a3, a4, a5⟩ := ha
  obtain ⟨b1, b2, b3, b4, b5⟩ := hb
  unfold rmul0 mul0 prodS
  by_cases h : a.1 = 0 ∨ b.1 = 0
  · rw [if_pos h, if_pos (by omega)]
  · rw [if_neg h, if_neg (show ¬ (a.1.natAbs = 0 ∨ b.1.natAbs = 0) by omega)]
    have hg : 0 < Nat.gcd a.1.natAbs b.2.natAbs := Nat.gcd_pos_of_pos_right _ (by omega)
    have hh : 0 < Nat.gcd b.1.natAbs a.2.natAbs := Nat.gcd_pos_of_pos_right _ (by omega)
    have hx := cross a.1.natAbs a.2.natAbs b.1.natAbs b.2.natAbs (by omega) (by omega) (by omega) (by omega) a5 b5
    have eX := tdiv_gcd a.1 _ hg (Nat.gcd_dvd_left _ _)
    have eY := tdiv_gcd b.1 _ hh (Nat.gcd_dvd_left _ _)
    have eB := tdiv_gcd a.2 _ hh (Nat.gcd_dvd_right _ _)
    have eD := tdiv_gcd b.2 _ hg (Nat.gcd_dvd_right _ _)
    have na : ¬ a.2 < 0 := by omega
    have nb : ¬ b.2 < 0 := by omega
    rw [eX, eY, eB, eD]
    simp only [na, nb, decide_false]
    simp only [sg_natAbs]
    have pC : 0 < b.1.natAbs / Nat.gcd b.1.natAbs a.2.natAbs := Nat.div_pos (Nat.le_of_dvd (by omega) (Nat.gcd_dvd_left _ _)) hh
    have pD : 0 < b.2.natAbs / Nat.gcd a.1.natAbs b.2.natAbs := Nat.div_pos (Nat.le_of_dvd (by omega) (Nat.gcd_dvd_right _ _)) hg
    generalize a.1.natAbs / Nat.gcd a.1.natAbs b.2.natAbs = A at *
    generalize b.1.natAbs / Nat.gcd b.1.natAbs a.2.natAbs = C at *
    generalize a.2.natAbs / Nat.gcd b.1.natAbs a.2.natAbs = B at *
    generalize b.2.natAbs / Nat.gcd a.1.natAbs b.2.natAbs = D at *
    have f1 : sg false B * sg false D = ((B * D : Nat) : Int) := by simp [sg]
    rw [f1, ← sg_mul]
    have i1 : A > 1099511627776 / C ↔ A * C > 1099511627776 := by
      constructor
      · intro h1
        rcases Nat.lt_or_ge 1099511627776 (A * C) with h2 | h2
        · exact h2
        · have := (Nat.le_div_iff_mul_le pC).2 h2; omega
      · intro h1
        rcases Nat.lt_or_ge (1099511627776 / C) A with h2 | h2
        · exact h2
        · have := (Nat.le_div_iff_mul_le pC).1 h2; omega
    have i2 : B > 1048576 / D ↔ ((B * D : Nat) : Int) > 1048576 := by
      constructor
      · intro h1
        rcases Nat.lt_or_ge 1048576 (B * D) with h2 | h2
        · omega
        · have := (Nat.le_div_iff_mul_le pD).2 h2; omega
      · intro h1
        rcases Nat.lt_or_ge (1048576 / D) B with h2 | h2
        · exact h2
        · have := (Nat.le_div_iff_mul_le pD).1 h2; omega
    by_cases hc : A > 1099511627776 / C ∨ ((B * D : Nat) : Int) > 1048576
    · rw [if_pos hc, if_pos (by rw [i2]; exact hc)]
    · rw [if_neg hc, if_neg (by rw [i2]; exact hc)]
      unfold lowS
      rw [hx, Nat.div_one, Nat.div_one, if_neg (by omega)]
      rfl
theorem opS_fin {f : R2 → R2 → R2 × Int} {g : Rat → Rat → Rat} (hf : ∀ {a b : R2}, Vld a → Vld b → f a b = fin (g (rat a) (rat b))) (a b : R2) (ha : Vld a) (hb : Vld b) : opS f a b = fin (g (rat a) (rat b)) := by
  unfold opS
  rw [if_pos ⟨(chk_iff _).2 ha, (chk_iff _).2 hb⟩, hf ha hb]
theorem opS_zero {f : R2 → R2 → R2 × Int} {a b : R2} (h : (opS f a b).2 = 0) : Vld a ∧ Vld b := by
  unfold opS at h
  by_cases k : chk a = 0 ∧ chk b = 0
  · exact ⟨(chk_iff _).1 k.1, (chk_iff _).1 k.2⟩
  · rw [if_neg k] at h; simp at h
theorem opS_code {f : R2 → R2 → R2 × Int} {g : Rat → Rat → Rat} (hf : ∀ {a b : R2}, Vld a → Vld b → f a b = fin (g (rat a) (rat b))) (a b : R2) (ha : Vld a) (hb : Vld b) : (opS f a b).2 = 0 ∨ (opS f a b).2 = 5 := by
  rw [opS_fin hf a b ha hb]; exact fin_code _
theorem opS_ok {f : R2 → R2 → R2 × Int} {g : Rat → Rat → Rat} (hf : ∀ {a b : R2}, Vld a → Vld b → f a b = fin (g (rat a) (rat b))) {a b x : R2} (h : opS f a b = (x, 0)) : Vld a ∧ Vld b ∧ Vld x ∧ rat x = g (rat a) (rat b) := by
  obtain ⟨ha, hb⟩ := opS_zero (f := f) (a := a) (b := b) (by rw [h])
  have e := opS_fin hf a b ha hb
  have h2 : (fin (g (rat a) (rat b))).2 = 0 := by rw [← e, h]
  have := fin_vld h2
  rw [← e, h] at this
  exact ⟨ha, hb, this.1, this.2⟩
theorem rmul_op (a b : R2) : opS rmul0 a b = opS mul0 a b := by
  unfold opS
  by_cases k : chk a = 0 ∧ chk b = 0
  · rw [if_pos k, if_pos k, rmul_eq ((chk_iff _).1 k.1) ((chk_iff _).1 k.2)]
  · rw [if_neg k, if_neg k]
theorem rdiv_op (a b : R2) : opS rdiv0 a b = opS div0 a b := by
  unfold opS
  by_cases k : chk a = 0 ∧ chk b = 0
  · rw [if_pos k, if_pos k, rdiv_eq ((chk_iff _).1 k.1) ((chk_iff _).1 k.2)]
  · rw [if_neg k, if_neg k]

/-! the laws -/
theorem comm_law {f : R2 → R2 → R2 × Int} {g : Rat → Rat → Rat} (hf : ∀ {a b : R2}, Vld a → Vld b → f a b = fin (g (rat a) (rat b))) (hg : ∀ x y, g x y = g y x) (a b : R2) (ha : Vld a) (hb : Vld b) : opS f a b = opS f b a := by
  rw [opS_fin hf a b ha hb, opS_fin hf b a hb ha, hg]
theorem assoc_law {f : R2 → R2 → R2 × Int} {g : Rat → Rat → Rat} (hf : ∀ {a b : R2}, Vld a → Vld b → f a b = fin (g (rat a) (rat b))) (hg : ∀ x y z, g (g x y) z = g x (g y z)) {a b c x z l r : R2}
    (h1 : opS f a b = (x, 0)) (h2 : opS f x c = (l, 0)) (h3 : opS f b c = (z, 0)) (h4 : opS f a z = (r, 0)) : l = r := by
  obtain ⟨_, _, _, e1⟩ := opS_ok hf h1
  obtain ⟨_, _, vl, e2⟩ := opS_ok hf h2
  obtain ⟨_, _, _, e3⟩ := opS_ok hf h3
  obtain ⟨_, _, vr, e4⟩ := opS_ok hf h4
  refine rat_inj vl vr ?_
  rw [e2, e4, e1, e3, hg]
theorem distr_law {a b c s l x y r : R2} (h1 : opS add0 b c = (s, 0)) (h2 : opS mul0 a s = (l, 0)) (h3 : opS mul0 a b = (x, 0)) (h4 : opS mul0 a c = (y, 0)) (h5 : opS add0 x y = (r, 0)) : l = r := by
  obtain ⟨_, _, _, e1⟩ := opS_ok add_fin h1
  obtain ⟨_, _, vl, e2⟩ := opS_ok mul_fin h2
  obtain ⟨_, _, _, e3⟩ := opS_ok mul_fin h3
  obtain ⟨_, _, _, e4⟩ := opS_ok mul_fin h4
  obtain ⟨_, _, vr, e5⟩ := opS_ok add_fin h5
  refine rat_inj vl vr ?_
  rw [e2, e5, e1, e3, e4, Rat.mul_add]
theorem sub_add {a b s : R2} (h : opS add0 a b = (s, 0)) : opS sub0 s b = (a, 0) := by
  obtain ⟨va, vb, vs, e⟩ := opS_ok add_fin h
  rw [opS_fin sub_fin s b vs vb, e, Rat.add_sub_cancel, fin_rat va]
theorem rat_zero {b : R2} (h : Vld b) : b.1 ≠ 0 → rat b ≠ 0 := by
  intro h0 e
  have := rat_mk h
  rw [e] at this
  exact h0 (by rw [← this.1]; rfl)
theorem div_mul {a b p : R2} (h : opS mul0 a b = (p, 0)) (h0 : b.1 ≠ 0) : opS div0 p b = (a, 0) := by
  obtain ⟨va, vb, vp, e⟩ := opS_ok mul_fin h
  unfold opS
  rw [if_pos ⟨(chk_iff _).2 vp, (chk_iff _).2 vb⟩, div_fin vp vb h0, e, Rat.div_def, Rat.mul_assoc, Rat.mul_inv_cancel _ (rat_zero vb h0), Rat.mul_one, fin_rat va]
theorem mul_zero_r {a b : R2} (ha : Vld a) (hb : Vld b) (h0 : b.1 = 0) : opS mul0 a b = ((0, 1), 0) := by
  unfold opS
  rw [if_pos ⟨(chk_iff _).2 ha, (chk_iff _).2 hb⟩]
  unfold mul0 prodS
  rw [if_pos (by omega)]
theorem div_zero_r {a b : R2} (ha : Vld a) (hb : Vld b) (h0 : b.1 = 0) : opS div0 a b = ((0, 0), 21) := by
  unfold opS
  rw [if_pos ⟨(chk_iff _).2 ha, (chk_iff _).2 hb⟩]
  unfold div0
  rw [if_pos h0]


theorem rat_lt {a b : R2} (ha : Vld a) (hb : Vld b) : rat a < rat b ↔ a.1 * b.2 < b.1 * a.2 := by
  have h1 := rat_mk ha; have h2 := rat_mk hb
  rw [Rat.lt_iff, h1.1, h1.2, h2.1, h2.2]
theorem cmp_rat {a b : R2} (ha : Vld a) (hb : Vld b) : cmpS a b = if rat a < rat b then -1 else if rat b < rat a then 1 else 0 := by
  unfold cmpS
  rw [if_pos ⟨(chk_iff _).2 ha, (chk_iff _).2 hb⟩]
  have e1 := rat_lt ha hb
  have e2 := rat_lt hb ha
  by_cases h1 : a.1 * b.2 < b.1 * a.2
  · rw [if_pos h1, if_pos (e1.2 h1)]
  · rw [if_neg h1, if_neg (fun h => h1 (e1.1 h))]
    by_cases h2 : b.1 * a.2 < a.1 * b.2
    · rw [if_pos h2, if_pos (e2.2 h2)]
    · rw [if_neg h2, if_neg (fun h => h2 (e2.1 h))]
theorem cmp_bd (a b : R2) : -1 ≤ cmpS a b ∧ cmpS a b ≤ 1 := by
  unfold cmpS; split
  · split
    · omega
    · split <;> omega
  · omega
theorem cmp_neg {a b : R2} (ha : Vld a) (hb : Vld b) : cmpS a b = -cmpS b a := by
  rw [cmp_rat ha hb, cmp_rat hb ha]
  by_cases h1 : rat a < rat b
  · have h2 : ¬ rat b < rat a := Rat.not_lt.2 (Rat.le_of_lt h1)
    simp [h1, h2]
  · by_cases h2 : rat b < rat a <;> simp [h1, h2]
theorem cmp_eq {a b : R2} (ha : Vld a) (hb : Vld b) : cmpS a b = 0 ↔ a = b := by
  rw [cmp_rat ha hb]
  constructor
  · intro h
    by_cases h1 : rat a < rat b
    · simp [h1] at h
    · by_cases h2 : rat b < rat a
      · simp [h1, h2] at h
      · exact rat_inj ha hb (Rat.le_antisymm (Rat.not_lt.1 h2) (Rat.not_lt.1 h1))
  · rintro rfl
    simp [Rat.lt_irrefl]
theorem cmp_le {a b : R2} (ha : Vld a) (hb : Vld b) : cmpS a b ≤ 0 ↔ rat a ≤ rat b := by
  rw [cmp_rat ha hb, ← Rat.not_lt]
  by_cases h1 : rat a < rat b
  · have h2 : ¬ rat b < rat a := Rat.not_lt.2 (Rat.le_of_lt h1)
    simp [h1, h2]
  · by_cases h2 : rat b < rat a <;> simp [h1, h2]
theorem cmp_trans {a b c : R2} (ha : Vld a) (hb : Vld b) (hc : Vld c) (h1 : cmpS a b ≤ 0) (h2 : cmpS b c ≤ 0) : cmpS a c ≤ 0 := by
  rw [cmp_le ha hb] at h1
  rw [cmp_le hb hc] at h2
  rw [cmp_le ha hc]
  exact Rat.le_trans h1 h2
theorem cmp_sub {a b d : R2} (h : opS sub0 a b = (d, 0)) : cmpS a b < 0 ↔ d.1 < 0 := by
  obtain ⟨va, vb, vd, e⟩ := opS_ok sub_fin h
  have e0 : cmpS a b < 0 ↔ rat a < rat b := by
    rw [cmp_rat va vb]
    by_cases h1 : rat a < rat b
    · simp [h1]
    · by_cases h2 : rat b < rat a <;> simp [h1, h2]
  rw [e0]
  have h1 := rat_mk vd
  have e3 : d.1 < 0 ↔ rat d < 0 := by rw [Rat.lt_iff, h1.1]; simp
  rw [e3, e]
  constructor
  · intro k; have := (Rat.add_lt_add_right (c := -rat b)).2 k; rw [Rat.add_neg_cancel] at this; rwa [Rat.sub_eq_add_neg]
  · intro k; rw [Rat.sub_eq_add_neg] at k; have := (Rat.add_lt_add_right (c := rat b)).2 k; rwa [Rat.add_assoc, Rat.neg_add_cancel, Rat.add_zero, Rat.zero_add] at this
theorem cmp_add {a b c x y : R2} (h1 : opS add0 a c = (x, 0)) (h2 : opS add0 b c = (y, 0)) : cmpS x y = cmpS a b := by
  obtain ⟨va, vc, vx, e1⟩ := opS_ok add_fin h1
  obtain ⟨vb, _, vy, e2⟩ := opS_ok add_fin h2
  rw [cmp_rat vx vy, cmp_rat va vb, e1, e2]
  simp only [Rat.add_lt_add_right]
theorem chk_neg {n d : Int} : chk (-n, d) = chk (n, d) := by
  unfold chk
  simp only [Int.natAbs_neg]
  by_cases h : n < -1099511627776 ∨ 1099511627776 < n ∨ d < 1 ∨ 1048576 < d
  · rw [if_pos h, if_pos (by omega)]
  · rw [if_neg h, if_neg (by omega)]
theorem ceil_neg (n d : Int) : ceilS (n, d) = -floorS (-n, d) := by
  unfold ceilS floorS
  rw [chk_neg]
  split <;> simp
theorem floor_law {n d : Int} (h : chk (n, d) = 0) : floorS (n, d) * d ≤ n ∧ n < (floorS (n, d) + 1) * d := by
  have hv := (chk_iff _).1 h
  have h1 := hv.dlo
  simp only at h1
  unfold floorS
  rw [if_pos h]
  simp only
  have e := Int.mul_ediv_add_emod n d
  have m1 := Int.emod_nonneg n (show d ≠ 0 by omega)
  have m2 := Int.emod_lt_of_pos n (show 0 < d by omega)
  rw [Int.add_mul, Int.mul_comm (n / d) d]
  omega
theorem ceil_floor {n d : Int} (h : chk (n, d) = 0) : ceilS (n, d) = floorS (n, d) ↔ d = 1 := by
  have hv := (chk_iff _).1 h
  have h1 := hv.dlo
  have hc := hv.cop
  simp only at h1 hc
  unfold ceilS floorS
  rw [if_pos h]
  simp only
  have e := Int.mul_ediv_add_emod n d
  have m1 := Int.emod_nonneg n (show d ≠ 0 by omega)
  have m2 := Int.emod_lt_of_pos n (show 0 < d by omega)
  have e' := Int.mul_ediv_add_emod (-n) d
  have m1' := Int.emod_nonneg (-n) (show d ≠ 0 by omega)
  have m2' := Int.emod_lt_of_pos (-n) (show 0 < d by omega)
  constructor
  · intro k
    have k' : (-n) / d = -(n / d) := by omega
    rw [k', Int.mul_neg] at e'
    have k2 : n % d = 0 := by omega
    have hdvd : d ∣ n := Int.dvd_of_emod_eq_zero k2
    have : d.natAbs ∣ n.natAbs := Int.natAbs_dvd_natAbs.2 hdvd
    have h3 : Nat.gcd n.natAbs d.natAbs = d.natAbs := Nat.gcd_eq_right this
    omega
  · rintro rfl
    omega
theorem floor_bd {n d : Int} : -1099511627776 ≤ floorS (n, d) ∧ floorS (n, d) ≤ 1099511627776 := by
  by_cases h : chk (n, d) = 0
  · have hv := (chk_iff _).1 h
    have h1 := hv.dlo
    have h2 := hv.lo
    have h3 := hv.hi
    simp only at h1 h2 h3
    obtain ⟨k1, k2⟩ := floor_law h
    generalize floorS (n, d) = f at *
    constructor
    · rcases Int.lt_or_le f 0 with hf | hf
      · have : (f + 1) * d ≤ (f + 1) * 1 := Int.mul_le_mul_of_nonpos_left (by omega) (by omega)
        omega
      · omega
    · rcases Int.lt_or_le f 0 with hf | hf
      · omega
      · have : f * 1 ≤ f * d := Int.mul_le_mul_of_nonneg_left (by omega) hf
        omega
  · unfold floorS; rw [if_neg h]; omega
end Go.Proofs.Ytfkdhcfedjbkfaa
