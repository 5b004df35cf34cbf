/- Walk of the reference's Mul (layer 4). -/
import Derived.Test.YtfkdhcfedjbkfaaWg
namespace Go.Proofs.Ytfkdhcfedjbkfaa
open Go.RowKit

def rmul0 (a b : R2) : R2 × Int :=
  if a.1 = 0 ∨ b.1 = 0 then ((0, 1), 0)
  else if (a.1.tdiv (Nat.gcd a.1.natAbs b.2.natAbs : Nat)).natAbs > 1099511627776 / (b.1.tdiv (Nat.gcd b.1.natAbs a.2.natAbs : Nat)).natAbs ∨
      a.2.tdiv (Nat.gcd b.1.natAbs a.2.natAbs : Nat) * b.2.tdiv (Nat.gcd a.1.natAbs b.2.natAbs : Nat) > 1048576 then ((0, 0), 5)
  else ((a.1.tdiv (Nat.gcd a.1.natAbs b.2.natAbs : Nat) * b.1.tdiv (Nat.gcd b.1.natAbs a.2.natAbs : Nat), a.2.tdiv (Nat.gcd b.1.natAbs a.2.natAbs : Nat) * b.2.tdiv (Nat.gcd a.1.natAbs b.2.natAbs : Nat)), 0)

set_option maxHeartbeats 800000 in
theorem rmul_zero (a b c d p q r : Int) (w : World) (k : chk (a, b) = 0 ∧ chk (c, d) = 0) (z : a = 0 ∨ c = 0) (hr : rmul0 (a, b) (c, d) = ((p, q), r)) :
    Calls Try.prog 26 #[.agg #[.int .i64 a, .int .i64 b], .agg #[.int .i64 c, .int .i64 d]] w fun e w' => e = .returned (.tuple #[.agg #[.int .i64 p, .int .i64 q], .int .i64 r]) ∧ Below w.heap.size w w' := by
  unfold rmul0 at hr
  rw [if_pos z] at hr
  obtain ⟨⟨rfl, rfl⟩, rfl⟩ : (0 = p ∧ 1 = q) ∧ 0 = r := by simpa using hr
  clear hr
  obtain ⟨x1, x2, x3, x4⟩ := chk_bd k.1
  obtain ⟨y1, y2, y3, y4⟩ := chk_bd k.2
  have hv : decide (chk (a, b) = 0 ∧ chk (c, d) = 0) = true := by simpa using k
  have HV := Lib.hid hv
  clear hv k
  by_cases z1 : a = 0
  · have e1 : (a == 0) = true := by simpa using z1
    have Z1 := Lib.hid z1
    clear z z1
    go_enter Try.func26, Try.ntmps26
    go_wp2_with fail
    refine (rvalid_any a b c d true _ (by omega) (by omega) (by omega) (by omega) (by omega) (by omega) (by omega) (by omega) HV.out).mono ?_
    rintro e w1 ⟨rfl, hb1⟩
    obtain ⟨hc1, hf1⟩ := bcell hb1
    have hz1 := hb1.size
    simp at hz1
    go_wp2
    refine bodyPost_ret (v := .tuple #[.agg #[.int .i64 0, .int .i64 1], .int .i64 0]) (by simp [results, Try.results26, go_sem, hc1]) rfl ⟨rfl, ?_⟩
    exact (by repeat' (first | exact Below.refl _ _ | assumption | (with_reducible refine bdrewN ?_ _) | (with_reducible refine bdrew ?_) | (with_reducible refine bset ?_ ?_) | (with_reducible refine balloc0 ?_) | (with_reducible refine balloc ?_ ?_) | (apply btrans0; rotate_left; assumption) | (apply btrans; rotate_left; assumption) | (simp; done) | omega | (simp; omega)))
  · have e1 : (a == 0) = false := by simpa using z1
    have e2 : (c == 0) = true := by simp; omega
    clear z z1
    go_enter Try.func26, Try.ntmps26
    go_wp2_with fail
    refine (rvalid_any a b c d true _ (by omega) (by omega) (by omega) (by omega) (by omega) (by omega) (by omega) (by omega) HV.out).mono ?_
    rintro e w1 ⟨rfl, hb1⟩
    obtain ⟨hc1, hf1⟩ := bcell hb1
    have hz1 := hb1.size
    simp at hz1
    go_wp2
    refine bodyPost_ret (v := .tuple #[.agg #[.int .i64 0, .int .i64 1], .int .i64 0]) (by simp [results, Try.results26, go_sem, hc1]) rfl ⟨rfl, ?_⟩
    exact (by repeat' (first | exact Below.refl _ _ | assumption | (with_reducible refine bdrewN ?_ _) | (with_reducible refine bdrew ?_) | (with_reducible refine bset ?_ ?_) | (with_reducible refine balloc0 ?_) | (with_reducible refine balloc ?_ ?_) | (apply btrans0; rotate_left; assumption) | (apply btrans; rotate_left; assumption) | (simp; done) | omega | (simp; omega)))

set_option maxHeartbeats 1600000 in
theorem rmul_pos (a c p q r : Int) (b d : Nat) (w : World) (k : chk (a, b) = 0 ∧ chk (c, d) = 0) (za : a ≠ 0) (zc : c ≠ 0) (hr : rmul0 (a, b) (c, d) = ((p, q), r)) :
    Calls Try.prog 26 #[.agg #[.int .i64 a, .int .i64 (b : Int)], .agg #[.int .i64 c, .int .i64 (d : Int)]] w fun e w' => e = .returned (.tuple #[.agg #[.int .i64 p, .int .i64 q], .int .i64 r]) ∧ Below w.heap.size w w' := by
  obtain ⟨x1, x2, x3, x4⟩ := chk_bd k.1
  obtain ⟨y1, y2, y3, y4⟩ := chk_bd k.2
  unfold rmul0 at hr
  simp only [Int.natAbs_natCast] at hr
  rw [if_neg (by omega)] at hr
  have hg : 0 < Nat.gcd a.natAbs d := Nat.gcd_pos_of_pos_right _ (by omega)
  have hh : 0 < Nat.gcd c.natAbs b := Nat.gcd_pos_of_pos_right _ (by omega)
  have da : ((Nat.gcd a.natAbs d : Nat) : Int) ∣ a := by have := Nat.gcd_dvd_left a.natAbs d; exact Int.ofNat_dvd_left.2 this
  have dd : Nat.gcd a.natAbs d ∣ d := Nat.gcd_dvd_right _ _
  have dc : ((Nat.gcd c.natAbs b : Nat) : Int) ∣ c := by have := Nat.gcd_dvd_left c.natAbs b; exact Int.ofNat_dvd_left.2 this
  have db : Nat.gcd c.natAbs b ∣ b := Nat.gcd_dvd_right _ _
  obtain ⟨g, hgg⟩ : ∃ g, Nat.gcd a.natAbs d = g := ⟨_, rfl⟩
  obtain ⟨h, hhh⟩ : ∃ h, Nat.gcd c.natAbs b = h := ⟨_, rfl⟩
  rw [hgg] at hr hg da dd
  rw [hhh] at hr hh dc db
  have HG := Lib.hid hgg
  have HH := Lib.hid hhh
  clear hgg hhh
  obtain ⟨X, hX⟩ := da
  obtain ⟨D, hD⟩ := dd
  obtain ⟨Y, hY⟩ := dc
  obtain ⟨B, hB⟩ := db
  have eX : a.tdiv (g : Int) = X := by rw [hX, Int.mul_tdiv_cancel_left _ (by omega)]
  have eY : c.tdiv (h : Int) = Y := by rw [hY, Int.mul_tdiv_cancel_left _ (by omega)]
  have eD : (d : Int).tdiv (g : Int) = (D : Int) := by rw [hD]; rw [Int.natCast_mul, Int.mul_tdiv_cancel_left _ (by omega)]
  have eB : (b : Int).tdiv (h : Int) = (B : Int) := by rw [hB]; rw [Int.natCast_mul, Int.mul_tdiv_cancel_left _ (by omega)]
  have bX : X.natAbs ≤ 1099511627776 ∧ X ≠ 0 := by
    have h1 : a.natAbs = g * X.natAbs := by rw [hX, Int.natAbs_mul, Int.natAbs_natCast]
    have h2 : 1 * X.natAbs ≤ g * X.natAbs := Nat.mul_le_mul_right _ hg
    refine ⟨by omega, ?_⟩
    rintro rfl
    simp at hX; omega
  have bY : Y.natAbs ≤ 1099511627776 ∧ Y ≠ 0 := by
    have h1 : c.natAbs = h * Y.natAbs := by rw [hY, Int.natAbs_mul, Int.natAbs_natCast]
    have h2 : 1 * Y.natAbs ≤ h * Y.natAbs := Nat.mul_le_mul_right _ hh
    refine ⟨by omega, ?_⟩
    rintro rfl
    simp at hY; omega
  have bD : D ≤ 1048576 ∧ 0 < D := by
    have h2 : 1 * D ≤ g * D := Nat.mul_le_mul_right _ hg
    refine ⟨by omega, ?_⟩
    rcases Nat.eq_zero_or_pos D with h3 | h3
    · rw [h3] at hD; simp at hD; omega
    · exact h3
  have bB : B ≤ 1048576 ∧ 0 < B := by
    have h2 : 1 * B ≤ h * B := Nat.mul_le_mul_right _ hh
    refine ⟨by omega, ?_⟩
    rcases Nat.eq_zero_or_pos B with h3 | h3
    · rw [h3] at hB; simp at hB; omega
    · exact h3
  obtain ⟨bX1, bX2⟩ := bX
  obtain ⟨bY1, bY2⟩ := bY
  obtain ⟨bD1, bD2⟩ := bD
  obtain ⟨bB1, bB2⟩ := bB
  clear hX hD hY hB
  rw [eX, eY, eD, eB] at hr
  have uX : IntKind.i64.wrap X = X := by rw [IntKind.wrap_i64]; omega
  have uY : IntKind.i64.wrap Y = Y := by rw [IntKind.wrap_i64]; omega
  have uD : IntKind.i64.wrap (D : Int) = (D : Int) := by rw [IntKind.wrap_i64]; omega
  have uB : IntKind.i64.wrap (B : Int) = (B : Int) := by rw [IntKind.wrap_i64]; omega
  have hN : B * D ≤ 1048576 * 1048576 := Nat.mul_le_mul bB1 bD1
  have eN : (B : Int) * (D : Int) = ((B * D : Nat) : Int) := by simp
  rw [eN] at hr
  obtain ⟨N, hN'⟩ : ∃ N, B * D = N := ⟨_, rfl⟩
  rw [hN'] at hN hr eN
  clear hN'
  have uN : IntKind.i64.wrap (N : Int) = (N : Int) := by rw [IntKind.wrap_i64]; omega
  have hZ : X.natAbs ≤ 1099511627776 / Y.natAbs → (X * Y).natAbs ≤ 1099511627776 := fun k => by
    rw [Int.natAbs_mul]
    exact (Nat.le_div_iff_mul_le (by omega)).1 k
  have bT : 1099511627776 / Y.natAbs ≤ 1099511627776 := Nat.div_le_self _ _
  obtain ⟨A, hA⟩ : ∃ A, X.natAbs = A := ⟨_, rfl⟩
  obtain ⟨C, hC⟩ : ∃ C, Y.natAbs = C := ⟨_, rfl⟩
  obtain ⟨T, hT⟩ : ∃ T, 1099511627776 / C = T := ⟨_, rfl⟩
  obtain ⟨Z, hZe⟩ : ∃ Z, X * Y = Z := ⟨_, rfl⟩
  rw [hA, hC, hT, hZe] at hr
  rw [hA, hC, hT, hZe] at hZ
  rw [hC, hT] at bT
  have eT : (1099511627776 : Int) / (C : Int) = (T : Int) := by rw [← hT]; simp
  have hv : decide (chk (a, (b : Int)) = 0 ∧ chk (c, (d : Int)) = 0) = true := by simpa using k
  have HV := Lib.hid hv
  have HA := Lib.hid hA
  have HC := Lib.hid hC
  have C0 : 0 < C := by omega
  clear hv k hA hC hT
  have n1 : (a == 0) = false := by simpa using za
  have n2 : (c == 0) = false := by simpa using zc
  have g0 : ((g : Int) == 0) = false := by simp; omega
  have h0 : ((h : Int) == 0) = false := by simp; omega
  have uc : IntKind.i64.wrap (g : Int) = (g : Int) ∨ True := Or.inr trivial
  clear uc
  have k1 : ∀ W, Calls Try.prog 32 #[.int .u64 (a.natAbs : Int), .int .u64 (d : Int)] W fun e w' => e = .returned (.int .u64 (g : Int)) ∧ ∃ n, w' = W.drewN n := fun W => by
    have := rgcd_any a.natAbs d W
    rw [HG.out] at this; exact this
  have k2 : ∀ W, Calls Try.prog 32 #[.int .u64 (c.natAbs : Int), .int .u64 (b : Int)] W fun e w' => e = .returned (.int .u64 (h : Int)) ∧ ∃ n, w' = W.drewN n := fun W => by
    have := rgcd_any c.natAbs b W
    rw [HH.out] at this; exact this
  have K1 := Lib.hid k1
  have K2 := Lib.hid k2
  clear k1 k2
  have gl : g ≤ 1048576 := by
    have := HG.out; rw [← this]; exact Nat.le_trans (Nat.gcd_le_right _ (by omega)) (by omega)
  have hl : h ≤ 1048576 := by
    have := HH.out; rw [← this]; exact Nat.le_trans (Nat.gcd_le_right _ (by omega)) (by omega)
  have ug : IntKind.i64.wrap (g : Int) = (g : Int) := by rw [IntKind.wrap_i64]; omega
  have uh : IntKind.i64.wrap (h : Int) = (h : Int) := by rw [IntKind.wrap_i64]; omega
  by_cases t1 : T < A
  · rw [if_pos (by omega)] at hr
    obtain ⟨⟨rfl, rfl⟩, rfl⟩ : (0 = p ∧ 0 = q) ∧ 5 = r := by simpa using hr
    clear hr hZ
    go_enter Try.func26, Try.ntmps26
    go_wp2_with fail
    refine (rvalid_any a b c d true _ (by omega) (by omega) (by omega) (by omega) (by omega) (by omega) (by omega) (by omega) HV.out).mono ?_
    rintro e w1 ⟨rfl, hb1⟩
    obtain ⟨hc1, hf1⟩ := bcell hb1
    have hz1 := hb1.size
    simp at hz1
    go_wp2_with fail
    go_quiet ((first | (go_at_call 31; exact Calls.quiet_of_same ((rsize_any _ _ (by omega) (by omega)).mono fun _ _ h => ⟨h.1, h.2.symm⟩)) | (go_at_call 32; first | with_reducible exact Calls.quiet_of (K1.out _) | with_reducible exact Calls.quiet_of (K2.out _))))
    go_wp2_with fail
    go_quiet (fail)
    go_wp2_with fail
    go_quiet (fail)
    go_wp2_with fail
    refine (rsize_any X _ (by omega) (by omega)).mono ?_; rintro e w' ⟨rfl, rfl⟩; rw [HA.out]
    go_wp2_with fail
    refine (rsize_any Y _ (by omega) (by omega)).mono ?_; rintro e w' ⟨rfl, rfl⟩; rw [HC.out]
    go_wp2
    refine bodyPost_ret (v := .tuple #[.agg #[.int .i64 0, .int .i64 0], .int .i64 5]) (by simp [results, Try.results26, go_sem, hc1]) rfl ⟨rfl, ?_⟩
    exact (by repeat' (first | exact Below.refl _ _ | assumption | (with_reducible refine bdrewN ?_ _) | (with_reducible refine bdrew ?_) | (with_reducible refine bset ?_ ?_) | (with_reducible refine balloc0 ?_) | (with_reducible refine balloc ?_ ?_) | (apply btrans0; rotate_left; assumption) | (apply btrans; rotate_left; assumption) | (simp; done) | omega | (simp; omega)))
  by_cases t2 : 1048576 < N
  · rw [if_pos (by omega)] at hr
    obtain ⟨⟨rfl, rfl⟩, rfl⟩ : (0 = p ∧ 0 = q) ∧ 5 = r := by simpa using hr
    clear hr hZ
    go_enter Try.func26, Try.ntmps26
    go_wp2_with fail
    refine (rvalid_any a b c d true _ (by omega) (by omega) (by omega) (by omega) (by omega) (by omega) (by omega) (by omega) HV.out).mono ?_
    rintro e w1 ⟨rfl, hb1⟩
    obtain ⟨hc1, hf1⟩ := bcell hb1
    have hz1 := hb1.size
    simp at hz1
    go_wp2_with fail
    go_quiet ((first | (go_at_call 31; exact Calls.quiet_of_same ((rsize_any _ _ (by omega) (by omega)).mono fun _ _ h => ⟨h.1, h.2.symm⟩)) | (go_at_call 32; first | with_reducible exact Calls.quiet_of (K1.out _) | with_reducible exact Calls.quiet_of (K2.out _))))
    go_wp2_with fail
    go_quiet (fail)
    go_wp2_with fail
    go_quiet (fail)
    go_wp2_with fail
    refine (rsize_any X _ (by omega) (by omega)).mono ?_; rintro e w' ⟨rfl, rfl⟩; rw [HA.out]
    go_wp2_with fail
    refine (rsize_any Y _ (by omega) (by omega)).mono ?_; rintro e w' ⟨rfl, rfl⟩; rw [HC.out]
    go_wp2
    refine bodyPost_ret (v := .tuple #[.agg #[.int .i64 0, .int .i64 0], .int .i64 5]) (by simp [results, Try.results26, go_sem, hc1]) rfl ⟨rfl, ?_⟩
    exact (by repeat' (first | exact Below.refl _ _ | assumption | (with_reducible refine bdrewN ?_ _) | (with_reducible refine bdrew ?_) | (with_reducible refine bset ?_ ?_) | (with_reducible refine balloc0 ?_) | (with_reducible refine balloc ?_ ?_) | (apply btrans0; rotate_left; assumption) | (apply btrans; rotate_left; assumption) | (simp; done) | omega | (simp; omega)))
  · rw [if_neg (by omega)] at hr
    obtain ⟨⟨rfl, rfl⟩, rfl⟩ : (Z = p ∧ (N : Int) = q) ∧ 0 = r := by simpa using hr
    have hZ' := hZ (by omega)
    clear hr hZ
    go_enter Try.func26, Try.ntmps26
    go_wp2_with fail
    refine (rvalid_any a b c d true _ (by omega) (by omega) (by omega) (by omega) (by omega) (by omega) (by omega) (by omega) HV.out).mono ?_
    rintro e w1 ⟨rfl, hb1⟩
    obtain ⟨hc1, hf1⟩ := bcell hb1
    have hz1 := hb1.size
    simp at hz1
    go_wp2_with fail
    go_quiet ((first | (go_at_call 31; exact Calls.quiet_of_same ((rsize_any _ _ (by omega) (by omega)).mono fun _ _ h => ⟨h.1, h.2.symm⟩)) | (go_at_call 32; first | with_reducible exact Calls.quiet_of (K1.out _) | with_reducible exact Calls.quiet_of (K2.out _))))
    go_wp2_with fail
    go_quiet (fail)
    go_wp2_with fail
    go_quiet (fail)
    go_wp2_with fail
    refine (rsize_any X _ (by omega) (by omega)).mono ?_; rintro e w' ⟨rfl, rfl⟩; rw [HA.out]
    go_wp2_with fail
    refine (rsize_any Y _ (by omega) (by omega)).mono ?_; rintro e w' ⟨rfl, rfl⟩; rw [HC.out]
    go_wp2
    refine bodyPost_ret (v := .tuple #[.agg #[.int .i64 Z, .int .i64 (N : Int)], .int .i64 0]) (by simp [results, Try.results26, go_sem, hc1]) rfl ⟨rfl, ?_⟩
    exact (by repeat' (first | exact Below.refl _ _ | assumption | (with_reducible refine bdrewN ?_ _) | (with_reducible refine bdrew ?_) | (with_reducible refine bset ?_ ?_) | (with_reducible refine balloc0 ?_) | (with_reducible refine balloc ?_ ?_) | (apply btrans0; rotate_left; assumption) | (apply btrans; rotate_left; assumption) | (simp; done) | omega | (simp; omega)))
end Go.Proofs.Ytfkdhcfedjbkfaa
