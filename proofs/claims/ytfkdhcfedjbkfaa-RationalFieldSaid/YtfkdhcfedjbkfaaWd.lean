/- Walks of layer 4 (rational): product, the closures of Add, Sub, Mul, Div, binary, Add, Sub, Mul, Div. -/
import Derived.Test.YtfkdhcfedjbkfaaWb
import Derived.Deep.DrawnRows
namespace Go.Proofs.Ytfkdhcfedjbkfaa
open Go.RowKit

def prodS (neg : Bool) (a b c d : Nat) : R2 × Int :=
  if a = 0 ∨ c = 0 then ((0, 1), 0)
  else if a / Nat.gcd a d > 1099511627776 / (c / Nat.gcd c b) ∨ b / Nat.gcd c b > 1048576 / (d / Nat.gcd a d) then ((0, 0), 5)
  else lowS neg (a / Nat.gcd a d * (c / Nat.gcd c b)) (b / Nat.gcd c b * (d / Nat.gcd a d))

theorem prod_zero (neg : Bool) (a b c d : Nat) (p q r : Int) (w : World) (h : a = 0 ∨ c = 0) (hr : prodS neg a b c d = ((p, q), r)) :
    Calls Try.prog 39 #[.bool neg, .int .u64 (a : Int), .int .u64 (b : Int), .int .u64 (c : Int), .int .u64 (d : Int)] w fun e w' => e = .returned (.tuple #[.agg #[.int .i64 p, .int .i64 q], .int .i64 r]) ∧ Below w.heap.size w w' := by
  unfold prodS at hr
  rw [if_pos h] at hr
  obtain ⟨⟨rfl, rfl⟩, rfl⟩ : (0 = p ∧ 1 = q) ∧ 0 = r := by simpa using hr
  clear hr
  by_cases h1 : a = 0
  · subst h1
    have e1 : (((0 : Nat) : Int) == 0) = true := by decide
    go_enter Try.func39, Try.ntmps39
    go_wp2
    refine bodyPost_ret (v := .tuple #[.agg #[.int .i64 0, .int .i64 1], .int .i64 0]) (by simp [results, Try.results39, go_sem]) rfl ⟨rfl, ?_⟩
    exact (by repeat' (first | exact Below.refl _ _ | assumption | (with_reducible refine bdrewN ?_ _) | (with_reducible refine bdrew ?_) | (with_reducible refine bset ?_ ?_) | (with_reducible refine balloc0 ?_) | (with_reducible refine balloc ?_ ?_) | (apply btrans0; rotate_left; assumption) | (apply btrans; rotate_left; assumption) | (simp; done) | omega | (simp; omega)))
  · obtain rfl : c = 0 := by omega
    have e1 : ((a : Int) == 0) = false := by simp; omega
    have e2 : (((0 : Nat) : Int) == 0) = true := by decide
    go_enter Try.func39, Try.ntmps39
    go_wp2
    refine bodyPost_ret (v := .tuple #[.agg #[.int .i64 0, .int .i64 1], .int .i64 0]) (by simp [results, Try.results39, go_sem]) rfl ⟨rfl, ?_⟩
    exact (by repeat' (first | exact Below.refl _ _ | assumption | (with_reducible refine bdrewN ?_ _) | (with_reducible refine bdrew ?_) | (with_reducible refine bset ?_ ?_) | (with_reducible refine balloc0 ?_) | (with_reducible refine balloc ?_ ?_) | (apply btrans0; rotate_left; assumption) | (apply btrans; rotate_left; assumption) | (simp; done) | omega | (simp; omega)))

set_option maxHeartbeats 1000000 in
theorem prod_pos (neg : Bool) (a b c d : Nat) (p q r : Int) (w : World) (ha : a < 1152921504606846976) (hb : b < 1152921504606846976) (hc : c < 1152921504606846976) (hd : d < 1152921504606846976)
    (a0 : 0 < a) (b0 : 0 < b) (c0 : 0 < c) (d0 : 0 < d) (hr : prodS neg a b c d = ((p, q), r)) :
    Calls Try.prog 39 #[.bool neg, .int .u64 (a : Int), .int .u64 (b : Int), .int .u64 (c : Int), .int .u64 (d : Int)] w fun e w' => e = .returned (.tuple #[.agg #[.int .i64 p, .int .i64 q], .int .i64 r]) ∧ Below w.heap.size w w' := by
  unfold prodS at hr
  rw [if_neg (by omega)] at hr
  have hg : 0 < Nat.gcd a d := Nat.gcd_pos_of_pos_right _ d0
  have hh : 0 < Nat.gcd c b := Nat.gcd_pos_of_pos_right _ b0
  have bA : a / Nat.gcd a d ≤ a := Nat.div_le_self _ _
  have bD : d / Nat.gcd a d ≤ d := Nat.div_le_self _ _
  have bC : c / Nat.gcd c b ≤ c := Nat.div_le_self _ _
  have bB : b / Nat.gcd c b ≤ b := Nat.div_le_self _ _
  have pA : 0 < a / Nat.gcd a d := Nat.div_pos (Nat.le_of_dvd a0 (Nat.gcd_dvd_left _ _)) hg
  have pD : 0 < d / Nat.gcd a d := Nat.div_pos (Nat.le_of_dvd d0 (Nat.gcd_dvd_right _ _)) hg
  have pC : 0 < c / Nat.gcd c b := Nat.div_pos (Nat.le_of_dvd c0 (Nat.gcd_dvd_left _ _)) hh
  have pB : 0 < b / Nat.gcd c b := Nat.div_pos (Nat.le_of_dvd b0 (Nat.gcd_dvd_right _ _)) hh
  obtain ⟨g, hgg⟩ : ∃ g, Nat.gcd a d = g := ⟨_, rfl⟩
  obtain ⟨h, hhh⟩ : ∃ h, Nat.gcd c b = h := ⟨_, rfl⟩
  rw [hgg] at hr hg bA bD pA pD
  rw [hhh] at hr hh bC bB pC pB
  obtain ⟨A, hA⟩ : ∃ A, a / g = A := ⟨_, rfl⟩
  obtain ⟨D, hD⟩ : ∃ D, d / g = D := ⟨_, rfl⟩
  obtain ⟨C, hC⟩ : ∃ C, c / h = C := ⟨_, rfl⟩
  obtain ⟨B, hB⟩ : ∃ B, b / h = B := ⟨_, rfl⟩
  rw [hA, hB, hC, hD] at hr
  rw [hA] at bA pA
  rw [hB] at bB pB
  rw [hC] at bC pC
  rw [hD] at bD pD
  have e1 : (a : Int) / (g : Int) = (A : Int) := by rw [← hA]; simp
  have e2 : (d : Int) / (g : Int) = (D : Int) := by rw [← hD]; simp
  have e3 : (c : Int) / (h : Int) = (C : Int) := by rw [← hC]; simp
  have e4 : (b : Int) / (h : Int) = (B : Int) := by rw [← hB]; simp
  clear hA hB hC hD
  have G := Lib.hid hgg
  have H := Lib.hid hhh
  clear hgg hhh
  have bx : 1099511627776 / C ≤ 1099511627776 := Nat.div_le_self _ _
  have by' : 1048576 / D ≤ 1048576 := Nat.div_le_self _ _
  have hx : A ≤ 1099511627776 / C → A * C ≤ 1099511627776 := fun k => (Nat.le_div_iff_mul_le pC).1 k
  have hy : B ≤ 1048576 / D → B * D ≤ 1048576 := fun k => (Nat.le_div_iff_mul_le pD).1 k
  have hBD : 0 < B * D := Nat.mul_pos pB pD
  have mx : ((A : Int) * (C : Int)) = ((A * C : Nat) : Int) := by simp
  have my : ((B : Int) * (D : Int)) = ((B * D : Nat) : Int) := by simp
  obtain ⟨X, hX⟩ : ∃ X, 1099511627776 / C = X := ⟨_, rfl⟩
  obtain ⟨Y, hY⟩ : ∃ Y, 1048576 / D = Y := ⟨_, rfl⟩
  obtain ⟨M, hM⟩ : ∃ M, A * C = M := ⟨_, rfl⟩
  obtain ⟨N, hN⟩ : ∃ N, B * D = N := ⟨_, rfl⟩
  rw [hX, hY, hM, hN] at hr
  rw [hX, hM] at hx
  rw [hY, hN] at hy
  rw [hX] at bx
  rw [hY] at by'
  rw [hM] at mx
  rw [hN] at my hBD
  have e5 : (1099511627776 : Int) / (C : Int) = (X : Int) := by rw [← hX]; simp
  have e6 : (1048576 : Int) / (D : Int) = (Y : Int) := by rw [← hY]; simp
  clear hX hY hM hN
  have z1 : ((a : Int) == 0) = false := by simp; omega
  have z2 : ((c : Int) == 0) = false := by simp; omega
  by_cases c1 : X < A
  · rw [if_pos (by omega)] at hr
    obtain ⟨⟨rfl, rfl⟩, rfl⟩ : (0 = p ∧ 0 = q) ∧ 5 = r := by simpa using hr
    clear hr hx hy
    go_enter Try.func39, Try.ntmps39
    go_wp2_with fail
    refine (gcd_any _ _ _).mono ?_; rintro e w' ⟨rfl, m, rfl⟩; rw [G.out]
    go_wp2_with fail
    refine (gcd_any _ _ _).mono ?_; rintro e w' ⟨rfl, m', rfl⟩; rw [H.out]
    go_wp2_with fail
    go_quiet (fail)
    go_wp2
    refine bodyPost_ret (v := .tuple #[.agg #[.int .i64 0, .int .i64 0], .int .i64 5]) (by simp [results, Try.results39, go_sem]) rfl ⟨rfl, ?_⟩
    exact (by repeat' (first | exact Below.refl _ _ | assumption | (with_reducible refine bdrewN ?_ _) | (with_reducible refine bdrew ?_) | (with_reducible refine bset ?_ ?_) | (with_reducible refine balloc0 ?_) | (with_reducible refine balloc ?_ ?_) | (apply btrans0; rotate_left; assumption) | (apply btrans; rotate_left; assumption) | (simp; done) | omega | (simp; omega)))
  by_cases c2 : Y < B
  · rw [if_pos (by omega)] at hr
    obtain ⟨⟨rfl, rfl⟩, rfl⟩ : (0 = p ∧ 0 = q) ∧ 5 = r := by simpa using hr
    clear hr hx hy
    go_enter Try.func39, Try.ntmps39
    go_wp2_with fail
    refine (gcd_any _ _ _).mono ?_; rintro e w' ⟨rfl, m, rfl⟩; rw [G.out]
    go_wp2_with fail
    refine (gcd_any _ _ _).mono ?_; rintro e w' ⟨rfl, m', rfl⟩; rw [H.out]
    go_wp2_with fail
    go_quiet (fail)
    go_wp2
    refine bodyPost_ret (v := .tuple #[.agg #[.int .i64 0, .int .i64 0], .int .i64 5]) (by simp [results, Try.results39, go_sem]) rfl ⟨rfl, ?_⟩
    exact (by repeat' (first | exact Below.refl _ _ | assumption | (with_reducible refine bdrewN ?_ _) | (with_reducible refine bdrew ?_) | (with_reducible refine bset ?_ ?_) | (with_reducible refine balloc0 ?_) | (with_reducible refine balloc ?_ ?_) | (apply btrans0; rotate_left; assumption) | (apply btrans; rotate_left; assumption) | (simp; done) | omega | (simp; omega)))
  rw [if_neg (by omega)] at hr
  have k1 := hx (by omega)
  have k2 := hy (by omega)
  clear hx hy
  have HR := Lib.hid hr
  clear hr
  go_enter Try.func39, Try.ntmps39
  go_wp2_with fail
  refine (gcd_any _ _ _).mono ?_; rintro e w' ⟨rfl, m, rfl⟩; rw [G.out]
  go_wp2_with fail
  refine (gcd_any _ _ _).mono ?_; rintro e w' ⟨rfl, m', rfl⟩; rw [H.out]
  go_wp2_with fail
  go_quiet (fail)
  go_wp2_with fail
  refine (low_any _ _ _ p q r _ (by omega) (by omega) (by omega) HR.out).mono ?_
  rintro e w1 ⟨rfl, hb⟩
  obtain ⟨hc1, hf1⟩ := bcell hb
  have hz := hb.size
  simp at hz
  go_wp2
  refine bodyPost_ret (v := .tuple #[.agg #[.int .i64 p, .int .i64 q], .int .i64 r]) (by simp [results, Try.results39, go_sem, hc1]) rfl ⟨rfl, ?_⟩
  exact (by repeat' (first | exact Below.refl _ _ | assumption | (with_reducible refine bdrewN ?_ _) | (with_reducible refine bdrew ?_) | (with_reducible refine bset ?_ ?_) | (with_reducible refine balloc0 ?_) | (with_reducible refine balloc ?_ ?_) | (apply btrans0; rotate_left; assumption) | (apply btrans; rotate_left; assumption) | (simp; done) | omega | (simp; omega)))

theorem prod_any (neg : Bool) (a b c d : Nat) (p q r : Int) (w : World) (ha : a < 1152921504606846976) (hb : b < 1152921504606846976) (hc : c < 1152921504606846976) (hd : d < 1152921504606846976)
    (b0 : 0 < b) (d0 : a ≠ 0 → c ≠ 0 → 0 < d) (hr : prodS neg a b c d = ((p, q), r)) :
    Calls Try.prog 39 #[.bool neg, .int .u64 (a : Int), .int .u64 (b : Int), .int .u64 (c : Int), .int .u64 (d : Int)] w fun e w' => e = .returned (.tuple #[.agg #[.int .i64 p, .int .i64 q], .int .i64 r]) ∧ Below w.heap.size w w' := by
  by_cases h : a = 0 ∨ c = 0
  · exact prod_zero neg a b c d p q r w h hr
  · exact prod_pos neg a b c d p q r w ha hb hc hd (by omega) b0 (by omega) (d0 (by omega) (by omega)) hr

def mul0 (a b : R2) : R2 × Int := prodS (!(decide (a.1 < 0) == decide (b.1 < 0))) a.1.natAbs a.2.natAbs b.1.natAbs b.2.natAbs
def div0 (a b : R2) : R2 × Int := if b.1 = 0 then ((0, 0), 21) else prodS (!(decide (a.1 < 0) == decide (b.1 < 0))) a.1.natAbs a.2.natAbs b.2.natAbs b.1.natAbs

end Go.Proofs.Ytfkdhcfedjbkfaa
