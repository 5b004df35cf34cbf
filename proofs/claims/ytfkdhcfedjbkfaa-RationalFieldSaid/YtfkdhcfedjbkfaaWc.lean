/- Walks of the reference of layer 4: size, divisor, New, Check, valid. -/
import Derived.Test.YtfkdhcfedjbkfaaWb
namespace Go.Proofs.Ytfkdhcfedjbkfaa
open Go.RowKit

set_option maxHeartbeats 400000 in
theorem rsize_any (n : Int) (w : World) (h1 : -9223372036854775808 ≤ n) (h2 : n ≤ 9223372036854775807) :
    Calls Try.prog 31 #[.int .i64 n] w fun e w' => e = .returned (.int .u64 (n.natAbs : Nat)) ∧ w = w' := by
  by_cases h : n < 0
  · go_enter Try.func31, Try.ntmps31
    go_wp2
    go_ret
    exact ⟨ret_int (by first | omega | (simp only [IntKind.wrap_u64]; omega)), rfl⟩
  · go_enter Try.func31, Try.ntmps31
    go_wp2
    go_ret
    exact ⟨ret_int (by omega), rfl⟩

set_option maxHeartbeats 400000 in
theorem rgcd_any (a b : Nat) (w : World) :
    Calls Try.prog 32 #[.int .u64 (a : Int), .int .u64 (b : Int)] w fun e w' => e = .returned (.int .u64 (Nat.gcd a b : Nat)) ∧ ∃ n, w' = w.drewN n := by
  go_enter Try.func32, Try.ntmps32
  go_wp2
  go_loopw [0, 1] (fun u v wr => ∃ x y n : Nat, u = .int .u64 (x : Int) ∧ v = .int .u64 (y : Int) ∧ Nat.gcd x y = Nat.gcd a b ∧ wr = w.drewN n) (fun _ v _ => (intOf v).toNat)
  case atStart => exact ⟨a, b, 0, rfl, rfl, rfl, rfl⟩
  case round =>
    obtain ⟨x, y, n, rfl, rfl, hg, rfl⟩ := hrel
    have H := Lib.hid hg
    clear hg
    by_cases hy : y = 0
    · subst hy
      go_wp2
      go_ret
      refine ⟨?_, _, rfl⟩
      rw [← H.out]; simp
    · have h1 : 0 < y := by omega
      go_wp2
      go_quiet (fail)
      go_wp2
      go_roundw
      case rel => exact ⟨y, x % y, n + nq, rfl, by go_num, by rw [← H.out]; rw [Nat.gcd_comm x y, Nat.gcd_rec y x, Nat.gcd_comm], World.drewN_drewN _ _ _⟩
      case measure => simp [intOf]; have := Int.emod_lt_of_pos x (show (0 : Int) < y by omega); have := Int.emod_nonneg x (show (y : Int) ≠ 0 by omega); omega

set_option maxHeartbeats 1000000 in
theorem rnew_any (n d p q c : Int) (w : World) (h1 : -9223372036854775808 ≤ n) (h2 : n ≤ 9223372036854775807) (h3 : -9223372036854775808 ≤ d) (h4 : d ≤ 9223372036854775807) (hr : newS n d = ((p, q), c)) :
    Calls Try.prog 11 #[.int .i64 n, .int .i64 d] w fun e w' => e = .returned (.tuple #[.agg #[.int .i64 p, .int .i64 q], .int .i64 c]) ∧ Below w.heap.size w w' := by
  by_cases z : d = 0
  · have hS : ((p, q), c) = (((0, 0), 21) : (Int × Int) × Int) := by rw [← hr]; unfold newS; rw [if_pos z]
    obtain ⟨⟨rfl, rfl⟩, rfl⟩ : (p = 0 ∧ q = 0) ∧ c = 21 := by simpa using hS
    subst z; clear hS hr
    go_enter Try.func11, Try.ntmps11
    go_wp2
    refine bodyPost_ret (v := .tuple #[.agg #[.int .i64 0, .int .i64 0], .int .i64 21]) (by simp [results, Try.results11, go_sem]) rfl ⟨rfl, ?_⟩
    exact (by repeat' (first | exact Below.refl _ _ | assumption | (with_reducible refine bdrewN ?_ _) | (with_reducible refine bdrew ?_) | (with_reducible refine bset ?_ ?_) | (with_reducible refine balloc0 ?_) | (with_reducible refine balloc ?_ ?_) | (apply btrans0; rotate_left; assumption) | (apply btrans; rotate_left; assumption) | (simp; done) | omega | (simp; omega)))
  have hS : lowS (!(decide (n < 0) == decide (d < 0))) n.natAbs d.natAbs = ((p, q), c) := by rw [← hr]; unfold newS; rw [if_neg z]
  clear hr
  unfold lowS at hS
  have hc : (d == 0) = false := by simpa using z
  have hg : 0 < Nat.gcd n.natAbs d.natAbs := Nat.gcd_pos_of_pos_right _ (by omega)
  have bA : n.natAbs / Nat.gcd n.natAbs d.natAbs ≤ n.natAbs := Nat.div_le_self _ _
  have bB : d.natAbs / Nat.gcd n.natAbs d.natAbs ≤ d.natAbs := Nat.div_le_self _ _
  obtain ⟨g, hgg⟩ : ∃ g, Nat.gcd n.natAbs d.natAbs = g := ⟨_, rfl⟩
  rw [hgg] at hS bA bB hg
  obtain ⟨A, hA⟩ : ∃ A, n.natAbs / g = A := ⟨_, rfl⟩
  obtain ⟨B, hB⟩ : ∃ B, d.natAbs / g = B := ⟨_, rfl⟩
  obtain ⟨a, ha⟩ : ∃ a, n.natAbs = a := ⟨_, rfl⟩
  obtain ⟨b, hb⟩ : ∃ b, d.natAbs = b := ⟨_, rfl⟩
  rw [hA, hB] at hS
  rw [hA, ha] at bA
  rw [hB, hb] at bB
  rw [ha] at hgg hA
  rw [hb] at hgg hB
  have e1 : (a : Int) / (g : Int) = (A : Int) := by rw [← hA]; simp
  have e2 : (b : Int) / (g : Int) = (B : Int) := by rw [← hB]; simp
  have ka : a < 18446744073709551616 := by omega
  have kb : b < 18446744073709551616 := by omega
  have H := Lib.hid hgg
  have Ha := Lib.hid ha
  have Hb := Lib.hid hb
  clear hgg hA hB ha hb
  by_cases c1 : 1099511627776 < A
  · rw [if_pos (by omega)] at hS
    obtain ⟨⟨rfl, rfl⟩, rfl⟩ : (0 = p ∧ 0 = q) ∧ 5 = c := by simpa using hS
    clear hS
    go_enter Try.func11, Try.ntmps11
    go_wp2_with fail
    refine (rsize_any _ _ (by omega) (by omega)).mono ?_; rintro e w' ⟨rfl, rfl⟩; rw [Ha.out]
    go_wp2_with fail
    refine (rsize_any _ _ (by omega) (by omega)).mono ?_; rintro e w' ⟨rfl, rfl⟩; rw [Hb.out]
    go_wp2_with fail
    refine (rgcd_any _ _ _).mono ?_; rintro e w' ⟨rfl, m, rfl⟩; rw [H.out]
    go_wp2_with fail
    go_quiet (fail)
    go_wp2
    refine bodyPost_ret (v := .tuple #[.agg #[.int .i64 0, .int .i64 0], .int .i64 5]) (by simp [results, Try.results11, go_sem]) rfl ⟨rfl, ?_⟩
    exact (by repeat' (first | exact Below.refl _ _ | assumption | (with_reducible refine bdrewN ?_ _) | (with_reducible refine bdrew ?_) | (with_reducible refine bset ?_ ?_) | (with_reducible refine balloc0 ?_) | (with_reducible refine balloc ?_ ?_) | (apply btrans0; rotate_left; assumption) | (apply btrans; rotate_left; assumption) | (simp; done) | omega | (simp; omega)))
  by_cases c2 : 1048576 < B
  · rw [if_pos (by omega)] at hS
    obtain ⟨⟨rfl, rfl⟩, rfl⟩ : (0 = p ∧ 0 = q) ∧ 5 = c := by simpa using hS
    clear hS
    go_enter Try.func11, Try.ntmps11
    go_wp2_with fail
    refine (rsize_any _ _ (by omega) (by omega)).mono ?_; rintro e w' ⟨rfl, rfl⟩; rw [Ha.out]
    go_wp2_with fail
    refine (rsize_any _ _ (by omega) (by omega)).mono ?_; rintro e w' ⟨rfl, rfl⟩; rw [Hb.out]
    go_wp2_with fail
    refine (rgcd_any _ _ _).mono ?_; rintro e w' ⟨rfl, m, rfl⟩; rw [H.out]
    go_wp2_with fail
    go_quiet (fail)
    go_wp2
    refine bodyPost_ret (v := .tuple #[.agg #[.int .i64 0, .int .i64 0], .int .i64 5]) (by simp [results, Try.results11, go_sem]) rfl ⟨rfl, ?_⟩
    exact (by repeat' (first | exact Below.refl _ _ | assumption | (with_reducible refine bdrewN ?_ _) | (with_reducible refine bdrew ?_) | (with_reducible refine bset ?_ ?_) | (with_reducible refine balloc0 ?_) | (with_reducible refine balloc ?_ ?_) | (apply btrans0; rotate_left; assumption) | (apply btrans; rotate_left; assumption) | (simp; done) | omega | (simp; omega)))
  rw [if_neg (by omega)] at hS
  by_cases c3 : (!(decide (n < 0) == decide (d < 0))) = true
  · rw [if_pos c3] at hS
    obtain ⟨⟨rfl, rfl⟩, rfl⟩ : (-(A : Int) = p ∧ (B : Int) = q) ∧ 0 = c := by simpa using hS
    clear hS
    go_enter Try.func11, Try.ntmps11
    go_wp2_with fail
    refine (rsize_any _ _ (by omega) (by omega)).mono ?_; rintro e w' ⟨rfl, rfl⟩; rw [Ha.out]
    go_wp2_with fail
    refine (rsize_any _ _ (by omega) (by omega)).mono ?_; rintro e w' ⟨rfl, rfl⟩; rw [Hb.out]
    go_wp2_with fail
    refine (rgcd_any _ _ _).mono ?_; rintro e w' ⟨rfl, m, rfl⟩; rw [H.out]
    go_wp2_with fail
    go_quiet (fail)
    go_wp2
    refine bodyPost_ret (v := .tuple #[.agg #[.int .i64 (-A), .int .i64 B], .int .i64 0]) (by simp [results, Try.results11, go_sem]) rfl ⟨rfl, ?_⟩
    exact (by repeat' (first | exact Below.refl _ _ | assumption | (with_reducible refine bdrewN ?_ _) | (with_reducible refine bdrew ?_) | (with_reducible refine bset ?_ ?_) | (with_reducible refine balloc0 ?_) | (with_reducible refine balloc ?_ ?_) | (apply btrans0; rotate_left; assumption) | (apply btrans; rotate_left; assumption) | (simp; done) | omega | (simp; omega)))
  · rw [if_neg c3] at hS
    obtain ⟨⟨rfl, rfl⟩, rfl⟩ : ((A : Int) = p ∧ (B : Int) = q) ∧ 0 = c := by simpa using hS
    clear hS
    go_enter Try.func11, Try.ntmps11
    go_wp2_with fail
    refine (rsize_any _ _ (by omega) (by omega)).mono ?_; rintro e w' ⟨rfl, rfl⟩; rw [Ha.out]
    go_wp2_with fail
    refine (rsize_any _ _ (by omega) (by omega)).mono ?_; rintro e w' ⟨rfl, rfl⟩; rw [Hb.out]
    go_wp2_with fail
    refine (rgcd_any _ _ _).mono ?_; rintro e w' ⟨rfl, m, rfl⟩; rw [H.out]
    go_wp2_with fail
    go_quiet (fail)
    go_wp2
    refine bodyPost_ret (v := .tuple #[.agg #[.int .i64 A, .int .i64 B], .int .i64 0]) (by simp [results, Try.results11, go_sem]) rfl ⟨rfl, ?_⟩
    exact (by repeat' (first | exact Below.refl _ _ | assumption | (with_reducible refine bdrewN ?_ _) | (with_reducible refine bdrew ?_) | (with_reducible refine bset ?_ ?_) | (with_reducible refine balloc0 ?_) | (with_reducible refine balloc ?_ ?_) | (apply btrans0; rotate_left; assumption) | (apply btrans; rotate_left; assumption) | (simp; done) | omega | (simp; omega)))

set_option maxHeartbeats 400000 in
theorem rcheck_any (n d c : Int) (w : World) (h1 : -9223372036854775808 ≤ n) (h2 : n ≤ 9223372036854775807) (h3 : -9223372036854775808 ≤ d) (h4 : d ≤ 9223372036854775807) (hr : chk (n, d) = c) :
    Calls Try.prog 13 #[.agg #[.int .i64 n, .int .i64 d]] w fun e w' => e = .returned (.int .i64 c) ∧ Below w.heap.size w w' := by
  unfold chk at hr
  by_cases c1 : n < -1099511627776
  · rw [if_pos (by simp; omega)] at hr
    subst hr
    go_enter Try.func13, Try.ntmps13
    go_wp2
    go_ret
    exact ⟨rfl, (by repeat' (first | exact Below.refl _ _ | assumption | (with_reducible refine bdrewN ?_ _) | (with_reducible refine bdrew ?_) | (with_reducible refine bset ?_ ?_) | (with_reducible refine balloc0 ?_) | (with_reducible refine balloc ?_ ?_) | (apply btrans0; rotate_left; assumption) | (apply btrans; rotate_left; assumption) | (simp; done) | omega | (simp; omega)))⟩
  by_cases c2 : 1099511627776 < n
  · rw [if_pos (by simp; omega)] at hr
    subst hr
    go_enter Try.func13, Try.ntmps13
    go_wp2
    go_ret
    exact ⟨rfl, (by repeat' (first | exact Below.refl _ _ | assumption | (with_reducible refine bdrewN ?_ _) | (with_reducible refine bdrew ?_) | (with_reducible refine bset ?_ ?_) | (with_reducible refine balloc0 ?_) | (with_reducible refine balloc ?_ ?_) | (apply btrans0; rotate_left; assumption) | (apply btrans; rotate_left; assumption) | (simp; done) | omega | (simp; omega)))⟩
  by_cases c3 : d < 1
  · rw [if_pos (by simp; omega)] at hr
    subst hr
    go_enter Try.func13, Try.ntmps13
    go_wp2
    go_ret
    exact ⟨rfl, (by repeat' (first | exact Below.refl _ _ | assumption | (with_reducible refine bdrewN ?_ _) | (with_reducible refine bdrew ?_) | (with_reducible refine bset ?_ ?_) | (with_reducible refine balloc0 ?_) | (with_reducible refine balloc ?_ ?_) | (apply btrans0; rotate_left; assumption) | (apply btrans; rotate_left; assumption) | (simp; done) | omega | (simp; omega)))⟩
  by_cases c4 : 1048576 < d
  · rw [if_pos (by simp; omega)] at hr
    subst hr
    go_enter Try.func13, Try.ntmps13
    go_wp2
    go_ret
    exact ⟨rfl, (by repeat' (first | exact Below.refl _ _ | assumption | (with_reducible refine bdrewN ?_ _) | (with_reducible refine bdrew ?_) | (with_reducible refine bset ?_ ?_) | (with_reducible refine balloc0 ?_) | (with_reducible refine balloc ?_ ?_) | (apply btrans0; rotate_left; assumption) | (apply btrans; rotate_left; assumption) | (simp; done) | omega | (simp; omega)))⟩
  rw [if_neg (by simp; omega)] at hr
  simp only at hr
  by_cases c5 : Nat.gcd n.natAbs d.natAbs = 1
  · rw [if_pos c5] at hr
    subst hr
    have HG := Lib.hid c5
    clear c5
    go_enter Try.func13, Try.ntmps13
    go_wp2
    go_quiet ((first | (go_at_call 31; exact Calls.quiet_of_same ((rsize_any _ _ (by omega) (by omega)).mono fun _ _ h => ⟨h.1, h.2.symm⟩)) | (go_at_call 32; exact Calls.quiet_of ((rgcd_any _ _ _).mono fun _ _ h => by rw [HG.out] at h; exact h))))
    go_wp2
    go_ret
    exact ⟨rfl, (by repeat' (first | exact Below.refl _ _ | assumption | (with_reducible refine bdrewN ?_ _) | (with_reducible refine bdrew ?_) | (with_reducible refine bset ?_ ?_) | (with_reducible refine balloc0 ?_) | (with_reducible refine balloc ?_ ?_) | (apply btrans0; rotate_left; assumption) | (apply btrans; rotate_left; assumption) | (simp; done) | omega | (simp; omega)))⟩
  · rw [if_neg c5] at hr
    subst hr
    obtain ⟨g, hg⟩ : ∃ g, Nat.gcd n.natAbs d.natAbs = g := ⟨_, rfl⟩
    rw [hg] at c5
    have HG := Lib.hid hg
    clear hg
    have h6 : ((g : Int) != 1) = true := by simp; omega
    go_enter Try.func13, Try.ntmps13
    go_wp2
    go_quiet ((first | (go_at_call 31; exact Calls.quiet_of_same ((rsize_any _ _ (by omega) (by omega)).mono fun _ _ h => ⟨h.1, h.2.symm⟩)) | (go_at_call 32; exact Calls.quiet_of ((rgcd_any _ _ _).mono fun _ _ h => by rw [HG.out] at h; exact h))))
    go_wp2
    go_ret
    exact ⟨rfl, (by repeat' (first | exact Below.refl _ _ | assumption | (with_reducible refine bdrewN ?_ _) | (with_reducible refine bdrew ?_) | (with_reducible refine bset ?_ ?_) | (with_reducible refine balloc0 ?_) | (with_reducible refine balloc ?_ ?_) | (apply btrans0; rotate_left; assumption) | (apply btrans; rotate_left; assumption) | (simp; done) | omega | (simp; omega)))⟩
end Go.Proofs.Ytfkdhcfedjbkfaa
