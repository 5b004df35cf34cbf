/- Joined by port.py: XWa XWb XWc -/
import Derived.Test.YtfkdhcfedjbkfaaDoorKa
import Derived.Test.YtfkdhcfedjbkfaaDoorProg
set_option linter.unusedVariables false
set_option linter.unusedSimpArgs false
/-! XWa -/
namespace Go.Proofs.YtfkdhcfedjbkfaaDoor
open Go.RowKit
set_option maxHeartbeats 400000 in
theorem gcd_any (a b : Nat) (w : World) :
    Calls Tryd.prog 20 #[.int .u64 (a : Int), .int .u64 (b : Int)] w fun e w' => e = .returned (.int .u64 (Nat.gcd a b : Nat)) ∧ ∃ n, w' = w.drewN n := by
  go_enter Tryd.func20, Tryd.ntmps20
  go_wp2
  go_loopw [0, 1] (fun u v wr => ∃ x y n : Nat, u = .int .u64 (x : Int) ∧ v = .int .u64 (y : Int) ∧ Nat.gcd x y = Nat.gcd a b ∧ wr = w.drewN n) (fun _ v _ => (intOf v).toNat)
  case atStart => exact ⟨a, b, 0, rfl, rfl, rfl, rfl⟩
  case round =>
    obtain ⟨x, y, n, rfl, rfl, hg, rfl⟩ := hrel
    have H := Lib.hid hg
    clear hg
    by_cases hy : y = 0
    · subst hy
      have h1 : (((0 : Nat) : Int) != 0) = false := by decide
      go_wp2
      go_ret
      refine ⟨?_, _, rfl⟩
      rw [← H.out]; simp
    · have h1 : ((y : Int) != 0) = true := by simp; omega
      go_wp2
      go_quiet (fail)
      go_wp2
      go_roundw
      case rel => exact ⟨y, x % y, n + nq, rfl, by go_num, by rw [← H.out]; rw [Nat.gcd_comm x y, Nat.gcd_rec y x, Nat.gcd_comm], World.drewN_drewN _ _ _⟩
      case measure => simp [intOf]; have := Int.emod_lt_of_pos x (show (0 : Int) < y by omega); have := Int.emod_nonneg x (show (y : Int) ≠ 0 by omega); omega
set_option maxHeartbeats 400000 in
theorem mag_any (n : Int) (w : World) (h1 : -9223372036854775808 ≤ n) (h2 : n ≤ 9223372036854775807) :
    Calls Tryd.prog 21 #[.int .i64 n] w fun e w' => e = .returned (.int .u64 (n.natAbs : Nat)) ∧ w = w' := by
  by_cases h : n < 0
  · go_enter Tryd.func21, Tryd.ntmps21
    go_wp2
    go_ret
    exact ⟨ret_int (by simp only [IntKind.wrap_u64]; omega), rfl⟩
  · go_enter Tryd.func21, Tryd.ntmps21
    go_wp2
    go_ret
    exact ⟨ret_int (by omega), rfl⟩
def lowS (neg : Bool) (a b : Nat) : (Int × Int) × Int :=
  if a / Nat.gcd a b > 1099511627776 ∨ b / Nat.gcd a b > 1048576 then ((0, 0), 5)
  else ((if neg = true then -((a / Nat.gcd a b : Nat) : Int) else ((a / Nat.gcd a b : Nat) : Int), ((b / Nat.gcd a b : Nat) : Int)), 0)
abbrev R2 := Int × Int
set_option maxHeartbeats 400000 in
theorem low_any (neg : Bool) (a b : Nat) (p q c : Int) (w : World) (ha : a < 18446744073709551616) (hb : b < 18446744073709551616) (h0 : b ≠ 0) (hr : lowS neg a b = ((p, q), c)) :
    Calls Tryd.prog 24 #[.bool neg, .int .u64 (a : Int), .int .u64 (b : Int)] w fun e w' => e = .returned (.tuple #[.agg #[.int .i64 p, .int .i64 q], .int .i64 c]) ∧ Below w.heap.size w w' := by
  have hg : 0 < Nat.gcd a b := Nat.gcd_pos_of_pos_right _ (by omega)
  obtain ⟨g, hgg⟩ : ∃ g, Nat.gcd a b = g := ⟨_, rfl⟩
  obtain ⟨A, hA⟩ : ∃ A, a / g = A := ⟨_, rfl⟩
  obtain ⟨B, hB⟩ : ∃ B, b / g = B := ⟨_, rfl⟩
  have e1 : (a : Int) / (g : Int) = (A : Int) := by rw [← hA]; simp
  have e2 : (b : Int) / (g : Int) = (B : Int) := by rw [← hB]; simp
  have bA : A ≤ a := by rw [← hA]; exact Nat.div_le_self _ _
  have bB : B ≤ b := by rw [← hB]; exact Nat.div_le_self _ _
  rw [hgg] at hg
  have H := Lib.hid hgg
  have HA := Lib.hid hA
  have HB := Lib.hid hB
  clear hgg hA hB
  have HR := Lib.hid hr
  clear hr
  by_cases c1 : 1099511627776 < A
  · go_enter Tryd.func24, Tryd.ntmps24
    go_wp2_with (go_at_call 20; refine (gcd_any _ _ _).mono ?_; rintro e w' ⟨rfl, n, rfl⟩; rw [H.out])
    go_quiet (fail)
    go_wp2
    have hS : ((p, q), c) = (((0, 0), 5) : (Int × Int) × Int) := by rw [← HR.out]; unfold lowS; rw [H.out, HA.out, HB.out, if_pos (by omega)]
    obtain ⟨⟨rfl, rfl⟩, rfl⟩ : (p = 0 ∧ q = 0) ∧ c = 5 := by simpa using hS
    refine bodyPost_ret (v := .tuple #[.agg #[.int .i64 0, .int .i64 0], .int .i64 5]) (by simp [results, Tryd.results24, go_sem]) rfl ⟨rfl, ?_⟩
    exact (by repeat' (first | (with_reducible refine bset ?_ ?_) | (with_reducible exact Below.refl _ _) | (with_reducible assumption) | (with_reducible refine bdrewN ?_ _) | (with_reducible refine bdrew ?_) | (with_reducible refine balloc0 ?_) | (with_reducible refine balloc ?_ ?_) | (with_reducible apply btrans0; rotate_left; with_reducible assumption) | (with_reducible apply btrans; rotate_left; with_reducible assumption) | exact Below.refl _ _ | assumption | (apply btrans0; rotate_left; assumption) | (apply btrans; rotate_left; assumption) | (simp; done) | omega | (simp; omega)))
  by_cases c2 : 1048576 < B
  · go_enter Tryd.func24, Tryd.ntmps24
    go_wp2_with (go_at_call 20; refine (gcd_any _ _ _).mono ?_; rintro e w' ⟨rfl, n, rfl⟩; rw [H.out])
    go_quiet (fail)
    go_wp2
    have hS : ((p, q), c) = (((0, 0), 5) : (Int × Int) × Int) := by rw [← HR.out]; unfold lowS; rw [H.out, HA.out, HB.out, if_pos (by omega)]
    obtain ⟨⟨rfl, rfl⟩, rfl⟩ : (p = 0 ∧ q = 0) ∧ c = 5 := by simpa using hS
    refine bodyPost_ret (v := .tuple #[.agg #[.int .i64 0, .int .i64 0], .int .i64 5]) (by simp [results, Tryd.results24, go_sem]) rfl ⟨rfl, ?_⟩
    exact (by repeat' (first | (with_reducible refine bset ?_ ?_) | (with_reducible exact Below.refl _ _) | (with_reducible assumption) | (with_reducible refine bdrewN ?_ _) | (with_reducible refine bdrew ?_) | (with_reducible refine balloc0 ?_) | (with_reducible refine balloc ?_ ?_) | (with_reducible apply btrans0; rotate_left; with_reducible assumption) | (with_reducible apply btrans; rotate_left; with_reducible assumption) | exact Below.refl _ _ | assumption | (apply btrans0; rotate_left; assumption) | (apply btrans; rotate_left; assumption) | (simp; done) | omega | (simp; omega)))
  have d1 : A ≤ 1099511627776 := by omega
  have d2 : B ≤ 1048576 := by omega
  have hS : ((p, q), c) = (((if neg = true then -(A : Int) else (A : Int), (B : Int)), 0) : (Int × Int) × Int) := by
    rw [← HR.out]; unfold lowS; rw [H.out, HA.out, HB.out, if_neg (by omega)]
  clear HR
  obtain ⟨⟨rfl, rfl⟩, rfl⟩ : (p = (if neg = true then -(A : Int) else (A : Int)) ∧ q = B) ∧ c = 0 := by simpa using hS
  clear hS
  cases neg
  · go_enter Tryd.func24, Tryd.ntmps24
    go_wp2_with (go_at_call 20; refine (gcd_any _ _ _).mono ?_; rintro e w' ⟨rfl, n, rfl⟩; rw [H.out])
    go_quiet (fail)
    go_wp2
    refine bodyPost_ret (v := .tuple #[.agg #[.int .i64 A, .int .i64 B], .int .i64 0]) (by simp [results, Tryd.results24, go_sem]) rfl ⟨by simp, ?_⟩
    exact (by repeat' (first | (with_reducible refine bset ?_ ?_) | (with_reducible exact Below.refl _ _) | (with_reducible assumption) | (with_reducible refine bdrewN ?_ _) | (with_reducible refine bdrew ?_) | (with_reducible refine balloc0 ?_) | (with_reducible refine balloc ?_ ?_) | (with_reducible apply btrans0; rotate_left; with_reducible assumption) | (with_reducible apply btrans; rotate_left; with_reducible assumption) | exact Below.refl _ _ | assumption | (apply btrans0; rotate_left; assumption) | (apply btrans; rotate_left; assumption) | (simp; done) | omega | (simp; omega)))
  · go_enter Tryd.func24, Tryd.ntmps24
    go_wp2_with (go_at_call 20; refine (gcd_any _ _ _).mono ?_; rintro e w' ⟨rfl, n, rfl⟩; rw [H.out])
    go_quiet (fail)
    go_wp2
    refine bodyPost_ret (v := .tuple #[.agg #[.int .i64 (-A), .int .i64 B], .int .i64 0]) (by simp [results, Tryd.results24, go_sem]) rfl ⟨by simp, ?_⟩
    exact (by repeat' (first | (with_reducible refine bset ?_ ?_) | (with_reducible exact Below.refl _ _) | (with_reducible assumption) | (with_reducible refine bdrewN ?_ _) | (with_reducible refine bdrew ?_) | (with_reducible refine balloc0 ?_) | (with_reducible refine balloc ?_ ?_) | (with_reducible apply btrans0; rotate_left; with_reducible assumption) | (with_reducible apply btrans; rotate_left; with_reducible assumption) | exact Below.refl _ _ | assumption | (apply btrans0; rotate_left; assumption) | (apply btrans; rotate_left; assumption) | (simp; done) | omega | (simp; omega)))
def newS (n d : Int) : (Int × Int) × Int := if d = 0 then ((0, 0), 21) else lowS (!(decide (n < 0) == decide (d < 0))) n.natAbs d.natAbs
set_option maxHeartbeats 400000 in
theorem new_any (n d p q c : Int) (w : World) (h1 : -9223372036854775808 ≤ n) (h2 : n ≤ 9223372036854775807) (h3 : -9223372036854775808 ≤ d) (h4 : d ≤ 9223372036854775807) (hr : newS n d = ((p, q), c)) :
    Calls Tryd.prog 12 #[.int .i64 n, .int .i64 d] w fun e w' => e = .returned (.tuple #[.agg #[.int .i64 p, .int .i64 q], .int .i64 c]) ∧ Below w.heap.size w w' := by
  by_cases z : d = 0
  · have hS : ((p, q), c) = (((0, 0), 21) : (Int × Int) × Int) := by rw [← hr]; unfold newS; rw [if_pos z]
    obtain ⟨⟨rfl, rfl⟩, rfl⟩ : (p = 0 ∧ q = 0) ∧ c = 21 := by simpa using hS
    subst z; clear hS hr
    go_enter Tryd.func12, Tryd.ntmps12
    go_wp2
    refine bodyPost_ret (v := .tuple #[.agg #[.int .i64 0, .int .i64 0], .int .i64 21]) (by simp [results, Tryd.results12, go_sem]) rfl ⟨rfl, ?_⟩
    exact (by repeat' (first | (with_reducible refine bset ?_ ?_) | (with_reducible exact Below.refl _ _) | (with_reducible assumption) | (with_reducible refine bdrewN ?_ _) | (with_reducible refine bdrew ?_) | (with_reducible refine balloc0 ?_) | (with_reducible refine balloc ?_ ?_) | (with_reducible apply btrans0; rotate_left; with_reducible assumption) | (with_reducible apply btrans; rotate_left; with_reducible assumption) | exact Below.refl _ _ | assumption | (apply btrans0; rotate_left; assumption) | (apply btrans; rotate_left; assumption) | (simp; done) | omega | (simp; omega)))
  · have hS : lowS (!(decide (n < 0) == decide (d < 0))) n.natAbs d.natAbs = ((p, q), c) := by rw [← hr]; unfold newS; rw [if_neg z]
    have HS := Lib.hid hS
    clear hS hr
    have hc : (d == 0) = false := by simpa using z
    go_enter Tryd.func12, Tryd.ntmps12
    go_wp2_with fail
    refine (mag_any _ _ (by omega) (by omega)).mono ?_; rintro e w' ⟨rfl, rfl⟩
    go_wp2_with fail
    refine (mag_any _ _ (by omega) (by omega)).mono ?_; rintro e w' ⟨rfl, rfl⟩
    go_wp2_with fail
    refine (low_any _ _ _ p q c _ (by omega) (by omega) (by omega) HS.out).mono ?_
    rintro e w1 ⟨rfl, hb⟩
    obtain ⟨hc1, hf1⟩ := bcell hb
    have hz := hb.size
    simp at hz
    go_wp2
    refine bodyPost_ret (v := .tuple #[.agg #[.int .i64 p, .int .i64 q], .int .i64 c]) (by simp [results, Tryd.results12, go_sem, hc1]) rfl ⟨rfl, ?_⟩
    exact (by repeat' (first | (with_reducible refine bset ?_ ?_) | (with_reducible exact Below.refl _ _) | (with_reducible assumption) | (with_reducible refine bdrewN ?_ _) | (with_reducible refine bdrew ?_) | (with_reducible refine balloc0 ?_) | (with_reducible refine balloc ?_ ?_) | (with_reducible apply btrans0; rotate_left; with_reducible assumption) | (with_reducible apply btrans; rotate_left; with_reducible assumption) | exact Below.refl _ _ | assumption | (apply btrans0; rotate_left; assumption) | (apply btrans; rotate_left; assumption) | (simp; done) | omega | (simp; omega)))
end Go.Proofs.YtfkdhcfedjbkfaaDoor
/-! XWb -/
namespace Go.Proofs.YtfkdhcfedjbkfaaDoor
open Go.RowKit
def chk (r : R2) : Int :=
  if r.1 < -1099511627776 ∨ 1099511627776 < r.1 ∨ r.2 < 1 ∨ 1048576 < r.2 then 2
  else if Nat.gcd r.1.natAbs r.2.natAbs = 1 then 0 else 1
set_option maxHeartbeats 400000 in
theorem check_any (n d c : Int) (w : World) (h1 : -9223372036854775808 ≤ n) (h2 : n ≤ 9223372036854775807) (h3 : -9223372036854775808 ≤ d) (h4 : d ≤ 9223372036854775807) (hr : chk (n, d) = c) :
    Calls Tryd.prog 10 #[.agg #[.int .i64 n, .int .i64 d]] w fun e w' => e = .returned (.int .i64 c) ∧ Below w.heap.size w w' := by
  unfold chk at hr
  by_cases c1 : n < -1099511627776
  · rw [if_pos (by simp; omega)] at hr
    subst hr
    go_enter Tryd.func10, Tryd.ntmps10
    go_wp2
    go_ret
    exact ⟨rfl, (by repeat' (first | (with_reducible refine bset ?_ ?_) | (with_reducible exact Below.refl _ _) | (with_reducible assumption) | (with_reducible refine bdrewN ?_ _) | (with_reducible refine bdrew ?_) | (with_reducible refine balloc0 ?_) | (with_reducible refine balloc ?_ ?_) | (with_reducible apply btrans0; rotate_left; with_reducible assumption) | (with_reducible apply btrans; rotate_left; with_reducible assumption) | exact Below.refl _ _ | assumption | (apply btrans0; rotate_left; assumption) | (apply btrans; rotate_left; assumption) | (simp; done) | omega | (simp; omega)))⟩
  by_cases c2 : 1099511627776 < n
  · rw [if_pos (by simp; omega)] at hr
    subst hr
    go_enter Tryd.func10, Tryd.ntmps10
    go_wp2
    go_ret
    exact ⟨rfl, (by repeat' (first | (with_reducible refine bset ?_ ?_) | (with_reducible exact Below.refl _ _) | (with_reducible assumption) | (with_reducible refine bdrewN ?_ _) | (with_reducible refine bdrew ?_) | (with_reducible refine balloc0 ?_) | (with_reducible refine balloc ?_ ?_) | (with_reducible apply btrans0; rotate_left; with_reducible assumption) | (with_reducible apply btrans; rotate_left; with_reducible assumption) | exact Below.refl _ _ | assumption | (apply btrans0; rotate_left; assumption) | (apply btrans; rotate_left; assumption) | (simp; done) | omega | (simp; omega)))⟩
  by_cases c3 : d < 1
  · rw [if_pos (by simp; omega)] at hr
    subst hr
    go_enter Tryd.func10, Tryd.ntmps10
    go_wp2
    go_ret
    exact ⟨rfl, (by repeat' (first | (with_reducible refine bset ?_ ?_) | (with_reducible exact Below.refl _ _) | (with_reducible assumption) | (with_reducible refine bdrewN ?_ _) | (with_reducible refine bdrew ?_) | (with_reducible refine balloc0 ?_) | (with_reducible refine balloc ?_ ?_) | (with_reducible apply btrans0; rotate_left; with_reducible assumption) | (with_reducible apply btrans; rotate_left; with_reducible assumption) | exact Below.refl _ _ | assumption | (apply btrans0; rotate_left; assumption) | (apply btrans; rotate_left; assumption) | (simp; done) | omega | (simp; omega)))⟩
  by_cases c4 : 1048576 < d
  · rw [if_pos (by simp; omega)] at hr
    subst hr
    go_enter Tryd.func10, Tryd.ntmps10
    go_wp2
    go_ret
    exact ⟨rfl, (by repeat' (first | (with_reducible refine bset ?_ ?_) | (with_reducible exact Below.refl _ _) | (with_reducible assumption) | (with_reducible refine bdrewN ?_ _) | (with_reducible refine bdrew ?_) | (with_reducible refine balloc0 ?_) | (with_reducible refine balloc ?_ ?_) | (with_reducible apply btrans0; rotate_left; with_reducible assumption) | (with_reducible apply btrans; rotate_left; with_reducible assumption) | exact Below.refl _ _ | assumption | (apply btrans0; rotate_left; assumption) | (apply btrans; rotate_left; assumption) | (simp; done) | omega | (simp; omega)))⟩
  rw [if_neg (by simp; omega)] at hr
  simp only at hr
  obtain ⟨k, rfl⟩ := Int.eq_ofNat_of_zero_le (show 0 ≤ d by omega)
  simp only [Int.natAbs_natCast] at hr
  by_cases c5 : Nat.gcd n.natAbs k = 1
  · rw [if_pos c5] at hr
    subst hr
    have HG := Lib.hid c5
    clear c5
    go_enter Tryd.func10, Tryd.ntmps10
    go_wp2
    go_quiet ((first | (go_at_call 21; exact Calls.quiet_of_same ((mag_any _ _ (by omega) (by omega)).mono fun _ _ h => ⟨h.1, h.2.symm⟩)) | (go_at_call 20; exact Calls.quiet_of ((gcd_any _ _ _).mono fun _ _ h => by rw [HG.out] at h; exact h))))
    go_wp2
    go_ret
    exact ⟨rfl, (by repeat' (first | (with_reducible refine bset ?_ ?_) | (with_reducible exact Below.refl _ _) | (with_reducible assumption) | (with_reducible refine bdrewN ?_ _) | (with_reducible refine bdrew ?_) | (with_reducible refine balloc0 ?_) | (with_reducible refine balloc ?_ ?_) | (with_reducible apply btrans0; rotate_left; with_reducible assumption) | (with_reducible apply btrans; rotate_left; with_reducible assumption) | exact Below.refl _ _ | assumption | (apply btrans0; rotate_left; assumption) | (apply btrans; rotate_left; assumption) | (simp; done) | omega | (simp; omega)))⟩
  · rw [if_neg c5] at hr
    subst hr
    obtain ⟨g, hg⟩ : ∃ g, Nat.gcd n.natAbs k = g := ⟨_, rfl⟩
    rw [hg] at c5
    have HG := Lib.hid hg
    clear hg
    have h6 : ((g : Int) != 1) = true := by simp; omega
    go_enter Tryd.func10, Tryd.ntmps10
    go_wp2
    go_quiet ((first | (go_at_call 21; exact Calls.quiet_of_same ((mag_any _ _ (by omega) (by omega)).mono fun _ _ h => ⟨h.1, h.2.symm⟩)) | (go_at_call 20; exact Calls.quiet_of ((gcd_any _ _ _).mono fun _ _ h => by rw [HG.out] at h; exact h))))
    go_wp2
    go_ret
    exact ⟨rfl, (by repeat' (first | (with_reducible refine bset ?_ ?_) | (with_reducible exact Below.refl _ _) | (with_reducible assumption) | (with_reducible refine bdrewN ?_ _) | (with_reducible refine bdrew ?_) | (with_reducible refine balloc0 ?_) | (with_reducible refine balloc ?_ ?_) | (with_reducible apply btrans0; rotate_left; with_reducible assumption) | (with_reducible apply btrans; rotate_left; with_reducible assumption) | exact Below.refl _ _ | assumption | (apply btrans0; rotate_left; assumption) | (apply btrans; rotate_left; assumption) | (simp; done) | omega | (simp; omega)))⟩
end Go.Proofs.YtfkdhcfedjbkfaaDoor
/-! XWc -/
namespace Go.Proofs.YtfkdhcfedjbkfaaDoor
open Go.RowKit
set_option maxHeartbeats 400000 in
theorem rsize_any (n : Int) (w : World) (h1 : -9223372036854775808 ≤ n) (h2 : n ≤ 9223372036854775807) :
    Calls Tryd.prog 27 #[.int .i64 n] w fun e w' => e = .returned (.int .u64 (n.natAbs : Nat)) ∧ w = w' := by
  by_cases h : n < 0
  · go_enter Tryd.func27, Tryd.ntmps27
    go_wp2
    go_ret
    exact ⟨ret_int (by first | omega | (simp only [IntKind.wrap_u64]; omega)), rfl⟩
  · go_enter Tryd.func27, Tryd.ntmps27
    go_wp2
    go_ret
    exact ⟨ret_int (by omega), rfl⟩
set_option maxHeartbeats 400000 in
theorem rgcd_any (a b : Nat) (w : World) :
    Calls Tryd.prog 26 #[.int .u64 (a : Int), .int .u64 (b : Int)] w fun e w' => e = .returned (.int .u64 (Nat.gcd a b : Nat)) ∧ ∃ n, w' = w.drewN n := by
  go_enter Tryd.func26, Tryd.ntmps26
  go_wp2
  go_loopw [0, 1] (fun u v wr => ∃ x y n : Nat, u = .int .u64 (x : Int) ∧ v = .int .u64 (y : Int) ∧ Nat.gcd x y = Nat.gcd a b ∧ wr = w.drewN n) (fun _ v _ => (intOf v).toNat)
  case atStart => exact ⟨a, b, 0, rfl, rfl, rfl, rfl⟩
  case round =>
    obtain ⟨x, y, n, rfl, rfl, hg, rfl⟩ := hrel
    have H := Lib.hid hg
    clear hg
    by_cases hy : y = 0
    · subst hy
      go_wp2
      go_ret
      refine ⟨?_, _, rfl⟩
      rw [← H.out]; simp
    · have h1 : 0 < y := by omega
      go_wp2
      go_quiet (fail)
      go_wp2
      go_roundw
      case rel => exact ⟨y, x % y, n + nq, rfl, by go_num, by rw [← H.out]; rw [Nat.gcd_comm x y, Nat.gcd_rec y x, Nat.gcd_comm], World.drewN_drewN _ _ _⟩
      case measure => simp [intOf]; have := Int.emod_lt_of_pos x (show (0 : Int) < y by omega); have := Int.emod_nonneg x (show (y : Int) ≠ 0 by omega); omega
set_option maxHeartbeats 400000 in
theorem rcheck_any (n d c : Int) (w : World) (h1 : -9223372036854775808 ≤ n) (h2 : n ≤ 9223372036854775807) (h3 : -9223372036854775808 ≤ d) (h4 : d ≤ 9223372036854775807) (hr : chk (n, d) = c) :
    Calls Tryd.prog 16 #[.agg #[.int .i64 n, .int .i64 d]] w fun e w' => e = .returned (.int .i64 c) ∧ Below w.heap.size w w' := by
  unfold chk at hr
  by_cases c1 : n < -1099511627776
  · rw [if_pos (by simp; omega)] at hr
    subst hr
    go_enter Tryd.func16, Tryd.ntmps16
    go_wp2
    go_ret
    exact ⟨rfl, (by repeat' (first | (with_reducible refine bset ?_ ?_) | (with_reducible exact Below.refl _ _) | (with_reducible assumption) | (with_reducible refine bdrewN ?_ _) | (with_reducible refine bdrew ?_) | (with_reducible refine balloc0 ?_) | (with_reducible refine balloc ?_ ?_) | (with_reducible apply btrans0; rotate_left; with_reducible assumption) | (with_reducible apply btrans; rotate_left; with_reducible assumption) | exact Below.refl _ _ | assumption | (apply btrans0; rotate_left; assumption) | (apply btrans; rotate_left; assumption) | (simp; done) | omega | (simp; omega)))⟩
  by_cases c2 : 1099511627776 < n
  · rw [if_pos (by simp; omega)] at hr
    subst hr
    go_enter Tryd.func16, Tryd.ntmps16
    go_wp2
    go_ret
    exact ⟨rfl, (by repeat' (first | (with_reducible refine bset ?_ ?_) | (with_reducible exact Below.refl _ _) | (with_reducible assumption) | (with_reducible refine bdrewN ?_ _) | (with_reducible refine bdrew ?_) | (with_reducible refine balloc0 ?_) | (with_reducible refine balloc ?_ ?_) | (with_reducible apply btrans0; rotate_left; with_reducible assumption) | (with_reducible apply btrans; rotate_left; with_reducible assumption) | exact Below.refl _ _ | assumption | (apply btrans0; rotate_left; assumption) | (apply btrans; rotate_left; assumption) | (simp; done) | omega | (simp; omega)))⟩
  by_cases c3 : d < 1
  · rw [if_pos (by simp; omega)] at hr
    subst hr
    go_enter Tryd.func16, Tryd.ntmps16
    go_wp2
    go_ret
    exact ⟨rfl, (by repeat' (first | (with_reducible refine bset ?_ ?_) | (with_reducible exact Below.refl _ _) | (with_reducible assumption) | (with_reducible refine bdrewN ?_ _) | (with_reducible refine bdrew ?_) | (with_reducible refine balloc0 ?_) | (with_reducible refine balloc ?_ ?_) | (with_reducible apply btrans0; rotate_left; with_reducible assumption) | (with_reducible apply btrans; rotate_left; with_reducible assumption) | exact Below.refl _ _ | assumption | (apply btrans0; rotate_left; assumption) | (apply btrans; rotate_left; assumption) | (simp; done) | omega | (simp; omega)))⟩
  by_cases c4 : 1048576 < d
  · rw [if_pos (by simp; omega)] at hr
    subst hr
    go_enter Tryd.func16, Tryd.ntmps16
    go_wp2
    go_ret
    exact ⟨rfl, (by repeat' (first | (with_reducible refine bset ?_ ?_) | (with_reducible exact Below.refl _ _) | (with_reducible assumption) | (with_reducible refine bdrewN ?_ _) | (with_reducible refine bdrew ?_) | (with_reducible refine balloc0 ?_) | (with_reducible refine balloc ?_ ?_) | (with_reducible apply btrans0; rotate_left; with_reducible assumption) | (with_reducible apply btrans; rotate_left; with_reducible assumption) | exact Below.refl _ _ | assumption | (apply btrans0; rotate_left; assumption) | (apply btrans; rotate_left; assumption) | (simp; done) | omega | (simp; omega)))⟩
  rw [if_neg (by simp; omega)] at hr
  simp only at hr
  by_cases c5 : Nat.gcd n.natAbs d.natAbs = 1
  · rw [if_pos c5] at hr
    subst hr
    have HG := Lib.hid c5
    clear c5
    go_enter Tryd.func16, Tryd.ntmps16
    go_wp2
    go_quiet ((first | (go_at_call 27; exact Calls.quiet_of_same ((rsize_any _ _ (by omega) (by omega)).mono fun _ _ h => ⟨h.1, h.2.symm⟩)) | (go_at_call 26; exact Calls.quiet_of ((rgcd_any _ _ _).mono fun _ _ h => by rw [HG.out] at h; exact h))))
    go_wp2
    go_ret
    exact ⟨rfl, (by repeat' (first | (with_reducible refine bset ?_ ?_) | (with_reducible exact Below.refl _ _) | (with_reducible assumption) | (with_reducible refine bdrewN ?_ _) | (with_reducible refine bdrew ?_) | (with_reducible refine balloc0 ?_) | (with_reducible refine balloc ?_ ?_) | (with_reducible apply btrans0; rotate_left; with_reducible assumption) | (with_reducible apply btrans; rotate_left; with_reducible assumption) | exact Below.refl _ _ | assumption | (apply btrans0; rotate_left; assumption) | (apply btrans; rotate_left; assumption) | (simp; done) | omega | (simp; omega)))⟩
  · rw [if_neg c5] at hr
    subst hr
    obtain ⟨g, hg⟩ : ∃ g, Nat.gcd n.natAbs d.natAbs = g := ⟨_, rfl⟩
    rw [hg] at c5
    have HG := Lib.hid hg
    clear hg
    have h6 : ((g : Int) != 1) = true := by simp; omega
    go_enter Tryd.func16, Tryd.ntmps16
    go_wp2
    go_quiet ((first | (go_at_call 27; exact Calls.quiet_of_same ((rsize_any _ _ (by omega) (by omega)).mono fun _ _ h => ⟨h.1, h.2.symm⟩)) | (go_at_call 26; exact Calls.quiet_of ((rgcd_any _ _ _).mono fun _ _ h => by rw [HG.out] at h; exact h))))
    go_wp2
    go_ret
    exact ⟨rfl, (by repeat' (first | (with_reducible refine bset ?_ ?_) | (with_reducible exact Below.refl _ _) | (with_reducible assumption) | (with_reducible refine bdrewN ?_ _) | (with_reducible refine bdrew ?_) | (with_reducible refine balloc0 ?_) | (with_reducible refine balloc ?_ ?_) | (with_reducible apply btrans0; rotate_left; with_reducible assumption) | (with_reducible apply btrans; rotate_left; with_reducible assumption) | exact Below.refl _ _ | assumption | (apply btrans0; rotate_left; assumption) | (apply btrans; rotate_left; assumption) | (simp; done) | omega | (simp; omega)))⟩
end Go.Proofs.YtfkdhcfedjbkfaaDoor
