/- Walks of layer 4 (rational): Check, of the program and of the reference. -/
import Derived.Test.YtfkdhcfedjbkfaaWa
namespace Go.Proofs.Ytfkdhcfedjbkfaa
open Go.RowKit

def chk (r : R2) : Int :=
  if r.1 < -1099511627776 ∨ 1099511627776 < r.1 ∨ r.2 < 1 ∨ 1048576 < r.2 then 2
  else if Nat.gcd r.1.natAbs r.2.natAbs = 1 then 0 else 1

set_option maxHeartbeats 400000 in
theorem check_any (n d c : Int) (w : World) (h1 : -9223372036854775808 ≤ n) (h2 : n ≤ 9223372036854775807) (h3 : -9223372036854775808 ≤ d) (h4 : d ≤ 9223372036854775807) (hr : chk (n, d) = c) :
    Calls Try.prog 12 #[.agg #[.int .i64 n, .int .i64 d]] w fun e w' => e = .returned (.int .i64 c) ∧ Below w.heap.size w w' := by
  unfold chk at hr
  by_cases c1 : n < -1099511627776
  · rw [if_pos (by simp; omega)] at hr
    subst hr
    go_enter Try.func12, Try.ntmps12
    go_wp2
    go_ret
    exact ⟨rfl, (by repeat' (first | exact Below.refl _ _ | assumption | (with_reducible refine bdrewN ?_ _) | (with_reducible refine bdrew ?_) | (with_reducible refine bset ?_ ?_) | (with_reducible refine balloc0 ?_) | (with_reducible refine balloc ?_ ?_) | (apply btrans0; rotate_left; assumption) | (apply btrans; rotate_left; assumption) | (simp; done) | omega | (simp; omega)))⟩
  by_cases c2 : 1099511627776 < n
  · rw [if_pos (by simp; omega)] at hr
    subst hr
    go_enter Try.func12, Try.ntmps12
    go_wp2
    go_ret
    exact ⟨rfl, (by repeat' (first | exact Below.refl _ _ | assumption | (with_reducible refine bdrewN ?_ _) | (with_reducible refine bdrew ?_) | (with_reducible refine bset ?_ ?_) | (with_reducible refine balloc0 ?_) | (with_reducible refine balloc ?_ ?_) | (apply btrans0; rotate_left; assumption) | (apply btrans; rotate_left; assumption) | (simp; done) | omega | (simp; omega)))⟩
  by_cases c3 : d < 1
  · rw [if_pos (by simp; omega)] at hr
    subst hr
    go_enter Try.func12, Try.ntmps12
    go_wp2
    go_ret
    exact ⟨rfl, (by repeat' (first | exact Below.refl _ _ | assumption | (with_reducible refine bdrewN ?_ _) | (with_reducible refine bdrew ?_) | (with_reducible refine bset ?_ ?_) | (with_reducible refine balloc0 ?_) | (with_reducible refine balloc ?_ ?_) | (apply btrans0; rotate_left; assumption) | (apply btrans; rotate_left; assumption) | (simp; done) | omega | (simp; omega)))⟩
  by_cases c4 : 1048576 < d
  · rw [if_pos (by simp; omega)] at hr
    subst hr
    go_enter Try.func12, Try.ntmps12
    go_wp2
    go_ret
    exact ⟨rfl, (by repeat' (first | exact Below.refl _ _ | assumption | (with_reducible refine bdrewN ?_ _) | (with_reducible refine bdrew ?_) | (with_reducible refine bset ?_ ?_) | (with_reducible refine balloc0 ?_) | (with_reducible refine balloc ?_ ?_) | (apply btrans0; rotate_left; assumption) | (apply btrans; rotate_left; assumption) | (simp; done) | omega | (simp; omega)))⟩
  rw [if_neg (by simp; omega)] at hr
  simp only at hr
  obtain ⟨k, rfl⟩ := Int.eq_ofNat_of_zero_le (show 0 ≤ d by omega)
  simp only [Int.natAbs_natCast] at hr
  by_cases c5 : Nat.gcd n.natAbs k = 1
  · rw [if_pos c5] at hr
    subst hr
    have HG := Lib.hid c5
    clear c5
    go_enter Try.func12, Try.ntmps12
    go_wp2
    go_quiet ((first | (go_at_call 30; exact Calls.quiet_of_same ((mag_any _ _ (by omega) (by omega)).mono fun _ _ h => ⟨h.1, h.2.symm⟩)) | (go_at_call 33; exact Calls.quiet_of ((gcd_any _ _ _).mono fun _ _ h => by rw [HG.out] at h; exact h))))
    go_wp2
    go_ret
    exact ⟨rfl, (by repeat' (first | exact Below.refl _ _ | assumption | (with_reducible refine bdrewN ?_ _) | (with_reducible refine bdrew ?_) | (with_reducible refine bset ?_ ?_) | (with_reducible refine balloc0 ?_) | (with_reducible refine balloc ?_ ?_) | (apply btrans0; rotate_left; assumption) | (apply btrans; rotate_left; assumption) | (simp; done) | omega | (simp; omega)))⟩
  · rw [if_neg c5] at hr
    subst hr
    obtain ⟨g, hg⟩ : ∃ g, Nat.gcd n.natAbs k = g := ⟨_, rfl⟩
    rw [hg] at c5
    have HG := Lib.hid hg
    clear hg
    have h6 : ((g : Int) != 1) = true := by simp; omega
    go_enter Try.func12, Try.ntmps12
    go_wp2
    go_quiet ((first | (go_at_call 30; exact Calls.quiet_of_same ((mag_any _ _ (by omega) (by omega)).mono fun _ _ h => ⟨h.1, h.2.symm⟩)) | (go_at_call 33; exact Calls.quiet_of ((gcd_any _ _ _).mono fun _ _ h => by rw [HG.out] at h; exact h))))
    go_wp2
    go_ret
    exact ⟨rfl, (by repeat' (first | exact Below.refl _ _ | assumption | (with_reducible refine bdrewN ?_ _) | (with_reducible refine bdrew ?_) | (with_reducible refine bset ?_ ?_) | (with_reducible refine balloc0 ?_) | (with_reducible refine balloc ?_ ?_) | (apply btrans0; rotate_left; assumption) | (apply btrans; rotate_left; assumption) | (simp; done) | omega | (simp; omega)))⟩
end Go.Proofs.Ytfkdhcfedjbkfaa
