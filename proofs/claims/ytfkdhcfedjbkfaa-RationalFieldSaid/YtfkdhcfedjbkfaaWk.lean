/- The reference's Mul (layer 4), for any two numbers. -/
import Derived.Test.YtfkdhcfedjbkfaaWi
namespace Go.Proofs.Ytfkdhcfedjbkfaa
open Go.RowKit

set_option maxHeartbeats 800000 in
theorem rmul_any (a b c d p q r : Int) (w : World) (a1 : -9223372036854775808 ≤ a) (a2 : a ≤ 9223372036854775807) (b1 : -9223372036854775808 ≤ b) (b2 : b ≤ 9223372036854775807) (c1 : -9223372036854775808 ≤ c) (c2 : c ≤ 9223372036854775807) (d1 : -9223372036854775808 ≤ d) (d2 : d ≤ 9223372036854775807) (hr : opS rmul0 (a, b) (c, d) = ((p, q), r)) :
    Calls Try.prog 26 #[.agg #[.int .i64 a, .int .i64 b], .agg #[.int .i64 c, .int .i64 d]] w fun e w' => e = .returned (.tuple #[.agg #[.int .i64 p, .int .i64 q], .int .i64 r]) ∧ Below w.heap.size w w' := by
  by_cases k : chk (a, b) = 0 ∧ chk (c, d) = 0
  · have hr' := opS_good hr k.1 k.2
    by_cases z : a = 0 ∨ c = 0
    · exact rmul_zero a b c d p q r w k z hr'
    · obtain ⟨x1, x2, x3, x4⟩ := chk_bd k.1
      obtain ⟨y1, y2, y3, y4⟩ := chk_bd k.2
      obtain ⟨b, rfl⟩ := Int.eq_ofNat_of_zero_le (show 0 ≤ b by omega)
      obtain ⟨d, rfl⟩ := Int.eq_ofNat_of_zero_le (show 0 ≤ d by omega)
      exact rmul_pos a c p q r b d w k (by omega) (by omega) hr'
  · obtain ⟨rfl, rfl, rfl⟩ := opS_bad hr k
    have hv : decide (chk (a, b) = 0 ∧ chk (c, d) = 0) = false := by simpa using k
    have HV := Lib.hid hv
    clear hv hr k
    go_enter Try.func26, Try.ntmps26
    go_wp2_with fail
    refine (rvalid_any a b c d false _ a1 a2 b1 b2 c1 c2 d1 d2 HV.out).mono ?_
    rintro e w1 ⟨rfl, hb1⟩
    obtain ⟨hc1, hf1⟩ := bcell hb1
    have hz1 := hb1.size
    simp at hz1
    go_wp2
    refine bodyPost_ret (v := .tuple #[.agg #[.int .i64 0, .int .i64 0], .int .i64 1]) (by simp [results, Try.results26, go_sem, hc1]) rfl ⟨rfl, ?_⟩
    exact (by repeat' (first | exact Below.refl _ _ | assumption | (with_reducible refine bdrewN ?_ _) | (with_reducible refine bdrew ?_) | (with_reducible refine bset ?_ ?_) | (with_reducible refine balloc0 ?_) | (with_reducible refine balloc ?_ ?_) | (apply btrans0; rotate_left; assumption) | (apply btrans; rotate_left; assumption) | (simp; done) | omega | (simp; omega)))
end Go.Proofs.Ytfkdhcfedjbkfaa
