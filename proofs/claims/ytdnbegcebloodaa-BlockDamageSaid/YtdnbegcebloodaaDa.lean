/- Layer 2 (crc), the program: step, table. -/
import Derived.Laws.BitsAllLaws
import Derived.Test.YtdnbegcebloodaaS
import Derived.Test.YtdnbegcebloodaaR
import Derived.Test.YtdnbegcebloodaaBa
import Derived.Test.YtdnbegcebloodaaProg
set_option linter.unusedVariables false
namespace Go.Proofs.Ytdnbegcebloodaa
open Go Go.RowKit

/-- one step of the checksum -/
def stp (r : Nat) : Nat := if r % 2 = 1 then (r / 2) ^^^ 2197175160 else r / 2
def stps : Nat → Nat → Nat
  | 0, r => r
  | k + 1, r => stps k (stp r)
theorem stp_lt {r : Nat} (h : r < 4294967296) : stp r < 4294967296 := by
  unfold stp
  split
  · exact Nat.xor_lt_two_pow (n := 32) (by omega) (by omega)
  · omega
theorem stps_lt : ∀ (k : Nat) {r : Nat}, r < 4294967296 → stps k r < 4294967296
  | 0, _, h => h
  | k + 1, _, h => stps_lt k (stp_lt h)
theorem stps_succ (k r : Nat) : stps (k + 1) r = stp (stps k r) := by
  induction k generalizing r with
  | zero => rfl
  | succ k ih => exact ih (stp r)

set_option maxHeartbeats 1000000 in
theorem step_any (r : Nat) (w : World) (h : r < 4294967296) :
    Calls Try.prog 90 #[.int .u32 (r : Int)] w fun e w' => e = .returned (.int .u32 (stps 8 r : Nat)) ∧ w' = w := by
  go_enter Try.func90, Try.ntmps90
  go_wp2
  go_loopw [3, 0] (fun i s wr => ∃ (k q : Nat), k ≤ 8 ∧ i = .int .i64 k ∧ s = .int .u32 (q : Nat) ∧ Hid (q = stps k r) ∧ q < 4294967296 ∧ wr = w) (fun i _ _ => 8 - (intOf i).toNat)
  case atStart => exact ⟨0, r, by omega, rfl, rfl, Lib.hid rfl, h, rfl⟩
  case round =>
    obtain ⟨k, q, hk, rfl, rfl, HQ, hq, rfl⟩ := hrel
    by_cases hlt : k < 8
    · by_cases ho : q % 2 = 1
      · have ho' : ((q : Int) % 2 == 1) = true := beq_iff_eq.2 (by omega)
        have hx : bits .xor .u32 ((q : Int) / 2) 2197175160 = ((q / 2 ^^^ 2197175160 : Nat) : Int) := by
          have := u32_xor_nat (q / 2) 2197175160 (by omega) (by omega)
          simpa using this
        have hx' : bits .xor .u32 ((q / 2 : Nat) : Int) 2197175160 = ((q / 2 ^^^ 2197175160 : Nat) : Int) := by
          have := u32_xor_nat (q / 2) 2197175160 (by omega) (by omega)
          simpa using this
        have hq2 : q / 2 ^^^ 2197175160 < 4294967296 := Nat.xor_lt_two_pow (n := 32) (by omega) (by omega)
        go_wp2
        go_roundw
        case rel => exact ⟨k + 1, q / 2 ^^^ 2197175160, by omega, by go_num, by first | rfl | (rw [hx]) | (simp; done), Lib.hid (by rw [stps_succ, ← HQ.out]; unfold stp; rw [if_pos ho]), hq2, trivial⟩
        case measure => simp [intOf]; omega
      · have ho' : ((q : Int) % 2 == 1) = false := beq_eq_false_iff_ne.2 (by omega)
        go_wp2
        go_roundw
        case rel => exact ⟨k + 1, q / 2, by omega, by go_num, by first | rfl | (go_num), Lib.hid (by rw [stps_succ, ← HQ.out]; unfold stp; rw [if_neg ho]), by omega, trivial⟩
        case measure => simp [intOf]; omega
    · obtain rfl : k = 8 := by omega
      go_wp2
      go_ret
      exact ⟨by rw [← HQ.out]; rfl, rfl⟩
end Go.Proofs.Ytdnbegcebloodaa
