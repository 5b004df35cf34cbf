/- Walks of layer 1 (varint), the reference: Int. -/
import Derived.Test.YtdnbegcebloodaaS
import Derived.Test.YtdnbegcebloodaaProg
set_option linter.unusedVariables false
namespace Go.Proofs.Ytdnbegcebloodaa
open Go.RowKit

theorem conv1 (n : Int) (w : World) : (convert 56 9 (.slice (some ⟨w.heap.size, 0, none⟩) 1 1)).run Try.prog (w.alloc (.cells #[.int .u8 n] 5)) = .ok (.string (B [UInt8.ofNat n.toNat])) (w.alloc (.cells #[.int .u8 n] 5)) := by
  refine run_convert_bytes_arg _ 56 5 Try.underlying56 Try.underlying5 w.heap.size 0 1 1 [n] rfl (fun i hi => ?_) 9 Try.underlying9
  obtain rfl : i = 0 := by omega
  go_simp
attribute [local go_sem] B_size B_app B_extract B_get B_toList
attribute [local go_sem ↓] conv1

/-- the number whose groups encode an integer -/
def zz (n : Int) : Nat := if n < 0 then (-2 * n - 1).toNat else (2 * n).toNat
/-- all groups but the last one -/
def hi : Nat → Nat → List UInt8
  | 0, _ => []
  | f + 1, m => if m = 0 then [] else hi f (m / 128) ++ [UInt8.ofNat (128 + m % 128)]
def intE (n : Int) : List UInt8 := hi 10 (zz n / 128) ++ [UInt8.ofNat (zz n % 128)]

set_option maxHeartbeats 400000 in
theorem rint_bad (n : Int) (w : World) (h : n < -1152921504606846976 ∨ 1152921504606846976 < n) :
    Calls Try.prog 59 #[.int .i64 n] w fun e w' => e = .returned (.tuple #[.string (B []), .int .i64 2]) ∧ Below w.heap.size w w' := by
  by_cases h1 : n < -1152921504606846976
  · go_enter Try.func59, Try.ntmps59
    go_wp2
    go_ret2
    exact ⟨rfl, Below.refl _ _⟩
  · have h2 : 1152921504606846976 < n := by omega
    go_enter Try.func59, Try.ntmps59
    go_wp2
    go_ret2
    exact ⟨rfl, Below.refl _ _⟩

theorem zz_lt {n : Int} (h1 : -1152921504606846976 ≤ n) (h2 : n ≤ 1152921504606846976) : zz n ≤ 2305843009213693952 := by unfold zz; split <;> omega

set_option maxRecDepth 100000 in
set_option maxHeartbeats 400000 in
theorem rint_pos (n : Int) (w : World) (h1 : 0 ≤ n) (h2 : n ≤ 1152921504606846976) :
    Calls Try.prog 59 #[.int .i64 n] w fun e w' => e = .returned (.tuple #[.string (B (intE n)), .int .i64 0]) ∧ Below w.heap.size w w' := by
  have hz : ∃ M : Nat, zz n = M ∧ (M : Int) = 2 * n ∧ M ≤ 2305843009213693952 := ⟨zz n, rfl, by unfold zz; split <;> omega, zz_lt (by omega) (by omega)⟩
  obtain ⟨M, hM, hc, hb⟩ := hz
  have hE : hi 10 (M / 128) ++ [UInt8.ofNat (M % 128)] = intE n := by unfold intE; rw [hM]
  have HE := Lib.hid hE
  have HC := Lib.hid hc
  clear hE hc hM
  go_enter Try.func59, Try.ntmps59
  go_wp2
  go_loopw [4, 5] (fun v o wr => ∃ (f m : Nat) (out : List UInt8), v = .int .i64 (m : Int) ∧ o = .string (B out) ∧ m < 128 ^ f ∧ m ≤ 2305843009213693952 ∧ out.length + f ≤ 11 ∧ hi f m ++ out = intE n ∧ Below w.heap.size w wr) (fun v _ _ => (intOf v).toNat)
  case atStart => exact ⟨10, M / 128, [UInt8.ofNat (M % 128)], by rw [← HC.out]; simp, by rw [← HC.out]; congr 3, by omega, by omega, by simp, HE.out, (by repeat' (first | (with_reducible refine bset ?_ ?_) | (with_reducible exact Below.refl _ _) | (with_reducible assumption) | (with_reducible refine bdrewN ?_ _) | (with_reducible refine bdrew ?_) | (with_reducible refine balloc0 ?_) | (with_reducible refine balloc ?_ ?_) | (with_reducible apply btrans0; rotate_left; with_reducible assumption) | (with_reducible apply btrans; rotate_left; with_reducible assumption) | exact Below.refl _ _ | assumption | (apply btrans0; rotate_left; assumption) | (apply btrans; rotate_left; assumption) | (simp; done) | omega | (simp; omega)))⟩
  case round =>
    obtain ⟨f, m, out, rfl, rfl, hm, hm2, hl, hh, hB⟩ := hrel
    have HH := Lib.hid hh
    clear hh
    by_cases z : m = 0
    · subst z
      go_wp2
      go_ret2
      refine ⟨?_, hB⟩
      have : out = intE n := by
        rw [← HH.out]; cases f <;> simp [hi]
      rw [this]; rfl
    · cases f with
      | zero => simp at hm; omega
      | succ f =>
        have z' : 0 < m := by omega
        have hm3 : m / 128 < 128 ^ f := by rw [Nat.pow_succ] at hm; omega
        have HM := Lib.hid hm3
        clear hm hm3 z
        go_wp2
        go_roundw
        case rel => exact ⟨f, m / 128, UInt8.ofNat (128 + m % 128) :: out, by go_num, by first | (simp; done) | (simp; congr 2; done) | (simp; congr 2; omega), HM.out, by omega, by simp; omega, by rw [← HH.out, hi, if_neg (by omega)]; simp, (by repeat' (first | (with_reducible refine bset ?_ ?_) | (with_reducible exact Below.refl _ _) | (with_reducible assumption) | (with_reducible refine bdrewN ?_ _) | (with_reducible refine bdrew ?_) | (with_reducible refine balloc0 ?_) | (with_reducible refine balloc ?_ ?_) | (with_reducible apply btrans0; rotate_left; with_reducible assumption) | (with_reducible apply btrans; rotate_left; with_reducible assumption) | exact Below.refl _ _ | assumption | (apply btrans0; rotate_left; assumption) | (apply btrans; rotate_left; assumption) | (simp; done) | omega | (simp; omega)))⟩
        case measure => simp [intOf]; omega

set_option maxRecDepth 100000 in
set_option maxHeartbeats 400000 in
theorem rint_neg (n : Int) (w : World) (h1 : -1152921504606846976 ≤ n) (h2 : n < 0) :
    Calls Try.prog 59 #[.int .i64 n] w fun e w' => e = .returned (.tuple #[.string (B (intE n)), .int .i64 0]) ∧ Below w.heap.size w w' := by
  have hz : ∃ M : Nat, zz n = M ∧ (M : Int) = -2 * n - 1 ∧ M ≤ 2305843009213693952 := ⟨zz n, rfl, by unfold zz; split <;> omega, zz_lt (by omega) (by omega)⟩
  obtain ⟨M, hM, hc, hb⟩ := hz
  have hE : hi 10 (M / 128) ++ [UInt8.ofNat (M % 128)] = intE n := by unfold intE; rw [hM]
  have HE := Lib.hid hE
  have HC := Lib.hid hc
  clear hE hc hM
  go_enter Try.func59, Try.ntmps59
  go_wp2
  go_loopw [4, 5] (fun v o wr => ∃ (f m : Nat) (out : List UInt8), v = .int .i64 (m : Int) ∧ o = .string (B out) ∧ m < 128 ^ f ∧ m ≤ 2305843009213693952 ∧ out.length + f ≤ 11 ∧ hi f m ++ out = intE n ∧ Below w.heap.size w wr) (fun v _ _ => (intOf v).toNat)
  case atStart => exact ⟨10, M / 128, [UInt8.ofNat (M % 128)], by rw [← HC.out]; simp, by rw [← HC.out]; congr 3, by omega, by omega, by simp, HE.out, (by repeat' (first | (with_reducible refine bset ?_ ?_) | (with_reducible exact Below.refl _ _) | (with_reducible assumption) | (with_reducible refine bdrewN ?_ _) | (with_reducible refine bdrew ?_) | (with_reducible refine balloc0 ?_) | (with_reducible refine balloc ?_ ?_) | (with_reducible apply btrans0; rotate_left; with_reducible assumption) | (with_reducible apply btrans; rotate_left; with_reducible assumption) | exact Below.refl _ _ | assumption | (apply btrans0; rotate_left; assumption) | (apply btrans; rotate_left; assumption) | (simp; done) | omega | (simp; omega)))⟩
  case round =>
    obtain ⟨f, m, out, rfl, rfl, hm, hm2, hl, hh, hB⟩ := hrel
    have HH := Lib.hid hh
    clear hh
    by_cases z : m = 0
    · subst z
      go_wp2
      go_ret2
      refine ⟨?_, hB⟩
      have : out = intE n := by
        rw [← HH.out]; cases f <;> simp [hi]
      rw [this]; rfl
    · cases f with
      | zero => simp at hm; omega
      | succ f =>
        have z' : 0 < m := by omega
        have hm3 : m / 128 < 128 ^ f := by rw [Nat.pow_succ] at hm; omega
        have HM := Lib.hid hm3
        clear hm hm3 z
        go_wp2
        go_roundw
        case rel => exact ⟨f, m / 128, UInt8.ofNat (128 + m % 128) :: out, by go_num, by first | (simp; done) | (simp; congr 2; done) | (simp; congr 2; omega), HM.out, by omega, by simp; omega, by rw [← HH.out, hi, if_neg (by omega)]; simp, (by repeat' (first | (with_reducible refine bset ?_ ?_) | (with_reducible exact Below.refl _ _) | (with_reducible assumption) | (with_reducible refine bdrewN ?_ _) | (with_reducible refine bdrew ?_) | (with_reducible refine balloc0 ?_) | (with_reducible refine balloc ?_ ?_) | (with_reducible apply btrans0; rotate_left; with_reducible assumption) | (with_reducible apply btrans; rotate_left; with_reducible assumption) | exact Below.refl _ _ | assumption | (apply btrans0; rotate_left; assumption) | (apply btrans; rotate_left; assumption) | (simp; done) | omega | (simp; omega)))⟩
        case measure => simp [intOf]; omega

end Go.Proofs.Ytdnbegcebloodaa
