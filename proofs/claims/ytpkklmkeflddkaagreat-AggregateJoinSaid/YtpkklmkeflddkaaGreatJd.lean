/- Joined by port.py: XBa XBb XBc -/
import Derived.Test.YtpkklmkeflddkaaGreatJa
import Derived.Test.YtpkklmkeflddkaaGreatProg
import Derived.Test.YtpkklmkeflddkaaGreatJb
set_option linter.unusedVariables false
set_option linter.unusedSimpArgs false
/-! XBa -/
namespace Go.Proofs.YtpkklmkeflddkaaGreat
open Go.RowKit
theorem conv1 (n : Int) (w : World) : (convert 80 9 (.slice (some ⟨w.heap.size, 0, none⟩) 1 1)).run Tryz.prog (w.alloc (.cells #[.int .u8 n] 5)) = .ok (.string (B [UInt8.ofNat n.toNat])) (w.alloc (.cells #[.int .u8 n] 5)) := by
  refine run_convert_bytes_arg _ 80 5 Tryz.underlying80 Tryz.underlying5 w.heap.size 0 1 1 [n] rfl (fun i hi => ?_) 9 Tryz.underlying9
  obtain rfl : i = 0 := by omega
  go_simp
attribute [local go_sem] B_size B_app B_extract B_get B_toList
attribute [local go_sem ↓] conv1
/-- the number whose groups encode an integer -/
def zz (n : Int) : Nat := if n < 0 then (-2 * n - 1).toNat else (2 * n).toNat
/-- all groups but the last one -/
def hi : Nat → Nat → List UInt8
  | 0, _ => []
  | f + 1, m => if m = 0 then [] else hi f (m / 128) ++ [UInt8.ofNat (128 + m % 128)]
def intE (n : Int) : List UInt8 := hi 10 (zz n / 128) ++ [UInt8.ofNat (zz n % 128)]
set_option maxHeartbeats 400000 in
theorem rint_bad (n : Int) (w : World) (h : n < -1152921504606846976 ∨ 1152921504606846976 < n) :
    Calls Tryz.prog 47 #[.int .i64 n] w fun e w' => e = .returned (.tuple #[.string (B []), .int .i64 2]) ∧ Below w.heap.size w w' := by
  by_cases h1 : n < -1152921504606846976
  · go_enter Tryz.func47, Tryz.ntmps47
    go_wp2
    go_ret2
    exact ⟨rfl, Below.refl _ _⟩
  · have h2 : 1152921504606846976 < n := by omega
    go_enter Tryz.func47, Tryz.ntmps47
    go_wp2
    go_ret2
    exact ⟨rfl, Below.refl _ _⟩
theorem zz_lt {n : Int} (h1 : -1152921504606846976 ≤ n) (h2 : n ≤ 1152921504606846976) : zz n ≤ 2305843009213693952 := by unfold zz; split <;> omega
set_option maxRecDepth 100000 in
set_option maxHeartbeats 400000 in
theorem rint_pos (n : Int) (w : World) (h1 : 0 ≤ n) (h2 : n ≤ 1152921504606846976) :
    Calls Tryz.prog 47 #[.int .i64 n] w fun e w' => e = .returned (.tuple #[.string (B (intE n)), .int .i64 0]) ∧ Below w.heap.size w w' := by
  have hz : ∃ M : Nat, zz n = M ∧ (M : Int) = 2 * n ∧ M ≤ 2305843009213693952 := ⟨zz n, rfl, by unfold zz; split <;> omega, zz_lt (by omega) (by omega)⟩
  obtain ⟨M, hM, hc, hb⟩ := hz
  have hE : hi 10 (M / 128) ++ [UInt8.ofNat (M % 128)] = intE n := by unfold intE; rw [hM]
  have HE := Lib.hid hE
  have HC := Lib.hid hc
  clear hE hc hM
  go_enter Tryz.func47, Tryz.ntmps47
  go_wp2
  go_loopw [4, 5] (fun v o wr => ∃ (f m : Nat) (out : List UInt8), v = .int .i64 (m : Int) ∧ o = .string (B out) ∧ m < 128 ^ f ∧ m ≤ 2305843009213693952 ∧ out.length + f ≤ 11 ∧ hi f m ++ out = intE n ∧ Below w.heap.size w wr) (fun v _ _ => (intOf v).toNat)
  case atStart => exact ⟨10, M / 128, [UInt8.ofNat (M % 128)], by rw [← HC.out]; simp, by rw [← HC.out]; congr 3, by omega, by omega, by simp, HE.out, (by repeat' (first | with_reducible (first | refine bset ?_ ?_ | exact Below.refl _ _ | assumption | refine bdrewN ?_ _ | refine bdrew ?_ | refine balloc0 ?_ | refine balloc ?_ ?_ | (apply btrans0; rotate_left; assumption) | (apply btrans; rotate_left; assumption)) | exact Below.refl _ _ | assumption | (apply btrans0; rotate_left; assumption) | (apply btrans; rotate_left; assumption) | (simp; done) | omega | (simp; omega)))⟩
  case round =>
    obtain ⟨f, m, out, rfl, rfl, hm, hm2, hl, hh, hB⟩ := hrel
    have HH := Lib.hid hh
    clear hh
    by_cases z : m = 0
    · subst z
      go_wp2
      go_ret2
      refine ⟨?_, hB⟩
      have : out = intE n := by
        rw [← HH.out]; cases f <;> simp [hi]
      rw [this]; rfl
    · cases f with
      | zero => simp at hm; omega
      | succ f =>
        have z' : 0 < m := by omega
        have hm3 : m / 128 < 128 ^ f := by rw [Nat.pow_succ] at hm; omega
        have HM := Lib.hid hm3
        clear hm hm3 z
        go_wp2
        go_roundw
        case rel => exact ⟨f, m / 128, UInt8.ofNat (128 + m % 128) :: out, by go_num, by first | (simp; done) | (simp; congr 2; done) | (simp; congr 2; omega), HM.out, by omega, by simp; omega, by rw [← HH.out, hi, if_neg (by omega)]; simp, (by repeat' (first | with_reducible (first | refine bset ?_ ?_ | exact Below.refl _ _ | assumption | refine bdrewN ?_ _ | refine bdrew ?_ | refine balloc0 ?_ | refine balloc ?_ ?_ | (apply btrans0; rotate_left; assumption) | (apply btrans; rotate_left; assumption)) | exact Below.refl _ _ | assumption | (apply btrans0; rotate_left; assumption) | (apply btrans; rotate_left; assumption) | (simp; done) | omega | (simp; omega)))⟩
        case measure => simp [intOf]; omega
set_option maxRecDepth 100000 in
set_option maxHeartbeats 400000 in
theorem rint_neg (n : Int) (w : World) (h1 : -1152921504606846976 ≤ n) (h2 : n < 0) :
    Calls Tryz.prog 47 #[.int .i64 n] w fun e w' => e = .returned (.tuple #[.string (B (intE n)), .int .i64 0]) ∧ Below w.heap.size w w' := by
  have hz : ∃ M : Nat, zz n = M ∧ (M : Int) = -2 * n - 1 ∧ M ≤ 2305843009213693952 := ⟨zz n, rfl, by unfold zz; split <;> omega, zz_lt (by omega) (by omega)⟩
  obtain ⟨M, hM, hc, hb⟩ := hz
  have hE : hi 10 (M / 128) ++ [UInt8.ofNat (M % 128)] = intE n := by unfold intE; rw [hM]
  have HE := Lib.hid hE
  have HC := Lib.hid hc
  clear hE hc hM
  go_enter Tryz.func47, Tryz.ntmps47
  go_wp2
  go_loopw [4, 5] (fun v o wr => ∃ (f m : Nat) (out : List UInt8), v = .int .i64 (m : Int) ∧ o = .string (B out) ∧ m < 128 ^ f ∧ m ≤ 2305843009213693952 ∧ out.length + f ≤ 11 ∧ hi f m ++ out = intE n ∧ Below w.heap.size w wr) (fun v _ _ => (intOf v).toNat)
  case atStart => exact ⟨10, M / 128, [UInt8.ofNat (M % 128)], by rw [← HC.out]; simp, by rw [← HC.out]; congr 3, by omega, by omega, by simp, HE.out, (by repeat' (first | with_reducible (first | refine bset ?_ ?_ | exact Below.refl _ _ | assumption | refine bdrewN ?_ _ | refine bdrew ?_ | refine balloc0 ?_ | refine balloc ?_ ?_ | (apply btrans0; rotate_left; assumption) | (apply btrans; rotate_left; assumption)) | exact Below.refl _ _ | assumption | (apply btrans0; rotate_left; assumption) | (apply btrans; rotate_left; assumption) | (simp; done) | omega | (simp; omega)))⟩
  case round =>
    obtain ⟨f, m, out, rfl, rfl, hm, hm2, hl, hh, hB⟩ := hrel
    have HH := Lib.hid hh
    clear hh
    by_cases z : m = 0
    · subst z
      go_wp2
      go_ret2
      refine ⟨?_, hB⟩
      have : out = intE n := by
        rw [← HH.out]; cases f <;> simp [hi]
      rw [this]; rfl
    · cases f with
      | zero => simp at hm; omega
      | succ f =>
        have z' : 0 < m := by omega
        have hm3 : m / 128 < 128 ^ f := by rw [Nat.pow_succ] at hm; omega
        have HM := Lib.hid hm3
        clear hm hm3 z
        go_wp2
        go_roundw
        case rel => exact ⟨f, m / 128, UInt8.ofNat (128 + m % 128) :: out, by go_num, by first | (simp; done) | (simp; congr 2; done) | (simp; congr 2; omega), HM.out, by omega, by simp; omega, by rw [← HH.out, hi, if_neg (by omega)]; simp, (by repeat' (first | with_reducible (first | refine bset ?_ ?_ | exact Below.refl _ _ | assumption | refine bdrewN ?_ _ | refine bdrew ?_ | refine balloc0 ?_ | refine balloc ?_ ?_ | (apply btrans0; rotate_left; assumption) | (apply btrans; rotate_left; assumption)) | exact Below.refl _ _ | assumption | (apply btrans0; rotate_left; assumption) | (apply btrans; rotate_left; assumption) | (simp; done) | omega | (simp; omega)))⟩
        case measure => simp [intOf]; omega
end Go.Proofs.YtpkklmkeflddkaaGreat
/-! XBb -/
namespace Go.Proofs.YtpkklmkeflddkaaGreat
open Go.RowKit
attribute [local go_sem] B_getElem B_size B_app B_extract B_get B_toList
/-- what the reader of integers answers: the integer, its size, the error -/
def rdL (b0 : Bool) : Nat → List UInt8 → Nat → Nat → Int × Int × Int
  | 0, _, _, _ => (0, 0, 11)
  | _ + 1, [], _, _ => (0, 0, 12)
  | f + 1, c :: r, m, i =>
    if 128 ≤ c.toNat then rdL b0 f r (m * 128 + c.toNat % 128) (i + 1)
    else
      let n : Int := if (m * 128 + c.toNat % 128) % 2 = 1 then -(((m * 128 + c.toNat % 128 + 1) / 2 : Nat) : Int) else (((m * 128 + c.toNat % 128) / 2 : Nat) : Int)
      if b0 = true ∨ n < -1152921504606846976 ∨ 1152921504606846976 < n then (0, 0, 11) else (n, (i : Int) + 1, 0)
def readS (l : List UInt8) : Int × Int × Int := rdL (l.head? == some 128) 9 l 0 0
theorem odd_eq (M c : Nat) (h1 : M ≤ 72057594037927935) (h2 : c < 256) (hp : (M * 128 + c % 128) % 2 = 1) : wrap64 ((wrap64 (-wrap64 ((M : Int) * 128 + (c : Int) % 128 + 1))).tdiv 2) = -(((M * 128 + c % 128 + 1) / 2 : Nat) : Int) := by
  obtain ⟨X, hX⟩ : ∃ X, M * 128 + c % 128 = X := ⟨_, rfl⟩
  have e : (M : Int) * 128 + (c : Int) % 128 = (X : Int) := by omega
  have hb : X ≤ 9223372036854775807 := by omega
  rw [hX] at hp ⊢
  rw [e]
  clear e hX
  unfold wrap64
  by_cases h : X = 9223372036854775807
  · subst h; decide
  · have e1 : ((X : Int) + 1 + 9223372036854775808) % 18446744073709551616 - 9223372036854775808 = (X : Int) + 1 := by omega
    have e2 : (-((X : Int) + 1) + 9223372036854775808) % 18446744073709551616 - 9223372036854775808 = -((X : Int) + 1) := by omega
    rw [e1, e2, Int.neg_tdiv, Int.tdiv_eq_ediv_of_nonneg (by omega)]
    omega
end Go.Proofs.YtpkklmkeflddkaaGreat
/-! XBc -/
namespace Go.Proofs.YtpkklmkeflddkaaGreat
open Go.RowKit
attribute [local go_sem] B_getElem B_size B_app B_extract B_get B_toList
theorem rdL_ok (b0 : Bool) : ∀ (f : Nat) (r : List UInt8) (m i : Nat) (n k e : Int), rdL b0 f r m i = (n, k, e) →
    (e = 0 → (i : Int) + 1 ≤ k ∧ k ≤ i + f ∧ k ≤ i + r.length ∧ -1152921504606846976 ≤ n ∧ n ≤ 1152921504606846976) ∧ (e = 0 ∨ e = 11 ∨ e = 12) ∧ (e ≠ 0 → n = 0 ∧ k = 0)
  | 0, r, m, i, n, k, e, h => by
    unfold rdL at h; simp only [Prod.mk.injEq] at h; omega
  | f + 1, [], m, i, n, k, e, h => by
    unfold rdL at h; simp only [Prod.mk.injEq] at h; omega
  | f + 1, c :: r, m, i, n, k, e, h => by
    unfold rdL at h
    by_cases z : 128 ≤ c.toNat
    · rw [if_pos z] at h
      have := rdL_ok b0 f r _ _ n k e h
      have hl : (c :: r).length = r.length + 1 := rfl
      omega
    · rw [if_neg z] at h
      have hl : (c :: r).length = r.length + 1 := rfl
      split at h
      all_goals
        extract_lets nn at h
        split at h
        · rw [Prod.mk.injEq, Prod.mk.injEq] at h; omega
        · rename_i h1
          rw [Prod.mk.injEq, Prod.mk.injEq] at h
          rw [not_or, not_or] at h1
          omega
theorem readS_ok {l : List UInt8} {n k e : Int} (h : readS l = (n, k, e)) : (e = 0 → 1 ≤ k ∧ k ≤ 9 ∧ k ≤ l.length ∧ -1152921504606846976 ≤ n ∧ n ≤ 1152921504606846976) ∧ (e = 0 ∨ e = 11 ∨ e = 12) ∧ (e ≠ 0 → n = 0 ∧ k = 0) := by
  have := rdL_ok _ 9 l 0 0 n k e h
  omega
def lenS (l : List UInt8) : Int × Int × Int :=
  if (readS l).2.2 ≠ 0 then (0, 0, (readS l).2.2)
  else if (readS l).1 < 0 ∨ 65536 < (readS l).1 then (0, 0, 11) else readS l
def textS (l : List UInt8) : List UInt8 × Int × Int :=
  if (lenS l).2.2 ≠ 0 then ([], 0, (lenS l).2.2)
  else if (l.length : Int) - (lenS l).2.1 < (lenS l).1 then ([], 0, 12)
  else ((l.drop (lenS l).2.1.toNat).take (lenS l).1.toNat, (lenS l).2.1 + (lenS l).1, 0)
def textE (l : List UInt8) : List UInt8 := intE l.length ++ l
theorem hi_len : ∀ (f m : Nat), (hi f m).length ≤ f
  | 0, _ => by simp [hi]
  | f + 1, m => by
    unfold hi; split
    · simp
    · have := hi_len f (m / 128); simp; omega
theorem intE_len (n : Int) : 1 ≤ (intE n).length ∧ (intE n).length ≤ 11 := by
  have := hi_len 10 (zz n / 128); unfold intE; simp; omega
theorem rint_any (n : Int) (w : World) (h1 : -1152921504606846976 ≤ n) (h2 : n ≤ 1152921504606846976) :
    Calls Tryz.prog 47 #[.int .i64 n] w fun e w' => e = .returned (.tuple #[.string (B (intE n)), .int .i64 0]) ∧ Below w.heap.size w w' := by
  by_cases h : n < 0
  · exact rint_neg n w h1 h
  · exact rint_pos n w (by omega) h2
set_option maxHeartbeats 400000 in
theorem rtext_ok (l : List UInt8) (w : World) (h : l.length ≤ 65536) :
    Calls Tryz.prog 49 #[.string (B l)] w fun e w' => e = .returned (.tuple #[.string (B (textE l)), .int .i64 0]) ∧ Below w.heap.size w w' := by
  have hb := intE_len (l.length : Int)
  obtain ⟨x, hx⟩ : ∃ x, intE (l.length : Int) = x := ⟨_, rfl⟩
  have ht : textE l = x ++ l := by unfold textE; rw [hx]
  rw [hx] at hb
  rw [ht]
  have HX := Lib.hid hx
  clear hx ht
  go_enter Tryz.func49, Tryz.ntmps49
  go_wp2_with fail
  refine (rint_any _ _ (by omega) (by omega)).mono ?_
  rintro e w1 ⟨rfl, hb1⟩
  rw [HX.out]
  go_wp2
  go_ret2
  exact ⟨rfl, (by repeat' (first | with_reducible (first | refine bset ?_ ?_ | exact Below.refl _ _ | assumption | refine bdrewN ?_ _ | refine bdrew ?_ | refine balloc0 ?_ | refine balloc ?_ ?_ | (apply btrans0; rotate_left; assumption) | (apply btrans; rotate_left; assumption)) | exact Below.refl _ _ | assumption | (apply btrans0; rotate_left; assumption) | (apply btrans; rotate_left; assumption) | (simp; done) | omega | (simp; omega)))⟩
theorem rtext_bad (l : List UInt8) (w : World) (h : 65536 < l.length) (hl : l.length ≤ 9223372036854775807) :
    Calls Tryz.prog 49 #[.string (B l)] w fun e w' => e = .returned (.tuple #[.string (B []), .int .i64 4]) ∧ Below w.heap.size w w' := by
  go_enter Tryz.func49, Tryz.ntmps49
  go_wp2
  go_ret2
  exact ⟨rfl, (by repeat' (first | with_reducible (first | refine bset ?_ ?_ | exact Below.refl _ _ | assumption | refine bdrewN ?_ _ | refine bdrew ?_ | refine balloc0 ?_ | refine balloc ?_ ?_ | (apply btrans0; rotate_left; assumption) | (apply btrans; rotate_left; assumption)) | exact Below.refl _ _ | assumption | (apply btrans0; rotate_left; assumption) | (apply btrans; rotate_left; assumption) | (simp; done) | omega | (simp; omega)))⟩
theorem lenS_ok {l : List UInt8} {n k e : Int} (h : lenS l = (n, k, e)) : (e = 0 → 1 ≤ k ∧ k ≤ 9 ∧ k ≤ l.length ∧ 0 ≤ n ∧ n ≤ 65536) ∧ (e = 0 ∨ e = 11 ∨ e = 12) := by
  obtain ⟨⟨n', k', e'⟩, hx⟩ : ∃ x, readS l = x := ⟨_, rfl⟩
  have ho := readS_ok hx
  unfold lenS at h
  rw [hx] at h
  simp only at h
  split at h
  · simp only [Prod.mk.injEq] at h; omega
  · split at h
    · simp only [Prod.mk.injEq] at h; omega
    · simp only [Prod.mk.injEq] at h; omega
end Go.Proofs.YtpkklmkeflddkaaGreat
