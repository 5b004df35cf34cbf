/- Walks of layer 1 (varint), the reference: Text, length, ReadText. -/
import Derived.Test.YtdnbegcebloodaaBb
set_option linter.unusedVariables false
namespace Go.Proofs.Ytdnbegcebloodaa
open Go.RowKit
attribute [local go_sem] B_getElem B_size B_app B_extract B_get B_toList

theorem rdL_ok (b0 : Bool) : ∀ (f : Nat) (r : List UInt8) (m i : Nat) (n k e : Int), rdL b0 f r m i = (n, k, e) →
    (e = 0 → (i : Int) + 1 ≤ k ∧ k ≤ i + f ∧ k ≤ i + r.length ∧ -1152921504606846976 ≤ n ∧ n ≤ 1152921504606846976) ∧ (e = 0 ∨ e = 11 ∨ e = 12) ∧ (e ≠ 0 → n = 0 ∧ k = 0)
  | 0, r, m, i, n, k, e, h => by
    unfold rdL at h; simp only [Prod.mk.injEq] at h; omega
  | f + 1, [], m, i, n, k, e, h => by
    unfold rdL at h; simp only [Prod.mk.injEq] at h; omega
  | f + 1, c :: r, m, i, n, k, e, h => by
    unfold rdL at h
    by_cases z : 128 ≤ c.toNat
    · rw [if_pos z] at h
      have := rdL_ok b0 f r _ _ n k e h
      have hl : (c :: r).length = r.length + 1 := rfl
      omega
    · rw [if_neg z] at h
      have hl : (c :: r).length = r.length + 1 := rfl
      split at h
      all_goals
        extract_lets nn at h
        split at h
        · rw [Prod.mk.injEq, Prod.mk.injEq] at h; omega
        · rename_i h1
          rw [Prod.mk.injEq, Prod.mk.injEq] at h
          rw [not_or, not_or] at h1
          omega
theorem readS_ok {l : List UInt8} {n k e : Int} (h : readS l = (n, k, e)) : (e = 0 → 1 ≤ k ∧ k ≤ 9 ∧ k ≤ l.length ∧ -1152921504606846976 ≤ n ∧ n ≤ 1152921504606846976) ∧ (e = 0 ∨ e = 11 ∨ e = 12) ∧ (e ≠ 0 → n = 0 ∧ k = 0) := by
  have := rdL_ok _ 9 l 0 0 n k e h
  omega

def lenS (l : List UInt8) : Int × Int × Int :=
  if (readS l).2.2 ≠ 0 then (0, 0, (readS l).2.2)
  else if (readS l).1 < 0 ∨ 65536 < (readS l).1 then (0, 0, 11) else readS l
def textS (l : List UInt8) : List UInt8 × Int × Int :=
  if (lenS l).2.2 ≠ 0 then ([], 0, (lenS l).2.2)
  else if (l.length : Int) - (lenS l).2.1 < (lenS l).1 then ([], 0, 12)
  else ((l.drop (lenS l).2.1.toNat).take (lenS l).1.toNat, (lenS l).2.1 + (lenS l).1, 0)
def textE (l : List UInt8) : List UInt8 := intE l.length ++ l

theorem hi_len : ∀ (f m : Nat), (hi f m).length ≤ f
  | 0, _ => by simp [hi]
  | f + 1, m => by
    unfold hi; split
    · simp
    · have := hi_len f (m / 128); simp; omega
theorem intE_len (n : Int) : 1 ≤ (intE n).length ∧ (intE n).length ≤ 11 := by
  have := hi_len 10 (zz n / 128); unfold intE; simp; omega

theorem rint_any (n : Int) (w : World) (h1 : -1152921504606846976 ≤ n) (h2 : n ≤ 1152921504606846976) :
    Calls Try.prog 59 #[.int .i64 n] w fun e w' => e = .returned (.tuple #[.string (B (intE n)), .int .i64 0]) ∧ Below w.heap.size w w' := by
  by_cases h : n < 0
  · exact rint_neg n w h1 h
  · exact rint_pos n w (by omega) h2

set_option maxHeartbeats 400000 in
theorem rtext_ok (l : List UInt8) (w : World) (h : l.length ≤ 65536) :
    Calls Try.prog 60 #[.string (B l)] w fun e w' => e = .returned (.tuple #[.string (B (textE l)), .int .i64 0]) ∧ Below w.heap.size w w' := by
  have hb := intE_len (l.length : Int)
  obtain ⟨x, hx⟩ : ∃ x, intE (l.length : Int) = x := ⟨_, rfl⟩
  have ht : textE l = x ++ l := by unfold textE; rw [hx]
  rw [hx] at hb
  rw [ht]
  have HX := Lib.hid hx
  clear hx ht
  go_enter Try.func60, Try.ntmps60
  go_wp2_with fail
  refine (rint_any _ _ (by omega) (by omega)).mono ?_
  rintro e w1 ⟨rfl, hb1⟩
  rw [HX.out]
  go_wp2
  go_ret2
  exact ⟨rfl, (by repeat' (first | (with_reducible refine bset ?_ ?_) | (with_reducible exact Below.refl _ _) | (with_reducible assumption) | (with_reducible refine bdrewN ?_ _) | (with_reducible refine bdrew ?_) | (with_reducible refine balloc0 ?_) | (with_reducible refine balloc ?_ ?_) | (with_reducible apply btrans0; rotate_left; with_reducible assumption) | (with_reducible apply btrans; rotate_left; with_reducible assumption) | exact Below.refl _ _ | assumption | (apply btrans0; rotate_left; assumption) | (apply btrans; rotate_left; assumption) | (simp; done) | omega | (simp; omega)))⟩
theorem rtext_bad (l : List UInt8) (w : World) (h : 65536 < l.length) (hl : l.length ≤ 9223372036854775807) :
    Calls Try.prog 60 #[.string (B l)] w fun e w' => e = .returned (.tuple #[.string (B []), .int .i64 4]) ∧ Below w.heap.size w w' := by
  go_enter Try.func60, Try.ntmps60
  go_wp2
  go_ret2
  exact ⟨rfl, (by repeat' (first | (with_reducible refine bset ?_ ?_) | (with_reducible exact Below.refl _ _) | (with_reducible assumption) | (with_reducible refine bdrewN ?_ _) | (with_reducible refine bdrew ?_) | (with_reducible refine balloc0 ?_) | (with_reducible refine balloc ?_ ?_) | (with_reducible apply btrans0; rotate_left; with_reducible assumption) | (with_reducible apply btrans; rotate_left; with_reducible assumption) | exact Below.refl _ _ | assumption | (apply btrans0; rotate_left; assumption) | (apply btrans; rotate_left; assumption) | (simp; done) | omega | (simp; omega)))⟩

set_option maxHeartbeats 400000 in
theorem rlength_any (l : List UInt8) (n k e : Int) (w : World) (hl : l.length ≤ 9223372036854775807) (hr : lenS l = (n, k, e)) :
    Calls Try.prog 78 #[.string (B l)] w fun e' w' => e' = .returned (.tuple #[.int .i64 n, .int .i64 k, .int .i64 e]) ∧ w = w' := by
  obtain ⟨⟨n', k', e'⟩, hx⟩ : ∃ x, readS l = x := ⟨_, rfl⟩
  have ho := readS_ok hx
  unfold lenS at hr
  rw [hx] at hr
  simp only at hr
  have HX := Lib.hid hx
  clear hx
  by_cases z : e' = 0
  · subst z
    rw [if_neg (by simp)] at hr
    obtain ⟨ho, _, _⟩ := ho
    obtain ⟨o1, o2, o3, o4, o5⟩ := ho rfl
    by_cases z2 : n' < 0
    · rw [if_pos (.inl z2)] at hr
      obtain ⟨rfl, rfl, rfl⟩ : 0 = n ∧ 0 = k ∧ 11 = e := by simpa using hr
      clear hr
      go_enter Try.func78, Try.ntmps78
      go_wp2_with fail
      refine (rreadint_any l n' k' 0 _ hl HX.out).mono ?_
      rintro e w1 ⟨rfl, rfl⟩
      go_wp2
      go_ret3
      exact ⟨rfl, rfl⟩
    by_cases z3 : 65536 < n'
    · rw [if_pos (.inr z3)] at hr
      obtain ⟨rfl, rfl, rfl⟩ : 0 = n ∧ 0 = k ∧ 11 = e := by simpa using hr
      clear hr
      go_enter Try.func78, Try.ntmps78
      go_wp2_with fail
      refine (rreadint_any l n' k' 0 _ hl HX.out).mono ?_
      rintro e w1 ⟨rfl, rfl⟩
      go_wp2
      go_ret3
      exact ⟨rfl, rfl⟩
    · rw [if_neg (by omega)] at hr
      obtain ⟨rfl, rfl, rfl⟩ : n' = n ∧ k' = k ∧ 0 = e := by simpa using hr
      clear hr
      go_enter Try.func78, Try.ntmps78
      go_wp2_with fail
      refine (rreadint_any l n' k' 0 _ hl HX.out).mono ?_
      rintro e w1 ⟨rfl, rfl⟩
      go_wp2
      go_ret3
      exact ⟨rfl, rfl⟩
  · rw [if_pos z] at hr
    obtain ⟨rfl, rfl, rfl⟩ : 0 = n ∧ 0 = k ∧ e' = e := by simpa using hr
    have z' : (e' != 0) = true := by simpa using z
    clear hr z
    go_enter Try.func78, Try.ntmps78
    go_wp2_with fail
    refine (rreadint_any l n' k' e' _ hl HX.out).mono ?_
    rintro e w1 ⟨rfl, rfl⟩
    go_wp2
    go_ret3
    exact ⟨rfl, rfl⟩

theorem lenS_ok {l : List UInt8} {n k e : Int} (h : lenS l = (n, k, e)) : (e = 0 → 1 ≤ k ∧ k ≤ 9 ∧ k ≤ l.length ∧ 0 ≤ n ∧ n ≤ 65536) ∧ (e = 0 ∨ e = 11 ∨ e = 12) := by
  obtain ⟨⟨n', k', e'⟩, hx⟩ : ∃ x, readS l = x := ⟨_, rfl⟩
  have ho := readS_ok hx
  unfold lenS at h
  rw [hx] at h
  simp only at h
  split at h
  · simp only [Prod.mk.injEq] at h; omega
  · split at h
    · simp only [Prod.mk.injEq] at h; omega
    · simp only [Prod.mk.injEq] at h; omega

set_option maxHeartbeats 400000 in
set_option maxRecDepth 100000 in
theorem rreadtext_any (l t : List UInt8) (k e : Int) (w : World) (hl : l.length ≤ 9223372036854000000) (hr : textS l = (t, k, e)) :
    Calls Try.prog 67 #[.string (B l)] w fun e' w' => e' = .returned (.tuple #[.string (B t), .int .i64 k, .int .i64 e]) ∧ w = w' := by
  obtain ⟨⟨n', k', e'⟩, hx⟩ : ∃ x, lenS l = x := ⟨_, rfl⟩
  have ho := lenS_ok hx
  unfold textS at hr
  rw [hx] at hr
  simp only at hr
  have HX := Lib.hid hx
  clear hx
  by_cases z : e' = 0
  · subst z
    rw [if_neg (by simp)] at hr
    obtain ⟨ho, _⟩ := ho
    obtain ⟨o1, o2, o3, o4, o5⟩ := ho rfl
    clear ho
    obtain ⟨k', rfl⟩ := Int.eq_ofNat_of_zero_le (show 0 ≤ k' by omega)
    obtain ⟨n', rfl⟩ := Int.eq_ofNat_of_zero_le o4
    by_cases z2 : (l.length : Int) - (k' : Int) < (n' : Int)
    · rw [if_pos z2] at hr
      obtain ⟨rfl, rfl, rfl⟩ : [] = t ∧ 0 = k ∧ 12 = e := by simpa using hr
      clear hr
      go_enter Try.func67, Try.ntmps67
      go_wp2_with fail
      refine (rlength_any l n' k' 0 _ (by omega) HX.out).mono ?_
      rintro e w1 ⟨rfl, rfl⟩
      go_wp2
      go_ret3
      exact ⟨rfl, rfl⟩
    · rw [if_neg z2] at hr
      simp only [Int.toNat_natCast, Prod.mk.injEq] at hr
      obtain ⟨rfl, rfl, rfl⟩ := hr
      have z3 : k' + n' ≤ l.length := by omega
      go_enter Try.func67, Try.ntmps67
      go_wp2_with fail
      refine (rlength_any l n' k' 0 _ (by omega) HX.out).mono ?_
      rintro e w1 ⟨rfl, rfl⟩
      go_wp2
      have hsl := run_slice_string (P := Try.prog) w 9 (B l) .i64 .i64 (k' : Int) ((k' : Int) + (n' : Int)) Try.underlying9 (by omega) (by omega) (by rw [B_size]; omega)
      rw [hsl]
      go_wp2
      go_ret3
      refine ⟨?_, rfl⟩
      have e1 : ((k' : Int) + (n' : Int)).toNat - k' = n' := by omega
      simp only [B_extract, e1, Int.toNat_natCast]
      rfl
  · rw [if_pos z] at hr
    obtain ⟨rfl, rfl, rfl⟩ : [] = t ∧ 0 = k ∧ e' = e := by simpa using hr
    have z' : (e' != 0) = true := by simpa using z
    clear hr z
    go_enter Try.func67, Try.ntmps67
    go_wp2_with fail
    refine (rlength_any l n' k' e' _ (by omega) HX.out).mono ?_
    rintro e w1 ⟨rfl, rfl⟩
    go_wp2
    go_ret3
    exact ⟨rfl, rfl⟩
end Go.Proofs.Ytdnbegcebloodaa
