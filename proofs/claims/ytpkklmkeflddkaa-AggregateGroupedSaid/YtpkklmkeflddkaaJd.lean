/- Joined by port.py: XBa XBb XBc -/
import Derived.Test.YtpkklmkeflddkaaJa
import Derived.Test.YtpkklmkeflddkaaProg
import Derived.Test.YtpkklmkeflddkaaJb
set_option linter.unusedVariables false
set_option linter.unusedSimpArgs false
/-! XBa -/
namespace Go.Proofs.Ytpkklmkeflddkaa
open Go.RowKit
theorem conv1 (n : Int) (w : World) : (convert 98 9 (.slice (some ⟨w.heap.size, 0, none⟩) 1 1)).run Try.prog (w.alloc (.cells #[.int .u8 n] 5)) = .ok (.string (B [UInt8.ofNat n.toNat])) (w.alloc (.cells #[.int .u8 n] 5)) := by
  refine run_convert_bytes_arg _ 98 5 Try.underlying98 Try.underlying5 w.heap.size 0 1 1 [n] rfl (fun i hi => ?_) 9 Try.underlying9
  obtain rfl : i = 0 := by omega
  go_simp
attribute [local go_sem] B_size B_app B_extract B_get B_toList
attribute [local go_sem ↓] conv1
/-- the number whose groups encode an integer -/
def zz (n : Int) : Nat := if n < 0 then (-2 * n - 1).toNat else (2 * n).toNat
/-- all groups but the last one -/
def hi : Nat → Nat → List UInt8
  | 0, _ => []
  | f + 1, m => if m = 0 then [] else hi f (m / 128) ++ [UInt8.ofNat (128 + m % 128)]
def intE (n : Int) : List UInt8 := hi 10 (zz n / 128) ++ [UInt8.ofNat (zz n % 128)]
theorem zz_lt {n : Int} (h1 : -1152921504606846976 ≤ n) (h2 : n ≤ 1152921504606846976) : zz n ≤ 2305843009213693952 := by unfold zz; split <;> omega
end Go.Proofs.Ytpkklmkeflddkaa
/-! XBb -/
namespace Go.Proofs.Ytpkklmkeflddkaa
open Go.RowKit
attribute [local go_sem] B_getElem B_size B_app B_extract B_get B_toList
/-- what the reader of integers answers: the integer, its size, the error -/
def rdL (b0 : Bool) : Nat → List UInt8 → Nat → Nat → Int × Int × Int
  | 0, _, _, _ => (0, 0, 11)
  | _ + 1, [], _, _ => (0, 0, 12)
  | f + 1, c :: r, m, i =>
    if 128 ≤ c.toNat then rdL b0 f r (m * 128 + c.toNat % 128) (i + 1)
    else
      let n : Int := if (m * 128 + c.toNat % 128) % 2 = 1 then -(((m * 128 + c.toNat % 128 + 1) / 2 : Nat) : Int) else (((m * 128 + c.toNat % 128) / 2 : Nat) : Int)
      if b0 = true ∨ n < -1152921504606846976 ∨ 1152921504606846976 < n then (0, 0, 11) else (n, (i : Int) + 1, 0)
def readS (l : List UInt8) : Int × Int × Int := rdL (l.head? == some 128) 9 l 0 0
theorem odd_eq (M c : Nat) (h1 : M ≤ 72057594037927935) (h2 : c < 256) (hp : (M * 128 + c % 128) % 2 = 1) : wrap64 ((wrap64 (-wrap64 ((M : Int) * 128 + (c : Int) % 128 + 1))).tdiv 2) = -(((M * 128 + c % 128 + 1) / 2 : Nat) : Int) := by
  obtain ⟨X, hX⟩ : ∃ X, M * 128 + c % 128 = X := ⟨_, rfl⟩
  have e : (M : Int) * 128 + (c : Int) % 128 = (X : Int) := by omega
  have hb : X ≤ 9223372036854775807 := by omega
  rw [hX] at hp ⊢
  rw [e]
  clear e hX
  unfold wrap64
  by_cases h : X = 9223372036854775807
  · subst h; decide
  · have e1 : ((X : Int) + 1 + 9223372036854775808) % 18446744073709551616 - 9223372036854775808 = (X : Int) + 1 := by omega
    have e2 : (-((X : Int) + 1) + 9223372036854775808) % 18446744073709551616 - 9223372036854775808 = -((X : Int) + 1) := by omega
    rw [e1, e2, Int.neg_tdiv, Int.tdiv_eq_ediv_of_nonneg (by omega)]
    omega
set_option maxRecDepth 100000 in
set_option maxHeartbeats 1600000 in
theorem rreadint_any (l : List UInt8) (n k e : Int) (w : World) (hl : l.length ≤ 9223372036854775807) (hr : readS l = (n, k, e)) :
    Calls Try.prog 33 #[.string (B l)] w fun e' w' => e' = .returned (.tuple #[.int .i64 n, .int .i64 k, .int .i64 e]) ∧ w = w' := by
  obtain ⟨b0, hb0⟩ : ∃ b, (l.head? == some 128) = b := ⟨_, rfl⟩
  have HB := Lib.hid hb0
  have HR : Hid (rdL b0 9 l 0 0 = (n, k, e)) := by unfold readS at hr; rw [hb0] at hr; exact hr
  clear hb0 hr
  go_enter Try.func33, Try.ntmps33
  go_wp2
  go_loop [5, 6] (fun m i => ∃ j M : Nat, j ≤ 9 ∧ j ≤ l.length ∧ i = .int .i64 (j : Int) ∧ m = .int .i64 (M : Int) ∧ M < 128 ^ j ∧ rdL b0 (9 - j) (l.drop j) M j = (n, k, e)) (fun _ i => 9 - (intOf i).toNat)
  case atStart => exact ⟨0, 0, by omega, by omega, rfl, rfl, by omega, HR.out⟩
  case round =>
    obtain ⟨j, M, hj, hjl, rfl, rfl, hM, hh⟩ := hrel
    have HH := Lib.hid hh
    have hM9 : M < 9223372036854775808 := Nat.lt_of_lt_of_le hM (by have : 128 ^ j ≤ 128 ^ 9 := Nat.pow_le_pow_right (by omega) hj; omega)
    have HM := Lib.hid hM
    clear hh hM
    by_cases z : j = 9
    · subst z
      have h := HH.out
      have : (n = 0 ∧ k = 0) ∧ e = 11 := by
        have h' := h; simp only [Nat.sub_self] at h'; unfold rdL at h'; simp only [Prod.mk.injEq] at h'; omega
      obtain ⟨⟨rfl, rfl⟩, rfl⟩ := this
      clear h
      go_wp2
      go_ret3
      exact ⟨rfl, rfl⟩
    by_cases z2 : l.length ≤ j
    · have : (n = 0 ∧ k = 0) ∧ e = 12 := by
        have h' := HH.out
        rw [List.drop_eq_nil_of_le z2, show 9 - j = (8 - j) + 1 by omega] at h'; unfold rdL at h'; simp only [Prod.mk.injEq] at h'; omega
      obtain ⟨⟨rfl, rfl⟩, rfl⟩ := this
      have hlt : j < 9 := by omega
      go_wp2
      go_ret3
      exact ⟨rfl, rfl⟩
    · have hlt : j < 9 := by omega
      have hlt2 : j < l.length := by omega
      obtain ⟨c, hc⟩ : ∃ c, l[j]'hlt2 = c := ⟨_, rfl⟩
      obtain ⟨d, hd⟩ : ∃ d, l[0]'(by omega) = d := ⟨_, rfl⟩
      have hcb : c.toNat < 256 := c.toNat_lt
      have hdb : d.toNat < 256 := d.toNat_lt
      have h0 : 0 < l.length := by omega
      have hM8 : M ≤ 72057594037927935 := by
        have h1 := HM.out
        have : 128 ^ j ≤ 128 ^ 8 := Nat.pow_le_pow_right (by omega) (by omega)
        omega
      have hstep : rdL b0 (8 - j + 1) (c :: l.drop (j + 1)) M j = (n, k, e) := by
        have h1 := HH.out
        rw [List.drop_eq_getElem_cons hlt2, hc, show 9 - j = (8 - j) + 1 by omega] at h1; exact h1
      have hbd : b0 = true ↔ d.toNat = 128 := by
        have h1 := HB.out
        cases l with
        | nil => simp at h0
        | cons x xs =>
          simp at hd h1
          subst hd
          rw [← h1, beq_iff_eq]
          constructor
          · rintro rfl; rfl
          · intro h; exact UInt8.toNat_inj.1 h
      have HBD := Lib.hid hbd
      unfold rdL at hstep
      clear hbd
      by_cases z3 : 128 ≤ c.toNat
      · rw [if_pos z3] at hstep
        have HS := Lib.hid hstep
        clear hstep
        go_wp2_with fail
        go_round
        case rel =>
          refine ⟨j + 1, M * 128 + c.toNat % 128, by omega, by omega, by go_num, by simp, ?_, ?_⟩
          · have h1 := HM.out
            rw [Nat.pow_succ]; omega
          · rw [show 9 - (j + 1) = 8 - j by omega]; exact HS.out
        case measure => simp [intOf]; omega
      · rw [if_neg z3] at hstep
        have HS := Lib.hid hstep
        clear hstep
        have z4 : c.toNat < 128 := by omega
        by_cases hp : (M * 128 + c.toNat % 128) % 2 = 1
        · have z5 : (((M : Int) * 128 + (c.toNat : Int) % 128) % 2 == 1) = true := by rw [beq_iff_eq]; omega
          obtain ⟨N, hN⟩ : ∃ N : Int, N = (-(((M * 128 + c.toNat % 128 + 1) / 2 : Nat) : Int)) := ⟨_, rfl⟩
          have hq : wrap64 ((wrap64 (-wrap64 ((M : Int) * 128 + (c.toNat : Int) % 128 + 1))).tdiv 2) = N := by rw [hN]; exact odd_eq M c.toNat hM8 hcb hp
          have hs : (if b0 = true ∨ N < -1152921504606846976 ∨ 1152921504606846976 < N then ((0, 0, 11) : Int × Int × Int) else (N, (j : Int) + 1, 0)) = (n, k, e) := by
            rw [hN]; have h1 := HS.out; rw [if_pos hp] at h1; exact h1
          clear hN
          by_cases t1 : d.toNat = 128
          · rw [if_pos (.inl (HBD.out.2 t1))] at hs
            obtain ⟨rfl, rfl, rfl⟩ : 0 = n ∧ 0 = k ∧ 11 = e := by simpa using hs
            clear hs
            have t1' : ((d.toNat : Int) == 128) = true := by rw [beq_iff_eq]; omega
            go_wp2_with fail
            all_goals (go_ret3; exact ⟨rfl, rfl⟩)
          have t1' : ((d.toNat : Int) == 128) = false := by rw [beq_eq_false_iff_ne]; omega
          have tb : b0 = false := by cases hb : b0 with
            | true => exact absurd (HBD.out.1 hb) t1
            | false => rfl
          by_cases t2 : N < -1152921504606846976
          · rw [if_pos (.inr (.inl t2))] at hs
            obtain ⟨rfl, rfl, rfl⟩ : 0 = n ∧ 0 = k ∧ 11 = e := by simpa using hs
            clear hs
            go_wp2_with fail
            all_goals (go_ret3; exact ⟨rfl, rfl⟩)
          by_cases t3 : 1152921504606846976 < N
          · rw [if_pos (.inr (.inr t3))] at hs
            obtain ⟨rfl, rfl, rfl⟩ : 0 = n ∧ 0 = k ∧ 11 = e := by simpa using hs
            clear hs
            go_wp2_with fail
            all_goals (go_ret3; exact ⟨rfl, rfl⟩)
          · rw [if_neg (by rw [tb]; simp; omega)] at hs
            obtain ⟨rfl, rfl, rfl⟩ : N = n ∧ (j : Int) + 1 = k ∧ 0 = e := by simpa using hs
            clear hs tb
            go_wp2_with fail
            all_goals (go_ret3; exact ⟨rfl, rfl⟩)
        · have z5 : (((M : Int) * 128 + (c.toNat : Int) % 128) % 2 == 1) = false := by rw [beq_eq_false_iff_ne]; omega
          obtain ⟨N, hN⟩ : ∃ N : Int, N = (((M * 128 + c.toNat % 128) / 2 : Nat) : Int) := ⟨_, rfl⟩
          have hq : ((M : Int) * 128 + (c.toNat : Int) % 128) / 2 = N := by rw [hN]; omega
          have hs : (if b0 = true ∨ N < -1152921504606846976 ∨ 1152921504606846976 < N then ((0, 0, 11) : Int × Int × Int) else (N, (j : Int) + 1, 0)) = (n, k, e) := by
            rw [hN]; have h1 := HS.out; rw [if_neg hp] at h1; exact h1
          clear hN
          by_cases t1 : d.toNat = 128
          · rw [if_pos (.inl (HBD.out.2 t1))] at hs
            obtain ⟨rfl, rfl, rfl⟩ : 0 = n ∧ 0 = k ∧ 11 = e := by simpa using hs
            clear hs
            have t1' : ((d.toNat : Int) == 128) = true := by rw [beq_iff_eq]; omega
            go_wp2_with fail
            all_goals (go_ret3; exact ⟨rfl, rfl⟩)
          have t1' : ((d.toNat : Int) == 128) = false := by rw [beq_eq_false_iff_ne]; omega
          have tb : b0 = false := by cases hb : b0 with
            | true => exact absurd (HBD.out.1 hb) t1
            | false => rfl
          by_cases t2 : N < -1152921504606846976
          · rw [if_pos (.inr (.inl t2))] at hs
            obtain ⟨rfl, rfl, rfl⟩ : 0 = n ∧ 0 = k ∧ 11 = e := by simpa using hs
            clear hs
            go_wp2_with fail
            all_goals (go_ret3; exact ⟨rfl, rfl⟩)
          by_cases t3 : 1152921504606846976 < N
          · rw [if_pos (.inr (.inr t3))] at hs
            obtain ⟨rfl, rfl, rfl⟩ : 0 = n ∧ 0 = k ∧ 11 = e := by simpa using hs
            clear hs
            go_wp2_with fail
            all_goals (go_ret3; exact ⟨rfl, rfl⟩)
          · rw [if_neg (by rw [tb]; simp; omega)] at hs
            obtain ⟨rfl, rfl, rfl⟩ : N = n ∧ (j : Int) + 1 = k ∧ 0 = e := by simpa using hs
            clear hs tb
            go_wp2_with fail
            all_goals (go_ret3; exact ⟨rfl, rfl⟩)
end Go.Proofs.Ytpkklmkeflddkaa
/-! XBc -/
namespace Go.Proofs.Ytpkklmkeflddkaa
open Go.RowKit
attribute [local go_sem] B_getElem B_size B_app B_extract B_get B_toList
theorem rdL_ok (b0 : Bool) : ∀ (f : Nat) (r : List UInt8) (m i : Nat) (n k e : Int), rdL b0 f r m i = (n, k, e) →
    (e = 0 → (i : Int) + 1 ≤ k ∧ k ≤ i + f ∧ k ≤ i + r.length ∧ -1152921504606846976 ≤ n ∧ n ≤ 1152921504606846976) ∧ (e = 0 ∨ e = 11 ∨ e = 12) ∧ (e ≠ 0 → n = 0 ∧ k = 0)
  | 0, r, m, i, n, k, e, h => by
    unfold rdL at h; simp only [Prod.mk.injEq] at h; omega
  | f + 1, [], m, i, n, k, e, h => by
    unfold rdL at h; simp only [Prod.mk.injEq] at h; omega
  | f + 1, c :: r, m, i, n, k, e, h => by
    unfold rdL at h
    by_cases z : 128 ≤ c.toNat
    · rw [if_pos z] at h
      have := rdL_ok b0 f r _ _ n k e h
      have hl : (c :: r).length = r.length + 1 := rfl
      omega
    · rw [if_neg z] at h
      have hl : (c :: r).length = r.length + 1 := rfl
      split at h
      all_goals
        extract_lets nn at h
        split at h
        · rw [Prod.mk.injEq, Prod.mk.injEq] at h; omega
        · rename_i h1
          rw [Prod.mk.injEq, Prod.mk.injEq] at h
          rw [not_or, not_or] at h1
          omega
theorem readS_ok {l : List UInt8} {n k e : Int} (h : readS l = (n, k, e)) : (e = 0 → 1 ≤ k ∧ k ≤ 9 ∧ k ≤ l.length ∧ -1152921504606846976 ≤ n ∧ n ≤ 1152921504606846976) ∧ (e = 0 ∨ e = 11 ∨ e = 12) ∧ (e ≠ 0 → n = 0 ∧ k = 0) := by
  have := rdL_ok _ 9 l 0 0 n k e h
  omega
def lenS (l : List UInt8) : Int × Int × Int :=
  if (readS l).2.2 ≠ 0 then (0, 0, (readS l).2.2)
  else if (readS l).1 < 0 ∨ 65536 < (readS l).1 then (0, 0, 11) else readS l
def textS (l : List UInt8) : List UInt8 × Int × Int :=
  if (lenS l).2.2 ≠ 0 then ([], 0, (lenS l).2.2)
  else if (l.length : Int) - (lenS l).2.1 < (lenS l).1 then ([], 0, 12)
  else ((l.drop (lenS l).2.1.toNat).take (lenS l).1.toNat, (lenS l).2.1 + (lenS l).1, 0)
def textE (l : List UInt8) : List UInt8 := intE l.length ++ l
theorem hi_len : ∀ (f m : Nat), (hi f m).length ≤ f
  | 0, _ => by simp [hi]
  | f + 1, m => by
    unfold hi; split
    · simp
    · have := hi_len f (m / 128); simp; omega
theorem intE_len (n : Int) : 1 ≤ (intE n).length ∧ (intE n).length ≤ 11 := by
  have := hi_len 10 (zz n / 128); unfold intE; simp; omega
set_option maxHeartbeats 400000 in
theorem rlength_any (l : List UInt8) (n k e : Int) (w : World) (hl : l.length ≤ 9223372036854775807) (hr : lenS l = (n, k, e)) :
    Calls Try.prog 70 #[.string (B l)] w fun e' w' => e' = .returned (.tuple #[.int .i64 n, .int .i64 k, .int .i64 e]) ∧ w = w' := by
  obtain ⟨⟨n', k', e'⟩, hx⟩ : ∃ x, readS l = x := ⟨_, rfl⟩
  have ho := readS_ok hx
  unfold lenS at hr
  rw [hx] at hr
  simp only at hr
  have HX := Lib.hid hx
  clear hx
  by_cases z : e' = 0
  · subst z
    rw [if_neg (by simp)] at hr
    obtain ⟨ho, _, _⟩ := ho
    obtain ⟨o1, o2, o3, o4, o5⟩ := ho rfl
    by_cases z2 : n' < 0
    · rw [if_pos (.inl z2)] at hr
      obtain ⟨rfl, rfl, rfl⟩ : 0 = n ∧ 0 = k ∧ 11 = e := by simpa using hr
      clear hr
      go_enter Try.func70, Try.ntmps70
      go_wp2_with fail
      refine (rreadint_any l n' k' 0 _ hl HX.out).mono ?_
      rintro e w1 ⟨rfl, rfl⟩
      go_wp2
      go_ret3
      exact ⟨rfl, rfl⟩
    by_cases z3 : 65536 < n'
    · rw [if_pos (.inr z3)] at hr
      obtain ⟨rfl, rfl, rfl⟩ : 0 = n ∧ 0 = k ∧ 11 = e := by simpa using hr
      clear hr
      go_enter Try.func70, Try.ntmps70
      go_wp2_with fail
      refine (rreadint_any l n' k' 0 _ hl HX.out).mono ?_
      rintro e w1 ⟨rfl, rfl⟩
      go_wp2
      go_ret3
      exact ⟨rfl, rfl⟩
    · rw [if_neg (by omega)] at hr
      obtain ⟨rfl, rfl, rfl⟩ : n' = n ∧ k' = k ∧ 0 = e := by simpa using hr
      clear hr
      go_enter Try.func70, Try.ntmps70
      go_wp2_with fail
      refine (rreadint_any l n' k' 0 _ hl HX.out).mono ?_
      rintro e w1 ⟨rfl, rfl⟩
      go_wp2
      go_ret3
      exact ⟨rfl, rfl⟩
  · rw [if_pos z] at hr
    obtain ⟨rfl, rfl, rfl⟩ : 0 = n ∧ 0 = k ∧ e' = e := by simpa using hr
    have z' : (e' != 0) = true := by simpa using z
    clear hr z
    go_enter Try.func70, Try.ntmps70
    go_wp2_with fail
    refine (rreadint_any l n' k' e' _ hl HX.out).mono ?_
    rintro e w1 ⟨rfl, rfl⟩
    go_wp2
    go_ret3
    exact ⟨rfl, rfl⟩
theorem lenS_ok {l : List UInt8} {n k e : Int} (h : lenS l = (n, k, e)) : (e = 0 → 1 ≤ k ∧ k ≤ 9 ∧ k ≤ l.length ∧ 0 ≤ n ∧ n ≤ 65536) ∧ (e = 0 ∨ e = 11 ∨ e = 12) := by
  obtain ⟨⟨n', k', e'⟩, hx⟩ : ∃ x, readS l = x := ⟨_, rfl⟩
  have ho := readS_ok hx
  unfold lenS at h
  rw [hx] at h
  simp only at h
  split at h
  · simp only [Prod.mk.injEq] at h; omega
  · split at h
    · simp only [Prod.mk.injEq] at h; omega
    · simp only [Prod.mk.injEq] at h; omega
set_option maxHeartbeats 400000 in
set_option maxRecDepth 100000 in
theorem rreadtext_any (l t : List UInt8) (k e : Int) (w : World) (hl : l.length ≤ 9223372036854000000) (hr : textS l = (t, k, e)) :
    Calls Try.prog 34 #[.string (B l)] w fun e' w' => e' = .returned (.tuple #[.string (B t), .int .i64 k, .int .i64 e]) ∧ w = w' := by
  obtain ⟨⟨n', k', e'⟩, hx⟩ : ∃ x, lenS l = x := ⟨_, rfl⟩
  have ho := lenS_ok hx
  unfold textS at hr
  rw [hx] at hr
  simp only at hr
  have HX := Lib.hid hx
  clear hx
  by_cases z : e' = 0
  · subst z
    rw [if_neg (by simp)] at hr
    obtain ⟨ho, _⟩ := ho
    obtain ⟨o1, o2, o3, o4, o5⟩ := ho rfl
    clear ho
    obtain ⟨k', rfl⟩ := Int.eq_ofNat_of_zero_le (show 0 ≤ k' by omega)
    obtain ⟨n', rfl⟩ := Int.eq_ofNat_of_zero_le o4
    by_cases z2 : (l.length : Int) - (k' : Int) < (n' : Int)
    · rw [if_pos z2] at hr
      obtain ⟨rfl, rfl, rfl⟩ : [] = t ∧ 0 = k ∧ 12 = e := by simpa using hr
      clear hr
      go_enter Try.func34, Try.ntmps34
      go_wp2_with fail
      refine (rlength_any l n' k' 0 _ (by omega) HX.out).mono ?_
      rintro e w1 ⟨rfl, rfl⟩
      go_wp2
      go_ret3
      exact ⟨rfl, rfl⟩
    · rw [if_neg z2] at hr
      simp only [Int.toNat_natCast, Prod.mk.injEq] at hr
      obtain ⟨rfl, rfl, rfl⟩ := hr
      have z3 : k' + n' ≤ l.length := by omega
      go_enter Try.func34, Try.ntmps34
      go_wp2_with fail
      refine (rlength_any l n' k' 0 _ (by omega) HX.out).mono ?_
      rintro e w1 ⟨rfl, rfl⟩
      go_wp2
      have hsl := run_slice_string (P := Try.prog) w 9 (B l) .i64 .i64 (k' : Int) ((k' : Int) + (n' : Int)) Try.underlying9 (by omega) (by omega) (by rw [B_size]; omega)
      rw [hsl]
      go_wp2
      go_ret3
      refine ⟨?_, rfl⟩
      have e1 : ((k' : Int) + (n' : Int)).toNat - k' = n' := by omega
      simp only [B_extract, e1, Int.toNat_natCast]
      rfl
  · rw [if_pos z] at hr
    obtain ⟨rfl, rfl, rfl⟩ : [] = t ∧ 0 = k ∧ e' = e := by simpa using hr
    have z' : (e' != 0) = true := by simpa using z
    clear hr z
    go_enter Try.func34, Try.ntmps34
    go_wp2_with fail
    refine (rlength_any l n' k' e' _ (by omega) HX.out).mono ?_
    rintro e w1 ⟨rfl, rfl⟩
    go_wp2
    go_ret3
    exact ⟨rfl, rfl⟩
end Go.Proofs.Ytpkklmkeflddkaa
