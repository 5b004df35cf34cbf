/- Walk of layer 1 (varint), the reference: ReadInt. -/
import Derived.Test.YtdnbegcebloodaaBa
set_option linter.unusedVariables false
namespace Go.Proofs.Ytdnbegcebloodaa
open Go.RowKit
attribute [local go_sem] B_getElem B_size B_app B_extract B_get B_toList

/-- what the reader of integers answers: the integer, its size, the error -/
def rdL (b0 : Bool) : Nat → List UInt8 → Nat → Nat → Int × Int × Int
  | 0, _, _, _ => (0, 0, 11)
  | _ + 1, [], _, _ => (0, 0, 12)
  | f + 1, c :: r, m, i =>
    if 128 ≤ c.toNat then rdL b0 f r (m * 128 + c.toNat % 128) (i + 1)
    else
      let n : Int := if (m * 128 + c.toNat % 128) % 2 = 1 then -(((m * 128 + c.toNat % 128 + 1) / 2 : Nat) : Int) else (((m * 128 + c.toNat % 128) / 2 : Nat) : Int)
      if b0 = true ∨ n < -1152921504606846976 ∨ 1152921504606846976 < n then (0, 0, 11) else (n, (i : Int) + 1, 0)
def readS (l : List UInt8) : Int × Int × Int := rdL (l.head? == some 128) 9 l 0 0

theorem odd_eq (M c : Nat) (h1 : M ≤ 72057594037927935) (h2 : c < 256) (hp : (M * 128 + c % 128) % 2 = 1) : wrap64 ((wrap64 (-wrap64 ((M : Int) * 128 + (c : Int) % 128 + 1))).tdiv 2) = -(((M * 128 + c % 128 + 1) / 2 : Nat) : Int) := by
  obtain ⟨X, hX⟩ : ∃ X, M * 128 + c % 128 = X := ⟨_, rfl⟩
  have e : (M : Int) * 128 + (c : Int) % 128 = (X : Int) := by omega
  have hb : X ≤ 9223372036854775807 := by omega
  rw [hX] at hp ⊢
  rw [e]
  clear e hX
  unfold wrap64
  by_cases h : X = 9223372036854775807
  · subst h; decide
  · have e1 : ((X : Int) + 1 + 9223372036854775808) % 18446744073709551616 - 9223372036854775808 = (X : Int) + 1 := by omega
    have e2 : (-((X : Int) + 1) + 9223372036854775808) % 18446744073709551616 - 9223372036854775808 = -((X : Int) + 1) := by omega
    rw [e1, e2, Int.neg_tdiv, Int.tdiv_eq_ediv_of_nonneg (by omega)]
    omega

set_option maxRecDepth 100000 in
set_option maxHeartbeats 1600000 in
theorem rreadint_any (l : List UInt8) (n k e : Int) (w : World) (hl : l.length ≤ 9223372036854775807) (hr : readS l = (n, k, e)) :
    Calls Try.prog 66 #[.string (B l)] w fun e' w' => e' = .returned (.tuple #[.int .i64 n, .int .i64 k, .int .i64 e]) ∧ w = w' := by
  obtain ⟨b0, hb0⟩ : ∃ b, (l.head? == some 128) = b := ⟨_, rfl⟩
  have HB := Lib.hid hb0
  have HR : Hid (rdL b0 9 l 0 0 = (n, k, e)) := by unfold readS at hr; rw [hb0] at hr; exact hr
  clear hb0 hr
  go_enter Try.func66, Try.ntmps66
  go_wp2
  go_loop [5, 6] (fun m i => ∃ j M : Nat, j ≤ 9 ∧ j ≤ l.length ∧ i = .int .i64 (j : Int) ∧ m = .int .i64 (M : Int) ∧ M < 128 ^ j ∧ rdL b0 (9 - j) (l.drop j) M j = (n, k, e)) (fun _ i => 9 - (intOf i).toNat)
  case atStart => exact ⟨0, 0, by omega, by omega, rfl, rfl, by omega, HR.out⟩
  case round =>
    obtain ⟨j, M, hj, hjl, rfl, rfl, hM, hh⟩ := hrel
    have HH := Lib.hid hh
    have hM9 : M < 9223372036854775808 := Nat.lt_of_lt_of_le hM (by have : 128 ^ j ≤ 128 ^ 9 := Nat.pow_le_pow_right (by omega) hj; omega)
    have HM := Lib.hid hM
    clear hh hM
    by_cases z : j = 9
    · subst z
      have h := HH.out
      have : (n = 0 ∧ k = 0) ∧ e = 11 := by
        have h' := h; simp only [Nat.sub_self] at h'; unfold rdL at h'; simp only [Prod.mk.injEq] at h'; omega
      obtain ⟨⟨rfl, rfl⟩, rfl⟩ := this
      clear h
      go_wp2
      go_ret3
      exact ⟨rfl, rfl⟩
    by_cases z2 : l.length ≤ j
    · have : (n = 0 ∧ k = 0) ∧ e = 12 := by
        have h' := HH.out
        rw [List.drop_eq_nil_of_le z2, show 9 - j = (8 - j) + 1 by omega] at h'; unfold rdL at h'; simp only [Prod.mk.injEq] at h'; omega
      obtain ⟨⟨rfl, rfl⟩, rfl⟩ := this
      have hlt : j < 9 := by omega
      go_wp2
      go_ret3
      exact ⟨rfl, rfl⟩
    · have hlt : j < 9 := by omega
      have hlt2 : j < l.length := by omega
      obtain ⟨c, hc⟩ : ∃ c, l[j]'hlt2 = c := ⟨_, rfl⟩
      obtain ⟨d, hd⟩ : ∃ d, l[0]'(by omega) = d := ⟨_, rfl⟩
      have hcb : c.toNat < 256 := c.toNat_lt
      have hdb : d.toNat < 256 := d.toNat_lt
      have h0 : 0 < l.length := by omega
      have hM8 : M ≤ 72057594037927935 := by
        have h1 := HM.out
        have : 128 ^ j ≤ 128 ^ 8 := Nat.pow_le_pow_right (by omega) (by omega)
        omega
      have hstep : rdL b0 (8 - j + 1) (c :: l.drop (j + 1)) M j = (n, k, e) := by
        have h1 := HH.out
        rw [List.drop_eq_getElem_cons hlt2, hc, show 9 - j = (8 - j) + 1 by omega] at h1; exact h1
      have hbd : b0 = true ↔ d.toNat = 128 := by
        have h1 := HB.out
        cases l with
        | nil => simp at h0
        | cons x xs =>
          simp at hd h1
          subst hd
          rw [← h1, beq_iff_eq]
          constructor
          · rintro rfl; rfl
          · intro h; exact UInt8.toNat_inj.1 h
      have HBD := Lib.hid hbd
      unfold rdL at hstep
      clear hbd
      by_cases z3 : 128 ≤ c.toNat
      · rw [if_pos z3] at hstep
        have HS := Lib.hid hstep
        clear hstep
        go_wp2_with fail
        go_round
        case rel =>
          refine ⟨j + 1, M * 128 + c.toNat % 128, by omega, by omega, by go_num, by simp, ?_, ?_⟩
          · have h1 := HM.out
            rw [Nat.pow_succ]; omega
          · rw [show 9 - (j + 1) = 8 - j by omega]; exact HS.out
        case measure => simp [intOf]; omega
      · rw [if_neg z3] at hstep
        have HS := Lib.hid hstep
        clear hstep
        have z4 : c.toNat < 128 := by omega
        by_cases hp : (M * 128 + c.toNat % 128) % 2 = 1
        · have z5 : (((M : Int) * 128 + (c.toNat : Int) % 128) % 2 == 1) = true := by rw [beq_iff_eq]; omega
          obtain ⟨N, hN⟩ : ∃ N : Int, N = (-(((M * 128 + c.toNat % 128 + 1) / 2 : Nat) : Int)) := ⟨_, rfl⟩
          have hq : wrap64 ((wrap64 (-wrap64 ((M : Int) * 128 + (c.toNat : Int) % 128 + 1))).tdiv 2) = N := by rw [hN]; exact odd_eq M c.toNat hM8 hcb hp
          have hs : (if b0 = true ∨ N < -1152921504606846976 ∨ 1152921504606846976 < N then ((0, 0, 11) : Int × Int × Int) else (N, (j : Int) + 1, 0)) = (n, k, e) := by
            rw [hN]; have h1 := HS.out; rw [if_pos hp] at h1; exact h1
          clear hN
          by_cases t1 : d.toNat = 128
          · rw [if_pos (.inl (HBD.out.2 t1))] at hs
            obtain ⟨rfl, rfl, rfl⟩ : 0 = n ∧ 0 = k ∧ 11 = e := by simpa using hs
            clear hs
            have t1' : ((d.toNat : Int) == 128) = true := by rw [beq_iff_eq]; omega
            go_wp2_with fail
            all_goals (go_ret3; exact ⟨rfl, rfl⟩)
          have t1' : ((d.toNat : Int) == 128) = false := by rw [beq_eq_false_iff_ne]; omega
          have tb : b0 = false := by cases hb : b0 with
            | true => exact absurd (HBD.out.1 hb) t1
            | false => rfl
          by_cases t2 : N < -1152921504606846976
          · rw [if_pos (.inr (.inl t2))] at hs
            obtain ⟨rfl, rfl, rfl⟩ : 0 = n ∧ 0 = k ∧ 11 = e := by simpa using hs
            clear hs
            go_wp2_with fail
            all_goals (go_ret3; exact ⟨rfl, rfl⟩)
          by_cases t3 : 1152921504606846976 < N
          · rw [if_pos (.inr (.inr t3))] at hs
            obtain ⟨rfl, rfl, rfl⟩ : 0 = n ∧ 0 = k ∧ 11 = e := by simpa using hs
            clear hs
            go_wp2_with fail
            all_goals (go_ret3; exact ⟨rfl, rfl⟩)
          · rw [if_neg (by rw [tb]; simp; omega)] at hs
            obtain ⟨rfl, rfl, rfl⟩ : N = n ∧ (j : Int) + 1 = k ∧ 0 = e := by simpa using hs
            clear hs tb
            go_wp2_with fail
            all_goals (go_ret3; exact ⟨rfl, rfl⟩)
        · have z5 : (((M : Int) * 128 + (c.toNat : Int) % 128) % 2 == 1) = false := by rw [beq_eq_false_iff_ne]; omega
          obtain ⟨N, hN⟩ : ∃ N : Int, N = (((M * 128 + c.toNat % 128) / 2 : Nat) : Int) := ⟨_, rfl⟩
          have hq : ((M : Int) * 128 + (c.toNat : Int) % 128) / 2 = N := by rw [hN]; omega
          have hs : (if b0 = true ∨ N < -1152921504606846976 ∨ 1152921504606846976 < N then ((0, 0, 11) : Int × Int × Int) else (N, (j : Int) + 1, 0)) = (n, k, e) := by
            rw [hN]; have h1 := HS.out; rw [if_neg hp] at h1; exact h1
          clear hN
          by_cases t1 : d.toNat = 128
          · rw [if_pos (.inl (HBD.out.2 t1))] at hs
            obtain ⟨rfl, rfl, rfl⟩ : 0 = n ∧ 0 = k ∧ 11 = e := by simpa using hs
            clear hs
            have t1' : ((d.toNat : Int) == 128) = true := by rw [beq_iff_eq]; omega
            go_wp2_with fail
            all_goals (go_ret3; exact ⟨rfl, rfl⟩)
          have t1' : ((d.toNat : Int) == 128) = false := by rw [beq_eq_false_iff_ne]; omega
          have tb : b0 = false := by cases hb : b0 with
            | true => exact absurd (HBD.out.1 hb) t1
            | false => rfl
          by_cases t2 : N < -1152921504606846976
          · rw [if_pos (.inr (.inl t2))] at hs
            obtain ⟨rfl, rfl, rfl⟩ : 0 = n ∧ 0 = k ∧ 11 = e := by simpa using hs
            clear hs
            go_wp2_with fail
            all_goals (go_ret3; exact ⟨rfl, rfl⟩)
          by_cases t3 : 1152921504606846976 < N
          · rw [if_pos (.inr (.inr t3))] at hs
            obtain ⟨rfl, rfl, rfl⟩ : 0 = n ∧ 0 = k ∧ 11 = e := by simpa using hs
            clear hs
            go_wp2_with fail
            all_goals (go_ret3; exact ⟨rfl, rfl⟩)
          · rw [if_neg (by rw [tb]; simp; omega)] at hs
            obtain ⟨rfl, rfl, rfl⟩ : N = n ∧ (j : Int) + 1 = k ∧ 0 = e := by simpa using hs
            clear hs tb
            go_wp2_with fail
            all_goals (go_ret3; exact ⟨rfl, rfl⟩)
end Go.Proofs.Ytdnbegcebloodaa
