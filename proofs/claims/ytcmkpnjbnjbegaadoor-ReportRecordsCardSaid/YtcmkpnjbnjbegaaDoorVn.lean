/- Layer 20 (report), the reference: Decimal (of layer 4's reference). -/
import Derived.Test.YtcmkpnjbnjbegaaDoorVg
set_option linter.unusedVariables false
set_option linter.unusedSimpArgs false
namespace Go.Proofs.YtcmkpnjbnjbegaaDoor
open Go Go.RowKit
attribute [local go_sem] B_getElem B_size B_app B_extract B_get B_toList
attribute [local go_sem ↓] conv1

theorem rsize_any (n : Int) (w : World) (h0 : 0 ≤ n) (h1 : n ≤ 1000000000000000000) :
    Calls Tryd.prog 74 #[.int .i64 n] w fun e w' => e = .returned (.int .u64 n) ∧ w' = w := by
  have h2 : ¬ n < 0 := by omega
  go_enter Tryd.func74, Tryd.ntmps74
  go_wp2
  go_ret
  exact ⟨by go_num, rfl⟩
set_option maxRecDepth 100000 in
set_option maxHeartbeats 2000000 in
theorem rdec_any (n : Int) (w : World) (h0 : 0 ≤ n) (h1 : n ≤ 1000000000000000000) :
    Calls Tryd.prog 54 #[.int .i64 n] w fun e w' => e = .returned (.string (B (Lib.itoa n))) ∧ Below w.heap.size w w' := by
  obtain ⟨k, rfl⟩ : ∃ k : Nat, n = k := ⟨n.toNat, by omega⟩
  obtain ⟨R, hR⟩ : ∃ q, Lib.itoa (k : Int) = q := ⟨_, rfl⟩
  have HRR : Hid (Lib.decDigits k = R) := Lib.hid (by rw [← hR, Lib.itoa_nonneg])
  rw [hR]
  clear hR
  have hk : ¬ (k : Int) < 0 := by omega
  have hk1 : k ≤ 1000000000000000000 := by omega
  go_enter Tryd.func54, Tryd.ntmps54
  go_wp2_with fail
  refine (rsize_any k _ h0 h1).mono ?_
  rintro e w1 ⟨rfl, rfl⟩
  go_wp2
  go_loopw [3, 4] (fun d m wr => ∃ (f M : Nat) (D : List UInt8), d = .string (B D) ∧ m = .int .u64 (M : Int) ∧ M < 10 ^ f ∧ M ≤ 1000000000000000000 ∧ D.length + f ≤ 19 ∧ Hid ((D = [] → M = k) ∧ (D ≠ [] → (if M = 0 then [] else Lib.decDigits M) ++ D = R)) ∧ Below w1.heap.size w1 wr) (fun d m _ => (intOf m).toNat + (match d with | .string s => if s.size = 0 then 1 else 0 | _ => 0))
  case atStart => exact ⟨19, k, [], rfl, rfl, by omega, hk1, by simp, Lib.hid ⟨fun _ => rfl, fun h => absurd rfl h⟩, (by repeat' (first | (with_reducible refine bset ?_ ?_) | (with_reducible exact Below.refl _ _) | (with_reducible assumption) | (with_reducible refine bdrewN ?_ _) | (with_reducible refine bdrew ?_) | (with_reducible refine balloc0 ?_) | (with_reducible refine balloc ?_ ?_) | (with_reducible apply btrans0; rotate_left; with_reducible assumption) | (with_reducible apply btrans; rotate_left; with_reducible assumption) | exact Below.refl _ _ | assumption | (apply btrans0; rotate_left; assumption) | (apply btrans; rotate_left; assumption) | (simp; done) | omega | (simp; omega)))⟩
  case round =>
    obtain ⟨f, M, D, rfl, rfl, hm, hm2, hl, HI, hB⟩ := hrel
    have hcat : ¬ 9223372036854775807 < 1 + D.length := by omega
    by_cases z : M = 0
    · subst z
      cases D with
      | nil =>
        have hk0 : k = 0 := (HI.out.1 rfl).symm
        have HR0 : Hid ([48] = R) := Lib.hid (by rw [← HRR.out, hk0]; decide +kernel)
        clear hk0 HI hm
        go_wp2
        go_roundw
        case rel => exact ⟨0, 0, [48], by first | rfl | (simp; done), rfl, by omega, by omega, by simp, Lib.hid ⟨fun h => by simp at h, fun _ => HR0.out⟩, (by repeat' (first | (with_reducible refine bset ?_ ?_) | (with_reducible exact Below.refl _ _) | (with_reducible assumption) | (with_reducible refine bdrewN ?_ _) | (with_reducible refine bdrew ?_) | (with_reducible refine balloc0 ?_) | (with_reducible refine balloc ?_ ?_) | (with_reducible apply btrans0; rotate_left; with_reducible assumption) | (with_reducible apply btrans; rotate_left; with_reducible assumption) | exact Below.refl _ _ | assumption | (apply btrans0; rotate_left; assumption) | (apply btrans; rotate_left; assumption) | (simp; done) | omega | (simp; omega)))⟩
        case measure => simp [intOf, B_size]
      | cons x D =>
        have HR1 : Hid (x :: D = R) := Lib.hid (HI.out.2 (by simp))
        clear HI hm
        go_wp2
        go_ret
        refine ⟨?_, (by repeat' (first | (with_reducible refine bset ?_ ?_) | (with_reducible exact Below.refl _ _) | (with_reducible assumption) | (with_reducible refine bdrewN ?_ _) | (with_reducible refine bdrew ?_) | (with_reducible refine balloc0 ?_) | (with_reducible refine balloc ?_ ?_) | (with_reducible apply btrans0; rotate_left; with_reducible assumption) | (with_reducible apply btrans; rotate_left; with_reducible assumption) | exact Below.refl _ _ | assumption | (apply btrans0; rotate_left; assumption) | (apply btrans; rotate_left; assumption) | (simp; done) | omega | (simp; omega)))⟩
        rw [← HR1.out]
        rfl
    · cases f with
      | zero => simp at hm; omega
      | succ f =>
        have z1 : 0 < M := by omega
        have hm3 : M / 10 < 10 ^ f := by rw [Nat.pow_succ] at hm; omega
        have HM := Lib.hid hm3
        have HN : Hid ((if M / 10 = 0 then [] else Lib.decDigits (M / 10)) ++ UInt8.ofNat (48 + M % 10) :: D = R) := Lib.hid (by
          have e : Lib.decDigits M ++ D = R := by
            cases D with
            | nil => rw [List.append_nil, HI.out.1 rfl]; exact HRR.out
            | cons x D => have := HI.out.2 (by simp); rwa [if_neg z] at this
          rw [← e]
          by_cases h10 : M < 10
          · rw [if_pos (by omega), Lib.decDigits_one h10, show M % 10 = M by omega]; rfl
          · rw [if_neg (by omega), dd_step h10, List.append_assoc]; rfl)
        clear hm hm3 z HI
        go_wp2
        go_roundw
        case rel => exact ⟨f, M / 10, UInt8.ofNat (48 + M % 10) :: D, by first | (simp; done) | (simp; congr 2; done) | (simp; congr 2; omega), by go_num, HM.out, by omega, by simp; omega, Lib.hid ⟨fun h => by simp at h, fun _ => HN.out⟩, (by repeat' (first | (with_reducible refine bset ?_ ?_) | (with_reducible exact Below.refl _ _) | (with_reducible assumption) | (with_reducible refine bdrewN ?_ _) | (with_reducible refine bdrew ?_) | (with_reducible refine balloc0 ?_) | (with_reducible refine balloc ?_ ?_) | (with_reducible apply btrans0; rotate_left; with_reducible assumption) | (with_reducible apply btrans; rotate_left; with_reducible assumption) | exact Below.refl _ _ | assumption | (apply btrans0; rotate_left; assumption) | (apply btrans; rotate_left; assumption) | (simp; done) | omega | (simp; omega)))⟩
        case measure =>
          have : M / 10 < M := by omega
          simp [intOf, B_size]
          split <;> omega
end Go.Proofs.YtcmkpnjbnjbegaaDoor
