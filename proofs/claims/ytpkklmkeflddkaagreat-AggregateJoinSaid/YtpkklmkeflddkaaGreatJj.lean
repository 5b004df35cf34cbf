/- Joined by port.py: XDi XDj -/
import Derived.Test.YtpkklmkeflddkaaGreatJi
import Derived.Test.YtpkklmkeflddkaaGreatJh
import Derived.Test.YtpkklmkeflddkaaGreatJa
import Derived.Test.YtpkklmkeflddkaaGreatJb
import Derived.Test.YtpkklmkeflddkaaGreatJd
import Derived.Test.YtpkklmkeflddkaaGreatJe
import Derived.Test.YtpkklmkeflddkaaGreatJf
import Derived.Test.YtpkklmkeflddkaaGreatJg
set_option linter.unusedVariables false
set_option linter.unusedSimpArgs false
/-! XDi -/
namespace Go.Proofs.YtpkklmkeflddkaaGreat
open Go Go.RowKit
attribute [local go_sem] B_getElem B_size B_app B_extract B_get B_toList
attribute [local go_sem ↓] conv4
theorem stp_xor (x y : Nat) : stp (x ^^^ y) = stp x ^^^ stp y := by
  have hd : (x ^^^ y) / 2 = x / 2 ^^^ y / 2 := by
    have := Nat.shiftRight_xor_distrib (a := x) (b := y) (i := 1)
    simpa [Nat.shiftRight_eq_div_pow] using this
  have hm : (x ^^^ y) % 2 = (x % 2 + y % 2) % 2 := by
    have h : (x ^^^ y) % 2 = x % 2 ^^^ y % 2 := by
      have := Nat.xor_mod_two_pow (a := x) (b := y) (n := 1)
      simpa using this
    rw [h]
    rcases Nat.mod_two_eq_zero_or_one x with a | a <;> rcases Nat.mod_two_eq_zero_or_one y with b | b <;> simp [a, b]
  unfold stp
  rw [hd, hm]
  rcases Nat.mod_two_eq_zero_or_one x with a | a <;> rcases Nat.mod_two_eq_zero_or_one y with b | b
  · simp [a, b]
  · simp [a, b, Nat.xor_assoc]
  · simp only [a, b]
    simp only [Nat.add_zero, Nat.one_mod, if_true, Nat.zero_ne_one, if_false]
    rw [Nat.xor_assoc, Nat.xor_assoc, Nat.xor_comm (y / 2)]
  · simp only [a, b]
    simp only [Nat.reduceAdd, Nat.mod_self, Nat.zero_ne_one, if_false, if_true]
    rw [Nat.xor_assoc, ← Nat.xor_assoc 2197175160, Nat.xor_comm 2197175160 (y / 2), Nat.xor_assoc, Nat.xor_self, Nat.xor_zero]
theorem stps_xor : ∀ (k x y : Nat), stps k (x ^^^ y) = stps k x ^^^ stps k y
  | 0, _, _ => rfl
  | k + 1, x, y => by
    show stps k (stp (x ^^^ y)) = stps k (stp x) ^^^ stps k (stp y)
    rw [stp_xor, stps_xor k]
theorem stp_even (q : Nat) : stp (2 * q) = q := by unfold stp; rw [if_neg (by omega)]; omega
theorem stps_pow : ∀ (k q : Nat), stps k (2 ^ k * q) = q
  | 0, q => by simp [stps]
  | k + 1, q => by
    show stps k (stp (2 ^ (k + 1) * q)) = q
    rw [show 2 ^ (k + 1) * q = 2 * (2 ^ k * q) by rw [Nat.pow_succ, Nat.mul_comm (2 ^ k) 2, Nat.mul_assoc], stp_even, stps_pow k q]
theorem tbl_law (r b : Nat) (hb : b < 256) : stps 8 (r ^^^ b) = upB r b := by
  unfold upB
  have h : r ^^^ b = (2 ^ 8 * (r / 256)) ^^^ ((r % 256) ^^^ b) := by
    have h1 : (2 ^ 8 * (r / 256)) ^^^ (r % 256) = r := by
      have := Nat.two_pow_add_eq_or_of_lt (i := 8) (b := r % 256) (by omega) (r / 256)
      have h2 : 2 ^ 8 * (r / 256) + r % 256 = r := by omega
      have h3 : (2 ^ 8 * (r / 256)) ^^^ (r % 256) = 2 ^ 8 * (r / 256) + r % 256 := by
        apply Nat.eq_of_testBit_eq
        intro i
        rw [this, Nat.testBit_xor, Nat.testBit_or]
        by_cases hi : i < 8
        · have : (2 ^ 8 * (r / 256)).testBit i = false := by rw [Nat.testBit_two_pow_mul]; simp; omega
          rw [this]; simp
        · have : (r % 256).testBit i = false := by
            rw [show (256 : Nat) = 2 ^ 8 from rfl, Nat.testBit_mod_two_pow]; simp; omega
          rw [this]; simp
      omega
    rw [← Nat.xor_assoc, h1]
  rw [h, stps_xor, stps_pow]
theorem i64_xor_nat (a b : Nat) (ha : a < 9223372036854775808) (hb : b < 9223372036854775808) : bits .xor .i64 (a : Int) (b : Int) = ((a ^^^ b : Nat) : Int) := by
  have hx : a ^^^ b < 2 ^ 63 := Nat.xor_lt_two_pow (by omega) (by omega)
  have h1 : (BitVec.ofInt 64 (a : Int)).toNat = a := by rw [BitVec.ofInt_natCast, BitVec.toNat_ofNat]; exact Nat.mod_eq_of_lt (by omega)
  have h2 : (BitVec.ofInt 64 (b : Int)).toNat = b := by rw [BitVec.ofInt_natCast, BitVec.toNat_ofNat]; exact Nat.mod_eq_of_lt (by omega)
  show IntKind.i64.wrap ((BitVec.ofInt 64 (a : Int) ^^^ BitVec.ofInt 64 (b : Int)).toNat : Int) = _
  rw [BitVec.toNat_xor, h1, h2, IntKind.wrap_i64]
  omega
set_option maxHeartbeats 1000000 in
theorem rstep_any (q : Nat) (w : World) (hq : q < 4294967296) :
    Calls Tryz.prog 99 #[.int .i64 (q : Int)] w fun e w' => e = .returned (.int .i64 (stp q : Nat)) ∧ w' = w := by
  by_cases ho : q % 2 = 1
  · have ho' : ((q : Int) % 2 == 1) = true := beq_iff_eq.2 (by omega)
    have hs : stp q = q / 2 ^^^ 2197175160 := by unfold stp; rw [if_pos ho]
    have hx : bits .xor .i64 ((q : Int) / 2) 2197175160 = ((q / 2 ^^^ 2197175160 : Nat) : Int) := by
      have := i64_xor_nat (q / 2) 2197175160 (by omega) (by omega)
      simpa using this
    rw [hs]
    clear hs
    go_enter Tryz.func99, Tryz.ntmps99
    go_wp2
    go_ret
    exact ⟨by first | rfl | (rw [hx]; done), rfl⟩
  · have ho' : ((q : Int) % 2 == 1) = false := beq_eq_false_iff_ne.2 (by omega)
    have hs : stp q = q / 2 := by unfold stp; rw [if_neg ho]
    rw [hs]
    clear hs
    go_enter Tryz.func99, Tryz.ntmps99
    go_wp2
    go_ret
    exact ⟨by first | rfl | (congr 1), rfl⟩
set_option maxRecDepth 100000 in
set_option maxHeartbeats 2000000 in
theorem rupdate_any (s : List UInt8) (w : World) (hs : s.length ≤ 1000000000) :
    Calls Tryz.prog 89 #[.int .i64 0, .string (B s)] w fun e w' => e = .returned (.tuple #[.int .i64 (crcN s : Nat), .int .i64 0]) ∧ w' = w := by
  have hx0 : bits .xor .i64 0 4294967295 = 4294967295 := by
    have := i64_xor_nat 0 4294967295 (by omega) (by omega)
    simpa using this
  go_enter Tryz.func89, Tryz.ntmps89
  go_wp2
  go_loopw [7, 6] (fun i m wr => ∃ (k q : Nat), k ≤ s.length ∧ i = .int .i64 k ∧ m = .int .i64 (q : Nat) ∧ q < 4294967296 ∧ Hid (q = upd 4294967295 (s.take k)) ∧ wr = w) (fun i _ _ => s.length - (intOf i).toNat)
  case atStart => exact ⟨0, 4294967295, Nat.zero_le _, rfl, rfl, by omega, Lib.hid rfl, rfl⟩
  case round =>
    obtain ⟨k, q, hk, rfl, rfl, hq, HQ, rfl⟩ := hrel
    by_cases hlt : k < s.length
    · obtain ⟨x, hx⟩ : ∃ x, s[k]? = some x := ⟨_, List.getElem?_eq_getElem hlt⟩
      have HTK : Hid (s.take (k + 1) = s.take k ++ [x]) := Lib.hid (by rw [List.take_add_one, hx]; rfl)
      have k0 : (0 : Int) ≤ (k : Int) := by omega
      have k1 : (k : Int) < (s.length : Int) := by omega
      have hxx : s[k] = x := by rw [List.getElem?_eq_getElem hlt] at hx; injection hx
      have hxl := x.toNat_lt
      have hwx : wrap64 (x.toNat : Int) = (x.toNat : Int) := by unfold wrap64; omega
      have hxr : bits .xor .i64 (q : Int) (x.toNat : Int) = ((q ^^^ x.toNat : Nat) : Int) := i64_xor_nat q x.toNat (by omega) (by omega)
      obtain ⟨r0, hr0⟩ : ∃ r0, q ^^^ x.toNat = r0 := ⟨_, rfl⟩
      have hr0l : r0 < 4294967296 := by rw [← hr0]; exact Nat.xor_lt_two_pow (n := 32) (by omega) (by omega)
      have HR0 := Lib.hid hr0
      rw [hr0] at hxr
      clear hx hr0
      go_wp2
      go_loopw [8, 6] (fun i m w2 => ∃ (j p : Nat), j ≤ 8 ∧ i = .int .i64 j ∧ m = .int .i64 (p : Nat) ∧ p < 4294967296 ∧ Hid (p = stps j r0) ∧ w2 = wr) (fun i _ _ => 8 - (intOf i).toNat)
      case atStart => exact ⟨0, r0, by omega, rfl, rfl, hr0l, Lib.hid rfl, rfl⟩
      case round =>
        obtain ⟨j, p, hj, rfl, rfl, hp, HP, rfl⟩ := hrel
        by_cases hj8 : j < 8
        · go_wp2_with fail
          refine (rstep_any p _ hp).mono ?_
          rintro e w3 ⟨rfl, rfl⟩
          go_wp2
          go_roundw
          case rel => exact ⟨j + 1, stp p, by omega, by go_num, rfl, stp_lt hp, Lib.hid (by rw [stps_succ, ← HP.out]), trivial⟩
          case measure => simp [intOf]; omega
        · obtain rfl : j = 8 := by omega
          go_wp2
          go_roundw
          case rel => exact ⟨k + 1, p, by omega, by go_num, rfl, hp, Lib.hid (by rw [HTK.out, upd_snoc, ← HQ.out, HP.out, ← HR0.out]; exact tbl_law q x.toNat hxl), trivial⟩
          case measure => simp [intOf]; omega
    · obtain rfl : k = s.length := by omega
      have hq2 : q = upd 4294967295 s := by rw [HQ.out, List.take_length]
      have hxe : bits .xor .i64 (q : Int) 4294967295 = ((crcN s : Nat) : Int) := by
        have := i64_xor_nat q 4294967295 (by omega) (by omega)
        unfold crcN
        rw [← hq2]
        exact this
      clear hq2
      go_wp2
      go_ret2
      exact ⟨rfl, rfl⟩
set_option maxHeartbeats 1000000 in
theorem rsum_any (s : List UInt8) (w : World) (hs : s.length ≤ 1000000000) :
    Calls Tryz.prog 83 #[.string (B s)] w fun e w' => e = .returned (.int .i64 (crcN s : Nat)) ∧ w' = w := by
  go_enter Tryz.func83, Tryz.ntmps83
  go_wp2_with fail
  refine (rupdate_any s _ hs).mono ?_
  rintro e w1 ⟨rfl, rfl⟩
  go_wp2
  go_ret
  exact ⟨rfl, rfl⟩
set_option maxRecDepth 100000 in
set_option maxHeartbeats 1000000 in
theorem rbytes_any (s : List UInt8) (w : World) :
    Calls Tryz.prog 82 #[.int .i64 (crcN s : Nat)] w fun e w' => e = .returned (.string (B (tailB s))) ∧ Below w.heap.size w w' := by
  have hl := crcN_lt s
  have ht : tailB s = [UInt8.ofNat (crcN s % 256), UInt8.ofNat (crcN s / 256 % 256), UInt8.ofNat (crcN s / 65536 % 256), UInt8.ofNat (crcN s / 16777216 % 256)] := rfl
  rw [ht]
  obtain ⟨n, hn⟩ : ∃ n, crcN s = n := ⟨_, rfl⟩
  rw [hn] at hl ⊢
  have h16 : n / 16777216 % 256 = n / 16777216 := Nat.mod_eq_of_lt (by omega)
  rw [h16]
  clear hn ht
  go_enter Tryz.func82, Tryz.ntmps82
  go_wp2
  go_ret
  exact ⟨rfl, (by repeat' (first | with_reducible (first | refine bset ?_ ?_ | exact Below.refl _ _ | assumption | refine bdrewN ?_ _ | refine bdrew ?_ | refine balloc0 ?_ | refine balloc ?_ ?_ | (apply btrans0; rotate_left; assumption) | (apply btrans; rotate_left; assumption)) | exact Below.refl _ _ | assumption | (apply btrans0; rotate_left; assumption) | (apply btrans; rotate_left; assumption) | (simp; done) | omega | (simp; omega)))⟩
end Go.Proofs.YtpkklmkeflddkaaGreat
/-! XDj -/
namespace Go.Proofs.YtpkklmkeflddkaaGreat
open Go Go.RowKit
attribute [local go_sem] B_getElem B_size B_app B_extract B_get B_toList
set_option maxHeartbeats 1000000 in
theorem rseal_ok (s : List UInt8) (w : World) (h : s.length ≤ 65536) :
    Calls Tryz.prog 70 #[.string (B s)] w fun e w' => e = .returned (.tuple #[.string (B (sealE s)), .int .i64 0]) ∧ Below w.heap.size w w' := by
  obtain ⟨t1, t2⟩ := textE_len s
  obtain ⟨i1, i2⟩ := intE_len (s.length : Int)
  have hn : ¬ (65536 : Int) < (s.length : Int) := by omega
  have hs : sealE s = textE s ++ tailB (textE s) := rfl
  have htl : (tailB (textE s)).length = 4 := rfl
  rw [hs]
  obtain ⟨t, ht⟩ : ∃ t, textE s = t := ⟨_, rfl⟩
  rw [ht] at t1 t2 htl ⊢
  obtain ⟨q, hq⟩ : ∃ q, tailB t = q := ⟨_, rfl⟩
  rw [hq] at htl ⊢
  obtain ⟨p, hp⟩ : ∃ p, intE (s.length : Int) = p := ⟨_, rfl⟩
  have hps : p ++ s = t := by rw [← hp, ← ht]; rfl
  rw [hp] at i1 i2
  have HP := Lib.hid hp
  have HQ := Lib.hid hq
  have HPS := Lib.hid hps
  have hj : ¬ 9223372036854775807 < p.length + s.length := by omega
  have hj2 : ¬ 9223372036854775807 < t.length + q.length := by omega
  have hj3 : ¬ 9223372036854775807 < (p ++ s).length + q.length := by rw [hps]; omega
  clear hs ht hq hp hps
  go_enter Tryz.func70, Tryz.ntmps70
  go_wp2_with fail
  refine (rint_any s.length _ (by omega) (by omega)).mono ?_
  rw [HP.out]
  rintro e w1 ⟨rfl, hb1⟩
  go_wp2_with fail
  try rw [HPS.out]
  refine (rsum_any t _ (by omega)).mono ?_
  rintro e w2 ⟨rfl, rfl⟩
  go_wp2_with fail
  refine (rbytes_any t _).mono ?_
  rw [HQ.out]
  rintro e w3 ⟨rfl, hb3⟩
  go_wp2
  go_ret2
  exact ⟨by first | rfl | (rw [← HPS.out]; simp), (by repeat' (first | with_reducible (first | refine bset ?_ ?_ | exact Below.refl _ _ | assumption | refine bdrewN ?_ _ | refine bdrew ?_ | refine balloc0 ?_ | refine balloc ?_ ?_ | (apply btrans0; rotate_left; assumption) | (apply btrans; rotate_left; assumption)) | exact Below.refl _ _ | assumption | (apply btrans0; rotate_left; assumption) | (apply btrans; rotate_left; assumption) | (simp; done) | omega | (simp; omega)))⟩
set_option maxHeartbeats 1000000 in
theorem rencode_any (x : Blk) (w : World) (hx : x.data.length ≤ 9223372036854775807) :
    Calls Tryz.prog 81 #[.agg #[.int .i64 x.kind, .int .i64 x.flags, .string (B x.data)]] w fun e w' => e = .returned (.tuple #[.string (B (encR x)), .int .i64 (blkE x)]) ∧ Below w.heap.size w w' := by
  unfold encR
  by_cases hE : blkE x = 0
  case neg =>
    rw [if_neg hE]
    have hE' : (blkE x == 0) = false := beq_eq_false_iff_ne.2 hE
    obtain ⟨E, hE2⟩ : ∃ E, blkE x = E := ⟨_, rfl⟩
    rw [hE2] at hE'
    have HE := Lib.hid hE2
    rw [hE2]
    clear hE hE2
    go_enter Tryz.func81, Tryz.ntmps81
    go_wp2_with fail
    refine (rbcheck_any x _ hx).mono ?_
    rw [HE.out]
    rintro e w1 ⟨rfl, hb1⟩
    go_wp2
    go_ret2
    exact ⟨rfl, (by repeat' (first | with_reducible (first | refine bset ?_ ?_ | exact Below.refl _ _ | assumption | refine bdrewN ?_ _ | refine bdrew ?_ | refine balloc0 ?_ | refine balloc ?_ ?_ | (apply btrans0; rotate_left; assumption) | (apply btrans; rotate_left; assumption)) | exact Below.refl _ _ | assumption | (apply btrans0; rotate_left; assumption) | (apply btrans; rotate_left; assumption) | (simp; done) | omega | (simp; omega)))⟩
  rw [if_pos hE, hE]
  rw [show encB x = sealE (intE x.kind ++ intE x.flags ++ textE x.data) from rfl]
  obtain ⟨v1, v2, v3, v4, v5⟩ := blkE_zero hE
  have HE := Lib.hid hE
  have a1 := intE_len x.kind
  have a2 := intE_len x.flags
  have a3 := textE_len x.data
  obtain ⟨ik, hik⟩ : ∃ M, intE x.kind = M := ⟨_, rfl⟩
  obtain ⟨fk, hfk⟩ : ∃ M, intE x.flags = M := ⟨_, rfl⟩
  obtain ⟨tk, htk⟩ : ∃ M, textE x.data = M := ⟨_, rfl⟩
  rw [hik] at a1 ⊢
  rw [hfk] at a2 ⊢
  rw [htk] at a3 ⊢
  have HI := Lib.hid hik
  have HF := Lib.hid hfk
  have HT := Lib.hid htk
  obtain ⟨M, hM⟩ : ∃ M, sealE (ik ++ fk ++ tk) = M := ⟨_, rfl⟩
  have HM := Lib.hid hM
  rw [hM]
  have j1 : ¬ 9223372036854775807 < ik.length + fk.length := by omega
  have j2 : ¬ 9223372036854775807 < ik.length + fk.length + tk.length := by omega
  have j3 : ¬ 9223372036854775807 < (ik ++ fk).length + tk.length := by rw [List.length_append]; omega
  clear hE hik hfk htk hM
  go_enter Tryz.func81, Tryz.ntmps81
  go_wp2_with fail
  refine (rbcheck_any x _ (by omega)).mono ?_
  rw [HE.out]
  rintro e w1 ⟨rfl, hb1⟩
  obtain ⟨k1, f1⟩ := bcell hb1
  have z1 : w.heap.size < w1.heap.size := by have := hb1.size; simp at this; omega
  go_wp2_with fail
  refine (rint_any x.kind _ (by omega) (by omega)).mono ?_
  rw [HI.out]
  rintro e w2 ⟨rfl, hb2⟩
  obtain ⟨k2, f2⟩ := bcell hb2
  have z2 : w.heap.size < w2.heap.size := by have := hb2.size; omega
  go_wp2_with fail
  refine (rint_any x.flags _ (by omega) (by omega)).mono ?_
  rw [HF.out]
  rintro e w3 ⟨rfl, hb3⟩
  obtain ⟨k3, f3⟩ := bcell hb3
  have z3 : w.heap.size < w3.heap.size := by have := hb3.size; omega
  go_wp2_with fail
  refine (rtext_ok x.data _ (by omega)).mono ?_
  rw [HT.out]
  rintro e w4 ⟨rfl, hb4⟩
  go_wp2_with fail
  refine (rseal_ok _ _ (by simp only [List.length_append]; omega)).mono ?_
  first | rw [HM.out] | rw [← List.append_assoc, HM.out]
  rintro e w5 ⟨rfl, hb5⟩
  go_wp2
  go_ret2
  exact ⟨rfl, (by repeat' (first | with_reducible (first | refine bset ?_ ?_ | exact Below.refl _ _ | assumption | refine bdrewN ?_ _ | refine bdrew ?_ | refine balloc0 ?_ | refine balloc ?_ ?_ | (apply btrans0; rotate_left; assumption) | (apply btrans; rotate_left; assumption)) | exact Below.refl _ _ | assumption | (apply btrans0; rotate_left; assumption) | (apply btrans; rotate_left; assumption) | (simp; done) | omega | (simp; omega)))⟩
end Go.Proofs.YtpkklmkeflddkaaGreat
