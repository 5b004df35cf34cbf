/- Joined by port.py: XDi XDj -/
import Derived.Test.YtpkklmkeflddkaaJi
import Derived.Test.YtpkklmkeflddkaaJh
import Derived.Test.YtpkklmkeflddkaaJa
import Derived.Test.YtpkklmkeflddkaaJb
import Derived.Test.YtpkklmkeflddkaaJd
import Derived.Test.YtpkklmkeflddkaaJe
import Derived.Test.YtpkklmkeflddkaaJf
set_option linter.unusedVariables false
set_option linter.unusedSimpArgs false
/-! XDi -/
namespace Go.Proofs.Ytpkklmkeflddkaa
open Go Go.RowKit
attribute [local go_sem] B_getElem B_size B_app B_extract B_get B_toList
attribute [local go_sem ↓] conv4
theorem stp_xor (x y : Nat) : stp (x ^^^ y) = stp x ^^^ stp y := by
  have hd : (x ^^^ y) / 2 = x / 2 ^^^ y / 2 := by
    have := Nat.shiftRight_xor_distrib (a := x) (b := y) (i := 1)
    simpa [Nat.shiftRight_eq_div_pow] using this
  have hm : (x ^^^ y) % 2 = (x % 2 + y % 2) % 2 := by
    have h : (x ^^^ y) % 2 = x % 2 ^^^ y % 2 := by
      have := Nat.xor_mod_two_pow (a := x) (b := y) (n := 1)
      simpa using this
    rw [h]
    rcases Nat.mod_two_eq_zero_or_one x with a | a <;> rcases Nat.mod_two_eq_zero_or_one y with b | b <;> simp [a, b]
  unfold stp
  rw [hd, hm]
  rcases Nat.mod_two_eq_zero_or_one x with a | a <;> rcases Nat.mod_two_eq_zero_or_one y with b | b
  · simp [a, b]
  · simp [a, b, Nat.xor_assoc]
  · simp only [a, b]
    simp only [Nat.add_zero, Nat.one_mod, if_true, Nat.zero_ne_one, if_false]
    rw [Nat.xor_assoc, Nat.xor_assoc, Nat.xor_comm (y / 2)]
  · simp only [a, b]
    simp only [Nat.reduceAdd, Nat.mod_self, Nat.zero_ne_one, if_false, if_true]
    rw [Nat.xor_assoc, ← Nat.xor_assoc 2197175160, Nat.xor_comm 2197175160 (y / 2), Nat.xor_assoc, Nat.xor_self, Nat.xor_zero]
theorem stps_xor : ∀ (k x y : Nat), stps k (x ^^^ y) = stps k x ^^^ stps k y
  | 0, _, _ => rfl
  | k + 1, x, y => by
    show stps k (stp (x ^^^ y)) = stps k (stp x) ^^^ stps k (stp y)
    rw [stp_xor, stps_xor k]
theorem stp_even (q : Nat) : stp (2 * q) = q := by unfold stp; rw [if_neg (by omega)]; omega
theorem stps_pow : ∀ (k q : Nat), stps k (2 ^ k * q) = q
  | 0, q => by simp [stps]
  | k + 1, q => by
    show stps k (stp (2 ^ (k + 1) * q)) = q
    rw [show 2 ^ (k + 1) * q = 2 * (2 ^ k * q) by rw [Nat.pow_succ, Nat.mul_comm (2 ^ k) 2, Nat.mul_assoc], stp_even, stps_pow k q]
theorem tbl_law (r b : Nat) (hb : b < 256) : stps 8 (r ^^^ b) = upB r b := by
  unfold upB
  have h : r ^^^ b = (2 ^ 8 * (r / 256)) ^^^ ((r % 256) ^^^ b) := by
    have h1 : (2 ^ 8 * (r / 256)) ^^^ (r % 256) = r := by
      have := Nat.two_pow_add_eq_or_of_lt (i := 8) (b := r % 256) (by omega) (r / 256)
      have h2 : 2 ^ 8 * (r / 256) + r % 256 = r := by omega
      have h3 : (2 ^ 8 * (r / 256)) ^^^ (r % 256) = 2 ^ 8 * (r / 256) + r % 256 := by
        apply Nat.eq_of_testBit_eq
        intro i
        rw [this, Nat.testBit_xor, Nat.testBit_or]
        by_cases hi : i < 8
        · have : (2 ^ 8 * (r / 256)).testBit i = false := by rw [Nat.testBit_two_pow_mul]; simp; omega
          rw [this]; simp
        · have : (r % 256).testBit i = false := by
            rw [show (256 : Nat) = 2 ^ 8 from rfl, Nat.testBit_mod_two_pow]; simp; omega
          rw [this]; simp
      omega
    rw [← Nat.xor_assoc, h1]
  rw [h, stps_xor, stps_pow]
theorem i64_xor_nat (a b : Nat) (ha : a < 9223372036854775808) (hb : b < 9223372036854775808) : bits .xor .i64 (a : Int) (b : Int) = ((a ^^^ b : Nat) : Int) := by
  have hx : a ^^^ b < 2 ^ 63 := Nat.xor_lt_two_pow (by omega) (by omega)
  have h1 : (BitVec.ofInt 64 (a : Int)).toNat = a := by rw [BitVec.ofInt_natCast, BitVec.toNat_ofNat]; exact Nat.mod_eq_of_lt (by omega)
  have h2 : (BitVec.ofInt 64 (b : Int)).toNat = b := by rw [BitVec.ofInt_natCast, BitVec.toNat_ofNat]; exact Nat.mod_eq_of_lt (by omega)
  show IntKind.i64.wrap ((BitVec.ofInt 64 (a : Int) ^^^ BitVec.ofInt 64 (b : Int)).toNat : Int) = _
  rw [BitVec.toNat_xor, h1, h2, IntKind.wrap_i64]
  omega
set_option maxHeartbeats 1000000 in
theorem rstep_any (q : Nat) (w : World) (hq : q < 4294967296) :
    Calls Try.prog 106 #[.int .i64 (q : Int)] w fun e w' => e = .returned (.int .i64 (stp q : Nat)) ∧ w' = w := by
  by_cases ho : q % 2 = 1
  · have ho' : ((q : Int) % 2 == 1) = true := beq_iff_eq.2 (by omega)
    have hs : stp q = q / 2 ^^^ 2197175160 := by unfold stp; rw [if_pos ho]
    have hx : bits .xor .i64 ((q : Int) / 2) 2197175160 = ((q / 2 ^^^ 2197175160 : Nat) : Int) := by
      have := i64_xor_nat (q / 2) 2197175160 (by omega) (by omega)
      simpa using this
    rw [hs]
    clear hs
    go_enter Try.func106, Try.ntmps106
    go_wp2
    go_ret
    exact ⟨by first | rfl | (rw [hx]; done), rfl⟩
  · have ho' : ((q : Int) % 2 == 1) = false := beq_eq_false_iff_ne.2 (by omega)
    have hs : stp q = q / 2 := by unfold stp; rw [if_neg ho]
    rw [hs]
    clear hs
    go_enter Try.func106, Try.ntmps106
    go_wp2
    go_ret
    exact ⟨by first | rfl | (congr 1), rfl⟩
set_option maxRecDepth 100000 in
set_option maxHeartbeats 2000000 in
theorem rupdate_any (s : List UInt8) (w : World) (hs : s.length ≤ 1000000000) :
    Calls Try.prog 102 #[.int .i64 0, .string (B s)] w fun e w' => e = .returned (.tuple #[.int .i64 (crcN s : Nat), .int .i64 0]) ∧ w' = w := by
  have hx0 : bits .xor .i64 0 4294967295 = 4294967295 := by
    have := i64_xor_nat 0 4294967295 (by omega) (by omega)
    simpa using this
  go_enter Try.func102, Try.ntmps102
  go_wp2
  go_loopw [7, 6] (fun i m wr => ∃ (k q : Nat), k ≤ s.length ∧ i = .int .i64 k ∧ m = .int .i64 (q : Nat) ∧ q < 4294967296 ∧ Hid (q = upd 4294967295 (s.take k)) ∧ wr = w) (fun i _ _ => s.length - (intOf i).toNat)
  case atStart => exact ⟨0, 4294967295, Nat.zero_le _, rfl, rfl, by omega, Lib.hid rfl, rfl⟩
  case round =>
    obtain ⟨k, q, hk, rfl, rfl, hq, HQ, rfl⟩ := hrel
    by_cases hlt : k < s.length
    · obtain ⟨x, hx⟩ : ∃ x, s[k]? = some x := ⟨_, List.getElem?_eq_getElem hlt⟩
      have HTK : Hid (s.take (k + 1) = s.take k ++ [x]) := Lib.hid (by rw [List.take_add_one, hx]; rfl)
      have k0 : (0 : Int) ≤ (k : Int) := by omega
      have k1 : (k : Int) < (s.length : Int) := by omega
      have hxx : s[k] = x := by rw [List.getElem?_eq_getElem hlt] at hx; injection hx
      have hxl := x.toNat_lt
      have hwx : wrap64 (x.toNat : Int) = (x.toNat : Int) := by unfold wrap64; omega
      have hxr : bits .xor .i64 (q : Int) (x.toNat : Int) = ((q ^^^ x.toNat : Nat) : Int) := i64_xor_nat q x.toNat (by omega) (by omega)
      obtain ⟨r0, hr0⟩ : ∃ r0, q ^^^ x.toNat = r0 := ⟨_, rfl⟩
      have hr0l : r0 < 4294967296 := by rw [← hr0]; exact Nat.xor_lt_two_pow (n := 32) (by omega) (by omega)
      have HR0 := Lib.hid hr0
      rw [hr0] at hxr
      clear hx hr0
      go_wp2
      go_loopw [8, 6] (fun i m w2 => ∃ (j p : Nat), j ≤ 8 ∧ i = .int .i64 j ∧ m = .int .i64 (p : Nat) ∧ p < 4294967296 ∧ Hid (p = stps j r0) ∧ w2 = wr) (fun i _ _ => 8 - (intOf i).toNat)
      case atStart => exact ⟨0, r0, by omega, rfl, rfl, hr0l, Lib.hid rfl, rfl⟩
      case round =>
        obtain ⟨j, p, hj, rfl, rfl, hp, HP, rfl⟩ := hrel
        by_cases hj8 : j < 8
        · go_wp2_with fail
          refine (rstep_any p _ hp).mono ?_
          rintro e w3 ⟨rfl, rfl⟩
          go_wp2
          go_roundw
          case rel => exact ⟨j + 1, stp p, by omega, by go_num, rfl, stp_lt hp, Lib.hid (by rw [stps_succ, ← HP.out]), trivial⟩
          case measure => simp [intOf]; omega
        · obtain rfl : j = 8 := by omega
          go_wp2
          go_roundw
          case rel => exact ⟨k + 1, p, by omega, by go_num, rfl, hp, Lib.hid (by rw [HTK.out, upd_snoc, ← HQ.out, HP.out, ← HR0.out]; exact tbl_law q x.toNat hxl), trivial⟩
          case measure => simp [intOf]; omega
    · obtain rfl : k = s.length := by omega
      have hq2 : q = upd 4294967295 s := by rw [HQ.out, List.take_length]
      have hxe : bits .xor .i64 (q : Int) 4294967295 = ((crcN s : Nat) : Int) := by
        have := i64_xor_nat q 4294967295 (by omega) (by omega)
        unfold crcN
        rw [← hq2]
        exact this
      clear hq2
      go_wp2
      go_ret2
      exact ⟨rfl, rfl⟩
set_option maxHeartbeats 1000000 in
theorem rsum_any (s : List UInt8) (w : World) (hs : s.length ≤ 1000000000) :
    Calls Try.prog 89 #[.string (B s)] w fun e w' => e = .returned (.int .i64 (crcN s : Nat)) ∧ w' = w := by
  go_enter Try.func89, Try.ntmps89
  go_wp2_with fail
  refine (rupdate_any s _ hs).mono ?_
  rintro e w1 ⟨rfl, rfl⟩
  go_wp2
  go_ret
  exact ⟨rfl, rfl⟩
set_option maxRecDepth 100000 in
set_option maxHeartbeats 1000000 in
theorem rbytes_any (s : List UInt8) (w : World) :
    Calls Try.prog 88 #[.int .i64 (crcN s : Nat)] w fun e w' => e = .returned (.string (B (tailB s))) ∧ Below w.heap.size w w' := by
  have hl := crcN_lt s
  have ht : tailB s = [UInt8.ofNat (crcN s % 256), UInt8.ofNat (crcN s / 256 % 256), UInt8.ofNat (crcN s / 65536 % 256), UInt8.ofNat (crcN s / 16777216 % 256)] := rfl
  rw [ht]
  obtain ⟨n, hn⟩ : ∃ n, crcN s = n := ⟨_, rfl⟩
  rw [hn] at hl ⊢
  have h16 : n / 16777216 % 256 = n / 16777216 := Nat.mod_eq_of_lt (by omega)
  rw [h16]
  clear hn ht
  go_enter Try.func88, Try.ntmps88
  go_wp2
  go_ret
  exact ⟨rfl, (by repeat' (first | with_reducible (first | refine bset ?_ ?_ | exact Below.refl _ _ | assumption | refine bdrewN ?_ _ | refine bdrew ?_ | refine balloc0 ?_ | refine balloc ?_ ?_ | (apply btrans0; rotate_left; assumption) | (apply btrans; rotate_left; assumption)) | exact Below.refl _ _ | assumption | (apply btrans0; rotate_left; assumption) | (apply btrans; rotate_left; assumption) | (simp; done) | omega | (simp; omega)))⟩
end Go.Proofs.Ytpkklmkeflddkaa
/-! XDj -/
namespace Go.Proofs.Ytpkklmkeflddkaa
open Go Go.RowKit
attribute [local go_sem] B_getElem B_size B_app B_extract B_get B_toList
set_option maxRecDepth 100000 in
set_option maxHeartbeats 2000000 in
theorem ropen_any (s t : List UInt8) (k e : Int) (w : World) (hs : s.length ≤ 1000000000) (hr : openS tailB s = (t, k, e)) :
    Calls Try.prog 71 #[.string (B s)] w fun e' w' => e' = .returned (.tuple #[.string (B t), .int .i64 k, .int .i64 e]) ∧ Below w.heap.size w w' := by
  obtain ⟨⟨n1, k1, e1⟩, h1⟩ : ∃ x, readS s = x := ⟨_, rfl⟩
  have H1 := Lib.hid h1
  have hok := readS_ok h1
  have HL := hr
  unfold openS at HL
  rw [h1] at HL
  simp only at HL
  clear h1 hr
  by_cases he : e1 = 0
  case neg =>
    rw [if_pos he] at HL
    obtain ⟨rfl, rfl, rfl⟩ := trip HL
    have he' : (e1 == 0) = false := beq_eq_false_iff_ne.2 he
    clear he hok HL
    go_enter Try.func71, Try.ntmps71
    go_wp2_with fail
    refine (rreadint_any s n1 k1 e1 _ (by omega) H1.out).mono ?_
    rintro e' w1 ⟨rfl, rfl⟩
    go_wp2
    go_ret3
    exact ⟨rfl, (by repeat' (first | with_reducible (first | refine bset ?_ ?_ | exact Below.refl _ _ | assumption | refine bdrewN ?_ _ | refine bdrew ?_ | refine balloc0 ?_ | refine balloc ?_ ?_ | (apply btrans0; rotate_left; assumption) | (apply btrans; rotate_left; assumption)) | exact Below.refl _ _ | assumption | (apply btrans0; rotate_left; assumption) | (apply btrans; rotate_left; assumption) | (simp; done) | omega | (simp; omega)))⟩
  subst he
  rw [if_neg (by simp)] at HL
  obtain ⟨g1, g2, g3, g4, g5⟩ := hok.1 rfl
  clear hok
  by_cases hb : n1 < 0 ∨ 65536 < n1
  · rw [if_pos hb] at HL
    obtain ⟨rfl, rfl, rfl⟩ := trip HL
    clear HL
    rcases hb with hb | hb
    all_goals
      go_enter Try.func71, Try.ntmps71
      go_wp2_with fail
      refine (rreadint_any s n1 k1 0 _ (by omega) H1.out).mono ?_
      rintro e' w1 ⟨rfl, rfl⟩
      go_wp2
      go_ret3
      exact ⟨rfl, (by repeat' (first | with_reducible (first | refine bset ?_ ?_ | exact Below.refl _ _ | assumption | refine bdrewN ?_ _ | refine bdrew ?_ | refine balloc0 ?_ | refine balloc ?_ ?_ | (apply btrans0; rotate_left; assumption) | (apply btrans; rotate_left; assumption)) | exact Below.refl _ _ | assumption | (apply btrans0; rotate_left; assumption) | (apply btrans; rotate_left; assumption) | (simp; done) | omega | (simp; omega)))⟩
  rw [if_neg hb] at HL
  have hb1' : ¬ n1 < 0 := by omega
  have hb2' : ¬ 65536 < n1 := by omega
  clear hb
  obtain ⟨n, rfl⟩ : ∃ n : Nat, n1 = n := ⟨n1.toNat, by omega⟩
  obtain ⟨c, rfl⟩ : ∃ c : Nat, k1 = c := ⟨k1.toNat, by omega⟩
  obtain ⟨p, hp⟩ : ∃ p, c + n = p := ⟨_, rfl⟩
  have hp1 : (c : Int) + (n : Int) = (p : Int) := by omega
  rw [hp1] at HL
  simp only [Int.toNat_natCast] at HL
  by_cases hl : (s.length : Int) < (p : Int) + 4
  · rw [if_pos hl] at HL
    obtain ⟨rfl, rfl, rfl⟩ := trip HL
    clear HL
    go_enter Try.func71, Try.ntmps71
    go_wp2_with fail
    refine (rreadint_any s n c 0 _ (by omega) H1.out).mono ?_
    rintro e' w1 ⟨rfl, rfl⟩
    go_wp2
    go_ret3
    exact ⟨rfl, (by repeat' (first | with_reducible (first | refine bset ?_ ?_ | exact Below.refl _ _ | assumption | refine bdrewN ?_ _ | refine bdrew ?_ | refine balloc0 ?_ | refine balloc ?_ ?_ | (apply btrans0; rotate_left; assumption) | (apply btrans; rotate_left; assumption)) | exact Below.refl _ _ | assumption | (apply btrans0; rotate_left; assumption) | (apply btrans; rotate_left; assumption) | (simp; done) | omega | (simp; omega)))⟩
  rw [if_neg hl] at HL
  obtain ⟨x, hx⟩ : ∃ x, s.take p = x := ⟨_, rfl⟩
  have hxl : x.length ≤ 1000000000 := by rw [← hx, List.length_take]; omega
  obtain ⟨y, hy⟩ : ∃ y, tailB x = y := ⟨_, rfl⟩
  obtain ⟨z, hz⟩ : ∃ z, (s.drop p).take 4 = z := ⟨_, rfl⟩
  rw [hx, hy, hz] at HL
  have HY := Lib.hid hy
  have hz' : (s.drop p).take (p + 4 - p) = z := by rw [show p + 4 - p = 4 by omega]; exact hz
  have q0 : (0 : Int) ≤ (p : Int) := by omega
  have q1 : (p : Int) ≤ (s.length : Int) := by omega
  have q2 : (p : Int) + 4 = ((p + 4 : Nat) : Int) := by omega
  obtain ⟨p4, hp4⟩ : ∃ p4, p + 4 = p4 := ⟨_, rfl⟩
  rw [hp4] at q2 hz'
  have q3 : (p4 : Int) ≤ (s.length : Int) := by omega
  have q4 : (p : Int) ≤ (p4 : Int) := by omega
  have q5 : (0 : Int) ≤ (p4 : Int) := by omega
  have q6 : IntKind.i64.wrap (p : Int) = (p : Int) := by rw [IntKind.wrap_i64]; omega
  have q7 : IntKind.i64.wrap (p4 : Int) = (p4 : Int) := by rw [IntKind.wrap_i64]; omega
  have q8 : ¬ (s.length : Int) < (p4 : Int) := by omega
  have q9 : s.take (p - 0) = x := by rw [Nat.sub_zero]; exact hx
  obtain ⟨d, hd⟩ : ∃ d, (s.drop c).take (p - c) = d := ⟨_, rfl⟩
  have hdt : (s.drop c).take n = d := by rw [← hd]; congr 1; omega
  have q10 : (c : Int) ≤ (p : Int) := by omega
  have q11 : (0 : Int) ≤ (c : Int) := by omega
  rw [hdt, q2] at HL
  by_cases hyz : y = z
  · rw [if_neg (by simp [hyz])] at HL
    obtain ⟨rfl, rfl, rfl⟩ := trip HL
    subst hyz
    clear hy hz hdt HL hp hp4 hl
    go_enter Try.func71, Try.ntmps71
    go_wp2_with fail
    refine (rreadint_any s n c 0 _ (by omega) H1.out).mono ?_
    rintro e' w1 ⟨rfl, rfl⟩
    go_wp2
    refine wp_region_plan (fun V => True) [0, 0, 0, 0, 0, 0, 0, 0, 0, 0, 0, 0, 0, 0, 3, 3, 0] [0, 1, 2, 3, 4, 5, 6, 7, 8, 9, 10, 11, 12, 13, 14, 15, 16] (by kernel_rfl) (by kernel_rfl) ?_ ?_
    case refine_1 => exact trivial
    (iterate 14 (refine plan_held rfl (by decide) (by rfl) (fun w1 hS => by (try (have hS := hS rfl; obtain hS := hS; repeat (obtain ⟨_, hS⟩ := hS))); go_simp; rfl) ?_; simp only [Act.put, List.setIfInBounds_toArray, List.set_cons_zero, List.set_cons_succ]))
    (refine plan_late rfl rfl (by rfl) (fun K hK => ?_); go_simp)
    refine (rsum_any x _ hxl).mono ?_
    rintro e' w2 ⟨rfl, rfl⟩
    (refine hK _ _ ?_; clear hK K; (try simp only [Act.put, List.setIfInBounds_toArray, List.set_cons_zero, List.set_cons_succ]))
    (refine plan_late rfl rfl (by rfl) (fun K hK => ?_); go_simp)
    refine (rbytes_any x _).mono ?_
    rw [HY.out]
    rintro e' w2 ⟨rfl, hb2⟩
    (refine hK _ _ ?_; clear hK K; (try simp only [Act.put, List.setIfInBounds_toArray, List.set_cons_zero, List.set_cons_succ]))
    (iterate 1 (refine plan_held rfl (by decide) (by rfl) (fun w1 hS => by (try (have hS := hS rfl; obtain hS := hS; repeat (obtain ⟨_, hS⟩ := hS))); go_simp; rfl) ?_; simp only [Act.put, List.setIfInBounds_toArray, List.set_cons_zero, List.set_cons_succ]))
    refine plan_done ?_
    go_wp2
    go_ret3
    exact ⟨rfl, (by repeat' (first | with_reducible (first | refine bset ?_ ?_ | exact Below.refl _ _ | assumption | refine bdrewN ?_ _ | refine bdrew ?_ | refine balloc0 ?_ | refine balloc ?_ ?_ | (apply btrans0; rotate_left; assumption) | (apply btrans; rotate_left; assumption)) | exact Below.refl _ _ | assumption | (apply btrans0; rotate_left; assumption) | (apply btrans; rotate_left; assumption) | (simp; done) | omega | (simp; omega)))⟩
  · rw [if_pos hyz] at HL
    obtain ⟨rfl, rfl, rfl⟩ := trip HL
    have hne3 : (z == y) = false := beq_eq_false_iff_ne.2 (Ne.symm hyz)
    clear hy hz hdt HL hp hp4 hl hyz
    go_enter Try.func71, Try.ntmps71
    go_wp2_with fail
    refine (rreadint_any s n c 0 _ (by omega) H1.out).mono ?_
    rintro e' w1 ⟨rfl, rfl⟩
    go_wp2
    refine wp_region_plan (fun V => True) [0, 0, 0, 0, 0, 0, 0, 0, 0, 0, 0, 0, 0, 0, 3, 3, 0] [0, 1, 2, 3, 4, 5, 6, 7, 8, 9, 10, 11, 12, 13, 14, 15, 16] (by kernel_rfl) (by kernel_rfl) ?_ ?_
    case refine_1 => exact trivial
    (iterate 14 (refine plan_held rfl (by decide) (by rfl) (fun w1 hS => by (try (have hS := hS rfl; obtain hS := hS; repeat (obtain ⟨_, hS⟩ := hS))); go_simp; rfl) ?_; simp only [Act.put, List.setIfInBounds_toArray, List.set_cons_zero, List.set_cons_succ]))
    (refine plan_late rfl rfl (by rfl) (fun K hK => ?_); go_simp)
    refine (rsum_any x _ hxl).mono ?_
    rintro e' w2 ⟨rfl, rfl⟩
    (refine hK _ _ ?_; clear hK K; (try simp only [Act.put, List.setIfInBounds_toArray, List.set_cons_zero, List.set_cons_succ]))
    (refine plan_late rfl rfl (by rfl) (fun K hK => ?_); go_simp)
    refine (rbytes_any x _).mono ?_
    rw [HY.out]
    rintro e' w2 ⟨rfl, hb2⟩
    (refine hK _ _ ?_; clear hK K; (try simp only [Act.put, List.setIfInBounds_toArray, List.set_cons_zero, List.set_cons_succ]))
    (iterate 1 (refine plan_held rfl (by decide) (by rfl) (fun w1 hS => by (try (have hS := hS rfl; obtain hS := hS; repeat (obtain ⟨_, hS⟩ := hS))); go_simp; rfl) ?_; simp only [Act.put, List.setIfInBounds_toArray, List.set_cons_zero, List.set_cons_succ]))
    refine plan_done ?_
    go_wp2
    go_ret3
    exact ⟨rfl, (by repeat' (first | with_reducible (first | refine bset ?_ ?_ | exact Below.refl _ _ | assumption | refine bdrewN ?_ _ | refine bdrew ?_ | refine balloc0 ?_ | refine balloc ?_ ?_ | (apply btrans0; rotate_left; assumption) | (apply btrans; rotate_left; assumption)) | exact Below.refl _ _ | assumption | (apply btrans0; rotate_left; assumption) | (apply btrans; rotate_left; assumption) | (simp; done) | omega | (simp; omega)))⟩
end Go.Proofs.Ytpkklmkeflddkaa
