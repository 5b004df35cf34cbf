/- The plain law of the checksum: a change of one byte changes it. -/
import Derived.Test.YtdnbegcebloodaaDi
set_option linter.unusedVariables false
set_option linter.unusedSimpArgs false
namespace Go.Proofs.Ytdnbegcebloodaa
open Go Go.RowKit

theorem stp_inj {x y : Nat} (hx : x < 4294967296) (hy : y < 4294967296) (h : stp x = stp y) : x = y := by
  have key : ∀ z, z < 4294967296 → (stp z).testBit 31 = decide (z % 2 = 1) := by
    intro z hz
    unfold stp
    have h2 : (z / 2).testBit 31 = false := Nat.testBit_lt_two_pow (by omega)
    split
    · rename_i h1
      rw [Nat.testBit_xor, h2, show (2197175160 : Nat).testBit 31 = true by decide +kernel]
      simp [h1]
    · rename_i h1
      rw [h2]; simp [h1]
  have hp : (x % 2 = 1) ↔ (y % 2 = 1) := by
    have h1 := key x hx
    have h2 := key y hy
    rw [h, h2] at h1
    simpa using (decide_eq_decide.1 h1).symm
  unfold stp at h
  by_cases h1 : x % 2 = 1
  · have h2 := hp.1 h1
    rw [if_pos h1, if_pos h2] at h
    have h3 : x / 2 = y / 2 := by
      have : (x / 2 ^^^ 2197175160) ^^^ 2197175160 = (y / 2 ^^^ 2197175160) ^^^ 2197175160 := by rw [h]
      rwa [Nat.xor_assoc, Nat.xor_assoc, Nat.xor_self, Nat.xor_zero, Nat.xor_zero] at this
    omega
  · have h2 : ¬ y % 2 = 1 := fun e => h1 (hp.2 e)
    rw [if_neg h1, if_neg h2] at h
    omega
theorem stps_inj : ∀ (k : Nat) {x y : Nat}, x < 4294967296 → y < 4294967296 → stps k x = stps k y → x = y
  | 0, x, y, _, _, h => h
  | k + 1, x, y, hx, hy, h => stp_inj hx hy (stps_inj k (stp_lt hx) (stp_lt hy) h)
theorem xor_right_inj {a b c : Nat} (h : a ^^^ c = b ^^^ c) : a = b := by
  have : (a ^^^ c) ^^^ c = (b ^^^ c) ^^^ c := by rw [h]
  rwa [Nat.xor_assoc, Nat.xor_assoc, Nat.xor_self, Nat.xor_zero, Nat.xor_zero] at this
theorem upB_inj {r q a b : Nat} (hr : r < 4294967296) (hq : q < 4294967296) (ha : a < 256) (hb : b < 256) (h : upB r a = upB q b) : r ^^^ a = q ^^^ b := by
  rw [← tbl_law r a ha, ← tbl_law q b hb] at h
  exact stps_inj 8 (Nat.xor_lt_two_pow (n := 32) (by omega) (by omega)) (Nat.xor_lt_two_pow (n := 32) (by omega) (by omega)) h
theorem upd_inj : ∀ (s : List UInt8) {r q : Nat}, r < 4294967296 → q < 4294967296 → upd r s = upd q s → r = q
  | [], r, q, _, _, h => h
  | x :: s, r, q, hr, hq, h => by
    have h1 : upB r x.toNat = upB q x.toNat := upd_inj s (upB_lt hr x.toNat_lt) (upB_lt hq x.toNat_lt) h
    exact xor_right_inj (upB_inj hr hq x.toNat_lt x.toNat_lt h1)
theorem upd_app (r : Nat) (a b : List UInt8) : upd r (a ++ b) = upd (upd r a) b := by simp [upd, List.foldl_append]
/-- a change of one byte changes the checksum -/
theorem crc_byte {p q : List UInt8} {x y : UInt8} (h : crcN (p ++ x :: q) = crcN (p ++ y :: q)) : x = y := by
  unfold crcN at h
  have h1 := xor_right_inj h
  rw [upd_app, upd_app] at h1
  have hp : upd 4294967295 p < 4294967296 := upd_lt p (by decide)
  have h2 : upB (upd 4294967295 p) x.toNat = upB (upd 4294967295 p) y.toNat := upd_inj q (upB_lt hp x.toNat_lt) (upB_lt hp y.toNat_lt) h1
  have h3 := upB_inj hp hp x.toNat_lt y.toNat_lt h2
  rw [Nat.xor_comm, Nat.xor_comm (upd 4294967295 p)] at h3
  exact UInt8.toNat_inj.1 (xor_right_inj h3)
theorem tail_crc {a b : List UInt8} (h : tailB a = tailB b) : crcN a = crcN b := by
  have la := crcN_lt a
  have lb := crcN_lt b
  unfold tailB at h
  injection h with h1 h
  injection h with h2 h
  injection h with h3 h
  injection h with h4 _
  have k1 := congrArg UInt8.toNat h1
  have k2 := congrArg UInt8.toNat h2
  have k3 := congrArg UInt8.toNat h3
  have k4 := congrArg UInt8.toNat h4
  simp only [UInt8.toNat_ofNat'] at k1 k2 k3 k4
  omega
/-- two frames of one length that differ in one byte are not both written -/
theorem frame_byte {u v p q : List UInt8} {x y : UInt8} (h1 : u ++ tailB u = p ++ x :: q) (h2 : v ++ tailB v = p ++ y :: q) : x = y := by
  have hl : u.length = v.length := by
    have a := congrArg List.length h1
    have b := congrArg List.length h2
    simp [show ∀ s, (tailB s).length = 4 from fun _ => rfl] at a b
    omega
  by_cases hp : p.length < u.length
  · -- the byte lies in the frame's string
    obtain ⟨k, hk⟩ : ∃ k, u.length - p.length = k + 1 := ⟨u.length - p.length - 1, by omega⟩
    have hk2 : v.length - p.length = k + 1 := by omega
    have e1 : u = p ++ x :: q.take k := by
      have := congrArg (List.take u.length) h1
      rw [List.take_left, List.take_append, List.take_of_length_le (by omega), hk] at this
      exact this
    have e2 : v = p ++ y :: q.take k := by
      have := congrArg (List.take v.length) h2
      rw [List.take_left, List.take_append, List.take_of_length_le (by omega), hk2] at this
      exact this
    have e3 : tailB u = tailB v := by
      have a := congrArg (List.drop u.length) h1
      have b := congrArg (List.drop v.length) h2
      rw [List.drop_left] at a b
      rw [a, b]
      rw [List.drop_append, List.drop_append, hl, hk2]; rfl
    have e4 := tail_crc e3
    rw [e1, e2] at e4
    exact crc_byte e4
  · -- it lies in the checksum
    have e : u = v := by
      have a := congrArg (List.take u.length) h1
      have b := congrArg (List.take v.length) h2
      rw [List.take_left] at a b
      rw [a, b, hl, List.take_append_of_le_length (by omega), List.take_append_of_le_length (by omega)]
    rw [e] at h1
    rw [h1] at h2
    have := List.append_cancel_left h2
    injection this
end Go.Proofs.Ytdnbegcebloodaa
