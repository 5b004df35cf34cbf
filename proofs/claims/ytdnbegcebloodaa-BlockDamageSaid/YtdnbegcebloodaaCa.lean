/- Layer 1 (varint), the program's groups: plain law on the groups of a number. -/
import Derived.Test.YtdnbegcebloodaaBc
set_option linter.unusedVariables false
namespace Go.Proofs.Ytdnbegcebloodaa

/-- the groups of a number from the k-th one down, and whether it is the last -/
def gl : Nat → Nat → List (Nat × Bool)
  | 0, m => [(m % 128, true)]
  | k + 1, m => (m / 128 ^ (k + 1) % 128, false) :: gl k m
def gby (x : Nat × Bool) : UInt8 := UInt8.ofNat (if x.2 then x.1 else 128 + x.1)
def hl : Nat → Nat → List UInt8
  | 0, _ => []
  | k + 1, m => UInt8.ofNat (128 + m / 128 ^ (k + 1) % 128) :: hl k m

theorem gl_hl : ∀ (k m : Nat), (gl k m).map gby = hl k m ++ [UInt8.ofNat (m % 128)]
  | 0, m => by simp [gl, hl, gby]
  | k + 1, m => by simp [gl, hl, gby, gl_hl k m]
theorem hl_shift : ∀ (k m : Nat), hl (k + 1) m = hl k (m / 128) ++ [UInt8.ofNat (128 + m / 128 % 128)]
  | 0, m => by simp [hl]
  | k + 1, m => by
    rw [hl, hl_shift k m, hl]
    have : m / 128 ^ (k + 1 + 1) = m / 128 / 128 ^ (k + 1) := by rw [Nat.div_div_eq_div_mul, Nat.pow_succ, Nat.mul_comm]
    rw [this]; rfl
theorem hi_hl : ∀ (f k m : Nat), k ≤ f → m / 128 ^ k < 128 → (k = 0 ∨ 128 ≤ m / 128 ^ (k - 1)) → hi f (m / 128) = hl k m
  | 0, k, m, h, h1, h2 => by
    obtain rfl : k = 0 := by omega
    simp [hi, hl]
  | f + 1, 0, m, h, h1, h2 => by
    have : m / 128 = 0 := by simp at h1; omega
    simp [hi, hl, this]
  | f + 1, k + 1, m, h, h1, h2 => by
    have h2' : 128 ≤ m / 128 ^ k := by simpa using h2
    have hp : 0 < 128 ^ k := Nat.pow_pos (by decide)
    have h3 : m / 128 ^ k ≤ m := Nat.div_le_self _ _
    have e1 : m / 128 ^ (k + 1) = m / 128 / 128 ^ k := by rw [Nat.div_div_eq_div_mul, Nat.pow_succ, Nat.mul_comm]
    rw [hi, if_neg (by omega), hl_shift, hi_hl f k (m / 128) (by omega) (by rw [← e1]; exact h1) ?_]
    cases k with
    | zero => exact .inl rfl
    | succ k =>
      right
      have : m / 128 ^ (k + 1) = m / 128 / 128 ^ k := by rw [Nat.div_div_eq_div_mul, Nat.pow_succ, Nat.mul_comm]
      rw [this] at h2'; simpa using h2'
theorem gl_intE {n : Int} {k : Nat} (h : k ≤ 10) (h1 : zz n / 128 ^ k < 128) (h2 : k = 0 ∨ 128 ≤ zz n / 128 ^ (k - 1)) : (gl k (zz n)).map gby = intE n := by
  rw [gl_hl, intE, hi_hl 10 k _ h h1 h2]
end Go.Proofs.Ytdnbegcebloodaa
