/- Joined by port.py: XBa XBb XBc -/
import Derived.Test.YtmknchdciblfjaaGreatJa
import Derived.Test.YtmknchdciblfjaaGreatProg
import Derived.Test.YtmknchdciblfjaaGreatJb
set_option linter.unusedVariables false
set_option linter.unusedSimpArgs false
/-! XBa -/
namespace Go.Proofs.YtmknchdciblfjaaGreat
open Go.RowKit
theorem conv1 (n : Int) (w : World) : (convert 23 9 (.slice (some ⟨w.heap.size, 0, none⟩) 1 1)).run Tryz.prog (w.alloc (.cells #[.int .u8 n] 5)) = .ok (.string (B [UInt8.ofNat n.toNat])) (w.alloc (.cells #[.int .u8 n] 5)) := by
  refine run_convert_bytes_arg _ 23 5 Tryz.underlying23 Tryz.underlying5 w.heap.size 0 1 1 [n] rfl (fun i hi => ?_) 9 Tryz.underlying9
  obtain rfl : i = 0 := by omega
  go_simp
attribute [local go_sem] B_size B_app B_extract B_get B_toList
attribute [local go_sem ↓] conv1
/-- the number whose groups encode an integer -/
def zz (n : Int) : Nat := if n < 0 then (-2 * n - 1).toNat else (2 * n).toNat
/-- all groups but the last one -/
def hi : Nat → Nat → List UInt8
  | 0, _ => []
  | f + 1, m => if m = 0 then [] else hi f (m / 128) ++ [UInt8.ofNat (128 + m % 128)]
def intE (n : Int) : List UInt8 := hi 10 (zz n / 128) ++ [UInt8.ofNat (zz n % 128)]
theorem zz_lt {n : Int} (h1 : -1152921504606846976 ≤ n) (h2 : n ≤ 1152921504606846976) : zz n ≤ 2305843009213693952 := by unfold zz; split <;> omega
end Go.Proofs.YtmknchdciblfjaaGreat
/-! XBb -/
namespace Go.Proofs.YtmknchdciblfjaaGreat
open Go.RowKit
attribute [local go_sem] B_getElem B_size B_app B_extract B_get B_toList
/-- what the reader of integers answers: the integer, its size, the error -/
def rdL (b0 : Bool) : Nat → List UInt8 → Nat → Nat → Int × Int × Int
  | 0, _, _, _ => (0, 0, 11)
  | _ + 1, [], _, _ => (0, 0, 12)
  | f + 1, c :: r, m, i =>
    if 128 ≤ c.toNat then rdL b0 f r (m * 128 + c.toNat % 128) (i + 1)
    else
      let n : Int := if (m * 128 + c.toNat % 128) % 2 = 1 then -(((m * 128 + c.toNat % 128 + 1) / 2 : Nat) : Int) else (((m * 128 + c.toNat % 128) / 2 : Nat) : Int)
      if b0 = true ∨ n < -1152921504606846976 ∨ 1152921504606846976 < n then (0, 0, 11) else (n, (i : Int) + 1, 0)
def readS (l : List UInt8) : Int × Int × Int := rdL (l.head? == some 128) 9 l 0 0
end Go.Proofs.YtmknchdciblfjaaGreat
/-! XBc -/
namespace Go.Proofs.YtmknchdciblfjaaGreat
open Go.RowKit
attribute [local go_sem] B_getElem B_size B_app B_extract B_get B_toList
theorem rdL_ok (b0 : Bool) : ∀ (f : Nat) (r : List UInt8) (m i : Nat) (n k e : Int), rdL b0 f r m i = (n, k, e) →
    (e = 0 → (i : Int) + 1 ≤ k ∧ k ≤ i + f ∧ k ≤ i + r.length ∧ -1152921504606846976 ≤ n ∧ n ≤ 1152921504606846976) ∧ (e = 0 ∨ e = 11 ∨ e = 12) ∧ (e ≠ 0 → n = 0 ∧ k = 0)
  | 0, r, m, i, n, k, e, h => by
    unfold rdL at h; simp only [Prod.mk.injEq] at h; omega
  | f + 1, [], m, i, n, k, e, h => by
    unfold rdL at h; simp only [Prod.mk.injEq] at h; omega
  | f + 1, c :: r, m, i, n, k, e, h => by
    unfold rdL at h
    by_cases z : 128 ≤ c.toNat
    · rw [if_pos z] at h
      have := rdL_ok b0 f r _ _ n k e h
      have hl : (c :: r).length = r.length + 1 := rfl
      omega
    · rw [if_neg z] at h
      have hl : (c :: r).length = r.length + 1 := rfl
      split at h
      all_goals
        extract_lets nn at h
        split at h
        · rw [Prod.mk.injEq, Prod.mk.injEq] at h; omega
        · rename_i h1
          rw [Prod.mk.injEq, Prod.mk.injEq] at h
          rw [not_or, not_or] at h1
          omega
theorem readS_ok {l : List UInt8} {n k e : Int} (h : readS l = (n, k, e)) : (e = 0 → 1 ≤ k ∧ k ≤ 9 ∧ k ≤ l.length ∧ -1152921504606846976 ≤ n ∧ n ≤ 1152921504606846976) ∧ (e = 0 ∨ e = 11 ∨ e = 12) ∧ (e ≠ 0 → n = 0 ∧ k = 0) := by
  have := rdL_ok _ 9 l 0 0 n k e h
  omega
def lenS (l : List UInt8) : Int × Int × Int :=
  if (readS l).2.2 ≠ 0 then (0, 0, (readS l).2.2)
  else if (readS l).1 < 0 ∨ 65536 < (readS l).1 then (0, 0, 11) else readS l
def textS (l : List UInt8) : List UInt8 × Int × Int :=
  if (lenS l).2.2 ≠ 0 then ([], 0, (lenS l).2.2)
  else if (l.length : Int) - (lenS l).2.1 < (lenS l).1 then ([], 0, 12)
  else ((l.drop (lenS l).2.1.toNat).take (lenS l).1.toNat, (lenS l).2.1 + (lenS l).1, 0)
def textE (l : List UInt8) : List UInt8 := intE l.length ++ l
theorem hi_len : ∀ (f m : Nat), (hi f m).length ≤ f
  | 0, _ => by simp [hi]
  | f + 1, m => by
    unfold hi; split
    · simp
    · have := hi_len f (m / 128); simp; omega
theorem intE_len (n : Int) : 1 ≤ (intE n).length ∧ (intE n).length ≤ 11 := by
  have := hi_len 10 (zz n / 128); unfold intE; simp; omega
theorem lenS_ok {l : List UInt8} {n k e : Int} (h : lenS l = (n, k, e)) : (e = 0 → 1 ≤ k ∧ k ≤ 9 ∧ k ≤ l.length ∧ 0 ≤ n ∧ n ≤ 65536) ∧ (e = 0 ∨ e = 11 ∨ e = 12) := by
  obtain ⟨⟨n', k', e'⟩, hx⟩ : ∃ x, readS l = x := ⟨_, rfl⟩
  have ho := readS_ok hx
  unfold lenS at h
  rw [hx] at h
  simp only at h
  split at h
  · simp only [Prod.mk.injEq] at h; omega
  · split at h
    · simp only [Prod.mk.injEq] at h; omega
    · simp only [Prod.mk.injEq] at h; omega
end Go.Proofs.YtmknchdciblfjaaGreat
