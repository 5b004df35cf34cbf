/- Quotients of small numbers as the walk runs them. -/
import Derived.Test.YtibfchdhppdccaaBr
import Derived.WalkKit
set_option linter.unusedVariables false
set_option linter.unusedSimpArgs false
namespace Go.Proofs.Ytibfchdhppdccaa
open Go Go.RowKit

theorem wrap_nat (k : Nat) (h : k ≤ 1000000000) : IntKind.i64.wrap (k : Int) = (k : Int) := by
  rw [IntKind.wrap_i64]; omega
theorem run_quo_nat {P : Program} (W : World) (T : TypeId) (L n : Nat) (hn : 1 ≤ n) (hL : L ≤ 1000000000) :
    (binOp .quo T (.int .i64 (L : Int)) (.int .i64 (n : Int))).run P W = .ok (.int .i64 ((L / n : Nat) : Int)) W := by
  have e1 : IntKind.i64.wrap ((L : Int).tdiv (n : Int)) = ((L / n : Nat) : Int) := by
    rw [Int.tdiv_eq_ediv_of_nonneg (by omega), ← Int.natCast_ediv]
    exact wrap_nat _ (Nat.le_trans (Nat.div_le_self _ _) hL)
  have e2 : IntKind.i64.wrap ((L : Int) / (n : Int)) = (L : Int) / (n : Int) := by rw [← Int.natCast_ediv]; exact wrap_nat _ (Nat.le_trans (Nat.div_le_self _ _) hL)
  have hz : ¬ (n : Int) = 0 := by omega
  have hz' : ¬ n = 0 := by omega
  simp [binOp, Op.intDiv, hz, hz', e2]
theorem run_rem_nat {P : Program} (W : World) (T : TypeId) (L n : Nat) (hn : 1 ≤ n) (hL : L ≤ 1000000000) :
    (binOp .rem T (.int .i64 (L : Int)) (.int .i64 (n : Int))).run P W = .ok (.int .i64 ((L % n : Nat) : Int)) W := by
  have e1 : (L : Int).tmod (n : Int) = ((L % n : Nat) : Int) := by
    rw [Int.tmod_eq_emod_of_nonneg (by omega), ← Int.natCast_emod]
  have e2 := wrap_nat (L % n) (Nat.le_trans (Nat.mod_le _ _) hL)
  have hz : ¬ (n : Int) = 0 := by omega
  have hz' : ¬ n = 0 := by omega
  simp [binOp, Op.intDiv, hz, hz', e1, e2]
end Go.Proofs.Ytibfchdhppdccaa
