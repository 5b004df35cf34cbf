/- Joined by port.py: XBu XBv XBr -/
import Derived.Test.YtkokiahmgmeokaaGreatJb
import Derived.Test.YtkokiahmgmeokaaGreatProg
import Derived.Test.YtkokiahmgmeokaaGreatJa
set_option linter.unusedVariables false
set_option linter.unusedSimpArgs false
/-! XBu -/
namespace Go.Proofs.YtkokiahmgmeokaaGreat
open Go Go.RowKit
attribute [local go_sem] B_getElem B_size B_app B_extract B_get B_toList
theorem quiet_add_same {P : Program} {f : FuncId} {args : Array Value} {w : World} {a n : Nat} {v : Value}
    (h : Calls P f args (w.drewN (a + n)) fun e w' => e = .returned v ∧ w' = w.drewN (a + n)) :
    Calls P f args (w.drewN (a + n)) fun e w'' => e = .returned v ∧ ∃ m, w'' = w.drewN (a + m) :=
  h.mono fun _ _ ⟨he, hm⟩ => ⟨he, n, hm⟩
theorem idE_of {b : Bun} {n : Int} (h : (idB b = true ∧ n = 0) ∨ (idB b = false ∧ n = 2)) : Ending.returned (.int .i64 n) = Ending.returned (.int .i64 (idE b)) := by
  rcases h with ⟨h, rfl⟩ | ⟨h, rfl⟩ <;> simp [idE, h]
theorem and_flag (f : Int) (h1 : 0 ≤ f) (h2 : f ≤ 127) : (bits .and .i64 f 4 != 0) = hasF f 4 ∧ (bits .and .i64 f 64 != 0) = hasF f 64 ∧ (bits .and .i64 f 2 != 0) = hasF f 2 := by
  obtain ⟨n, rfl⟩ := Int.eq_ofNat_of_zero_le h1
  have h : ∀ n : Fin 128, (bits .and .i64 (n.val : Int) 4 != 0) = hasF (n.val : Int) 4 ∧ (bits .and .i64 (n.val : Int) 64 != 0) = hasF (n.val : Int) 64 ∧ (bits .and .i64 (n.val : Int) 2 != 0) = hasF (n.val : Int) 2 := by decide +kernel
  exact h ⟨n, by omega⟩
end Go.Proofs.YtkokiahmgmeokaaGreat
/-! XBv -/
namespace Go.Proofs.YtkokiahmgmeokaaGreat
open Go Go.RowKit
attribute [local go_sem] B_getElem B_size B_app B_extract B_get B_toList
theorem ordB_step (x y : Blk) (r : List Blk) : ordB (x :: y :: r) = (decide (x.kind < y.kind) && ordB (y :: r)) := rfl
theorem ordB_one (x : Blk) : ordB [x] = true := rfl
/-- the strings' lengths are of Go's -/
def Fits (b : Bun) : Prop := b.payload.length ≤ maxLen ∧ ∀ x ∈ b.blocks, x.data.length ≤ maxLen
theorem idE_zero {b : Bun} (h : idE b = 0) : idB b = true := by
  unfold idE at h
  cases hb : idB b with
  | true => rfl
  | false => rw [hb] at h; simp at h
theorem idB_crt {b : Bun} (h : idB b = true) : 0 ≤ b.crt ∧ b.crt ≤ 1099511627776 := by have := of_decide_eq_true h; omega
end Go.Proofs.YtkokiahmgmeokaaGreat
