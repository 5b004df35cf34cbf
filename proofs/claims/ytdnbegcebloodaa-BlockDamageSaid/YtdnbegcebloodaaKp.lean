/- What a round of a range over a function keeps. -/
import Derived.RangeFuncNested
import Derived.RangeFuncBound
import Derived.RangeFuncCalls
import Derived.RangeFuncLeaves
import Derived.RangeFuncBox
import Derived.RangeFuncFrom
import Derived.WalkKit
import Derived.Test.YtdnbegcebloodaaU
set_option linter.unusedVariables false
namespace Go.Proofs.Ytdnbegcebloodaa
open Go Go.RowKit

/-- what a round keeps: all that lay below n₀, but block z -/
def KpX (n₀ z : Nat) (A B : World) : Prop := A.heap.size ≤ B.heap.size ∧ ∀ k, k < n₀ → k ≠ z → B.heap[k]? = A.heap[k]?
theorem KpX.refl (n₀ z : Nat) (A : World) : KpX n₀ z A A := ⟨Nat.le_refl _, fun _ _ _ => rfl⟩
theorem KpX.trans {n₀ z : Nat} {A B C : World} (h : KpX n₀ z A B) (k : KpX n₀ z B C) : KpX n₀ z A C := ⟨Nat.le_trans h.1 k.1, fun q h1 h2 => (k.2 q h1 h2).trans (h.2 q h1 h2)⟩
theorem KpX.drew {n₀ z : Nat} {A B : World} (h : KpX n₀ z A B) : KpX n₀ z A B.drew := h
theorem KpX.cell {n₀ z : Nat} {A B : World} {p : Addr} (h : KpX n₀ z A B) (h1 : p.block < n₀) (h2 : p.block ≠ z) : B.cell? p = A.cell? p := World.cell?_of_block (h.2 _ h1 h2)
theorem KpX.putObj {n₀ z l : Nat} (W : World) (o : Obj) (h : n₀ ≤ l) : KpX n₀ z W (W.putObj l o) :=
  ⟨(grownBy_putObj' W l o).size, fun k hk _ => by
    rcases Nat.lt_or_ge k W.heap.size with hlt | hge
    · exact (grownBy_putObj' W l o).block k hlt (fun e => by injection e with e; omega)
    · have : (W.putObj l o).heap.size = W.heap.size := by simp [World.putObj]
      rw [Array.getElem?_eq_none hge, Array.getElem?_eq_none (by omega)]⟩

end Go.Proofs.Ytdnbegcebloodaa
