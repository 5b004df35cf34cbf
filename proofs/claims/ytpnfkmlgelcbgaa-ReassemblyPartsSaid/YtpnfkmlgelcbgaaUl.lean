/- Chapter 18: what the laws share. -/
import Derived.Test.YtpnfkmlgelcbgaaUk
import Derived.Test.YtpnfkmlgelcbgaaUg
import Derived.Test.YtpnfkmlgelcbgaaUi
import Derived.Test.YtpnfkmlgelcbgaaUh
set_option linter.unusedVariables false
namespace Go.Proofs.Ytpnfkmlgelcbgaa
open Go Go.RowKit Iv
theorem RBlks.below' {w w' : World} {v : Value} {l : List Blk} (h : RBlks w w.heap.size v l) (k : Below w.heap.size w w') : RBlks w' w'.heap.size v l := h.below k (Nat.le_refl _) k.size
theorem RBuns.below' {w w' : World} {v : Value} {l : List Bun} (h : RBuns w w.heap.size v l) (k : Below w.heap.size w w') : RBuns w' w'.heap.size v l := h.below k (Nat.le_refl _) k.size
theorem runs1 {w : World} {g : Nat} {x : Bun} {ux : Value} (hg : w.heap[g]? = some (.cells (bunC x ux).toArray 28 (0, 0))) (hx : RBlks w w.heap.size ux x.blocks) : RBuns w w.heap.size (.slice (some ⟨g, 0, none⟩) 1 1) [x] :=
  RBuns.of_own (base := 0) (rs := [(x, ux)]) (own_lit (n := 1) (size := 12) (by simpa using hg) (Nat.zero_le _) (by rfl) (by simp [maxLen])) (fun r hr => by
    have : r = (x, ux) := by simpa using hr
    subst this
    exact hx)
end Go.Proofs.Ytpnfkmlgelcbgaa
