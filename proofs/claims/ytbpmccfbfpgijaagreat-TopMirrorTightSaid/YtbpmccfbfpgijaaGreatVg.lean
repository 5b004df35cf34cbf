/- The example of layer 45: it returns true. -/
import Derived.Test.YtbpmccfbfpgijaaGreatProg
import Derived.Test.YtbpmccfbfpgijaaGreatVd
namespace Go.Proofs.YtbpmccfbfpgijaaGreat
open Go Go.RowKit
theorem awake45 (w : World) : Calls Tryz.prog 6 #[] w fun e w' => e = .returned (.bool true) ∧ Below w.heap.size w w' :=
  Ev.yes_call 2000 (Ev.named_of (by kernel_rfl)) (by kernel_rfl) (by kernel_rfl) w
end Go.Proofs.YtbpmccfbfpgijaaGreat
