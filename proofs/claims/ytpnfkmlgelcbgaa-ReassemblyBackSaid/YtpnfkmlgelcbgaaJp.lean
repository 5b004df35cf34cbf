/- Joined by port.py: XTe -/
import Derived.Test.YtpnfkmlgelcbgaaJa
import Derived.Test.YtpnfkmlgelcbgaaJb
import Derived.Test.YtpnfkmlgelcbgaaJh
set_option linter.unusedVariables false
set_option linter.unusedSimpArgs false
/-! XTe -/
namespace Go.Proofs.Ytpnfkmlgelcbgaa
open Go Go.RowKit
attribute [local go_sem] B_getElem B_size B_app B_extract B_get B_toList
def idV (s c q o t : Int) : Value := .agg #[.int .i64 s, .int .i64 c, .int .i64 q, .int .i64 o, .int .i64 t]
set_option maxHeartbeats 1000000 in
theorem parent_any (s c q o t : Int) (w : World) :
    Calls Try.prog 42 #[idV s c q o t] w fun e w' => e = .returned (idV s c q 0 0) ∧ Below w.heap.size w w' := by
  unfold idV
  go_enter Try.func42, Try.ntmps42
  go_wp2
  refine bodyPost_ret (v := .agg #[.int .i64 s, .int .i64 c, .int .i64 q, .int .i64 0, .int .i64 0]) (by simp [results, Try.results42, go_sem, World.cell?_setCell_same']) rfl ?_
  exact ⟨rfl, belowA⟩
set_option maxHeartbeats 1000000 in
theorem rparent_any (s c q o t : Int) (w : World) :
    Calls Try.prog 46 #[idV s c q o t] w fun e w' => e = .returned (idV s c q 0 0) ∧ Below w.heap.size w w' := by
  unfold idV
  go_enter Try.func46, Try.ntmps46
  go_wp2
  refine bodyPost_ret (v := .agg #[.int .i64 s, .int .i64 c, .int .i64 q, .int .i64 0, .int .i64 0]) (by simp [results, Try.results46, go_sem, World.cell?_setCell_same']) rfl ?_
  exact ⟨rfl, belowA⟩
end Go.Proofs.Ytpnfkmlgelcbgaa
