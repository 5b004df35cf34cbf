/- top35Awake: multicast.Grow, evaluated. -/
import Derived.Test.YtmknchdciblfjaaGreatAwb
set_option linter.unusedVariables false
set_option linter.unusedSimpArgs false
namespace Go.Proofs.YtmknchdciblfjaaGreat.Ev
open Go Go.RowKit
def memC : List Value := [.int .i64 1, .int .i64 2]
def groL : RV → Bool
  | .tup [.slice _ _ n _, .slice _ _ _ _, .val (.int .i64 e)] => Nat.beq n 2 && e == 0
  | _ => false
theorem grow_ev : ends (E35.call 15 [] s00) planV (fun s => match E35.call 18 [tabV, .val reqV, .slice s.nx 0 2 (.known 2)] (s.new (.cells (memC.map .val))) with | some (u, _) => groL u | none => false) = true := by kernel_rfl
end Go.Proofs.YtmknchdciblfjaaGreat.Ev
