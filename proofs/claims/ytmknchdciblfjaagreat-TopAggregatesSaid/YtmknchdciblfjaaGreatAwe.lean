/- top35Awake: security.Verify, evaluated. -/
import Derived.Test.YtmknchdciblfjaaGreatAwd
set_option linter.unusedVariables false
set_option linter.unusedSimpArgs false
namespace Go.Proofs.YtmknchdciblfjaaGreat.Ev
open Go Go.RowKit
def sV : S := (⟨.nil, 0⟩ : S).new (.cells (autC.map .val))
theorem verify_ev : ends (E35.call 20 [bunW 0, iv 1, .val keyV] sV) (iv 0) (fun s => cellsIs s 0 (autC.map .val)) = true := by kernel_rfl
theorem verify2_ev : ends (E35.call 20 [bunW 0, iv 1, .val kegV] sV) (iv 22) (fun s => true) = true := by kernel_rfl
end Go.Proofs.YtmknchdciblfjaaGreat.Ev
