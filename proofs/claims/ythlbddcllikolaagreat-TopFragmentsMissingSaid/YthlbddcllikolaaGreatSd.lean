/- Joined by port.py: XSd -/
import Derived.BigQuiet
import Derived.BigRegion
import Derived.Deep.DeepCutAuto
import Derived.Deep.CutBlock
import Derived.Laws.AppendOwn
import Derived.Test.YthlbddcllikolaaGreatSc
import Derived.Test.YthlbddcllikolaaGreatJa
import Derived.Test.YthlbddcllikolaaGreatSb
set_option linter.unusedVariables false
set_option linter.unusedSimpArgs false
/-! XSd -/
namespace Go.Proofs.YthlbddcllikolaaGreat
open Go Go.RowKit Iv
attribute [local go_sem] Oper.semAt_some
attribute [local go_sem] B_getElem B_size B_app B_extract B_get B_toList
theorem sps_append (a b : List Sp) : sps (a ++ b) = sps a ++ sps b := by unfold sps; rw [List.flatMap_append]
end Go.Proofs.YthlbddcllikolaaGreat
