/- Joined by port.py: XSc -/
import Derived.BigQuiet
import Derived.BigRegion
import Derived.Deep.DeepCutAuto
import Derived.Deep.CutBlock
import Derived.Test.YthlbddcllikolaaGreatSb
import Derived.Test.YthlbddcllikolaaGreatJa
set_option linter.unusedVariables false
set_option linter.unusedSimpArgs false
/-! XSc -/
namespace Go.Proofs.YthlbddcllikolaaGreat
open Go Go.RowKit Iv
attribute [local go_sem] Oper.semAt_some
attribute [local go_sem] B_getElem B_size B_app B_extract B_get B_toList
theorem infoSpan : (Tryz.prog.info? 52).map (fun i => (i.zero, i.size, i.bytes)) = some (some (.agg #[.int .i64 0, .int .i64 0]), 2, 16) := by kernel_rfl
end Go.Proofs.YthlbddcllikolaaGreat
