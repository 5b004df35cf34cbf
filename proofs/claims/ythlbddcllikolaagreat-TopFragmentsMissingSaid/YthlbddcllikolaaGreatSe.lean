/- Joined by port.py: XSe -/
import Derived.BigQuiet
import Derived.BigRegion
import Derived.Deep.DeepCutAuto
import Derived.Deep.CutBlock
import Derived.Laws.AppendOwn
import Derived.Test.YthlbddcllikolaaGreatSd
import Derived.Test.YthlbddcllikolaaGreatJa
import Derived.Test.YthlbddcllikolaaGreatJb
import Derived.Test.YthlbddcllikolaaGreatSb
set_option linter.unusedVariables false
set_option linter.unusedSimpArgs false
/-! XSe -/
namespace Go.Proofs.YthlbddcllikolaaGreat
open Go Go.RowKit Iv
attribute [local go_sem] Oper.semAt_some
attribute [local go_sem] B_getElem B_size B_app B_extract B_get B_toList
/-- a result, if it is not too long -/
def limS (l : List Sp) : List Sp × Int := if 1000 < l.length then ([], 4) else (l, 0)
def SpsPostF (r : List Sp × Int) (w : World) (e : Ending) (w' : World) : Prop := ∃ u, e = .returned (.tuple #[u, .int .i64 r.2]) ∧ RSps w' w'.heap.size u r.1 ∧ RFrom w.heap.size u ∧ Below w.heap.size w w'
end Go.Proofs.YthlbddcllikolaaGreat
