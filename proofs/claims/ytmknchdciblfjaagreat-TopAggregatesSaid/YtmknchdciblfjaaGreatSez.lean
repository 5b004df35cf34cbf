/- Joined by port.py: XSd -/
import Derived.BigQuiet
import Derived.BigRegion
import Derived.Deep.DeepCutAuto
import Derived.Deep.CutBlock
import Derived.Laws.AppendOwn
import Derived.Test.YtmknchdciblfjaaGreatSz
import Derived.Test.YtmknchdciblfjaaGreatJa
import Derived.Test.YtmknchdciblfjaaGreatSb
import Derived.Test.YtmknchdciblfjaaGreatJb
import Derived.Test.YtmknchdciblfjaaGreatJo
import Derived.Test.YtmknchdciblfjaaGreatJs
import Derived.Test.YtmknchdciblfjaaGreatKaz
set_option linter.unusedVariables false
set_option linter.unusedSimpArgs false
/-! XSd -/
namespace Go.Proofs.YtmknchdciblfjaaGreat
open Go Go.RowKit Iv
attribute [local go_sem] Oper.semAt_some
attribute [local go_sem] B_getElem B_size B_app B_extract B_get B_toList
theorem sps_append (a b : List Sp) : sps (a ++ b) = sps a ++ sps b := by unfold sps; rw [List.flatMap_append]
end Go.Proofs.YtmknchdciblfjaaGreat
/- Joined by port.py: XSe -/
set_option linter.unusedVariables false
set_option linter.unusedSimpArgs false
/-! XSe -/
namespace Go.Proofs.YtmknchdciblfjaaGreat
open Go Go.RowKit Iv
attribute [local go_sem] Oper.semAt_some
attribute [local go_sem] B_getElem B_size B_app B_extract B_get B_toList
/-- a result, if it is not too long -/
def limS (l : List Sp) : List Sp × Int := if 1000 < l.length then ([], 4) else (l, 0)
def SpsPostF (r : List Sp × Int) (w : World) (e : Ending) (w' : World) : Prop := ∃ u, e = .returned (.tuple #[u, .int .i64 r.2]) ∧ RSps w' w'.heap.size u r.1 ∧ RFrom w.heap.size u ∧ Below w.heap.size w w'
end Go.Proofs.YtmknchdciblfjaaGreat
/- Joined by port.py: XSf -/
set_option linter.unusedVariables false
set_option linter.unusedSimpArgs false
/-! XSf -/
namespace Go.Proofs.YtmknchdciblfjaaGreat
open Go Go.RowKit Iv
attribute [local go_sem] Oper.semAt_some
attribute [local go_sem] B_getElem B_size B_app B_extract B_get B_toList
theorem both1_len (x : Sp) (b : List Sp) : (both1 x b).length ≤ b.length := List.length_filterMap_le _ _
theorem both_len (a b : List Sp) : (both a b).length ≤ a.length * b.length := by
  unfold both
  induction a with
  | nil => simp
  | cons x r ih => rw [List.flatMap_cons, List.length_append, List.length_cons, Nat.succ_mul]; have := both1_len x b; omega
end Go.Proofs.YtmknchdciblfjaaGreat
