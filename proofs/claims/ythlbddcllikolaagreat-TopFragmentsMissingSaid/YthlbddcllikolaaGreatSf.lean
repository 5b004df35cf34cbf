/- Joined by port.py: XSf -/
import Derived.BigQuiet
import Derived.BigRegion
import Derived.Deep.DeepCutAuto
import Derived.Deep.CutBlock
import Derived.Laws.AppendOwn
import Derived.Test.YthlbddcllikolaaGreatSe
import Derived.Test.YthlbddcllikolaaGreatJa
import Derived.Test.YthlbddcllikolaaGreatJb
import Derived.Test.YthlbddcllikolaaGreatJo
import Derived.Test.YthlbddcllikolaaGreatJs
import Derived.Test.YthlbddcllikolaaGreatJu
import Derived.Test.YthlbddcllikolaaGreatSb
set_option linter.unusedVariables false
set_option linter.unusedSimpArgs false
/-! XSf -/
namespace Go.Proofs.YthlbddcllikolaaGreat
open Go Go.RowKit Iv
attribute [local go_sem] Oper.semAt_some
attribute [local go_sem] B_getElem B_size B_app B_extract B_get B_toList
theorem both1_len (x : Sp) (b : List Sp) : (both1 x b).length ≤ b.length := List.length_filterMap_le _ _
theorem both_len (a b : List Sp) : (both a b).length ≤ a.length * b.length := by
  unfold both
  induction a with
  | nil => simp
  | cons x r ih => rw [List.flatMap_cons, List.length_append, List.length_cons, Nat.succ_mul]; have := both1_len x b; omega
end Go.Proofs.YthlbddcllikolaaGreat
