/- Small facts for chapter 13's laws. -/
import Derived.Test.YthedoidpapodgaaTk
set_option linter.unusedVariables false
set_option linter.unusedSimpArgs false
namespace Go.Proofs.Ythedoidpapodgaa
open Go Go.RowKit
theorem fits_valid {b : Bun} (h : chkE b = 0) : Fits b := by
  refine ⟨?_, blks_fit (blks_chk (chkE_zero h).2.2.1)⟩
  have := (payE_zero (chkE_zero h).2.2.2.1).1
  unfold maxLen; omega
end Go.Proofs.Ythedoidpapodgaa
