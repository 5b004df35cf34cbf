/- Chapter 18: the examples of awake, computed. -/
import Derived.Test.YtpnfkmlgelcbgaaUe
set_option linter.unusedVariables false
set_option linter.unusedSimpArgs false
namespace Go.Proofs.Ytpnfkmlgelcbgaa
open Go Go.RowKit Iv
def awB : Bun := ⟨0, 0, 0, 0, 0, 1, 0, 9, 0, 0, [], [104, 101, 108, 108, 111]⟩
def awX : Bun := ⟨0, 0, 0, 0, 5, 1, 0, 9, 0, 0, [], [104, 101, 108]⟩
def awY : Bun := ⟨0, 0, 0, 2, 5, 1, 0, 9, 0, 0, [], [108, 108, 111]⟩
def awZ : Bun := ⟨0, 0, 0, 2, 5, 1, 0, 9, 0, 0, [], [120, 108, 111]⟩
def awP : Par := ⟨⟨0, 0, 0, 0, 0, 1, 0, 9, 0, 0, [], []⟩, [(2, 5)], [0, 0, 108, 108, 111]⟩
theorem aw_x : cutR awB 0 3 = (awX, 0) := by rfl
theorem aw_y : cutR awB 2 5 = (awY, 0) := by rfl
theorem aw_p : newP awY = (awP, 0) := by rfl
theorem aw_m : missP awP = ([(0, 2)], 0) := by rfl
theorem aw_c : allP [awY, awX] = (awB, 0) := by rfl
theorem aw_j : allP [awX, awZ] = (zBun, 24) := by rfl
end Go.Proofs.Ytpnfkmlgelcbgaa
