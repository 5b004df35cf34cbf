/-
  No cell of these rows narrows 'for every input' (looked for: loops, veiled, ifaces, maps, wideKeys, modest, calm, conditions, laid).
  DERIVED. THE GIVEN ROWS OF THIS SEAT. 7 by the template 'for every input the law returns true; each argument reads behind the call as it read before'; 0 by the template 'total and deterministic' (their statements: YtfkdhcfedjbkfaaTotals.lean).
  GIVEN WITH THE SEED: the statements are not yours to turn. If you find one false, say at which input.
  Laid BY PROGRAM, IN A SANDBOX (cutbox-rows.mjs): the forced cells as the released guide's own fill.sh prints them over the translation 4c5fce6b9cf831d2… (all of the seat's roots in one cut). By AI agents, Wed Nov 11 2026. No macro, syntax, notation, axiom, sorry.
-/
import Derived.Test.YtfkdhcfedjbkfaaChecked
import GoSem.Claim
import GoSem.ClaimJoined
import GoSem.ClaimMapViews
import Derived.JoinedTies
import Derived.KernelRfl
namespace Go.Proofs.Ytfkdhcfedjbkfaa
/- THE CELL 'sum', in the pinned program and in every row, IS THE sha256 OF THE DUMP (.gsa) THAT YtfkdhcfedjbkfaaProg.lean LOADS. Nothing in Lean hashes anything: it is a label: what it is worth is what the hold of that sum in a sandbox is worth. -/
noncomputable def Try.pinned : Pinned := { name := "ytfkdhcfedjbkfaa", sum := "4c5fce6b9cf831d25a00f2d7892f5425916fe572204fd01d1941257f82e93ac1", checked := Try.checked }
namespace Rows
def none {H : Type} : Left H := { results := [], args := [] }

/-- 'mailboatlaw04.RationalNew': WHATEVER THE INPUT: true; the input reads as it did. -/
def rationalNewSpec : ChangeSpec := { name := "rationalNew", fn := fun _ => fun
  | [d1, d2, d3] => { results := [.lit (.bool true)], args := [d1, d2, d3] }
  | _ => none }
def rationalNewRow : OpenClaim := { program := "ytfkdhcfedjbkfaa", sum := "4c5fce6b9cf831d25a00f2d7892f5425916fe572204fd01d1941257f82e93ac1", func := "mailboat/mailboatlaw04.RationalNew", spec := "rationalNew", unfollowed := true, recurses := true, apart := false }
def RationalNewSaid : Prop := rationalNewRow.holds Try.pinned (OpenSpec.ofChange rationalNewSpec)

/-- ITS FALSE NEIGHBOUR: 'it returns false'. Refute it at one input. -/
def rationalNewWrong : ChangeSpec := { name := "rationalNew", fn := fun _ => fun
  | [d1, d2, d3] => { results := [.lit (.bool false)], args := [d1, d2, d3] }
  | _ => none }
def RationalNewWrongFalsely : Prop := rationalNewRow.holds Try.pinned (OpenSpec.ofChange rationalNewWrong)

/-- 'mailboatlaw04.RationalRounds': WHATEVER THE INPUT: true; the input reads as it did. -/
def rationalRoundsSpec : ChangeSpec := { name := "rationalRounds", fn := fun _ => fun
  | [d] => { results := [.lit (.bool true)], args := [d] }
  | _ => none }
def rationalRoundsRow : OpenClaim := { program := "ytfkdhcfedjbkfaa", sum := "4c5fce6b9cf831d25a00f2d7892f5425916fe572204fd01d1941257f82e93ac1", func := "mailboat/mailboatlaw04.RationalRounds", spec := "rationalRounds", unfollowed := true, recurses := true, apart := false }
def RationalRoundsSaid : Prop := rationalRoundsRow.holds Try.pinned (OpenSpec.ofChange rationalRoundsSpec)

/-- ITS FALSE NEIGHBOUR: 'it returns false'. Refute it at one input. -/
def rationalRoundsWrong : ChangeSpec := { name := "rationalRounds", fn := fun _ => fun
  | [d] => { results := [.lit (.bool false)], args := [d] }
  | _ => none }
def RationalRoundsWrongFalsely : Prop := rationalRoundsRow.holds Try.pinned (OpenSpec.ofChange rationalRoundsWrong)

/-- 'mailboatlaw04.RationalOrder': WHATEVER THE INPUT: true; the input reads as it did. -/
def rationalOrderSpec : ChangeSpec := { name := "rationalOrder", fn := fun _ => fun
  | [d1, d2] => { results := [.lit (.bool true)], args := [d1, d2] }
  | _ => none }
def rationalOrderRow : OpenClaim := { program := "ytfkdhcfedjbkfaa", sum := "4c5fce6b9cf831d25a00f2d7892f5425916fe572204fd01d1941257f82e93ac1", func := "mailboat/mailboatlaw04.RationalOrder", spec := "rationalOrder", unfollowed := true, recurses := true, apart := false }
def RationalOrderSaid : Prop := rationalOrderRow.holds Try.pinned (OpenSpec.ofChange rationalOrderSpec)

/-- ITS FALSE NEIGHBOUR: 'it returns false'. Refute it at one input. -/
def rationalOrderWrong : ChangeSpec := { name := "rationalOrder", fn := fun _ => fun
  | [d1, d2] => { results := [.lit (.bool false)], args := [d1, d2] }
  | _ => none }
def RationalOrderWrongFalsely : Prop := rationalOrderRow.holds Try.pinned (OpenSpec.ofChange rationalOrderWrong)

/-- 'mailboatlaw04.RationalCompares': WHATEVER THE INPUT: true; the input reads as it did. -/
def rationalComparesSpec : ChangeSpec := { name := "rationalCompares", fn := fun _ => fun
  | [d1, d2, d3] => { results := [.lit (.bool true)], args := [d1, d2, d3] }
  | _ => none }
def rationalComparesRow : OpenClaim := { program := "ytfkdhcfedjbkfaa", sum := "4c5fce6b9cf831d25a00f2d7892f5425916fe572204fd01d1941257f82e93ac1", func := "mailboat/mailboatlaw04.RationalCompares", spec := "rationalCompares", unfollowed := true, recurses := true, apart := false }
def RationalComparesSaid : Prop := rationalComparesRow.holds Try.pinned (OpenSpec.ofChange rationalComparesSpec)

/-- ITS FALSE NEIGHBOUR: 'it returns false'. Refute it at one input. -/
def rationalComparesWrong : ChangeSpec := { name := "rationalCompares", fn := fun _ => fun
  | [d1, d2, d3] => { results := [.lit (.bool false)], args := [d1, d2, d3] }
  | _ => none }
def RationalComparesWrongFalsely : Prop := rationalComparesRow.holds Try.pinned (OpenSpec.ofChange rationalComparesWrong)

/-- 'mailboatlaw04.RationalField': WHATEVER THE INPUT: true; the input reads as it did. -/
def rationalFieldSpec : ChangeSpec := { name := "rationalField", fn := fun _ => fun
  | [d1, d2, d3] => { results := [.lit (.bool true)], args := [d1, d2, d3] }
  | _ => none }
def rationalFieldRow : OpenClaim := { program := "ytfkdhcfedjbkfaa", sum := "4c5fce6b9cf831d25a00f2d7892f5425916fe572204fd01d1941257f82e93ac1", func := "mailboat/mailboatlaw04.RationalField", spec := "rationalField", unfollowed := true, recurses := true, apart := false }
def RationalFieldSaid : Prop := rationalFieldRow.holds Try.pinned (OpenSpec.ofChange rationalFieldSpec)

/-- ITS FALSE NEIGHBOUR: 'it returns false'. Refute it at one input. -/
def rationalFieldWrong : ChangeSpec := { name := "rationalField", fn := fun _ => fun
  | [d1, d2, d3] => { results := [.lit (.bool false)], args := [d1, d2, d3] }
  | _ => none }
def RationalFieldWrongFalsely : Prop := rationalFieldRow.holds Try.pinned (OpenSpec.ofChange rationalFieldWrong)

/-- 'mailboatlaw04.RationalSums': WHATEVER THE INPUT: true; the input reads as it did. -/
def rationalSumsSpec : ChangeSpec := { name := "rationalSums", fn := fun _ => fun
  | [d1, d2] => { results := [.lit (.bool true)], args := [d1, d2] }
  | _ => none }
def rationalSumsRow : OpenClaim := { program := "ytfkdhcfedjbkfaa", sum := "4c5fce6b9cf831d25a00f2d7892f5425916fe572204fd01d1941257f82e93ac1", func := "mailboat/mailboatlaw04.RationalSums", spec := "rationalSums", unfollowed := true, recurses := true, apart := false }
def RationalSumsSaid : Prop := rationalSumsRow.holds Try.pinned (OpenSpec.ofChange rationalSumsSpec)

/-- ITS FALSE NEIGHBOUR: 'it returns false'. Refute it at one input. -/
def rationalSumsWrong : ChangeSpec := { name := "rationalSums", fn := fun _ => fun
  | [d1, d2] => { results := [.lit (.bool false)], args := [d1, d2] }
  | _ => none }
def RationalSumsWrongFalsely : Prop := rationalSumsRow.holds Try.pinned (OpenSpec.ofChange rationalSumsWrong)

/-- 'mailboatlaw04.RationalInverse': WHATEVER THE INPUT: true; the input reads as it did. -/
def rationalInverseSpec : ChangeSpec := { name := "rationalInverse", fn := fun _ => fun
  | [d1, d2] => { results := [.lit (.bool true)], args := [d1, d2] }
  | _ => none }
def rationalInverseRow : OpenClaim := { program := "ytfkdhcfedjbkfaa", sum := "4c5fce6b9cf831d25a00f2d7892f5425916fe572204fd01d1941257f82e93ac1", func := "mailboat/mailboatlaw04.RationalInverse", spec := "rationalInverse", unfollowed := true, recurses := true, apart := false }
def RationalInverseSaid : Prop := rationalInverseRow.holds Try.pinned (OpenSpec.ofChange rationalInverseSpec)

/-- ITS FALSE NEIGHBOUR: 'it returns false'. Refute it at one input. -/
def rationalInverseWrong : ChangeSpec := { name := "rationalInverse", fn := fun _ => fun
  | [d1, d2] => { results := [.lit (.bool false)], args := [d1, d2] }
  | _ => none }
def RationalInverseWrongFalsely : Prop := rationalInverseRow.holds Try.pinned (OpenSpec.ofChange rationalInverseWrong)

/- THE SECOND FORM. 'bulk': how many values and letters a reading holds, each counted each time it is reached (what is shared counts as often as it is met; a slice's spare places count too). A statement '..UptoSaid' is the law's where the arguments, and the package variables that the reading takes, are together of bulk at most 1048576: NARROWER than '..Said'. Prove '..Said' where nothing that the law and all that it calls make is longer than what came in: it says more and counts as full. Else prove '..UptoSaid'. A law counts once. -/
mutual
def uptoBulk {H : Type} : DataW H → Nat
  | .lit (.string bytes) => bytes.length + 1
  | .lit _ => 1
  | .nil => 1
  | .ptr d => uptoBulk d + 1
  | .slice elems spare => uptoBulkAll elems + uptoBulkAll spare + 1
  | .agg parts => uptoBulkAll parts + 1
  | .iface _ d => uptoBulk d + 1
  | .map entries => uptoBulkEntries entries + 1
  | .held _ => 1
def uptoBulkAll {H : Type} : List (DataW H) → Nat
  | [] => 0
  | d :: r => uptoBulk d + uptoBulkAll r
def uptoBulkEntries {H : Type} : List (Lit × DataW H) → Nat
  | [] => 0
  | x :: r => uptoBulkEntry x + uptoBulkEntries r
def uptoBulkEntry {H : Type} : Lit × DataW H → Nat
  | (.string bytes, d) => bytes.length + uptoBulk d + 1
  | (_, d) => uptoBulk d + 1
 end
def uptoSmall : (H : Type) → List (DataW H) → Bool := fun _ ds => decide (uptoBulkAll ds ≤ 1048576)
def OpenSpec.upto (s : _root_.Go.ChangeSpec) : _root_.Go.OpenSpec := { _root_.Go.OpenSpec.ofChange s with cond := some uptoSmall }

/-- 'mailboatlaw04.RationalNew', WHERE WHAT IT READS IS OF BULK AT MOST 1048576: true; the input reads as it did. -/
def rationalNewUptoRow : OpenClaim := { program := "ytfkdhcfedjbkfaa", sum := "4c5fce6b9cf831d25a00f2d7892f5425916fe572204fd01d1941257f82e93ac1", func := "mailboat/mailboatlaw04.RationalNew", spec := "rationalNew", unfollowed := true, recurses := true, apart := false, narrowed := true }
def RationalNewUptoSaid : Prop := rationalNewUptoRow.holds Try.pinned (OpenSpec.upto rationalNewSpec)

/-- 'mailboatlaw04.RationalRounds', WHERE WHAT IT READS IS OF BULK AT MOST 1048576: true; the input reads as it did. -/
def rationalRoundsUptoRow : OpenClaim := { program := "ytfkdhcfedjbkfaa", sum := "4c5fce6b9cf831d25a00f2d7892f5425916fe572204fd01d1941257f82e93ac1", func := "mailboat/mailboatlaw04.RationalRounds", spec := "rationalRounds", unfollowed := true, recurses := true, apart := false, narrowed := true }
def RationalRoundsUptoSaid : Prop := rationalRoundsUptoRow.holds Try.pinned (OpenSpec.upto rationalRoundsSpec)

/-- 'mailboatlaw04.RationalOrder', WHERE WHAT IT READS IS OF BULK AT MOST 1048576: true; the input reads as it did. -/
def rationalOrderUptoRow : OpenClaim := { program := "ytfkdhcfedjbkfaa", sum := "4c5fce6b9cf831d25a00f2d7892f5425916fe572204fd01d1941257f82e93ac1", func := "mailboat/mailboatlaw04.RationalOrder", spec := "rationalOrder", unfollowed := true, recurses := true, apart := false, narrowed := true }
def RationalOrderUptoSaid : Prop := rationalOrderUptoRow.holds Try.pinned (OpenSpec.upto rationalOrderSpec)

/-- 'mailboatlaw04.RationalCompares', WHERE WHAT IT READS IS OF BULK AT MOST 1048576: true; the input reads as it did. -/
def rationalComparesUptoRow : OpenClaim := { program := "ytfkdhcfedjbkfaa", sum := "4c5fce6b9cf831d25a00f2d7892f5425916fe572204fd01d1941257f82e93ac1", func := "mailboat/mailboatlaw04.RationalCompares", spec := "rationalCompares", unfollowed := true, recurses := true, apart := false, narrowed := true }
def RationalComparesUptoSaid : Prop := rationalComparesUptoRow.holds Try.pinned (OpenSpec.upto rationalComparesSpec)

/-- 'mailboatlaw04.RationalField', WHERE WHAT IT READS IS OF BULK AT MOST 1048576: true; the input reads as it did. -/
def rationalFieldUptoRow : OpenClaim := { program := "ytfkdhcfedjbkfaa", sum := "4c5fce6b9cf831d25a00f2d7892f5425916fe572204fd01d1941257f82e93ac1", func := "mailboat/mailboatlaw04.RationalField", spec := "rationalField", unfollowed := true, recurses := true, apart := false, narrowed := true }
def RationalFieldUptoSaid : Prop := rationalFieldUptoRow.holds Try.pinned (OpenSpec.upto rationalFieldSpec)

/-- 'mailboatlaw04.RationalSums', WHERE WHAT IT READS IS OF BULK AT MOST 1048576: true; the input reads as it did. -/
def rationalSumsUptoRow : OpenClaim := { program := "ytfkdhcfedjbkfaa", sum := "4c5fce6b9cf831d25a00f2d7892f5425916fe572204fd01d1941257f82e93ac1", func := "mailboat/mailboatlaw04.RationalSums", spec := "rationalSums", unfollowed := true, recurses := true, apart := false, narrowed := true }
def RationalSumsUptoSaid : Prop := rationalSumsUptoRow.holds Try.pinned (OpenSpec.upto rationalSumsSpec)

/-- 'mailboatlaw04.RationalInverse', WHERE WHAT IT READS IS OF BULK AT MOST 1048576: true; the input reads as it did. -/
def rationalInverseUptoRow : OpenClaim := { program := "ytfkdhcfedjbkfaa", sum := "4c5fce6b9cf831d25a00f2d7892f5425916fe572204fd01d1941257f82e93ac1", func := "mailboat/mailboatlaw04.RationalInverse", spec := "rationalInverse", unfollowed := true, recurses := true, apart := false, narrowed := true }
def RationalInverseUptoSaid : Prop := rationalInverseUptoRow.holds Try.pinned (OpenSpec.upto rationalInverseSpec)

end Rows
end Go.Proofs.Ytfkdhcfedjbkfaa
