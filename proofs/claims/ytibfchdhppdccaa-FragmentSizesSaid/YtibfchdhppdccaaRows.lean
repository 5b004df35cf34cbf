/-
  No cell of these rows narrows 'for every input' (looked for: loops, veiled, ifaces, maps, wideKeys, modest, calm, conditions, laid).
  DERIVED. THE GIVEN ROWS OF THIS SEAT. 7 by the template 'for every input the law returns true; each argument reads behind the call as it read before'; 0 by the template 'total and deterministic' (their statements: YtibfchdhppdccaaTotals.lean).
  GIVEN WITH THE SEED: the statements are not yours to turn. If you find one false, say at which input.
  Laid BY PROGRAM, IN A SANDBOX (cutbox-rows.mjs): the forced cells as the released guide's own fill.sh prints them over the translation ba0edf084b9bd4e5… (all of the seat's roots in one cut). By AI agents, Wed Nov 11 2026. No macro, syntax, notation, axiom, sorry.
-/
import Derived.Test.YtibfchdhppdccaaChecked
import GoSem.Claim
import GoSem.ClaimJoined
import GoSem.ClaimMapViews
import Derived.JoinedTies
import Derived.KernelRfl
namespace Go.Proofs.Ytibfchdhppdccaa
/- THE CELL 'sum', in the pinned program and in every row, IS THE sha256 OF THE DUMP (.gsa) THAT YtibfchdhppdccaaProg.lean LOADS. Nothing in Lean hashes anything: it is a label: what it is worth is what the hold of that sum in a sandbox is worth. -/
noncomputable def Try.pinned : Pinned := { name := "ytibfchdhppdccaa", sum := "ba0edf084b9bd4e5d81370d562602ece654c11bc8f7d16bd222b4ca915c9339b", checked := Try.checked }
namespace Rows
def none {H : Type} : Left H := { results := [], args := [] }

/-- 'mailboatlaw17.FragmentSplit': WHATEVER THE INPUT: true; the input reads as it did. -/
def fragmentSplitSpec : ChangeSpec := { name := "fragmentSplit", fn := fun _ => fun
  | [d1, d2] => { results := [.lit (.bool true)], args := [d1, d2] }
  | _ => none }
def fragmentSplitRow : OpenClaim := { program := "ytibfchdhppdccaa", sum := "ba0edf084b9bd4e5d81370d562602ece654c11bc8f7d16bd222b4ca915c9339b", func := "mailboat/mailboatlaw17.FragmentSplit", spec := "fragmentSplit", unfollowed := true, recurses := true, apart := false }
def FragmentSplitSaid : Prop := fragmentSplitRow.holds Try.pinned (OpenSpec.ofChange fragmentSplitSpec)

/-- ITS FALSE NEIGHBOUR: 'it returns false'. Refute it at one input. -/
def fragmentSplitWrong : ChangeSpec := { name := "fragmentSplit", fn := fun _ => fun
  | [d1, d2] => { results := [.lit (.bool false)], args := [d1, d2] }
  | _ => none }
def FragmentSplitWrongFalsely : Prop := fragmentSplitRow.holds Try.pinned (OpenSpec.ofChange fragmentSplitWrong)

/-- 'mailboatlaw17.FragmentSizes': WHATEVER THE INPUT: true; the input reads as it did. -/
def fragmentSizesSpec : ChangeSpec := { name := "fragmentSizes", fn := fun _ => fun
  | [d1, d2] => { results := [.lit (.bool true)], args := [d1, d2] }
  | _ => none }
def fragmentSizesRow : OpenClaim := { program := "ytibfchdhppdccaa", sum := "ba0edf084b9bd4e5d81370d562602ece654c11bc8f7d16bd222b4ca915c9339b", func := "mailboat/mailboatlaw17.FragmentSizes", spec := "fragmentSizes", unfollowed := true, recurses := true, apart := false }
def FragmentSizesSaid : Prop := fragmentSizesRow.holds Try.pinned (OpenSpec.ofChange fragmentSizesSpec)

/-- ITS FALSE NEIGHBOUR: 'it returns false'. Refute it at one input. -/
def fragmentSizesWrong : ChangeSpec := { name := "fragmentSizes", fn := fun _ => fun
  | [d1, d2] => { results := [.lit (.bool false)], args := [d1, d2] }
  | _ => none }
def FragmentSizesWrongFalsely : Prop := fragmentSizesRow.holds Try.pinned (OpenSpec.ofChange fragmentSizesWrong)

/-- 'mailboatlaw17.FragmentBlocks': WHATEVER THE INPUT: true; the input reads as it did. -/
def fragmentBlocksSpec : ChangeSpec := { name := "fragmentBlocks", fn := fun _ => fun
  | [d1, d2] => { results := [.lit (.bool true)], args := [d1, d2] }
  | _ => none }
def fragmentBlocksRow : OpenClaim := { program := "ytibfchdhppdccaa", sum := "ba0edf084b9bd4e5d81370d562602ece654c11bc8f7d16bd222b4ca915c9339b", func := "mailboat/mailboatlaw17.FragmentBlocks", spec := "fragmentBlocks", unfollowed := true, recurses := true, apart := false }
def FragmentBlocksSaid : Prop := fragmentBlocksRow.holds Try.pinned (OpenSpec.ofChange fragmentBlocksSpec)

/-- ITS FALSE NEIGHBOUR: 'it returns false'. Refute it at one input. -/
def fragmentBlocksWrong : ChangeSpec := { name := "fragmentBlocks", fn := fun _ => fun
  | [d1, d2] => { results := [.lit (.bool false)], args := [d1, d2] }
  | _ => none }
def FragmentBlocksWrongFalsely : Prop := fragmentBlocksRow.holds Try.pinned (OpenSpec.ofChange fragmentBlocksWrong)

/-- 'mailboatlaw17.FragmentValid': WHATEVER THE INPUT: true; the input reads as it did. -/
def fragmentValidSpec : ChangeSpec := { name := "fragmentValid", fn := fun _ => fun
  | [d1, d2, d3] => { results := [.lit (.bool true)], args := [d1, d2, d3] }
  | _ => none }
def fragmentValidRow : OpenClaim := { program := "ytibfchdhppdccaa", sum := "ba0edf084b9bd4e5d81370d562602ece654c11bc8f7d16bd222b4ca915c9339b", func := "mailboat/mailboatlaw17.FragmentValid", spec := "fragmentValid", unfollowed := true, recurses := true, apart := false }
def FragmentValidSaid : Prop := fragmentValidRow.holds Try.pinned (OpenSpec.ofChange fragmentValidSpec)

/-- ITS FALSE NEIGHBOUR: 'it returns false'. Refute it at one input. -/
def fragmentValidWrong : ChangeSpec := { name := "fragmentValid", fn := fun _ => fun
  | [d1, d2, d3] => { results := [.lit (.bool false)], args := [d1, d2, d3] }
  | _ => none }
def FragmentValidWrongFalsely : Prop := fragmentValidRow.holds Try.pinned (OpenSpec.ofChange fragmentValidWrong)

/-- 'mailboatlaw17.FragmentBytes': WHATEVER THE INPUT: true; the input reads as it did. -/
def fragmentBytesSpec : ChangeSpec := { name := "fragmentBytes", fn := fun _ => fun
  | [d1, d2, d3] => { results := [.lit (.bool true)], args := [d1, d2, d3] }
  | _ => none }
def fragmentBytesRow : OpenClaim := { program := "ytibfchdhppdccaa", sum := "ba0edf084b9bd4e5d81370d562602ece654c11bc8f7d16bd222b4ca915c9339b", func := "mailboat/mailboatlaw17.FragmentBytes", spec := "fragmentBytes", unfollowed := true, recurses := true, apart := false }
def FragmentBytesSaid : Prop := fragmentBytesRow.holds Try.pinned (OpenSpec.ofChange fragmentBytesSpec)

/-- ITS FALSE NEIGHBOUR: 'it returns false'. Refute it at one input. -/
def fragmentBytesWrong : ChangeSpec := { name := "fragmentBytes", fn := fun _ => fun
  | [d1, d2, d3] => { results := [.lit (.bool false)], args := [d1, d2, d3] }
  | _ => none }
def FragmentBytesWrongFalsely : Prop := fragmentBytesRow.holds Try.pinned (OpenSpec.ofChange fragmentBytesWrong)

/-- 'mailboatlaw17.FragmentTwice': WHATEVER THE INPUT: true; the input reads as it did. -/
def fragmentTwiceSpec : ChangeSpec := { name := "fragmentTwice", fn := fun _ => fun
  | [d1, d2, d3, d4, d5] => { results := [.lit (.bool true)], args := [d1, d2, d3, d4, d5] }
  | _ => none }
def fragmentTwiceRow : OpenClaim := { program := "ytibfchdhppdccaa", sum := "ba0edf084b9bd4e5d81370d562602ece654c11bc8f7d16bd222b4ca915c9339b", func := "mailboat/mailboatlaw17.FragmentTwice", spec := "fragmentTwice", unfollowed := true, recurses := true, apart := false }
def FragmentTwiceSaid : Prop := fragmentTwiceRow.holds Try.pinned (OpenSpec.ofChange fragmentTwiceSpec)

/-- ITS FALSE NEIGHBOUR: 'it returns false'. Refute it at one input. -/
def fragmentTwiceWrong : ChangeSpec := { name := "fragmentTwice", fn := fun _ => fun
  | [d1, d2, d3, d4, d5] => { results := [.lit (.bool false)], args := [d1, d2, d3, d4, d5] }
  | _ => none }
def FragmentTwiceWrongFalsely : Prop := fragmentTwiceRow.holds Try.pinned (OpenSpec.ofChange fragmentTwiceWrong)

/-- 'mailboatlaw17.FragmentCut': WHATEVER THE INPUT: true; the input reads as it did. -/
def fragmentCutSpec : ChangeSpec := { name := "fragmentCut", fn := fun _ => fun
  | [d1, d2, d3] => { results := [.lit (.bool true)], args := [d1, d2, d3] }
  | _ => none }
def fragmentCutRow : OpenClaim := { program := "ytibfchdhppdccaa", sum := "ba0edf084b9bd4e5d81370d562602ece654c11bc8f7d16bd222b4ca915c9339b", func := "mailboat/mailboatlaw17.FragmentCut", spec := "fragmentCut", unfollowed := true, recurses := true, apart := false }
def FragmentCutSaid : Prop := fragmentCutRow.holds Try.pinned (OpenSpec.ofChange fragmentCutSpec)

/-- ITS FALSE NEIGHBOUR: 'it returns false'. Refute it at one input. -/
def fragmentCutWrong : ChangeSpec := { name := "fragmentCut", fn := fun _ => fun
  | [d1, d2, d3] => { results := [.lit (.bool false)], args := [d1, d2, d3] }
  | _ => none }
def FragmentCutWrongFalsely : Prop := fragmentCutRow.holds Try.pinned (OpenSpec.ofChange fragmentCutWrong)

/- THE SECOND FORM. 'bulk': how many values and letters a reading holds, each counted each time it is reached (what is shared counts as often as it is met; a slice's spare places count too). A statement '..UptoSaid' is the law's where the arguments, and the package variables that the reading takes, are together of bulk at most 1048576: NARROWER than '..Said'. Prove '..Said' where nothing that the law and all that it calls make is longer than what came in: it says more and counts as full. Else prove '..UptoSaid'. A law counts once. -/
mutual
def uptoBulk {H : Type} : DataW H → Nat
  | .lit (.string bytes) => bytes.length + 1
  | .lit _ => 1
  | .nil => 1
  | .ptr d => uptoBulk d + 1
  | .slice elems spare => uptoBulkAll elems + uptoBulkAll spare + 1
  | .agg parts => uptoBulkAll parts + 1
  | .iface _ d => uptoBulk d + 1
  | .map entries => uptoBulkEntries entries + 1
  | .held _ => 1
def uptoBulkAll {H : Type} : List (DataW H) → Nat
  | [] => 0
  | d :: r => uptoBulk d + uptoBulkAll r
def uptoBulkEntries {H : Type} : List (Lit × DataW H) → Nat
  | [] => 0
  | x :: r => uptoBulkEntry x + uptoBulkEntries r
def uptoBulkEntry {H : Type} : Lit × DataW H → Nat
  | (.string bytes, d) => bytes.length + uptoBulk d + 1
  | (_, d) => uptoBulk d + 1
 end
def uptoSmall : (H : Type) → List (DataW H) → Bool := fun _ ds => decide (uptoBulkAll ds ≤ 1048576)
def OpenSpec.upto (s : _root_.Go.ChangeSpec) : _root_.Go.OpenSpec := { _root_.Go.OpenSpec.ofChange s with cond := some uptoSmall }

/-- 'mailboatlaw17.FragmentSplit', WHERE WHAT IT READS IS OF BULK AT MOST 1048576: true; the input reads as it did. -/
def fragmentSplitUptoRow : OpenClaim := { program := "ytibfchdhppdccaa", sum := "ba0edf084b9bd4e5d81370d562602ece654c11bc8f7d16bd222b4ca915c9339b", func := "mailboat/mailboatlaw17.FragmentSplit", spec := "fragmentSplit", unfollowed := true, recurses := true, apart := false, narrowed := true }
def FragmentSplitUptoSaid : Prop := fragmentSplitUptoRow.holds Try.pinned (OpenSpec.upto fragmentSplitSpec)

/-- 'mailboatlaw17.FragmentSizes', WHERE WHAT IT READS IS OF BULK AT MOST 1048576: true; the input reads as it did. -/
def fragmentSizesUptoRow : OpenClaim := { program := "ytibfchdhppdccaa", sum := "ba0edf084b9bd4e5d81370d562602ece654c11bc8f7d16bd222b4ca915c9339b", func := "mailboat/mailboatlaw17.FragmentSizes", spec := "fragmentSizes", unfollowed := true, recurses := true, apart := false, narrowed := true }
def FragmentSizesUptoSaid : Prop := fragmentSizesUptoRow.holds Try.pinned (OpenSpec.upto fragmentSizesSpec)

/-- 'mailboatlaw17.FragmentBlocks', WHERE WHAT IT READS IS OF BULK AT MOST 1048576: true; the input reads as it did. -/
def fragmentBlocksUptoRow : OpenClaim := { program := "ytibfchdhppdccaa", sum := "ba0edf084b9bd4e5d81370d562602ece654c11bc8f7d16bd222b4ca915c9339b", func := "mailboat/mailboatlaw17.FragmentBlocks", spec := "fragmentBlocks", unfollowed := true, recurses := true, apart := false, narrowed := true }
def FragmentBlocksUptoSaid : Prop := fragmentBlocksUptoRow.holds Try.pinned (OpenSpec.upto fragmentBlocksSpec)

/-- 'mailboatlaw17.FragmentValid', WHERE WHAT IT READS IS OF BULK AT MOST 1048576: true; the input reads as it did. -/
def fragmentValidUptoRow : OpenClaim := { program := "ytibfchdhppdccaa", sum := "ba0edf084b9bd4e5d81370d562602ece654c11bc8f7d16bd222b4ca915c9339b", func := "mailboat/mailboatlaw17.FragmentValid", spec := "fragmentValid", unfollowed := true, recurses := true, apart := false, narrowed := true }
def FragmentValidUptoSaid : Prop := fragmentValidUptoRow.holds Try.pinned (OpenSpec.upto fragmentValidSpec)

/-- 'mailboatlaw17.FragmentBytes', WHERE WHAT IT READS IS OF BULK AT MOST 1048576: true; the input reads as it did. -/
def fragmentBytesUptoRow : OpenClaim := { program := "ytibfchdhppdccaa", sum := "ba0edf084b9bd4e5d81370d562602ece654c11bc8f7d16bd222b4ca915c9339b", func := "mailboat/mailboatlaw17.FragmentBytes", spec := "fragmentBytes", unfollowed := true, recurses := true, apart := false, narrowed := true }
def FragmentBytesUptoSaid : Prop := fragmentBytesUptoRow.holds Try.pinned (OpenSpec.upto fragmentBytesSpec)

/-- 'mailboatlaw17.FragmentTwice', WHERE WHAT IT READS IS OF BULK AT MOST 1048576: true; the input reads as it did. -/
def fragmentTwiceUptoRow : OpenClaim := { program := "ytibfchdhppdccaa", sum := "ba0edf084b9bd4e5d81370d562602ece654c11bc8f7d16bd222b4ca915c9339b", func := "mailboat/mailboatlaw17.FragmentTwice", spec := "fragmentTwice", unfollowed := true, recurses := true, apart := false, narrowed := true }
def FragmentTwiceUptoSaid : Prop := fragmentTwiceUptoRow.holds Try.pinned (OpenSpec.upto fragmentTwiceSpec)

/-- 'mailboatlaw17.FragmentCut', WHERE WHAT IT READS IS OF BULK AT MOST 1048576: true; the input reads as it did. -/
def fragmentCutUptoRow : OpenClaim := { program := "ytibfchdhppdccaa", sum := "ba0edf084b9bd4e5d81370d562602ece654c11bc8f7d16bd222b4ca915c9339b", func := "mailboat/mailboatlaw17.FragmentCut", spec := "fragmentCut", unfollowed := true, recurses := true, apart := false, narrowed := true }
def FragmentCutUptoSaid : Prop := fragmentCutUptoRow.holds Try.pinned (OpenSpec.upto fragmentCutSpec)

end Rows
end Go.Proofs.Ytibfchdhppdccaa
