/-
  No cell of these rows narrows 'for every input' (looked for: loops, veiled, ifaces, maps, wideKeys, modest, calm, conditions, laid).
  DERIVED. THE GIVEN ROWS OF THIS SEAT. 6 by the template 'for every input the law returns true; each argument reads behind the call as it read before'; 0 by the template 'total and deterministic' (their statements: YthgokfceakbjlaaTotals.lean).
  GIVEN WITH THE SEED: the statements are not yours to turn. If you find one false, say at which input.
  Laid BY PROGRAM, IN A SANDBOX (cutbox-rows.mjs): the forced cells as the released guide's own fill.sh prints them over the translation 7f187f671c479533… (all of the seat's roots in one cut). By AI agents, Wed Nov 11 2026. No macro, syntax, notation, axiom, sorry.
-/
import Derived.Test.YthgokfceakbjlaaChecked
import GoSem.Claim
import GoSem.ClaimJoined
import GoSem.ClaimMapViews
import Derived.JoinedTies
import Derived.KernelRfl
namespace Go.Proofs.Ythgokfceakbjlaa
/- THE CELL 'sum', in the pinned program and in every row, IS THE sha256 OF THE DUMP (.gsa) THAT YthgokfceakbjlaaProg.lean LOADS. Nothing in Lean hashes anything: it is a label: what it is worth is what the hold of that sum in a sandbox is worth. -/
noncomputable def Try.pinned : Pinned := { name := "ythgokfceakbjlaa", sum := "7f187f671c479533837f72f186d84824386f30c32cd3187d6bdbc081806da930", checked := Try.checked }
namespace Rows
def none {H : Type} : Left H := { results := [], args := [] }

/-- 'mailboatlaw14.ExtensionReads': WHATEVER THE INPUT: true; the input reads as it did. -/
def extensionReadsSpec : ChangeSpec := { name := "extensionReads", fn := fun _ => fun
  | [d] => { results := [.lit (.bool true)], args := [d] }
  | _ => none }
def extensionReadsRow : OpenClaim := { program := "ythgokfceakbjlaa", sum := "7f187f671c479533837f72f186d84824386f30c32cd3187d6bdbc081806da930", func := "mailboat/mailboatlaw14.ExtensionReads", spec := "extensionReads", unfollowed := true, recurses := true, apart := false }
def ExtensionReadsSaid : Prop := extensionReadsRow.holds Try.pinned (OpenSpec.ofChange extensionReadsSpec)

/-- ITS FALSE NEIGHBOUR: 'it returns false'. Refute it at one input. -/
def extensionReadsWrong : ChangeSpec := { name := "extensionReads", fn := fun _ => fun
  | [d] => { results := [.lit (.bool false)], args := [d] }
  | _ => none }
def ExtensionReadsWrongFalsely : Prop := extensionReadsRow.holds Try.pinned (OpenSpec.ofChange extensionReadsWrong)

/-- 'mailboatlaw14.ExtensionChanges': WHATEVER THE INPUT: true; the input reads as it did. -/
def extensionChangesSpec : ChangeSpec := { name := "extensionChanges", fn := fun _ => fun
  | [d1, d2, d3, d4] => { results := [.lit (.bool true)], args := [d1, d2, d3, d4] }
  | _ => none }
def extensionChangesRow : OpenClaim := { program := "ythgokfceakbjlaa", sum := "7f187f671c479533837f72f186d84824386f30c32cd3187d6bdbc081806da930", func := "mailboat/mailboatlaw14.ExtensionChanges", spec := "extensionChanges", unfollowed := true, recurses := true, apart := false }
def ExtensionChangesSaid : Prop := extensionChangesRow.holds Try.pinned (OpenSpec.ofChange extensionChangesSpec)

/-- ITS FALSE NEIGHBOUR: 'it returns false'. Refute it at one input. -/
def extensionChangesWrong : ChangeSpec := { name := "extensionChanges", fn := fun _ => fun
  | [d1, d2, d3, d4] => { results := [.lit (.bool false)], args := [d1, d2, d3, d4] }
  | _ => none }
def ExtensionChangesWrongFalsely : Prop := extensionChangesRow.holds Try.pinned (OpenSpec.ofChange extensionChangesWrong)

/-- 'mailboatlaw14.ExtensionSets': WHATEVER THE INPUT: true; the input reads as it did. -/
def extensionSetsSpec : ChangeSpec := { name := "extensionSets", fn := fun _ => fun
  | [d1, d2, d3, d4] => { results := [.lit (.bool true)], args := [d1, d2, d3, d4] }
  | _ => none }
def extensionSetsRow : OpenClaim := { program := "ythgokfceakbjlaa", sum := "7f187f671c479533837f72f186d84824386f30c32cd3187d6bdbc081806da930", func := "mailboat/mailboatlaw14.ExtensionSets", spec := "extensionSets", unfollowed := true, recurses := true, apart := false }
def ExtensionSetsSaid : Prop := extensionSetsRow.holds Try.pinned (OpenSpec.ofChange extensionSetsSpec)

/-- ITS FALSE NEIGHBOUR: 'it returns false'. Refute it at one input. -/
def extensionSetsWrong : ChangeSpec := { name := "extensionSets", fn := fun _ => fun
  | [d1, d2, d3, d4] => { results := [.lit (.bool false)], args := [d1, d2, d3, d4] }
  | _ => none }
def ExtensionSetsWrongFalsely : Prop := extensionSetsRow.holds Try.pinned (OpenSpec.ofChange extensionSetsWrong)

/-- 'mailboatlaw14.ExtensionElse': WHATEVER THE INPUT: true; the input reads as it did. -/
def extensionElseSpec : ChangeSpec := { name := "extensionElse", fn := fun _ => fun
  | [d1, d2, d3, d4] => { results := [.lit (.bool true)], args := [d1, d2, d3, d4] }
  | _ => none }
def extensionElseRow : OpenClaim := { program := "ythgokfceakbjlaa", sum := "7f187f671c479533837f72f186d84824386f30c32cd3187d6bdbc081806da930", func := "mailboat/mailboatlaw14.ExtensionElse", spec := "extensionElse", unfollowed := true, recurses := true, apart := false }
def ExtensionElseSaid : Prop := extensionElseRow.holds Try.pinned (OpenSpec.ofChange extensionElseSpec)

/-- ITS FALSE NEIGHBOUR: 'it returns false'. Refute it at one input. -/
def extensionElseWrong : ChangeSpec := { name := "extensionElse", fn := fun _ => fun
  | [d1, d2, d3, d4] => { results := [.lit (.bool false)], args := [d1, d2, d3, d4] }
  | _ => none }
def ExtensionElseWrongFalsely : Prop := extensionElseRow.holds Try.pinned (OpenSpec.ofChange extensionElseWrong)

/-- 'mailboatlaw14.ExtensionForwards': WHATEVER THE INPUT: true; the input reads as it did. -/
def extensionForwardsSpec : ChangeSpec := { name := "extensionForwards", fn := fun _ => fun
  | [d1, d2, d3, d4, d5] => { results := [.lit (.bool true)], args := [d1, d2, d3, d4, d5] }
  | _ => none }
def extensionForwardsRow : OpenClaim := { program := "ythgokfceakbjlaa", sum := "7f187f671c479533837f72f186d84824386f30c32cd3187d6bdbc081806da930", func := "mailboat/mailboatlaw14.ExtensionForwards", spec := "extensionForwards", unfollowed := true, recurses := true, apart := false }
def ExtensionForwardsSaid : Prop := extensionForwardsRow.holds Try.pinned (OpenSpec.ofChange extensionForwardsSpec)

/-- ITS FALSE NEIGHBOUR: 'it returns false'. Refute it at one input. -/
def extensionForwardsWrong : ChangeSpec := { name := "extensionForwards", fn := fun _ => fun
  | [d1, d2, d3, d4, d5] => { results := [.lit (.bool false)], args := [d1, d2, d3, d4, d5] }
  | _ => none }
def ExtensionForwardsWrongFalsely : Prop := extensionForwardsRow.holds Try.pinned (OpenSpec.ofChange extensionForwardsWrong)

/-- 'mailboatlaw14.ExtensionLoops': WHATEVER THE INPUT: true; the input reads as it did. -/
def extensionLoopsSpec : ChangeSpec := { name := "extensionLoops", fn := fun _ => fun
  | [d1, d2, d3] => { results := [.lit (.bool true)], args := [d1, d2, d3] }
  | _ => none }
def extensionLoopsRow : OpenClaim := { program := "ythgokfceakbjlaa", sum := "7f187f671c479533837f72f186d84824386f30c32cd3187d6bdbc081806da930", func := "mailboat/mailboatlaw14.ExtensionLoops", spec := "extensionLoops", unfollowed := true, recurses := true, apart := false }
def ExtensionLoopsSaid : Prop := extensionLoopsRow.holds Try.pinned (OpenSpec.ofChange extensionLoopsSpec)

/-- ITS FALSE NEIGHBOUR: 'it returns false'. Refute it at one input. -/
def extensionLoopsWrong : ChangeSpec := { name := "extensionLoops", fn := fun _ => fun
  | [d1, d2, d3] => { results := [.lit (.bool false)], args := [d1, d2, d3] }
  | _ => none }
def ExtensionLoopsWrongFalsely : Prop := extensionLoopsRow.holds Try.pinned (OpenSpec.ofChange extensionLoopsWrong)

/- THE SECOND FORM. 'bulk': how many values and letters a reading holds, each counted each time it is reached (what is shared counts as often as it is met; a slice's spare places count too). A statement '..UptoSaid' is the law's where the arguments, and the package variables that the reading takes, are together of bulk at most 1048576: NARROWER than '..Said'. Prove '..Said' where nothing that the law and all that it calls make is longer than what came in: it says more and counts as full. Else prove '..UptoSaid'. A law counts once. -/
mutual
def uptoBulk {H : Type} : DataW H → Nat
  | .lit (.string bytes) => bytes.length + 1
  | .lit _ => 1
  | .nil => 1
  | .ptr d => uptoBulk d + 1
  | .slice elems spare => uptoBulkAll elems + uptoBulkAll spare + 1
  | .agg parts => uptoBulkAll parts + 1
  | .iface _ d => uptoBulk d + 1
  | .map entries => uptoBulkEntries entries + 1
  | .held _ => 1
def uptoBulkAll {H : Type} : List (DataW H) → Nat
  | [] => 0
  | d :: r => uptoBulk d + uptoBulkAll r
def uptoBulkEntries {H : Type} : List (Lit × DataW H) → Nat
  | [] => 0
  | x :: r => uptoBulkEntry x + uptoBulkEntries r
def uptoBulkEntry {H : Type} : Lit × DataW H → Nat
  | (.string bytes, d) => bytes.length + uptoBulk d + 1
  | (_, d) => uptoBulk d + 1
 end
def uptoSmall : (H : Type) → List (DataW H) → Bool := fun _ ds => decide (uptoBulkAll ds ≤ 1048576)
def OpenSpec.upto (s : _root_.Go.ChangeSpec) : _root_.Go.OpenSpec := { _root_.Go.OpenSpec.ofChange s with cond := some uptoSmall }

/-- 'mailboatlaw14.ExtensionReads', WHERE WHAT IT READS IS OF BULK AT MOST 1048576: true; the input reads as it did. -/
def extensionReadsUptoRow : OpenClaim := { program := "ythgokfceakbjlaa", sum := "7f187f671c479533837f72f186d84824386f30c32cd3187d6bdbc081806da930", func := "mailboat/mailboatlaw14.ExtensionReads", spec := "extensionReads", unfollowed := true, recurses := true, apart := false, narrowed := true }
def ExtensionReadsUptoSaid : Prop := extensionReadsUptoRow.holds Try.pinned (OpenSpec.upto extensionReadsSpec)

/-- 'mailboatlaw14.ExtensionChanges', WHERE WHAT IT READS IS OF BULK AT MOST 1048576: true; the input reads as it did. -/
def extensionChangesUptoRow : OpenClaim := { program := "ythgokfceakbjlaa", sum := "7f187f671c479533837f72f186d84824386f30c32cd3187d6bdbc081806da930", func := "mailboat/mailboatlaw14.ExtensionChanges", spec := "extensionChanges", unfollowed := true, recurses := true, apart := false, narrowed := true }
def ExtensionChangesUptoSaid : Prop := extensionChangesUptoRow.holds Try.pinned (OpenSpec.upto extensionChangesSpec)

/-- 'mailboatlaw14.ExtensionSets', WHERE WHAT IT READS IS OF BULK AT MOST 1048576: true; the input reads as it did. -/
def extensionSetsUptoRow : OpenClaim := { program := "ythgokfceakbjlaa", sum := "7f187f671c479533837f72f186d84824386f30c32cd3187d6bdbc081806da930", func := "mailboat/mailboatlaw14.ExtensionSets", spec := "extensionSets", unfollowed := true, recurses := true, apart := false, narrowed := true }
def ExtensionSetsUptoSaid : Prop := extensionSetsUptoRow.holds Try.pinned (OpenSpec.upto extensionSetsSpec)

/-- 'mailboatlaw14.ExtensionElse', WHERE WHAT IT READS IS OF BULK AT MOST 1048576: true; the input reads as it did. -/
def extensionElseUptoRow : OpenClaim := { program := "ythgokfceakbjlaa", sum := "7f187f671c479533837f72f186d84824386f30c32cd3187d6bdbc081806da930", func := "mailboat/mailboatlaw14.ExtensionElse", spec := "extensionElse", unfollowed := true, recurses := true, apart := false, narrowed := true }
def ExtensionElseUptoSaid : Prop := extensionElseUptoRow.holds Try.pinned (OpenSpec.upto extensionElseSpec)

/-- 'mailboatlaw14.ExtensionForwards', WHERE WHAT IT READS IS OF BULK AT MOST 1048576: true; the input reads as it did. -/
def extensionForwardsUptoRow : OpenClaim := { program := "ythgokfceakbjlaa", sum := "7f187f671c479533837f72f186d84824386f30c32cd3187d6bdbc081806da930", func := "mailboat/mailboatlaw14.ExtensionForwards", spec := "extensionForwards", unfollowed := true, recurses := true, apart := false, narrowed := true }
def ExtensionForwardsUptoSaid : Prop := extensionForwardsUptoRow.holds Try.pinned (OpenSpec.upto extensionForwardsSpec)

/-- 'mailboatlaw14.ExtensionLoops', WHERE WHAT IT READS IS OF BULK AT MOST 1048576: true; the input reads as it did. -/
def extensionLoopsUptoRow : OpenClaim := { program := "ythgokfceakbjlaa", sum := "7f187f671c479533837f72f186d84824386f30c32cd3187d6bdbc081806da930", func := "mailboat/mailboatlaw14.ExtensionLoops", spec := "extensionLoops", unfollowed := true, recurses := true, apart := false, narrowed := true }
def ExtensionLoopsUptoSaid : Prop := extensionLoopsUptoRow.holds Try.pinned (OpenSpec.upto extensionLoopsSpec)

end Rows
end Go.Proofs.Ythgokfceakbjlaa
