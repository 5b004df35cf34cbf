/-
  No cell of these rows narrows 'for every input' (looked for: loops, veiled, ifaces, maps, wideKeys, modest, calm, conditions, laid).
  DERIVED. THE GIVEN ROWS OF THIS SEAT. 7 by the template 'for every input the law returns true; each argument reads behind the call as it read before'; 0 by the template 'total and deterministic' (their statements: YtpkklmkeflddkaaTotals.lean).
  GIVEN WITH THE SEED: the statements are not yours to turn. If you find one false, say at which input.
  Laid BY PROGRAM, IN A SANDBOX (cutbox-rows.mjs): the forced cells as the released guide's own fill.sh prints them over the translation ae36d2d75592dea7… (all of the seat's roots in one cut). By AI agents, Wed Nov 11 2026. No macro, syntax, notation, axiom, sorry.
-/
import Derived.Test.YtpkklmkeflddkaaChecked
import GoSem.Claim
import GoSem.ClaimJoined
import GoSem.ClaimMapViews
import Derived.JoinedTies
import Derived.KernelRfl
namespace Go.Proofs.Ytpkklmkeflddkaa
/- THE CELL 'sum', in the pinned program and in every row, IS THE sha256 OF THE DUMP (.gsa) THAT YtpkklmkeflddkaaProg.lean LOADS. Nothing in Lean hashes anything: it is a label: what it is worth is what the hold of that sum in a sandbox is worth. -/
noncomputable def Try.pinned : Pinned := { name := "ytpkklmkeflddkaa", sum := "ae36d2d75592dea7b44b24b04047bb5da8ed4be20c7c7043d8b56e133cd95291", checked := Try.checked }
namespace Rows
def none {H : Type} : Left H := { results := [], args := [] }

/-- 'mailboatlaw19.AggregateSeparate': WHATEVER THE INPUT: true; the input reads as it did. -/
def aggregateSeparateSpec : ChangeSpec := { name := "aggregateSeparate", fn := fun _ => fun
  | [d] => { results := [.lit (.bool true)], args := [d] }
  | _ => none }
def aggregateSeparateRow : OpenClaim := { program := "ytpkklmkeflddkaa", sum := "ae36d2d75592dea7b44b24b04047bb5da8ed4be20c7c7043d8b56e133cd95291", func := "mailboat/mailboatlaw19.AggregateSeparate", spec := "aggregateSeparate", unfollowed := true, recurses := true, apart := false }
def AggregateSeparateSaid : Prop := aggregateSeparateRow.holds Try.pinned (OpenSpec.ofChange aggregateSeparateSpec)

/-- ITS FALSE NEIGHBOUR: 'it returns false'. Refute it at one input. -/
def aggregateSeparateWrong : ChangeSpec := { name := "aggregateSeparate", fn := fun _ => fun
  | [d] => { results := [.lit (.bool false)], args := [d] }
  | _ => none }
def AggregateSeparateWrongFalsely : Prop := aggregateSeparateRow.holds Try.pinned (OpenSpec.ofChange aggregateSeparateWrong)

/-- 'mailboatlaw19.AggregatePack': WHATEVER THE INPUT: true; the input reads as it did. -/
def aggregatePackSpec : ChangeSpec := { name := "aggregatePack", fn := fun _ => fun
  | [d1, d2] => { results := [.lit (.bool true)], args := [d1, d2] }
  | _ => none }
def aggregatePackRow : OpenClaim := { program := "ytpkklmkeflddkaa", sum := "ae36d2d75592dea7b44b24b04047bb5da8ed4be20c7c7043d8b56e133cd95291", func := "mailboat/mailboatlaw19.AggregatePack", spec := "aggregatePack", unfollowed := true, recurses := true, apart := false }
def AggregatePackSaid : Prop := aggregatePackRow.holds Try.pinned (OpenSpec.ofChange aggregatePackSpec)

/-- ITS FALSE NEIGHBOUR: 'it returns false'. Refute it at one input. -/
def aggregatePackWrong : ChangeSpec := { name := "aggregatePack", fn := fun _ => fun
  | [d1, d2] => { results := [.lit (.bool false)], args := [d1, d2] }
  | _ => none }
def AggregatePackWrongFalsely : Prop := aggregatePackRow.holds Try.pinned (OpenSpec.ofChange aggregatePackWrong)

/-- 'mailboatlaw19.AggregateRoundTrip': WHATEVER THE INPUT: true; the input reads as it did. -/
def aggregateRoundTripSpec : ChangeSpec := { name := "aggregateRoundTrip", fn := fun _ => fun
  | [d1, d2] => { results := [.lit (.bool true)], args := [d1, d2] }
  | _ => none }
def aggregateRoundTripRow : OpenClaim := { program := "ytpkklmkeflddkaa", sum := "ae36d2d75592dea7b44b24b04047bb5da8ed4be20c7c7043d8b56e133cd95291", func := "mailboat/mailboatlaw19.AggregateRoundTrip", spec := "aggregateRoundTrip", unfollowed := true, recurses := true, apart := false }
def AggregateRoundTripSaid : Prop := aggregateRoundTripRow.holds Try.pinned (OpenSpec.ofChange aggregateRoundTripSpec)

/-- ITS FALSE NEIGHBOUR: 'it returns false'. Refute it at one input. -/
def aggregateRoundTripWrong : ChangeSpec := { name := "aggregateRoundTrip", fn := fun _ => fun
  | [d1, d2] => { results := [.lit (.bool false)], args := [d1, d2] }
  | _ => none }
def AggregateRoundTripWrongFalsely : Prop := aggregateRoundTripRow.holds Try.pinned (OpenSpec.ofChange aggregateRoundTripWrong)

/-- 'mailboatlaw19.AggregateBack': WHATEVER THE INPUT: true; the input reads as it did. -/
def aggregateBackSpec : ChangeSpec := { name := "aggregateBack", fn := fun _ => fun
  | [d] => { results := [.lit (.bool true)], args := [d] }
  | _ => none }
def aggregateBackRow : OpenClaim := { program := "ytpkklmkeflddkaa", sum := "ae36d2d75592dea7b44b24b04047bb5da8ed4be20c7c7043d8b56e133cd95291", func := "mailboat/mailboatlaw19.AggregateBack", spec := "aggregateBack", unfollowed := true, recurses := true, apart := false }
def AggregateBackSaid : Prop := aggregateBackRow.holds Try.pinned (OpenSpec.ofChange aggregateBackSpec)

/-- ITS FALSE NEIGHBOUR: 'it returns false'. Refute it at one input. -/
def aggregateBackWrong : ChangeSpec := { name := "aggregateBack", fn := fun _ => fun
  | [d] => { results := [.lit (.bool false)], args := [d] }
  | _ => none }
def AggregateBackWrongFalsely : Prop := aggregateBackRow.holds Try.pinned (OpenSpec.ofChange aggregateBackWrong)

/-- 'mailboatlaw19.AggregateLifetimes': WHATEVER THE INPUT: true; the input reads as it did. -/
def aggregateLifetimesSpec : ChangeSpec := { name := "aggregateLifetimes", fn := fun _ => fun
  | [d1, d2] => { results := [.lit (.bool true)], args := [d1, d2] }
  | _ => none }
def aggregateLifetimesRow : OpenClaim := { program := "ytpkklmkeflddkaa", sum := "ae36d2d75592dea7b44b24b04047bb5da8ed4be20c7c7043d8b56e133cd95291", func := "mailboat/mailboatlaw19.AggregateLifetimes", spec := "aggregateLifetimes", unfollowed := true, recurses := true, apart := false }
def AggregateLifetimesSaid : Prop := aggregateLifetimesRow.holds Try.pinned (OpenSpec.ofChange aggregateLifetimesSpec)

/-- ITS FALSE NEIGHBOUR: 'it returns false'. Refute it at one input. -/
def aggregateLifetimesWrong : ChangeSpec := { name := "aggregateLifetimes", fn := fun _ => fun
  | [d1, d2] => { results := [.lit (.bool false)], args := [d1, d2] }
  | _ => none }
def AggregateLifetimesWrongFalsely : Prop := aggregateLifetimesRow.holds Try.pinned (OpenSpec.ofChange aggregateLifetimesWrong)

/-- 'mailboatlaw19.AggregatePacked': WHATEVER THE INPUT: true; the input reads as it did. -/
def aggregatePackedSpec : ChangeSpec := { name := "aggregatePacked", fn := fun _ => fun
  | [d1, d2] => { results := [.lit (.bool true)], args := [d1, d2] }
  | _ => none }
def aggregatePackedRow : OpenClaim := { program := "ytpkklmkeflddkaa", sum := "ae36d2d75592dea7b44b24b04047bb5da8ed4be20c7c7043d8b56e133cd95291", func := "mailboat/mailboatlaw19.AggregatePacked", spec := "aggregatePacked", unfollowed := true, recurses := true, apart := false }
def AggregatePackedSaid : Prop := aggregatePackedRow.holds Try.pinned (OpenSpec.ofChange aggregatePackedSpec)

/-- ITS FALSE NEIGHBOUR: 'it returns false'. Refute it at one input. -/
def aggregatePackedWrong : ChangeSpec := { name := "aggregatePacked", fn := fun _ => fun
  | [d1, d2] => { results := [.lit (.bool false)], args := [d1, d2] }
  | _ => none }
def AggregatePackedWrongFalsely : Prop := aggregatePackedRow.holds Try.pinned (OpenSpec.ofChange aggregatePackedWrong)

/-- 'mailboatlaw19.AggregateGrouped': WHATEVER THE INPUT: true; the input reads as it did. -/
def aggregateGroupedSpec : ChangeSpec := { name := "aggregateGrouped", fn := fun _ => fun
  | [d1, d2] => { results := [.lit (.bool true)], args := [d1, d2] }
  | _ => none }
def aggregateGroupedRow : OpenClaim := { program := "ytpkklmkeflddkaa", sum := "ae36d2d75592dea7b44b24b04047bb5da8ed4be20c7c7043d8b56e133cd95291", func := "mailboat/mailboatlaw19.AggregateGrouped", spec := "aggregateGrouped", unfollowed := true, recurses := true, apart := false }
def AggregateGroupedSaid : Prop := aggregateGroupedRow.holds Try.pinned (OpenSpec.ofChange aggregateGroupedSpec)

/-- ITS FALSE NEIGHBOUR: 'it returns false'. Refute it at one input. -/
def aggregateGroupedWrong : ChangeSpec := { name := "aggregateGrouped", fn := fun _ => fun
  | [d1, d2] => { results := [.lit (.bool false)], args := [d1, d2] }
  | _ => none }
def AggregateGroupedWrongFalsely : Prop := aggregateGroupedRow.holds Try.pinned (OpenSpec.ofChange aggregateGroupedWrong)

/- THE SECOND FORM. 'bulk': how many values and letters a reading holds, each counted each time it is reached (what is shared counts as often as it is met; a slice's spare places count too). A statement '..UptoSaid' is the law's where the arguments, and the package variables that the reading takes, are together of bulk at most 1048576: NARROWER than '..Said'. Prove '..Said' where nothing that the law and all that it calls make is longer than what came in: it says more and counts as full. Else prove '..UptoSaid'. A law counts once. -/
mutual
def uptoBulk {H : Type} : DataW H → Nat
  | .lit (.string bytes) => bytes.length + 1
  | .lit _ => 1
  | .nil => 1
  | .ptr d => uptoBulk d + 1
  | .slice elems spare => uptoBulkAll elems + uptoBulkAll spare + 1
  | .agg parts => uptoBulkAll parts + 1
  | .iface _ d => uptoBulk d + 1
  | .map entries => uptoBulkEntries entries + 1
  | .held _ => 1
def uptoBulkAll {H : Type} : List (DataW H) → Nat
  | [] => 0
  | d :: r => uptoBulk d + uptoBulkAll r
def uptoBulkEntries {H : Type} : List (Lit × DataW H) → Nat
  | [] => 0
  | x :: r => uptoBulkEntry x + uptoBulkEntries r
def uptoBulkEntry {H : Type} : Lit × DataW H → Nat
  | (.string bytes, d) => bytes.length + uptoBulk d + 1
  | (_, d) => uptoBulk d + 1
 end
def uptoSmall : (H : Type) → List (DataW H) → Bool := fun _ ds => decide (uptoBulkAll ds ≤ 1048576)
def OpenSpec.upto (s : _root_.Go.ChangeSpec) : _root_.Go.OpenSpec := { _root_.Go.OpenSpec.ofChange s with cond := some uptoSmall }

/-- 'mailboatlaw19.AggregateSeparate', WHERE WHAT IT READS IS OF BULK AT MOST 1048576: true; the input reads as it did. -/
def aggregateSeparateUptoRow : OpenClaim := { program := "ytpkklmkeflddkaa", sum := "ae36d2d75592dea7b44b24b04047bb5da8ed4be20c7c7043d8b56e133cd95291", func := "mailboat/mailboatlaw19.AggregateSeparate", spec := "aggregateSeparate", unfollowed := true, recurses := true, apart := false, narrowed := true }
def AggregateSeparateUptoSaid : Prop := aggregateSeparateUptoRow.holds Try.pinned (OpenSpec.upto aggregateSeparateSpec)

/-- 'mailboatlaw19.AggregatePack', WHERE WHAT IT READS IS OF BULK AT MOST 1048576: true; the input reads as it did. -/
def aggregatePackUptoRow : OpenClaim := { program := "ytpkklmkeflddkaa", sum := "ae36d2d75592dea7b44b24b04047bb5da8ed4be20c7c7043d8b56e133cd95291", func := "mailboat/mailboatlaw19.AggregatePack", spec := "aggregatePack", unfollowed := true, recurses := true, apart := false, narrowed := true }
def AggregatePackUptoSaid : Prop := aggregatePackUptoRow.holds Try.pinned (OpenSpec.upto aggregatePackSpec)

/-- 'mailboatlaw19.AggregateRoundTrip', WHERE WHAT IT READS IS OF BULK AT MOST 1048576: true; the input reads as it did. -/
def aggregateRoundTripUptoRow : OpenClaim := { program := "ytpkklmkeflddkaa", sum := "ae36d2d75592dea7b44b24b04047bb5da8ed4be20c7c7043d8b56e133cd95291", func := "mailboat/mailboatlaw19.AggregateRoundTrip", spec := "aggregateRoundTrip", unfollowed := true, recurses := true, apart := false, narrowed := true }
def AggregateRoundTripUptoSaid : Prop := aggregateRoundTripUptoRow.holds Try.pinned (OpenSpec.upto aggregateRoundTripSpec)

/-- 'mailboatlaw19.AggregateBack', WHERE WHAT IT READS IS OF BULK AT MOST 1048576: true; the input reads as it did. -/
def aggregateBackUptoRow : OpenClaim := { program := "ytpkklmkeflddkaa", sum := "ae36d2d75592dea7b44b24b04047bb5da8ed4be20c7c7043d8b56e133cd95291", func := "mailboat/mailboatlaw19.AggregateBack", spec := "aggregateBack", unfollowed := true, recurses := true, apart := false, narrowed := true }
def AggregateBackUptoSaid : Prop := aggregateBackUptoRow.holds Try.pinned (OpenSpec.upto aggregateBackSpec)

/-- 'mailboatlaw19.AggregateLifetimes', WHERE WHAT IT READS IS OF BULK AT MOST 1048576: true; the input reads as it did. -/
def aggregateLifetimesUptoRow : OpenClaim := { program := "ytpkklmkeflddkaa", sum := "ae36d2d75592dea7b44b24b04047bb5da8ed4be20c7c7043d8b56e133cd95291", func := "mailboat/mailboatlaw19.AggregateLifetimes", spec := "aggregateLifetimes", unfollowed := true, recurses := true, apart := false, narrowed := true }
def AggregateLifetimesUptoSaid : Prop := aggregateLifetimesUptoRow.holds Try.pinned (OpenSpec.upto aggregateLifetimesSpec)

/-- 'mailboatlaw19.AggregatePacked', WHERE WHAT IT READS IS OF BULK AT MOST 1048576: true; the input reads as it did. -/
def aggregatePackedUptoRow : OpenClaim := { program := "ytpkklmkeflddkaa", sum := "ae36d2d75592dea7b44b24b04047bb5da8ed4be20c7c7043d8b56e133cd95291", func := "mailboat/mailboatlaw19.AggregatePacked", spec := "aggregatePacked", unfollowed := true, recurses := true, apart := false, narrowed := true }
def AggregatePackedUptoSaid : Prop := aggregatePackedUptoRow.holds Try.pinned (OpenSpec.upto aggregatePackedSpec)

/-- 'mailboatlaw19.AggregateGrouped', WHERE WHAT IT READS IS OF BULK AT MOST 1048576: true; the input reads as it did. -/
def aggregateGroupedUptoRow : OpenClaim := { program := "ytpkklmkeflddkaa", sum := "ae36d2d75592dea7b44b24b04047bb5da8ed4be20c7c7043d8b56e133cd95291", func := "mailboat/mailboatlaw19.AggregateGrouped", spec := "aggregateGrouped", unfollowed := true, recurses := true, apart := false, narrowed := true }
def AggregateGroupedUptoSaid : Prop := aggregateGroupedUptoRow.holds Try.pinned (OpenSpec.upto aggregateGroupedSpec)

end Rows
end Go.Proofs.Ytpkklmkeflddkaa
