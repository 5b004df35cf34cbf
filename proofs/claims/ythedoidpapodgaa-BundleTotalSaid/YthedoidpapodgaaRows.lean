/-
  No cell of these rows narrows 'for every input' (looked for: loops, veiled, ifaces, maps, wideKeys, modest, calm, conditions, laid).
  DERIVED. THE GIVEN ROWS OF THIS SEAT. 8 by the template 'for every input the law returns true; each argument reads behind the call as it read before'; 0 by the template 'total and deterministic' (their statements: YthedoidpapodgaaTotals.lean).
  GIVEN WITH THE SEED: the statements are not yours to turn. If you find one false, say at which input.
  Laid BY PROGRAM, IN A SANDBOX (cutbox-rows.mjs): the forced cells as the released guide's own fill.sh prints them over the translation bc5fec3f1cc96591… (all of the seat's roots in one cut). By AI agents, Wed Nov 11 2026. No macro, syntax, notation, axiom, sorry.
-/
import Derived.Test.YthedoidpapodgaaChecked
import GoSem.Claim
import GoSem.ClaimJoined
import GoSem.ClaimMapViews
import Derived.JoinedTies
import Derived.KernelRfl
namespace Go.Proofs.Ythedoidpapodgaa
/- THE CELL 'sum', in the pinned program and in every row, IS THE sha256 OF THE DUMP (.gsa) THAT YthedoidpapodgaaProg.lean LOADS. Nothing in Lean hashes anything: it is a label: what it is worth is what the hold of that sum in a sandbox is worth. -/
noncomputable def Try.pinned : Pinned := { name := "ythedoidpapodgaa", sum := "bc5fec3f1cc96591a310bf4b4cc8f883229c368ed256618fe842e4d03f1aac3e", checked := Try.checked }
namespace Rows
def none {H : Type} : Left H := { results := [], args := [] }

/-- 'mailboatlaw13.BundleEncode': WHATEVER THE INPUT: true; the input reads as it did. -/
def bundleEncodeSpec : ChangeSpec := { name := "bundleEncode", fn := fun _ => fun
  | [d] => { results := [.lit (.bool true)], args := [d] }
  | _ => none }
def bundleEncodeRow : OpenClaim := { program := "ythedoidpapodgaa", sum := "bc5fec3f1cc96591a310bf4b4cc8f883229c368ed256618fe842e4d03f1aac3e", func := "mailboat/mailboatlaw13.BundleEncode", spec := "bundleEncode", unfollowed := true, recurses := true, apart := false }
def BundleEncodeSaid : Prop := bundleEncodeRow.holds Try.pinned (OpenSpec.ofChange bundleEncodeSpec)

/-- ITS FALSE NEIGHBOUR: 'it returns false'. Refute it at one input. -/
def bundleEncodeWrong : ChangeSpec := { name := "bundleEncode", fn := fun _ => fun
  | [d] => { results := [.lit (.bool false)], args := [d] }
  | _ => none }
def BundleEncodeWrongFalsely : Prop := bundleEncodeRow.holds Try.pinned (OpenSpec.ofChange bundleEncodeWrong)

/-- 'mailboatlaw13.BundleDecode': WHATEVER THE INPUT: true; the input reads as it did. -/
def bundleDecodeSpec : ChangeSpec := { name := "bundleDecode", fn := fun _ => fun
  | [d] => { results := [.lit (.bool true)], args := [d] }
  | _ => none }
def bundleDecodeRow : OpenClaim := { program := "ythedoidpapodgaa", sum := "bc5fec3f1cc96591a310bf4b4cc8f883229c368ed256618fe842e4d03f1aac3e", func := "mailboat/mailboatlaw13.BundleDecode", spec := "bundleDecode", unfollowed := true, recurses := true, apart := false }
def BundleDecodeSaid : Prop := bundleDecodeRow.holds Try.pinned (OpenSpec.ofChange bundleDecodeSpec)

/-- ITS FALSE NEIGHBOUR: 'it returns false'. Refute it at one input. -/
def bundleDecodeWrong : ChangeSpec := { name := "bundleDecode", fn := fun _ => fun
  | [d] => { results := [.lit (.bool false)], args := [d] }
  | _ => none }
def BundleDecodeWrongFalsely : Prop := bundleDecodeRow.holds Try.pinned (OpenSpec.ofChange bundleDecodeWrong)

/-- 'mailboatlaw13.BundleOrder': WHATEVER THE INPUT: true; the input reads as it did. -/
def bundleOrderSpec : ChangeSpec := { name := "bundleOrder", fn := fun _ => fun
  | [d1, d2, d3] => { results := [.lit (.bool true)], args := [d1, d2, d3] }
  | _ => none }
def bundleOrderRow : OpenClaim := { program := "ythedoidpapodgaa", sum := "bc5fec3f1cc96591a310bf4b4cc8f883229c368ed256618fe842e4d03f1aac3e", func := "mailboat/mailboatlaw13.BundleOrder", spec := "bundleOrder", unfollowed := true, recurses := true, apart := false }
def BundleOrderSaid : Prop := bundleOrderRow.holds Try.pinned (OpenSpec.ofChange bundleOrderSpec)

/-- ITS FALSE NEIGHBOUR: 'it returns false'. Refute it at one input. -/
def bundleOrderWrong : ChangeSpec := { name := "bundleOrder", fn := fun _ => fun
  | [d1, d2, d3] => { results := [.lit (.bool false)], args := [d1, d2, d3] }
  | _ => none }
def BundleOrderWrongFalsely : Prop := bundleOrderRow.holds Try.pinned (OpenSpec.ofChange bundleOrderWrong)

/-- 'mailboatlaw13.BundleRoundTrip': WHATEVER THE INPUT: true; the input reads as it did. -/
def bundleRoundTripSpec : ChangeSpec := { name := "bundleRoundTrip", fn := fun _ => fun
  | [d1, d2] => { results := [.lit (.bool true)], args := [d1, d2] }
  | _ => none }
def bundleRoundTripRow : OpenClaim := { program := "ythedoidpapodgaa", sum := "bc5fec3f1cc96591a310bf4b4cc8f883229c368ed256618fe842e4d03f1aac3e", func := "mailboat/mailboatlaw13.BundleRoundTrip", spec := "bundleRoundTrip", unfollowed := true, recurses := true, apart := false }
def BundleRoundTripSaid : Prop := bundleRoundTripRow.holds Try.pinned (OpenSpec.ofChange bundleRoundTripSpec)

/-- ITS FALSE NEIGHBOUR: 'it returns false'. Refute it at one input. -/
def bundleRoundTripWrong : ChangeSpec := { name := "bundleRoundTrip", fn := fun _ => fun
  | [d1, d2] => { results := [.lit (.bool false)], args := [d1, d2] }
  | _ => none }
def BundleRoundTripWrongFalsely : Prop := bundleRoundTripRow.holds Try.pinned (OpenSpec.ofChange bundleRoundTripWrong)

/-- 'mailboatlaw13.BundleDamage': WHATEVER THE INPUT: true; the input reads as it did. -/
def bundleDamageSpec : ChangeSpec := { name := "bundleDamage", fn := fun _ => fun
  | [d1, d2, d3, d4] => { results := [.lit (.bool true)], args := [d1, d2, d3, d4] }
  | _ => none }
def bundleDamageRow : OpenClaim := { program := "ythedoidpapodgaa", sum := "bc5fec3f1cc96591a310bf4b4cc8f883229c368ed256618fe842e4d03f1aac3e", func := "mailboat/mailboatlaw13.BundleDamage", spec := "bundleDamage", unfollowed := true, recurses := true, apart := false }
def BundleDamageSaid : Prop := bundleDamageRow.holds Try.pinned (OpenSpec.ofChange bundleDamageSpec)

/-- ITS FALSE NEIGHBOUR: 'it returns false'. Refute it at one input. -/
def bundleDamageWrong : ChangeSpec := { name := "bundleDamage", fn := fun _ => fun
  | [d1, d2, d3, d4] => { results := [.lit (.bool false)], args := [d1, d2, d3, d4] }
  | _ => none }
def BundleDamageWrongFalsely : Prop := bundleDamageRow.holds Try.pinned (OpenSpec.ofChange bundleDamageWrong)

/-- 'mailboatlaw13.BundleSizes': WHATEVER THE INPUT: true; the input reads as it did. -/
def bundleSizesSpec : ChangeSpec := { name := "bundleSizes", fn := fun _ => fun
  | [d1, d2] => { results := [.lit (.bool true)], args := [d1, d2] }
  | _ => none }
def bundleSizesRow : OpenClaim := { program := "ythedoidpapodgaa", sum := "bc5fec3f1cc96591a310bf4b4cc8f883229c368ed256618fe842e4d03f1aac3e", func := "mailboat/mailboatlaw13.BundleSizes", spec := "bundleSizes", unfollowed := true, recurses := true, apart := false }
def BundleSizesSaid : Prop := bundleSizesRow.holds Try.pinned (OpenSpec.ofChange bundleSizesSpec)

/-- ITS FALSE NEIGHBOUR: 'it returns false'. Refute it at one input. -/
def bundleSizesWrong : ChangeSpec := { name := "bundleSizes", fn := fun _ => fun
  | [d1, d2] => { results := [.lit (.bool false)], args := [d1, d2] }
  | _ => none }
def BundleSizesWrongFalsely : Prop := bundleSizesRow.holds Try.pinned (OpenSpec.ofChange bundleSizesWrong)

/-- 'mailboatlaw13.BundleTotal': WHATEVER THE INPUT: true; the input reads as it did. -/
def bundleTotalSpec : ChangeSpec := { name := "bundleTotal", fn := fun _ => fun
  | [d1, d2, d3] => { results := [.lit (.bool true)], args := [d1, d2, d3] }
  | _ => none }
def bundleTotalRow : OpenClaim := { program := "ythedoidpapodgaa", sum := "bc5fec3f1cc96591a310bf4b4cc8f883229c368ed256618fe842e4d03f1aac3e", func := "mailboat/mailboatlaw13.BundleTotal", spec := "bundleTotal", unfollowed := true, recurses := true, apart := false }
def BundleTotalSaid : Prop := bundleTotalRow.holds Try.pinned (OpenSpec.ofChange bundleTotalSpec)

/-- ITS FALSE NEIGHBOUR: 'it returns false'. Refute it at one input. -/
def bundleTotalWrong : ChangeSpec := { name := "bundleTotal", fn := fun _ => fun
  | [d1, d2, d3] => { results := [.lit (.bool false)], args := [d1, d2, d3] }
  | _ => none }
def BundleTotalWrongFalsely : Prop := bundleTotalRow.holds Try.pinned (OpenSpec.ofChange bundleTotalWrong)

/-- 'mailboatlaw13.BundleLifetimes': WHATEVER THE INPUT: true; the input reads as it did. -/
def bundleLifetimesSpec : ChangeSpec := { name := "bundleLifetimes", fn := fun _ => fun
  | [d1, d2] => { results := [.lit (.bool true)], args := [d1, d2] }
  | _ => none }
def bundleLifetimesRow : OpenClaim := { program := "ythedoidpapodgaa", sum := "bc5fec3f1cc96591a310bf4b4cc8f883229c368ed256618fe842e4d03f1aac3e", func := "mailboat/mailboatlaw13.BundleLifetimes", spec := "bundleLifetimes", unfollowed := true, recurses := true, apart := false }
def BundleLifetimesSaid : Prop := bundleLifetimesRow.holds Try.pinned (OpenSpec.ofChange bundleLifetimesSpec)

/-- ITS FALSE NEIGHBOUR: 'it returns false'. Refute it at one input. -/
def bundleLifetimesWrong : ChangeSpec := { name := "bundleLifetimes", fn := fun _ => fun
  | [d1, d2] => { results := [.lit (.bool false)], args := [d1, d2] }
  | _ => none }
def BundleLifetimesWrongFalsely : Prop := bundleLifetimesRow.holds Try.pinned (OpenSpec.ofChange bundleLifetimesWrong)

/- THE SECOND FORM. 'bulk': how many values and letters a reading holds, each counted each time it is reached (what is shared counts as often as it is met; a slice's spare places count too). A statement '..UptoSaid' is the law's where the arguments, and the package variables that the reading takes, are together of bulk at most 1048576: NARROWER than '..Said'. Prove '..Said' where nothing that the law and all that it calls make is longer than what came in: it says more and counts as full. Else prove '..UptoSaid'. A law counts once. -/
mutual
def uptoBulk {H : Type} : DataW H → Nat
  | .lit (.string bytes) => bytes.length + 1
  | .lit _ => 1
  | .nil => 1
  | .ptr d => uptoBulk d + 1
  | .slice elems spare => uptoBulkAll elems + uptoBulkAll spare + 1
  | .agg parts => uptoBulkAll parts + 1
  | .iface _ d => uptoBulk d + 1
  | .map entries => uptoBulkEntries entries + 1
  | .held _ => 1
def uptoBulkAll {H : Type} : List (DataW H) → Nat
  | [] => 0
  | d :: r => uptoBulk d + uptoBulkAll r
def uptoBulkEntries {H : Type} : List (Lit × DataW H) → Nat
  | [] => 0
  | x :: r => uptoBulkEntry x + uptoBulkEntries r
def uptoBulkEntry {H : Type} : Lit × DataW H → Nat
  | (.string bytes, d) => bytes.length + uptoBulk d + 1
  | (_, d) => uptoBulk d + 1
 end
def uptoSmall : (H : Type) → List (DataW H) → Bool := fun _ ds => decide (uptoBulkAll ds ≤ 1048576)
def OpenSpec.upto (s : _root_.Go.ChangeSpec) : _root_.Go.OpenSpec := { _root_.Go.OpenSpec.ofChange s with cond := some uptoSmall }

/-- 'mailboatlaw13.BundleEncode', WHERE WHAT IT READS IS OF BULK AT MOST 1048576: true; the input reads as it did. -/
def bundleEncodeUptoRow : OpenClaim := { program := "ythedoidpapodgaa", sum := "bc5fec3f1cc96591a310bf4b4cc8f883229c368ed256618fe842e4d03f1aac3e", func := "mailboat/mailboatlaw13.BundleEncode", spec := "bundleEncode", unfollowed := true, recurses := true, apart := false, narrowed := true }
def BundleEncodeUptoSaid : Prop := bundleEncodeUptoRow.holds Try.pinned (OpenSpec.upto bundleEncodeSpec)

/-- 'mailboatlaw13.BundleDecode', WHERE WHAT IT READS IS OF BULK AT MOST 1048576: true; the input reads as it did. -/
def bundleDecodeUptoRow : OpenClaim := { program := "ythedoidpapodgaa", sum := "bc5fec3f1cc96591a310bf4b4cc8f883229c368ed256618fe842e4d03f1aac3e", func := "mailboat/mailboatlaw13.BundleDecode", spec := "bundleDecode", unfollowed := true, recurses := true, apart := false, narrowed := true }
def BundleDecodeUptoSaid : Prop := bundleDecodeUptoRow.holds Try.pinned (OpenSpec.upto bundleDecodeSpec)

/-- 'mailboatlaw13.BundleOrder', WHERE WHAT IT READS IS OF BULK AT MOST 1048576: true; the input reads as it did. -/
def bundleOrderUptoRow : OpenClaim := { program := "ythedoidpapodgaa", sum := "bc5fec3f1cc96591a310bf4b4cc8f883229c368ed256618fe842e4d03f1aac3e", func := "mailboat/mailboatlaw13.BundleOrder", spec := "bundleOrder", unfollowed := true, recurses := true, apart := false, narrowed := true }
def BundleOrderUptoSaid : Prop := bundleOrderUptoRow.holds Try.pinned (OpenSpec.upto bundleOrderSpec)

/-- 'mailboatlaw13.BundleRoundTrip', WHERE WHAT IT READS IS OF BULK AT MOST 1048576: true; the input reads as it did. -/
def bundleRoundTripUptoRow : OpenClaim := { program := "ythedoidpapodgaa", sum := "bc5fec3f1cc96591a310bf4b4cc8f883229c368ed256618fe842e4d03f1aac3e", func := "mailboat/mailboatlaw13.BundleRoundTrip", spec := "bundleRoundTrip", unfollowed := true, recurses := true, apart := false, narrowed := true }
def BundleRoundTripUptoSaid : Prop := bundleRoundTripUptoRow.holds Try.pinned (OpenSpec.upto bundleRoundTripSpec)

/-- 'mailboatlaw13.BundleDamage', WHERE WHAT IT READS IS OF BULK AT MOST 1048576: true; the input reads as it did. -/
def bundleDamageUptoRow : OpenClaim := { program := "ythedoidpapodgaa", sum := "bc5fec3f1cc96591a310bf4b4cc8f883229c368ed256618fe842e4d03f1aac3e", func := "mailboat/mailboatlaw13.BundleDamage", spec := "bundleDamage", unfollowed := true, recurses := true, apart := false, narrowed := true }
def BundleDamageUptoSaid : Prop := bundleDamageUptoRow.holds Try.pinned (OpenSpec.upto bundleDamageSpec)

/-- 'mailboatlaw13.BundleSizes', WHERE WHAT IT READS IS OF BULK AT MOST 1048576: true; the input reads as it did. -/
def bundleSizesUptoRow : OpenClaim := { program := "ythedoidpapodgaa", sum := "bc5fec3f1cc96591a310bf4b4cc8f883229c368ed256618fe842e4d03f1aac3e", func := "mailboat/mailboatlaw13.BundleSizes", spec := "bundleSizes", unfollowed := true, recurses := true, apart := false, narrowed := true }
def BundleSizesUptoSaid : Prop := bundleSizesUptoRow.holds Try.pinned (OpenSpec.upto bundleSizesSpec)

/-- 'mailboatlaw13.BundleTotal', WHERE WHAT IT READS IS OF BULK AT MOST 1048576: true; the input reads as it did. -/
def bundleTotalUptoRow : OpenClaim := { program := "ythedoidpapodgaa", sum := "bc5fec3f1cc96591a310bf4b4cc8f883229c368ed256618fe842e4d03f1aac3e", func := "mailboat/mailboatlaw13.BundleTotal", spec := "bundleTotal", unfollowed := true, recurses := true, apart := false, narrowed := true }
def BundleTotalUptoSaid : Prop := bundleTotalUptoRow.holds Try.pinned (OpenSpec.upto bundleTotalSpec)

/-- 'mailboatlaw13.BundleLifetimes', WHERE WHAT IT READS IS OF BULK AT MOST 1048576: true; the input reads as it did. -/
def bundleLifetimesUptoRow : OpenClaim := { program := "ythedoidpapodgaa", sum := "bc5fec3f1cc96591a310bf4b4cc8f883229c368ed256618fe842e4d03f1aac3e", func := "mailboat/mailboatlaw13.BundleLifetimes", spec := "bundleLifetimes", unfollowed := true, recurses := true, apart := false, narrowed := true }
def BundleLifetimesUptoSaid : Prop := bundleLifetimesUptoRow.holds Try.pinned (OpenSpec.upto bundleLifetimesSpec)

end Rows
end Go.Proofs.Ythedoidpapodgaa
