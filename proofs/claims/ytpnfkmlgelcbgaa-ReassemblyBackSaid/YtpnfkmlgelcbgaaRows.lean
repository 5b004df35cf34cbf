/-
  No cell of these rows narrows 'for every input' (looked for: loops, veiled, ifaces, maps, wideKeys, modest, calm, conditions, laid).
  DERIVED. THE GIVEN ROWS OF THIS SEAT. 7 by the template 'for every input the law returns true; each argument reads behind the call as it read before'; 0 by the template 'total and deterministic' (their statements: YtpnfkmlgelcbgaaTotals.lean).
  GIVEN WITH THE SEED: the statements are not yours to turn. If you find one false, say at which input.
  Laid BY PROGRAM, IN A SANDBOX (cutbox-rows.mjs): the forced cells as the released guide's own fill.sh prints them over the translation 5fe3326bf48174c0… (all of the seat's roots in one cut). By AI agents, Wed Nov 11 2026. No macro, syntax, notation, axiom, sorry.
-/
import Derived.Test.YtpnfkmlgelcbgaaChecked
import GoSem.Claim
import GoSem.ClaimJoined
import GoSem.ClaimMapViews
import Derived.JoinedTies
import Derived.KernelRfl
namespace Go.Proofs.Ytpnfkmlgelcbgaa
/- THE CELL 'sum', in the pinned program and in every row, IS THE sha256 OF THE DUMP (.gsa) THAT YtpnfkmlgelcbgaaProg.lean LOADS. Nothing in Lean hashes anything: it is a label: what it is worth is what the hold of that sum in a sandbox is worth. -/
noncomputable def Try.pinned : Pinned := { name := "ytpnfkmlgelcbgaa", sum := "5fe3326bf48174c0fb4e5b039e34d9a2ebb2b89799e20f418081ae1437410e6d", checked := Try.checked }
namespace Rows
def none {H : Type} : Left H := { results := [], args := [] }

/-- 'mailboatlaw18.ReassemblyAdds': WHATEVER THE INPUT: true; the input reads as it did. -/
def reassemblyAddsSpec : ChangeSpec := { name := "reassemblyAdds", fn := fun _ => fun
  | [d1, d2] => { results := [.lit (.bool true)], args := [d1, d2] }
  | _ => none }
def reassemblyAddsRow : OpenClaim := { program := "ytpnfkmlgelcbgaa", sum := "5fe3326bf48174c0fb4e5b039e34d9a2ebb2b89799e20f418081ae1437410e6d", func := "mailboat/mailboatlaw18.ReassemblyAdds", spec := "reassemblyAdds", unfollowed := true, recurses := true, apart := false }
def ReassemblyAddsSaid : Prop := reassemblyAddsRow.holds Try.pinned (OpenSpec.ofChange reassemblyAddsSpec)

/-- ITS FALSE NEIGHBOUR: 'it returns false'. Refute it at one input. -/
def reassemblyAddsWrong : ChangeSpec := { name := "reassemblyAdds", fn := fun _ => fun
  | [d1, d2] => { results := [.lit (.bool false)], args := [d1, d2] }
  | _ => none }
def ReassemblyAddsWrongFalsely : Prop := reassemblyAddsRow.holds Try.pinned (OpenSpec.ofChange reassemblyAddsWrong)

/-- 'mailboatlaw18.ReassemblyAll': WHATEVER THE INPUT: true; the input reads as it did. -/
def reassemblyAllSpec : ChangeSpec := { name := "reassemblyAll", fn := fun _ => fun
  | [d] => { results := [.lit (.bool true)], args := [d] }
  | _ => none }
def reassemblyAllRow : OpenClaim := { program := "ytpnfkmlgelcbgaa", sum := "5fe3326bf48174c0fb4e5b039e34d9a2ebb2b89799e20f418081ae1437410e6d", func := "mailboat/mailboatlaw18.ReassemblyAll", spec := "reassemblyAll", unfollowed := true, recurses := true, apart := false }
def ReassemblyAllSaid : Prop := reassemblyAllRow.holds Try.pinned (OpenSpec.ofChange reassemblyAllSpec)

/-- ITS FALSE NEIGHBOUR: 'it returns false'. Refute it at one input. -/
def reassemblyAllWrong : ChangeSpec := { name := "reassemblyAll", fn := fun _ => fun
  | [d] => { results := [.lit (.bool false)], args := [d] }
  | _ => none }
def ReassemblyAllWrongFalsely : Prop := reassemblyAllRow.holds Try.pinned (OpenSpec.ofChange reassemblyAllWrong)

/-- 'mailboatlaw18.ReassemblyOrder': WHATEVER THE INPUT: true; the input reads as it did. -/
def reassemblyOrderSpec : ChangeSpec := { name := "reassemblyOrder", fn := fun _ => fun
  | [d1, d2] => { results := [.lit (.bool true)], args := [d1, d2] }
  | _ => none }
def reassemblyOrderRow : OpenClaim := { program := "ytpnfkmlgelcbgaa", sum := "5fe3326bf48174c0fb4e5b039e34d9a2ebb2b89799e20f418081ae1437410e6d", func := "mailboat/mailboatlaw18.ReassemblyOrder", spec := "reassemblyOrder", unfollowed := true, recurses := true, apart := false }
def ReassemblyOrderSaid : Prop := reassemblyOrderRow.holds Try.pinned (OpenSpec.ofChange reassemblyOrderSpec)

/-- ITS FALSE NEIGHBOUR: 'it returns false'. Refute it at one input. -/
def reassemblyOrderWrong : ChangeSpec := { name := "reassemblyOrder", fn := fun _ => fun
  | [d1, d2] => { results := [.lit (.bool false)], args := [d1, d2] }
  | _ => none }
def ReassemblyOrderWrongFalsely : Prop := reassemblyOrderRow.holds Try.pinned (OpenSpec.ofChange reassemblyOrderWrong)

/-- 'mailboatlaw18.ReassemblyConflicts': WHATEVER THE INPUT: true; the input reads as it did. -/
def reassemblyConflictsSpec : ChangeSpec := { name := "reassemblyConflicts", fn := fun _ => fun
  | [d1, d2, d3, d4] => { results := [.lit (.bool true)], args := [d1, d2, d3, d4] }
  | _ => none }
def reassemblyConflictsRow : OpenClaim := { program := "ytpnfkmlgelcbgaa", sum := "5fe3326bf48174c0fb4e5b039e34d9a2ebb2b89799e20f418081ae1437410e6d", func := "mailboat/mailboatlaw18.ReassemblyConflicts", spec := "reassemblyConflicts", unfollowed := true, recurses := true, apart := false }
def ReassemblyConflictsSaid : Prop := reassemblyConflictsRow.holds Try.pinned (OpenSpec.ofChange reassemblyConflictsSpec)

/-- ITS FALSE NEIGHBOUR: 'it returns false'. Refute it at one input. -/
def reassemblyConflictsWrong : ChangeSpec := { name := "reassemblyConflicts", fn := fun _ => fun
  | [d1, d2, d3, d4] => { results := [.lit (.bool false)], args := [d1, d2, d3, d4] }
  | _ => none }
def ReassemblyConflictsWrongFalsely : Prop := reassemblyConflictsRow.holds Try.pinned (OpenSpec.ofChange reassemblyConflictsWrong)

/-- 'mailboatlaw18.ReassemblyTwice': WHATEVER THE INPUT: true; the input reads as it did. -/
def reassemblyTwiceSpec : ChangeSpec := { name := "reassemblyTwice", fn := fun _ => fun
  | [d1, d2] => { results := [.lit (.bool true)], args := [d1, d2] }
  | _ => none }
def reassemblyTwiceRow : OpenClaim := { program := "ytpnfkmlgelcbgaa", sum := "5fe3326bf48174c0fb4e5b039e34d9a2ebb2b89799e20f418081ae1437410e6d", func := "mailboat/mailboatlaw18.ReassemblyTwice", spec := "reassemblyTwice", unfollowed := true, recurses := true, apart := false }
def ReassemblyTwiceSaid : Prop := reassemblyTwiceRow.holds Try.pinned (OpenSpec.ofChange reassemblyTwiceSpec)

/-- ITS FALSE NEIGHBOUR: 'it returns false'. Refute it at one input. -/
def reassemblyTwiceWrong : ChangeSpec := { name := "reassemblyTwice", fn := fun _ => fun
  | [d1, d2] => { results := [.lit (.bool false)], args := [d1, d2] }
  | _ => none }
def ReassemblyTwiceWrongFalsely : Prop := reassemblyTwiceRow.holds Try.pinned (OpenSpec.ofChange reassemblyTwiceWrong)

/-- 'mailboatlaw18.ReassemblyBack': WHATEVER THE INPUT: true; the input reads as it did. -/
def reassemblyBackSpec : ChangeSpec := { name := "reassemblyBack", fn := fun _ => fun
  | [d1, d2, d3] => { results := [.lit (.bool true)], args := [d1, d2, d3] }
  | _ => none }
def reassemblyBackRow : OpenClaim := { program := "ytpnfkmlgelcbgaa", sum := "5fe3326bf48174c0fb4e5b039e34d9a2ebb2b89799e20f418081ae1437410e6d", func := "mailboat/mailboatlaw18.ReassemblyBack", spec := "reassemblyBack", unfollowed := true, recurses := true, apart := false }
def ReassemblyBackSaid : Prop := reassemblyBackRow.holds Try.pinned (OpenSpec.ofChange reassemblyBackSpec)

/-- ITS FALSE NEIGHBOUR: 'it returns false'. Refute it at one input. -/
def reassemblyBackWrong : ChangeSpec := { name := "reassemblyBack", fn := fun _ => fun
  | [d1, d2, d3] => { results := [.lit (.bool false)], args := [d1, d2, d3] }
  | _ => none }
def ReassemblyBackWrongFalsely : Prop := reassemblyBackRow.holds Try.pinned (OpenSpec.ofChange reassemblyBackWrong)

/-- 'mailboatlaw18.ReassemblyParts': WHATEVER THE INPUT: true; the input reads as it did. -/
def reassemblyPartsSpec : ChangeSpec := { name := "reassemblyParts", fn := fun _ => fun
  | [d1, d2] => { results := [.lit (.bool true)], args := [d1, d2] }
  | _ => none }
def reassemblyPartsRow : OpenClaim := { program := "ytpnfkmlgelcbgaa", sum := "5fe3326bf48174c0fb4e5b039e34d9a2ebb2b89799e20f418081ae1437410e6d", func := "mailboat/mailboatlaw18.ReassemblyParts", spec := "reassemblyParts", unfollowed := true, recurses := true, apart := false }
def ReassemblyPartsSaid : Prop := reassemblyPartsRow.holds Try.pinned (OpenSpec.ofChange reassemblyPartsSpec)

/-- ITS FALSE NEIGHBOUR: 'it returns false'. Refute it at one input. -/
def reassemblyPartsWrong : ChangeSpec := { name := "reassemblyParts", fn := fun _ => fun
  | [d1, d2] => { results := [.lit (.bool false)], args := [d1, d2] }
  | _ => none }
def ReassemblyPartsWrongFalsely : Prop := reassemblyPartsRow.holds Try.pinned (OpenSpec.ofChange reassemblyPartsWrong)

/- THE SECOND FORM. 'bulk': how many values and letters a reading holds, each counted each time it is reached (what is shared counts as often as it is met; a slice's spare places count too). A statement '..UptoSaid' is the law's where the arguments, and the package variables that the reading takes, are together of bulk at most 1048576: NARROWER than '..Said'. Prove '..Said' where nothing that the law and all that it calls make is longer than what came in: it says more and counts as full. Else prove '..UptoSaid'. A law counts once. -/
mutual
def uptoBulk {H : Type} : DataW H → Nat
  | .lit (.string bytes) => bytes.length + 1
  | .lit _ => 1
  | .nil => 1
  | .ptr d => uptoBulk d + 1
  | .slice elems spare => uptoBulkAll elems + uptoBulkAll spare + 1
  | .agg parts => uptoBulkAll parts + 1
  | .iface _ d => uptoBulk d + 1
  | .map entries => uptoBulkEntries entries + 1
  | .held _ => 1
def uptoBulkAll {H : Type} : List (DataW H) → Nat
  | [] => 0
  | d :: r => uptoBulk d + uptoBulkAll r
def uptoBulkEntries {H : Type} : List (Lit × DataW H) → Nat
  | [] => 0
  | x :: r => uptoBulkEntry x + uptoBulkEntries r
def uptoBulkEntry {H : Type} : Lit × DataW H → Nat
  | (.string bytes, d) => bytes.length + uptoBulk d + 1
  | (_, d) => uptoBulk d + 1
 end
def uptoSmall : (H : Type) → List (DataW H) → Bool := fun _ ds => decide (uptoBulkAll ds ≤ 1048576)
def OpenSpec.upto (s : _root_.Go.ChangeSpec) : _root_.Go.OpenSpec := { _root_.Go.OpenSpec.ofChange s with cond := some uptoSmall }

/-- 'mailboatlaw18.ReassemblyAdds', WHERE WHAT IT READS IS OF BULK AT MOST 1048576: true; the input reads as it did. -/
def reassemblyAddsUptoRow : OpenClaim := { program := "ytpnfkmlgelcbgaa", sum := "5fe3326bf48174c0fb4e5b039e34d9a2ebb2b89799e20f418081ae1437410e6d", func := "mailboat/mailboatlaw18.ReassemblyAdds", spec := "reassemblyAdds", unfollowed := true, recurses := true, apart := false, narrowed := true }
def ReassemblyAddsUptoSaid : Prop := reassemblyAddsUptoRow.holds Try.pinned (OpenSpec.upto reassemblyAddsSpec)

/-- 'mailboatlaw18.ReassemblyAll', WHERE WHAT IT READS IS OF BULK AT MOST 1048576: true; the input reads as it did. -/
def reassemblyAllUptoRow : OpenClaim := { program := "ytpnfkmlgelcbgaa", sum := "5fe3326bf48174c0fb4e5b039e34d9a2ebb2b89799e20f418081ae1437410e6d", func := "mailboat/mailboatlaw18.ReassemblyAll", spec := "reassemblyAll", unfollowed := true, recurses := true, apart := false, narrowed := true }
def ReassemblyAllUptoSaid : Prop := reassemblyAllUptoRow.holds Try.pinned (OpenSpec.upto reassemblyAllSpec)

/-- 'mailboatlaw18.ReassemblyOrder', WHERE WHAT IT READS IS OF BULK AT MOST 1048576: true; the input reads as it did. -/
def reassemblyOrderUptoRow : OpenClaim := { program := "ytpnfkmlgelcbgaa", sum := "5fe3326bf48174c0fb4e5b039e34d9a2ebb2b89799e20f418081ae1437410e6d", func := "mailboat/mailboatlaw18.ReassemblyOrder", spec := "reassemblyOrder", unfollowed := true, recurses := true, apart := false, narrowed := true }
def ReassemblyOrderUptoSaid : Prop := reassemblyOrderUptoRow.holds Try.pinned (OpenSpec.upto reassemblyOrderSpec)

/-- 'mailboatlaw18.ReassemblyConflicts', WHERE WHAT IT READS IS OF BULK AT MOST 1048576: true; the input reads as it did. -/
def reassemblyConflictsUptoRow : OpenClaim := { program := "ytpnfkmlgelcbgaa", sum := "5fe3326bf48174c0fb4e5b039e34d9a2ebb2b89799e20f418081ae1437410e6d", func := "mailboat/mailboatlaw18.ReassemblyConflicts", spec := "reassemblyConflicts", unfollowed := true, recurses := true, apart := false, narrowed := true }
def ReassemblyConflictsUptoSaid : Prop := reassemblyConflictsUptoRow.holds Try.pinned (OpenSpec.upto reassemblyConflictsSpec)

/-- 'mailboatlaw18.ReassemblyTwice', WHERE WHAT IT READS IS OF BULK AT MOST 1048576: true; the input reads as it did. -/
def reassemblyTwiceUptoRow : OpenClaim := { program := "ytpnfkmlgelcbgaa", sum := "5fe3326bf48174c0fb4e5b039e34d9a2ebb2b89799e20f418081ae1437410e6d", func := "mailboat/mailboatlaw18.ReassemblyTwice", spec := "reassemblyTwice", unfollowed := true, recurses := true, apart := false, narrowed := true }
def ReassemblyTwiceUptoSaid : Prop := reassemblyTwiceUptoRow.holds Try.pinned (OpenSpec.upto reassemblyTwiceSpec)

/-- 'mailboatlaw18.ReassemblyBack', WHERE WHAT IT READS IS OF BULK AT MOST 1048576: true; the input reads as it did. -/
def reassemblyBackUptoRow : OpenClaim := { program := "ytpnfkmlgelcbgaa", sum := "5fe3326bf48174c0fb4e5b039e34d9a2ebb2b89799e20f418081ae1437410e6d", func := "mailboat/mailboatlaw18.ReassemblyBack", spec := "reassemblyBack", unfollowed := true, recurses := true, apart := false, narrowed := true }
def ReassemblyBackUptoSaid : Prop := reassemblyBackUptoRow.holds Try.pinned (OpenSpec.upto reassemblyBackSpec)

/-- 'mailboatlaw18.ReassemblyParts', WHERE WHAT IT READS IS OF BULK AT MOST 1048576: true; the input reads as it did. -/
def reassemblyPartsUptoRow : OpenClaim := { program := "ytpnfkmlgelcbgaa", sum := "5fe3326bf48174c0fb4e5b039e34d9a2ebb2b89799e20f418081ae1437410e6d", func := "mailboat/mailboatlaw18.ReassemblyParts", spec := "reassemblyParts", unfollowed := true, recurses := true, apart := false, narrowed := true }
def ReassemblyPartsUptoSaid : Prop := reassemblyPartsUptoRow.holds Try.pinned (OpenSpec.upto reassemblyPartsSpec)

end Rows
end Go.Proofs.Ytpnfkmlgelcbgaa
