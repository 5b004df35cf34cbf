/-
  No cell of these rows narrows 'for every input' (looked for: loops, veiled, ifaces, maps, wideKeys, modest, calm, conditions, laid).
  DERIVED. THE GIVEN ROWS OF THIS SEAT. 8 by the template 'for every input the law returns true; each argument reads behind the call as it read before'; 0 by the template 'total and deterministic' (their statements: YtdnbegcebloodaaTotals.lean).
  GIVEN WITH THE SEED: the statements are not yours to turn. If you find one false, say at which input.
  Laid BY PROGRAM, IN A SANDBOX (cutbox-rows.mjs): the forced cells as the released guide's own fill.sh prints them over the translation 65bf42477de251fe… (all of the seat's roots in one cut). By AI agents, Wed Nov 11 2026. No macro, syntax, notation, axiom, sorry.
-/
import Derived.Test.YtdnbegcebloodaaChecked
import GoSem.Claim
import GoSem.ClaimJoined
import GoSem.ClaimMapViews
import Derived.JoinedTies
import Derived.KernelRfl
namespace Go.Proofs.Ytdnbegcebloodaa
/- THE CELL 'sum', in the pinned program and in every row, IS THE sha256 OF THE DUMP (.gsa) THAT YtdnbegcebloodaaProg.lean LOADS. Nothing in Lean hashes anything: it is a label: what it is worth is what the hold of that sum in a sandbox is worth. -/
noncomputable def Try.pinned : Pinned := { name := "ytdnbegcebloodaa", sum := "65bf42477de251fefaf32676126c53283754df2d259cc17cc5f98092496e0170", checked := Try.checked }
namespace Rows
def none {H : Type} : Left H := { results := [], args := [] }

/-- 'mailboatlaw12.BlockProcess': WHATEVER THE INPUT: true; the input reads as it did. -/
def blockProcessSpec : ChangeSpec := { name := "blockProcess", fn := fun _ => fun
  | [d1, d2, d3] => { results := [.lit (.bool true)], args := [d1, d2, d3] }
  | _ => none }
def blockProcessRow : OpenClaim := { program := "ytdnbegcebloodaa", sum := "65bf42477de251fefaf32676126c53283754df2d259cc17cc5f98092496e0170", func := "mailboat/mailboatlaw12.BlockProcess", spec := "blockProcess", unfollowed := true, recurses := true, apart := false }
def BlockProcessSaid : Prop := blockProcessRow.holds Try.pinned (OpenSpec.ofChange blockProcessSpec)

/-- ITS FALSE NEIGHBOUR: 'it returns false'. Refute it at one input. -/
def blockProcessWrong : ChangeSpec := { name := "blockProcess", fn := fun _ => fun
  | [d1, d2, d3] => { results := [.lit (.bool false)], args := [d1, d2, d3] }
  | _ => none }
def BlockProcessWrongFalsely : Prop := blockProcessRow.holds Try.pinned (OpenSpec.ofChange blockProcessWrong)

/-- 'mailboatlaw12.BlockChanges': WHATEVER THE INPUT: true; the input reads as it did. -/
def blockChangesSpec : ChangeSpec := { name := "blockChanges", fn := fun _ => fun
  | [d1, d2, d3, d4] => { results := [.lit (.bool true)], args := [d1, d2, d3, d4] }
  | _ => none }
def blockChangesRow : OpenClaim := { program := "ytdnbegcebloodaa", sum := "65bf42477de251fefaf32676126c53283754df2d259cc17cc5f98092496e0170", func := "mailboat/mailboatlaw12.BlockChanges", spec := "blockChanges", unfollowed := true, recurses := true, apart := false }
def BlockChangesSaid : Prop := blockChangesRow.holds Try.pinned (OpenSpec.ofChange blockChangesSpec)

/-- ITS FALSE NEIGHBOUR: 'it returns false'. Refute it at one input. -/
def blockChangesWrong : ChangeSpec := { name := "blockChanges", fn := fun _ => fun
  | [d1, d2, d3, d4] => { results := [.lit (.bool false)], args := [d1, d2, d3, d4] }
  | _ => none }
def BlockChangesWrongFalsely : Prop := blockChangesRow.holds Try.pinned (OpenSpec.ofChange blockChangesWrong)

/-- 'mailboatlaw12.BlockPuts': WHATEVER THE INPUT: true; the input reads as it did. -/
def blockPutsSpec : ChangeSpec := { name := "blockPuts", fn := fun _ => fun
  | [d1, d2, d3] => { results := [.lit (.bool true)], args := [d1, d2, d3] }
  | _ => none }
def blockPutsRow : OpenClaim := { program := "ytdnbegcebloodaa", sum := "65bf42477de251fefaf32676126c53283754df2d259cc17cc5f98092496e0170", func := "mailboat/mailboatlaw12.BlockPuts", spec := "blockPuts", unfollowed := true, recurses := true, apart := false }
def BlockPutsSaid : Prop := blockPutsRow.holds Try.pinned (OpenSpec.ofChange blockPutsSpec)

/-- ITS FALSE NEIGHBOUR: 'it returns false'. Refute it at one input. -/
def blockPutsWrong : ChangeSpec := { name := "blockPuts", fn := fun _ => fun
  | [d1, d2, d3] => { results := [.lit (.bool false)], args := [d1, d2, d3] }
  | _ => none }
def BlockPutsWrongFalsely : Prop := blockPutsRow.holds Try.pinned (OpenSpec.ofChange blockPutsWrong)

/-- 'mailboatlaw12.BlockUnknown': WHATEVER THE INPUT: true; the input reads as it did. -/
def blockUnknownSpec : ChangeSpec := { name := "blockUnknown", fn := fun _ => fun
  | [d1, d2] => { results := [.lit (.bool true)], args := [d1, d2] }
  | _ => none }
def blockUnknownRow : OpenClaim := { program := "ytdnbegcebloodaa", sum := "65bf42477de251fefaf32676126c53283754df2d259cc17cc5f98092496e0170", func := "mailboat/mailboatlaw12.BlockUnknown", spec := "blockUnknown", unfollowed := true, recurses := true, apart := false }
def BlockUnknownSaid : Prop := blockUnknownRow.holds Try.pinned (OpenSpec.ofChange blockUnknownSpec)

/-- ITS FALSE NEIGHBOUR: 'it returns false'. Refute it at one input. -/
def blockUnknownWrong : ChangeSpec := { name := "blockUnknown", fn := fun _ => fun
  | [d1, d2] => { results := [.lit (.bool false)], args := [d1, d2] }
  | _ => none }
def BlockUnknownWrongFalsely : Prop := blockUnknownRow.holds Try.pinned (OpenSpec.ofChange blockUnknownWrong)

/-- 'mailboatlaw12.BlockSingle': WHATEVER THE INPUT: true; the input reads as it did. -/
def blockSingleSpec : ChangeSpec := { name := "blockSingle", fn := fun _ => fun
  | [d1, d2] => { results := [.lit (.bool true)], args := [d1, d2] }
  | _ => none }
def blockSingleRow : OpenClaim := { program := "ytdnbegcebloodaa", sum := "65bf42477de251fefaf32676126c53283754df2d259cc17cc5f98092496e0170", func := "mailboat/mailboatlaw12.BlockSingle", spec := "blockSingle", unfollowed := true, recurses := true, apart := false }
def BlockSingleSaid : Prop := blockSingleRow.holds Try.pinned (OpenSpec.ofChange blockSingleSpec)

/-- ITS FALSE NEIGHBOUR: 'it returns false'. Refute it at one input. -/
def blockSingleWrong : ChangeSpec := { name := "blockSingle", fn := fun _ => fun
  | [d1, d2] => { results := [.lit (.bool false)], args := [d1, d2] }
  | _ => none }
def BlockSingleWrongFalsely : Prop := blockSingleRow.holds Try.pinned (OpenSpec.ofChange blockSingleWrong)

/-- 'mailboatlaw12.BlockDamage': WHATEVER THE INPUT: true; the input reads as it did. -/
def blockDamageSpec : ChangeSpec := { name := "blockDamage", fn := fun _ => fun
  | [d1, d2, d3] => { results := [.lit (.bool true)], args := [d1, d2, d3] }
  | _ => none }
def blockDamageRow : OpenClaim := { program := "ytdnbegcebloodaa", sum := "65bf42477de251fefaf32676126c53283754df2d259cc17cc5f98092496e0170", func := "mailboat/mailboatlaw12.BlockDamage", spec := "blockDamage", unfollowed := true, recurses := true, apart := false }
def BlockDamageSaid : Prop := blockDamageRow.holds Try.pinned (OpenSpec.ofChange blockDamageSpec)

/-- ITS FALSE NEIGHBOUR: 'it returns false'. Refute it at one input. -/
def blockDamageWrong : ChangeSpec := { name := "blockDamage", fn := fun _ => fun
  | [d1, d2, d3] => { results := [.lit (.bool false)], args := [d1, d2, d3] }
  | _ => none }
def BlockDamageWrongFalsely : Prop := blockDamageRow.holds Try.pinned (OpenSpec.ofChange blockDamageWrong)

/-- 'mailboatlaw12.BlockLists': WHATEVER THE INPUT: true; the input reads as it did. -/
def blockListsSpec : ChangeSpec := { name := "blockLists", fn := fun _ => fun
  | [d1, d2] => { results := [.lit (.bool true)], args := [d1, d2] }
  | _ => none }
def blockListsRow : OpenClaim := { program := "ytdnbegcebloodaa", sum := "65bf42477de251fefaf32676126c53283754df2d259cc17cc5f98092496e0170", func := "mailboat/mailboatlaw12.BlockLists", spec := "blockLists", unfollowed := true, recurses := true, apart := false }
def BlockListsSaid : Prop := blockListsRow.holds Try.pinned (OpenSpec.ofChange blockListsSpec)

/-- ITS FALSE NEIGHBOUR: 'it returns false'. Refute it at one input. -/
def blockListsWrong : ChangeSpec := { name := "blockLists", fn := fun _ => fun
  | [d1, d2] => { results := [.lit (.bool false)], args := [d1, d2] }
  | _ => none }
def BlockListsWrongFalsely : Prop := blockListsRow.holds Try.pinned (OpenSpec.ofChange blockListsWrong)

/-- 'mailboatlaw12.BlockBack': WHATEVER THE INPUT: true; the input reads as it did. -/
def blockBackSpec : ChangeSpec := { name := "blockBack", fn := fun _ => fun
  | [d1, d2] => { results := [.lit (.bool true)], args := [d1, d2] }
  | _ => none }
def blockBackRow : OpenClaim := { program := "ytdnbegcebloodaa", sum := "65bf42477de251fefaf32676126c53283754df2d259cc17cc5f98092496e0170", func := "mailboat/mailboatlaw12.BlockBack", spec := "blockBack", unfollowed := true, recurses := true, apart := false }
def BlockBackSaid : Prop := blockBackRow.holds Try.pinned (OpenSpec.ofChange blockBackSpec)

/-- ITS FALSE NEIGHBOUR: 'it returns false'. Refute it at one input. -/
def blockBackWrong : ChangeSpec := { name := "blockBack", fn := fun _ => fun
  | [d1, d2] => { results := [.lit (.bool false)], args := [d1, d2] }
  | _ => none }
def BlockBackWrongFalsely : Prop := blockBackRow.holds Try.pinned (OpenSpec.ofChange blockBackWrong)

/- THE SECOND FORM. 'bulk': how many values and letters a reading holds, each counted each time it is reached (what is shared counts as often as it is met; a slice's spare places count too). A statement '..UptoSaid' is the law's where the arguments, and the package variables that the reading takes, are together of bulk at most 1048576: NARROWER than '..Said'. Prove '..Said' where nothing that the law and all that it calls make is longer than what came in: it says more and counts as full. Else prove '..UptoSaid'. A law counts once. -/
mutual
def uptoBulk {H : Type} : DataW H → Nat
  | .lit (.string bytes) => bytes.length + 1
  | .lit _ => 1
  | .nil => 1
  | .ptr d => uptoBulk d + 1
  | .slice elems spare => uptoBulkAll elems + uptoBulkAll spare + 1
  | .agg parts => uptoBulkAll parts + 1
  | .iface _ d => uptoBulk d + 1
  | .map entries => uptoBulkEntries entries + 1
  | .held _ => 1
def uptoBulkAll {H : Type} : List (DataW H) → Nat
  | [] => 0
  | d :: r => uptoBulk d + uptoBulkAll r
def uptoBulkEntries {H : Type} : List (Lit × DataW H) → Nat
  | [] => 0
  | x :: r => uptoBulkEntry x + uptoBulkEntries r
def uptoBulkEntry {H : Type} : Lit × DataW H → Nat
  | (.string bytes, d) => bytes.length + uptoBulk d + 1
  | (_, d) => uptoBulk d + 1
 end
def uptoSmall : (H : Type) → List (DataW H) → Bool := fun _ ds => decide (uptoBulkAll ds ≤ 1048576)
def OpenSpec.upto (s : _root_.Go.ChangeSpec) : _root_.Go.OpenSpec := { _root_.Go.OpenSpec.ofChange s with cond := some uptoSmall }

/-- 'mailboatlaw12.BlockProcess', WHERE WHAT IT READS IS OF BULK AT MOST 1048576: true; the input reads as it did. -/
def blockProcessUptoRow : OpenClaim := { program := "ytdnbegcebloodaa", sum := "65bf42477de251fefaf32676126c53283754df2d259cc17cc5f98092496e0170", func := "mailboat/mailboatlaw12.BlockProcess", spec := "blockProcess", unfollowed := true, recurses := true, apart := false, narrowed := true }
def BlockProcessUptoSaid : Prop := blockProcessUptoRow.holds Try.pinned (OpenSpec.upto blockProcessSpec)

/-- 'mailboatlaw12.BlockChanges', WHERE WHAT IT READS IS OF BULK AT MOST 1048576: true; the input reads as it did. -/
def blockChangesUptoRow : OpenClaim := { program := "ytdnbegcebloodaa", sum := "65bf42477de251fefaf32676126c53283754df2d259cc17cc5f98092496e0170", func := "mailboat/mailboatlaw12.BlockChanges", spec := "blockChanges", unfollowed := true, recurses := true, apart := false, narrowed := true }
def BlockChangesUptoSaid : Prop := blockChangesUptoRow.holds Try.pinned (OpenSpec.upto blockChangesSpec)

/-- 'mailboatlaw12.BlockPuts', WHERE WHAT IT READS IS OF BULK AT MOST 1048576: true; the input reads as it did. -/
def blockPutsUptoRow : OpenClaim := { program := "ytdnbegcebloodaa", sum := "65bf42477de251fefaf32676126c53283754df2d259cc17cc5f98092496e0170", func := "mailboat/mailboatlaw12.BlockPuts", spec := "blockPuts", unfollowed := true, recurses := true, apart := false, narrowed := true }
def BlockPutsUptoSaid : Prop := blockPutsUptoRow.holds Try.pinned (OpenSpec.upto blockPutsSpec)

/-- 'mailboatlaw12.BlockUnknown', WHERE WHAT IT READS IS OF BULK AT MOST 1048576: true; the input reads as it did. -/
def blockUnknownUptoRow : OpenClaim := { program := "ytdnbegcebloodaa", sum := "65bf42477de251fefaf32676126c53283754df2d259cc17cc5f98092496e0170", func := "mailboat/mailboatlaw12.BlockUnknown", spec := "blockUnknown", unfollowed := true, recurses := true, apart := false, narrowed := true }
def BlockUnknownUptoSaid : Prop := blockUnknownUptoRow.holds Try.pinned (OpenSpec.upto blockUnknownSpec)

/-- 'mailboatlaw12.BlockSingle', WHERE WHAT IT READS IS OF BULK AT MOST 1048576: true; the input reads as it did. -/
def blockSingleUptoRow : OpenClaim := { program := "ytdnbegcebloodaa", sum := "65bf42477de251fefaf32676126c53283754df2d259cc17cc5f98092496e0170", func := "mailboat/mailboatlaw12.BlockSingle", spec := "blockSingle", unfollowed := true, recurses := true, apart := false, narrowed := true }
def BlockSingleUptoSaid : Prop := blockSingleUptoRow.holds Try.pinned (OpenSpec.upto blockSingleSpec)

/-- 'mailboatlaw12.BlockDamage', WHERE WHAT IT READS IS OF BULK AT MOST 1048576: true; the input reads as it did. -/
def blockDamageUptoRow : OpenClaim := { program := "ytdnbegcebloodaa", sum := "65bf42477de251fefaf32676126c53283754df2d259cc17cc5f98092496e0170", func := "mailboat/mailboatlaw12.BlockDamage", spec := "blockDamage", unfollowed := true, recurses := true, apart := false, narrowed := true }
def BlockDamageUptoSaid : Prop := blockDamageUptoRow.holds Try.pinned (OpenSpec.upto blockDamageSpec)

/-- 'mailboatlaw12.BlockLists', WHERE WHAT IT READS IS OF BULK AT MOST 1048576: true; the input reads as it did. -/
def blockListsUptoRow : OpenClaim := { program := "ytdnbegcebloodaa", sum := "65bf42477de251fefaf32676126c53283754df2d259cc17cc5f98092496e0170", func := "mailboat/mailboatlaw12.BlockLists", spec := "blockLists", unfollowed := true, recurses := true, apart := false, narrowed := true }
def BlockListsUptoSaid : Prop := blockListsUptoRow.holds Try.pinned (OpenSpec.upto blockListsSpec)

/-- 'mailboatlaw12.BlockBack', WHERE WHAT IT READS IS OF BULK AT MOST 1048576: true; the input reads as it did. -/
def blockBackUptoRow : OpenClaim := { program := "ytdnbegcebloodaa", sum := "65bf42477de251fefaf32676126c53283754df2d259cc17cc5f98092496e0170", func := "mailboat/mailboatlaw12.BlockBack", spec := "blockBack", unfollowed := true, recurses := true, apart := false, narrowed := true }
def BlockBackUptoSaid : Prop := blockBackUptoRow.holds Try.pinned (OpenSpec.upto blockBackSpec)

end Rows
end Go.Proofs.Ytdnbegcebloodaa
