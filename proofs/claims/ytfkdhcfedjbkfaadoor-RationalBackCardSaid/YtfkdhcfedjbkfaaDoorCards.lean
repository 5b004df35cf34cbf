/-
  DERIVED. GIVEN WITH THE SEED: THE CARDS: each row of YtfkdhcfedjbkfaaDoorRows.lean that lists a variable, with what it lists TIED to the program's text (the seventh form; the later family's looks); each row that meets fmt, with fmt's text TOLD by the authors' own Lean function (tested against real Go, not proved from fmt's source: count such statements apart). THE CARD IS WHAT COUNTS. Prove the row's statement (the work); the ties are given (YtfkdhcfedjbkfaaDoorTie.lean); close each card by the builder's one call (the guide's Derived/Test/ToyasCard.lean, 'card_holds'). Laid BY PROGRAM, IN A SANDBOX (cutbox-door.mjs). By AI agents, Wed Nov 11 2026. No macro, syntax, notation, axiom, sorry.
-/
import Derived.Test.YtfkdhcfedjbkfaaDoorRows
import GoSem.ClaimSeven
namespace Go.Proofs.YtfkdhcfedjbkfaaDoor
namespace Rows

/-- THE TIED CARD OF 'mailboatlaw04.RationalTexts'. -/
def rationalTextsCard : Claim7 := { stood := { row := rationalTextsRow, standIns := [], harness := (true, "5f8dbe4297179cc6667bc1b5d96b4fde39adf4032d99ff1153584e2efafad458"), looks := false }, kinds := [], alts := [], laidByText := true, laidKinds := [.data, .data, .data], laidTests := true, laidLooks := .later }
def RationalTextsCardSaid : Prop := Claim7.holds Tryd.pinned (.plain (OpenSpec.ofChange rationalTextsSpec)) rationalTextsCard

/-- THE TIED CARD OF 'mailboatlaw04.RationalBack'. -/
def rationalBackCard : Claim7 := { stood := { row := rationalBackRow, standIns := [], harness := (true, "5f8dbe4297179cc6667bc1b5d96b4fde39adf4032d99ff1153584e2efafad458"), looks := false }, kinds := [], alts := [], laidByText := true, laidKinds := [.data, .data, .data], laidTests := true, laidLooks := .later }
def RationalBackCardSaid : Prop := Claim7.holds Tryd.pinned (.plain (OpenSpec.ofChange rationalBackSpec)) rationalBackCard

/-- THE SECOND FORM's CARD OF 'mailboatlaw04.RationalTexts'. -/
def rationalTextsUptoCard : Claim7 := { stood := { row := rationalTextsUptoRow, standIns := [], harness := (true, "5f8dbe4297179cc6667bc1b5d96b4fde39adf4032d99ff1153584e2efafad458"), looks := false }, kinds := [], alts := [], laidByText := true, laidKinds := [.data, .data, .data], laidTests := true, laidLooks := .later }
def RationalTextsUptoCardSaid : Prop := Claim7.holds Tryd.pinned (.plain (OpenSpec.upto rationalTextsSpec)) rationalTextsUptoCard

/-- THE SECOND FORM's CARD OF 'mailboatlaw04.RationalBack'. -/
def rationalBackUptoCard : Claim7 := { stood := { row := rationalBackUptoRow, standIns := [], harness := (true, "5f8dbe4297179cc6667bc1b5d96b4fde39adf4032d99ff1153584e2efafad458"), looks := false }, kinds := [], alts := [], laidByText := true, laidKinds := [.data, .data, .data], laidTests := true, laidLooks := .later }
def RationalBackUptoCardSaid : Prop := Claim7.holds Tryd.pinned (.plain (OpenSpec.upto rationalBackSpec)) rationalBackUptoCard
end Rows
end Go.Proofs.YtfkdhcfedjbkfaaDoor
