/-
  DERIVED. GIVEN WITH THE SEED: THE CARDS: each row of YtcmkpnjbnjbegaaDoorRows.lean that lists a variable, with what it lists TIED to the program's text (the seventh form; the later family's looks); each row that meets fmt, with fmt's text TOLD by the authors' own Lean function (tested against real Go, not proved from fmt's source: count such statements apart). THE CARD IS WHAT COUNTS. Prove the row's statement (the work); the ties are given (YtcmkpnjbnjbegaaDoorTie.lean); close each card by the builder's one call (the guide's Derived/Test/ToyasCard.lean, 'card_holds'). Laid BY PROGRAM, IN A SANDBOX (cutbox-door.mjs). By AI agents, Wed Nov 11 2026. No macro, syntax, notation, axiom, sorry.
-/
import Derived.Test.YtcmkpnjbnjbegaaDoorRows
import GoSem.ClaimSeven
namespace Go.Proofs.YtcmkpnjbnjbegaaDoor
namespace Rows

/-- THE TIED CARD OF 'mailboatlaw20.ReportTexts'. -/
def reportTextsCard : Claim7 := { stood := { row := reportTextsRow, standIns := [], harness := (true, "c3adbec164aad8dc57ec0e404f071e8c1abcc98f9f74296d1399b69f61a5471c"), looks := false }, kinds := [], alts := [], laidByText := true, laidKinds := [.data, .data, .data, .data, .data], laidTests := true, laidLooks := .later }
def ReportTextsCardSaid : Prop := Claim7.holds Tryd.pinned (.plain (OpenSpec.ofChange reportTextsSpec)) reportTextsCard

/-- THE TIED CARD OF 'mailboatlaw20.ReportFlags'. -/
def reportFlagsCard : Claim7 := { stood := { row := reportFlagsRow, standIns := [], harness := (true, "c3adbec164aad8dc57ec0e404f071e8c1abcc98f9f74296d1399b69f61a5471c"), looks := false }, kinds := [], alts := [], laidByText := true, laidKinds := [.data, .data, .data, .data, .data], laidTests := true, laidLooks := .later }
def ReportFlagsCardSaid : Prop := Claim7.holds Tryd.pinned (.plain (OpenSpec.ofChange reportFlagsSpec)) reportFlagsCard

/-- THE TIED CARD OF 'mailboatlaw20.ReportRecords'. -/
def reportRecordsCard : Claim7 := { stood := { row := reportRecordsRow, standIns := [], harness := (true, "c3adbec164aad8dc57ec0e404f071e8c1abcc98f9f74296d1399b69f61a5471c"), looks := false }, kinds := [], alts := [], laidByText := true, laidKinds := [.data, .data, .data, .data, .data], laidTests := true, laidLooks := .later }
def ReportRecordsCardSaid : Prop := Claim7.holds Tryd.pinned (.plain (OpenSpec.ofChange reportRecordsSpec)) reportRecordsCard

/-- THE TIED CARD OF 'mailboatlaw20.ReportBack'. -/
def reportBackCard : Claim7 := { stood := { row := reportBackRow, standIns := [], harness := (true, "c3adbec164aad8dc57ec0e404f071e8c1abcc98f9f74296d1399b69f61a5471c"), looks := false }, kinds := [], alts := [], laidByText := true, laidKinds := [.data, .data, .data, .data, .data], laidTests := true, laidLooks := .later }
def ReportBackCardSaid : Prop := Claim7.holds Tryd.pinned (.plain (OpenSpec.ofChange reportBackSpec)) reportBackCard

/-- THE TIED CARD OF 'mailboatlaw20.ReportBundles'. -/
def reportBundlesCard : Claim7 := { stood := { row := reportBundlesRow, standIns := [], harness := (true, "c3adbec164aad8dc57ec0e404f071e8c1abcc98f9f74296d1399b69f61a5471c"), looks := false }, kinds := [], alts := [], laidByText := true, laidKinds := [.data, .data, .data, .data, .data], laidTests := true, laidLooks := .later }
def ReportBundlesCardSaid : Prop := Claim7.holds Tryd.pinned (.plain (OpenSpec.ofChange reportBundlesSpec)) reportBundlesCard

/-- THE TIED CARD OF 'mailboatlaw20.ReportWraps'. -/
def reportWrapsCard : Claim7 := { stood := { row := reportWrapsRow, standIns := [], harness := (true, "c3adbec164aad8dc57ec0e404f071e8c1abcc98f9f74296d1399b69f61a5471c"), looks := false }, kinds := [], alts := [], laidByText := true, laidKinds := [.data, .data, .data, .data, .data], laidTests := true, laidLooks := .later }
def ReportWrapsCardSaid : Prop := Claim7.holds Tryd.pinned (.plain (OpenSpec.ofChange reportWrapsSpec)) reportWrapsCard

/-- THE SECOND FORM's CARD OF 'mailboatlaw20.ReportTexts'. -/
def reportTextsUptoCard : Claim7 := { stood := { row := reportTextsUptoRow, standIns := [], harness := (true, "c3adbec164aad8dc57ec0e404f071e8c1abcc98f9f74296d1399b69f61a5471c"), looks := false }, kinds := [], alts := [], laidByText := true, laidKinds := [.data, .data, .data, .data, .data], laidTests := true, laidLooks := .later }
def ReportTextsUptoCardSaid : Prop := Claim7.holds Tryd.pinned (.plain (OpenSpec.upto reportTextsSpec)) reportTextsUptoCard

/-- THE SECOND FORM's CARD OF 'mailboatlaw20.ReportFlags'. -/
def reportFlagsUptoCard : Claim7 := { stood := { row := reportFlagsUptoRow, standIns := [], harness := (true, "c3adbec164aad8dc57ec0e404f071e8c1abcc98f9f74296d1399b69f61a5471c"), looks := false }, kinds := [], alts := [], laidByText := true, laidKinds := [.data, .data, .data, .data, .data], laidTests := true, laidLooks := .later }
def ReportFlagsUptoCardSaid : Prop := Claim7.holds Tryd.pinned (.plain (OpenSpec.upto reportFlagsSpec)) reportFlagsUptoCard

/-- THE SECOND FORM's CARD OF 'mailboatlaw20.ReportRecords'. -/
def reportRecordsUptoCard : Claim7 := { stood := { row := reportRecordsUptoRow, standIns := [], harness := (true, "c3adbec164aad8dc57ec0e404f071e8c1abcc98f9f74296d1399b69f61a5471c"), looks := false }, kinds := [], alts := [], laidByText := true, laidKinds := [.data, .data, .data, .data, .data], laidTests := true, laidLooks := .later }
def ReportRecordsUptoCardSaid : Prop := Claim7.holds Tryd.pinned (.plain (OpenSpec.upto reportRecordsSpec)) reportRecordsUptoCard

/-- THE SECOND FORM's CARD OF 'mailboatlaw20.ReportBack'. -/
def reportBackUptoCard : Claim7 := { stood := { row := reportBackUptoRow, standIns := [], harness := (true, "c3adbec164aad8dc57ec0e404f071e8c1abcc98f9f74296d1399b69f61a5471c"), looks := false }, kinds := [], alts := [], laidByText := true, laidKinds := [.data, .data, .data, .data, .data], laidTests := true, laidLooks := .later }
def ReportBackUptoCardSaid : Prop := Claim7.holds Tryd.pinned (.plain (OpenSpec.upto reportBackSpec)) reportBackUptoCard

/-- THE SECOND FORM's CARD OF 'mailboatlaw20.ReportBundles'. -/
def reportBundlesUptoCard : Claim7 := { stood := { row := reportBundlesUptoRow, standIns := [], harness := (true, "c3adbec164aad8dc57ec0e404f071e8c1abcc98f9f74296d1399b69f61a5471c"), looks := false }, kinds := [], alts := [], laidByText := true, laidKinds := [.data, .data, .data, .data, .data], laidTests := true, laidLooks := .later }
def ReportBundlesUptoCardSaid : Prop := Claim7.holds Tryd.pinned (.plain (OpenSpec.upto reportBundlesSpec)) reportBundlesUptoCard

/-- THE SECOND FORM's CARD OF 'mailboatlaw20.ReportWraps'. -/
def reportWrapsUptoCard : Claim7 := { stood := { row := reportWrapsUptoRow, standIns := [], harness := (true, "c3adbec164aad8dc57ec0e404f071e8c1abcc98f9f74296d1399b69f61a5471c"), looks := false }, kinds := [], alts := [], laidByText := true, laidKinds := [.data, .data, .data, .data, .data], laidTests := true, laidLooks := .later }
def ReportWrapsUptoCardSaid : Prop := Claim7.holds Tryd.pinned (.plain (OpenSpec.upto reportWrapsSpec)) reportWrapsUptoCard
end Rows
end Go.Proofs.YtcmkpnjbnjbegaaDoor
