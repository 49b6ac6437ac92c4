/-
  DERIVED. GIVEN WITH THE SEED: THE CARDS: each row of YtkjnjkdcpbgabaaGreatDoorRows.lean that lists a variable, with what it lists TIED to the program's text (the seventh form; the later family's looks); each row that meets fmt, with fmt's text TOLD by the authors' own Lean function (tested against real Go, not proved from fmt's source: count such statements apart). THE CARD IS WHAT COUNTS. Prove the row's statement (the work); the ties are given (YtkjnjkdcpbgabaaGreatDoorTie.lean); close each card by the builder's one call (the guide's Derived/Test/ToyasCard.lean, 'card_holds'). Laid BY PROGRAM, IN A SANDBOX (cutbox-door.mjs). By AI agents, Wed Nov 11 2026. No macro, syntax, notation, axiom, sorry.
-/
import Derived.Test.YtkjnjkdcpbgabaaGreatDoorRows
import GoSem.ClaimSeven
namespace Go.Proofs.YtkjnjkdcpbgabaaGreatDoor
namespace Rows

/-- THE TIED CARD OF 'overseerlaw23.DocumentEdits'. -/
def documentEditsCard : Claim7 := { stood := { row := documentEditsRow, standIns := [], harness := (true, "cb237452c08fd4b43e324368d5e7c11f1af00542888327663c09d7a2173cb626"), looks := false }, kinds := [], alts := [], laidByText := true, laidKinds := [.data, .data, .data], laidTests := true, laidLooks := .later }
def DocumentEditsCardSaid : Prop := Claim7.holds Tryz.pinned (.plain (OpenSpec.ofChange documentEditsSpec)) documentEditsCard

/-- THE TIED CARD OF 'overseerlaw23.DocumentItems'. -/
def documentItemsCard : Claim7 := { stood := { row := documentItemsRow, standIns := [], harness := (true, "cb237452c08fd4b43e324368d5e7c11f1af00542888327663c09d7a2173cb626"), looks := false }, kinds := [], alts := [], laidByText := true, laidKinds := [.data, .data, .data], laidTests := true, laidLooks := .later }
def DocumentItemsCardSaid : Prop := Claim7.holds Tryz.pinned (.plain (OpenSpec.ofChange documentItemsSpec)) documentItemsCard

/-- THE TIED CARD OF 'overseerlaw23.DocumentCells'. -/
def documentCellsCard : Claim7 := { stood := { row := documentCellsRow, standIns := [], harness := (true, "cb237452c08fd4b43e324368d5e7c11f1af00542888327663c09d7a2173cb626"), looks := false }, kinds := [], alts := [], laidByText := true, laidKinds := [.data, .data, .data], laidTests := true, laidLooks := .later }
def DocumentCellsCardSaid : Prop := Claim7.holds Tryz.pinned (.plain (OpenSpec.ofChange documentCellsSpec)) documentCellsCard

/-- THE TIED CARD OF 'overseerlaw23.DocumentTexts'. -/
def documentTextsCard : Claim7 := { stood := { row := documentTextsRow, standIns := [], harness := (true, "cb237452c08fd4b43e324368d5e7c11f1af00542888327663c09d7a2173cb626"), looks := false }, kinds := [], alts := [], laidByText := true, laidKinds := [.data, .data, .data], laidTests := true, laidLooks := .later }
def DocumentTextsCardSaid : Prop := Claim7.holds Tryz.pinned (.plain (OpenSpec.ofChange documentTextsSpec)) documentTextsCard

/-- THE TIED CARD OF 'overseerlaw23.DocumentKeeps'. -/
def documentKeepsCard : Claim7 := { stood := { row := documentKeepsRow, standIns := [], harness := (true, "cb237452c08fd4b43e324368d5e7c11f1af00542888327663c09d7a2173cb626"), looks := false }, kinds := [], alts := [], laidByText := true, laidKinds := [.data, .data, .data], laidTests := true, laidLooks := .later }
def DocumentKeepsCardSaid : Prop := Claim7.holds Tryz.pinned (.plain (OpenSpec.ofChange documentKeepsSpec)) documentKeepsCard

/-- THE TIED CARD OF 'overseerlaw23.DocumentUsers'. -/
def documentUsersCard : Claim7 := { stood := { row := documentUsersRow, standIns := [], harness := (true, "cb237452c08fd4b43e324368d5e7c11f1af00542888327663c09d7a2173cb626"), looks := false }, kinds := [], alts := [], laidByText := true, laidKinds := [.data, .data, .data], laidTests := true, laidLooks := .later }
def DocumentUsersCardSaid : Prop := Claim7.holds Tryz.pinned (.plain (OpenSpec.ofChange documentUsersSpec)) documentUsersCard

/-- THE TIED CARD OF 'overseerlaw23.DocumentApplies'. -/
def documentAppliesCard : Claim7 := { stood := { row := documentAppliesRow, standIns := [], harness := (true, "cb237452c08fd4b43e324368d5e7c11f1af00542888327663c09d7a2173cb626"), looks := false }, kinds := [], alts := [], laidByText := true, laidKinds := [.data, .data, .data], laidTests := true, laidLooks := .later }
def DocumentAppliesCardSaid : Prop := Claim7.holds Tryz.pinned (.plain (OpenSpec.ofChange documentAppliesSpec)) documentAppliesCard

/-- THE TIED CARD OF 'overseerlaw23.DocumentDifferences'. -/
def documentDifferencesCard : Claim7 := { stood := { row := documentDifferencesRow, standIns := [], harness := (true, "cb237452c08fd4b43e324368d5e7c11f1af00542888327663c09d7a2173cb626"), looks := false }, kinds := [], alts := [], laidByText := true, laidKinds := [.data, .data, .data], laidTests := true, laidLooks := .later }
def DocumentDifferencesCardSaid : Prop := Claim7.holds Tryz.pinned (.plain (OpenSpec.ofChange documentDifferencesSpec)) documentDifferencesCard

/-- THE TIED CARD OF 'overseerlaw23.DocumentChecks'. -/
def documentChecksCard : Claim7 := { stood := { row := documentChecksRow, standIns := [], harness := (true, "cb237452c08fd4b43e324368d5e7c11f1af00542888327663c09d7a2173cb626"), looks := false }, kinds := [], alts := [], laidByText := true, laidKinds := [.data, .data, .data], laidTests := true, laidLooks := .later }
def DocumentChecksCardSaid : Prop := Claim7.holds Tryz.pinned (.plain (OpenSpec.ofChange documentChecksSpec)) documentChecksCard

/-- THE SECOND FORM's CARD OF 'overseerlaw23.DocumentEdits'. -/
def documentEditsUptoCard : Claim7 := { stood := { row := documentEditsUptoRow, standIns := [], harness := (true, "cb237452c08fd4b43e324368d5e7c11f1af00542888327663c09d7a2173cb626"), looks := false }, kinds := [], alts := [], laidByText := true, laidKinds := [.data, .data, .data], laidTests := true, laidLooks := .later }
def DocumentEditsUptoCardSaid : Prop := Claim7.holds Tryz.pinned (.plain (OpenSpec.upto documentEditsSpec)) documentEditsUptoCard

/-- THE SECOND FORM's CARD OF 'overseerlaw23.DocumentItems'. -/
def documentItemsUptoCard : Claim7 := { stood := { row := documentItemsUptoRow, standIns := [], harness := (true, "cb237452c08fd4b43e324368d5e7c11f1af00542888327663c09d7a2173cb626"), looks := false }, kinds := [], alts := [], laidByText := true, laidKinds := [.data, .data, .data], laidTests := true, laidLooks := .later }
def DocumentItemsUptoCardSaid : Prop := Claim7.holds Tryz.pinned (.plain (OpenSpec.upto documentItemsSpec)) documentItemsUptoCard

/-- THE SECOND FORM's CARD OF 'overseerlaw23.DocumentCells'. -/
def documentCellsUptoCard : Claim7 := { stood := { row := documentCellsUptoRow, standIns := [], harness := (true, "cb237452c08fd4b43e324368d5e7c11f1af00542888327663c09d7a2173cb626"), looks := false }, kinds := [], alts := [], laidByText := true, laidKinds := [.data, .data, .data], laidTests := true, laidLooks := .later }
def DocumentCellsUptoCardSaid : Prop := Claim7.holds Tryz.pinned (.plain (OpenSpec.upto documentCellsSpec)) documentCellsUptoCard

/-- THE SECOND FORM's CARD OF 'overseerlaw23.DocumentTexts'. -/
def documentTextsUptoCard : Claim7 := { stood := { row := documentTextsUptoRow, standIns := [], harness := (true, "cb237452c08fd4b43e324368d5e7c11f1af00542888327663c09d7a2173cb626"), looks := false }, kinds := [], alts := [], laidByText := true, laidKinds := [.data, .data, .data], laidTests := true, laidLooks := .later }
def DocumentTextsUptoCardSaid : Prop := Claim7.holds Tryz.pinned (.plain (OpenSpec.upto documentTextsSpec)) documentTextsUptoCard

/-- THE SECOND FORM's CARD OF 'overseerlaw23.DocumentKeeps'. -/
def documentKeepsUptoCard : Claim7 := { stood := { row := documentKeepsUptoRow, standIns := [], harness := (true, "cb237452c08fd4b43e324368d5e7c11f1af00542888327663c09d7a2173cb626"), looks := false }, kinds := [], alts := [], laidByText := true, laidKinds := [.data, .data, .data], laidTests := true, laidLooks := .later }
def DocumentKeepsUptoCardSaid : Prop := Claim7.holds Tryz.pinned (.plain (OpenSpec.upto documentKeepsSpec)) documentKeepsUptoCard

/-- THE SECOND FORM's CARD OF 'overseerlaw23.DocumentUsers'. -/
def documentUsersUptoCard : Claim7 := { stood := { row := documentUsersUptoRow, standIns := [], harness := (true, "cb237452c08fd4b43e324368d5e7c11f1af00542888327663c09d7a2173cb626"), looks := false }, kinds := [], alts := [], laidByText := true, laidKinds := [.data, .data, .data], laidTests := true, laidLooks := .later }
def DocumentUsersUptoCardSaid : Prop := Claim7.holds Tryz.pinned (.plain (OpenSpec.upto documentUsersSpec)) documentUsersUptoCard

/-- THE SECOND FORM's CARD OF 'overseerlaw23.DocumentApplies'. -/
def documentAppliesUptoCard : Claim7 := { stood := { row := documentAppliesUptoRow, standIns := [], harness := (true, "cb237452c08fd4b43e324368d5e7c11f1af00542888327663c09d7a2173cb626"), looks := false }, kinds := [], alts := [], laidByText := true, laidKinds := [.data, .data, .data], laidTests := true, laidLooks := .later }
def DocumentAppliesUptoCardSaid : Prop := Claim7.holds Tryz.pinned (.plain (OpenSpec.upto documentAppliesSpec)) documentAppliesUptoCard

/-- THE SECOND FORM's CARD OF 'overseerlaw23.DocumentDifferences'. -/
def documentDifferencesUptoCard : Claim7 := { stood := { row := documentDifferencesUptoRow, standIns := [], harness := (true, "cb237452c08fd4b43e324368d5e7c11f1af00542888327663c09d7a2173cb626"), looks := false }, kinds := [], alts := [], laidByText := true, laidKinds := [.data, .data, .data], laidTests := true, laidLooks := .later }
def DocumentDifferencesUptoCardSaid : Prop := Claim7.holds Tryz.pinned (.plain (OpenSpec.upto documentDifferencesSpec)) documentDifferencesUptoCard

/-- THE SECOND FORM's CARD OF 'overseerlaw23.DocumentChecks'. -/
def documentChecksUptoCard : Claim7 := { stood := { row := documentChecksUptoRow, standIns := [], harness := (true, "cb237452c08fd4b43e324368d5e7c11f1af00542888327663c09d7a2173cb626"), looks := false }, kinds := [], alts := [], laidByText := true, laidKinds := [.data, .data, .data], laidTests := true, laidLooks := .later }
def DocumentChecksUptoCardSaid : Prop := Claim7.holds Tryz.pinned (.plain (OpenSpec.upto documentChecksSpec)) documentChecksUptoCard
end Rows
end Go.Proofs.YtkjnjkdcpbgabaaGreatDoor
