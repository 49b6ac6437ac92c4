/-
  DERIVED. GIVEN WITH THE SEED: THE CARDS: each row of YtlankmlgomhbhaaDoorRows.lean that lists a variable, with what it lists TIED to the program's text (the seventh form; the later family's looks); each row that meets fmt, with fmt's text TOLD by the authors' own Lean function (tested against real Go, not proved from fmt's source: count such statements apart). THE CARD IS WHAT COUNTS. Prove the row's statement (the work); the ties are given (YtlankmlgomhbhaaDoorTie.lean); close each card by the builder's one call (the guide's Derived/Test/ToyasCard.lean, 'card_holds'). Laid BY PROGRAM, IN A SANDBOX (cutbox-door.mjs). By AI agents, Wed Nov 11 2026. No macro, syntax, notation, axiom, sorry.
-/
import Derived.Test.YtlankmlgomhbhaaDoorRows
import GoSem.ClaimSeven
namespace Go.Proofs.YtlankmlgomhbhaaDoor
namespace Rows

/-- THE TIED CARD OF 'overseerlaw49.SiphonRuns'. -/
def siphonRunsCard : Claim7 := { stood := { row := siphonRunsRow, standIns := [], harness := (true, "eb5487cc2f292f6f79d4e7832dedceb8ff0699ec53d895858ec1d9ad777eba42"), looks := false }, kinds := [], alts := [], laidByText := true, laidKinds := [.data, .data, .data], laidTests := true, laidLooks := .later }
def SiphonRunsCardSaid : Prop := Claim7.holds Tryd.pinned (.plain (OpenSpec.ofChange siphonRunsSpec)) siphonRunsCard

/-- THE TIED CARD OF 'overseerlaw49.SiphonStays'. -/
def siphonStaysCard : Claim7 := { stood := { row := siphonStaysRow, standIns := [], harness := (true, "eb5487cc2f292f6f79d4e7832dedceb8ff0699ec53d895858ec1d9ad777eba42"), looks := false }, kinds := [], alts := [], laidByText := true, laidKinds := [.data, .data, .data], laidTests := true, laidLooks := .later }
def SiphonStaysCardSaid : Prop := Claim7.holds Tryd.pinned (.plain (OpenSpec.ofChange siphonStaysSpec)) siphonStaysCard

/-- THE TIED CARD OF 'overseerlaw49.SiphonDead'. -/
def siphonDeadCard : Claim7 := { stood := { row := siphonDeadRow, standIns := [], harness := (true, "eb5487cc2f292f6f79d4e7832dedceb8ff0699ec53d895858ec1d9ad777eba42"), looks := false }, kinds := [], alts := [], laidByText := true, laidKinds := [.data, .data, .data], laidTests := true, laidLooks := .later }
def SiphonDeadCardSaid : Prop := Claim7.holds Tryd.pinned (.plain (OpenSpec.ofChange siphonDeadSpec)) siphonDeadCard

/-- THE SECOND FORM's CARD OF 'overseerlaw49.SiphonRuns'. -/
def siphonRunsUptoCard : Claim7 := { stood := { row := siphonRunsUptoRow, standIns := [], harness := (true, "eb5487cc2f292f6f79d4e7832dedceb8ff0699ec53d895858ec1d9ad777eba42"), looks := false }, kinds := [], alts := [], laidByText := true, laidKinds := [.data, .data, .data], laidTests := true, laidLooks := .later }
def SiphonRunsUptoCardSaid : Prop := Claim7.holds Tryd.pinned (.plain (OpenSpec.upto siphonRunsSpec)) siphonRunsUptoCard

/-- THE SECOND FORM's CARD OF 'overseerlaw49.SiphonStays'. -/
def siphonStaysUptoCard : Claim7 := { stood := { row := siphonStaysUptoRow, standIns := [], harness := (true, "eb5487cc2f292f6f79d4e7832dedceb8ff0699ec53d895858ec1d9ad777eba42"), looks := false }, kinds := [], alts := [], laidByText := true, laidKinds := [.data, .data, .data], laidTests := true, laidLooks := .later }
def SiphonStaysUptoCardSaid : Prop := Claim7.holds Tryd.pinned (.plain (OpenSpec.upto siphonStaysSpec)) siphonStaysUptoCard

/-- THE SECOND FORM's CARD OF 'overseerlaw49.SiphonDead'. -/
def siphonDeadUptoCard : Claim7 := { stood := { row := siphonDeadUptoRow, standIns := [], harness := (true, "eb5487cc2f292f6f79d4e7832dedceb8ff0699ec53d895858ec1d9ad777eba42"), looks := false }, kinds := [], alts := [], laidByText := true, laidKinds := [.data, .data, .data], laidTests := true, laidLooks := .later }
def SiphonDeadUptoCardSaid : Prop := Claim7.holds Tryd.pinned (.plain (OpenSpec.upto siphonDeadSpec)) siphonDeadUptoCard
end Rows
end Go.Proofs.YtlankmlgomhbhaaDoor
