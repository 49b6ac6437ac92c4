/-
  DERIVED. GIVEN WITH THE SEED: THE CARDS: each row of YtlpllbbjmbbfnaaGreatDoorRows.lean that lists a variable, with what it lists TIED to the program's text (the seventh form; the later family's looks); each row that meets fmt, with fmt's text TOLD by the authors' own Lean function (tested against real Go, not proved from fmt's source: count such statements apart). THE CARD IS WHAT COUNTS. Prove the row's statement (the work); the ties are given (YtlpllbbjmbbfnaaGreatDoorTie.lean); close each card by the builder's one call (the guide's Derived/Test/ToyasCard.lean, 'card_holds'). Laid BY PROGRAM, IN A SANDBOX (cutbox-door.mjs). By AI agents, Wed Nov 11 2026. No macro, syntax, notation, axiom, sorry.
-/
import Derived.Test.YtlpllbbjmbbfnaaGreatDoorRows
import GoSem.ClaimSeven
namespace Go.Proofs.YtlpllbbjmbbfnaaGreatDoor
namespace Rows

/-- THE TIED CARD OF 'overseerlaw51.PreventionNext'. -/
def preventionNextCard : Claim7 := { stood := { row := preventionNextRow, standIns := [], harness := (true, "c0cafe115ded92e8486ca3434d15a5a34424e462dc9fbc58da252d5362afe241"), looks := false }, kinds := [], alts := [], laidByText := true, laidKinds := [.data, .data, .data], laidTests := true, laidLooks := .later }
def PreventionNextCardSaid : Prop := Claim7.holds Tryz.pinned (.plain (OpenSpec.ofChange preventionNextSpec)) preventionNextCard

/-- THE TIED CARD OF 'overseerlaw51.PreventionRuns'. -/
def preventionRunsCard : Claim7 := { stood := { row := preventionRunsRow, standIns := [], harness := (true, "c0cafe115ded92e8486ca3434d15a5a34424e462dc9fbc58da252d5362afe241"), looks := false }, kinds := [], alts := [], laidByText := true, laidKinds := [.data, .data, .data], laidTests := true, laidLooks := .later }
def PreventionRunsCardSaid : Prop := Claim7.holds Tryz.pinned (.plain (OpenSpec.ofChange preventionRunsSpec)) preventionRunsCard

/-- THE TIED CARD OF 'overseerlaw51.PreventionKeeps'. -/
def preventionKeepsCard : Claim7 := { stood := { row := preventionKeepsRow, standIns := [], harness := (true, "c0cafe115ded92e8486ca3434d15a5a34424e462dc9fbc58da252d5362afe241"), looks := false }, kinds := [], alts := [], laidByText := true, laidKinds := [.data, .data, .data], laidTests := true, laidLooks := .later }
def PreventionKeepsCardSaid : Prop := Claim7.holds Tryz.pinned (.plain (OpenSpec.ofChange preventionKeepsSpec)) preventionKeepsCard

/-- THE TIED CARD OF 'overseerlaw51.PreventionPrevents'. -/
def preventionPreventsCard : Claim7 := { stood := { row := preventionPreventsRow, standIns := [], harness := (true, "c0cafe115ded92e8486ca3434d15a5a34424e462dc9fbc58da252d5362afe241"), looks := false }, kinds := [], alts := [], laidByText := true, laidKinds := [.data, .data, .data], laidTests := true, laidLooks := .later }
def PreventionPreventsCardSaid : Prop := Claim7.holds Tryz.pinned (.plain (OpenSpec.ofChange preventionPreventsSpec)) preventionPreventsCard

/-- THE TIED CARD OF 'overseerlaw51.PreventionVerifies'. -/
def preventionVerifiesCard : Claim7 := { stood := { row := preventionVerifiesRow, standIns := [], harness := (true, "c0cafe115ded92e8486ca3434d15a5a34424e462dc9fbc58da252d5362afe241"), looks := false }, kinds := [], alts := [], laidByText := true, laidKinds := [.data, .data, .data], laidTests := true, laidLooks := .later }
def PreventionVerifiesCardSaid : Prop := Claim7.holds Tryz.pinned (.plain (OpenSpec.ofChange preventionVerifiesSpec)) preventionVerifiesCard

/-- THE TIED CARD OF 'overseerlaw51.PreventionChecks'. -/
def preventionChecksCard : Claim7 := { stood := { row := preventionChecksRow, standIns := [], harness := (true, "c0cafe115ded92e8486ca3434d15a5a34424e462dc9fbc58da252d5362afe241"), looks := false }, kinds := [], alts := [], laidByText := true, laidKinds := [.data, .data, .data], laidTests := true, laidLooks := .later }
def PreventionChecksCardSaid : Prop := Claim7.holds Tryz.pinned (.plain (OpenSpec.ofChange preventionChecksSpec)) preventionChecksCard

/-- THE SECOND FORM's CARD OF 'overseerlaw51.PreventionNext'. -/
def preventionNextUptoCard : Claim7 := { stood := { row := preventionNextUptoRow, standIns := [], harness := (true, "c0cafe115ded92e8486ca3434d15a5a34424e462dc9fbc58da252d5362afe241"), looks := false }, kinds := [], alts := [], laidByText := true, laidKinds := [.data, .data, .data], laidTests := true, laidLooks := .later }
def PreventionNextUptoCardSaid : Prop := Claim7.holds Tryz.pinned (.plain (OpenSpec.upto preventionNextSpec)) preventionNextUptoCard

/-- THE SECOND FORM's CARD OF 'overseerlaw51.PreventionRuns'. -/
def preventionRunsUptoCard : Claim7 := { stood := { row := preventionRunsUptoRow, standIns := [], harness := (true, "c0cafe115ded92e8486ca3434d15a5a34424e462dc9fbc58da252d5362afe241"), looks := false }, kinds := [], alts := [], laidByText := true, laidKinds := [.data, .data, .data], laidTests := true, laidLooks := .later }
def PreventionRunsUptoCardSaid : Prop := Claim7.holds Tryz.pinned (.plain (OpenSpec.upto preventionRunsSpec)) preventionRunsUptoCard

/-- THE SECOND FORM's CARD OF 'overseerlaw51.PreventionKeeps'. -/
def preventionKeepsUptoCard : Claim7 := { stood := { row := preventionKeepsUptoRow, standIns := [], harness := (true, "c0cafe115ded92e8486ca3434d15a5a34424e462dc9fbc58da252d5362afe241"), looks := false }, kinds := [], alts := [], laidByText := true, laidKinds := [.data, .data, .data], laidTests := true, laidLooks := .later }
def PreventionKeepsUptoCardSaid : Prop := Claim7.holds Tryz.pinned (.plain (OpenSpec.upto preventionKeepsSpec)) preventionKeepsUptoCard

/-- THE SECOND FORM's CARD OF 'overseerlaw51.PreventionPrevents'. -/
def preventionPreventsUptoCard : Claim7 := { stood := { row := preventionPreventsUptoRow, standIns := [], harness := (true, "c0cafe115ded92e8486ca3434d15a5a34424e462dc9fbc58da252d5362afe241"), looks := false }, kinds := [], alts := [], laidByText := true, laidKinds := [.data, .data, .data], laidTests := true, laidLooks := .later }
def PreventionPreventsUptoCardSaid : Prop := Claim7.holds Tryz.pinned (.plain (OpenSpec.upto preventionPreventsSpec)) preventionPreventsUptoCard

/-- THE SECOND FORM's CARD OF 'overseerlaw51.PreventionVerifies'. -/
def preventionVerifiesUptoCard : Claim7 := { stood := { row := preventionVerifiesUptoRow, standIns := [], harness := (true, "c0cafe115ded92e8486ca3434d15a5a34424e462dc9fbc58da252d5362afe241"), looks := false }, kinds := [], alts := [], laidByText := true, laidKinds := [.data, .data, .data], laidTests := true, laidLooks := .later }
def PreventionVerifiesUptoCardSaid : Prop := Claim7.holds Tryz.pinned (.plain (OpenSpec.upto preventionVerifiesSpec)) preventionVerifiesUptoCard

/-- THE SECOND FORM's CARD OF 'overseerlaw51.PreventionChecks'. -/
def preventionChecksUptoCard : Claim7 := { stood := { row := preventionChecksUptoRow, standIns := [], harness := (true, "c0cafe115ded92e8486ca3434d15a5a34424e462dc9fbc58da252d5362afe241"), looks := false }, kinds := [], alts := [], laidByText := true, laidKinds := [.data, .data, .data], laidTests := true, laidLooks := .later }
def PreventionChecksUptoCardSaid : Prop := Claim7.holds Tryz.pinned (.plain (OpenSpec.upto preventionChecksSpec)) preventionChecksUptoCard
end Rows
end Go.Proofs.YtlpllbbjmbbfnaaGreatDoor
