/-
  DERIVED. GIVEN WITH THE SEED: THE CARDS: each row of YtehhccdkdcgmkaaGreatDoorRows.lean that lists a variable, with what it lists TIED to the program's text (the seventh form; the later family's looks); each row that meets fmt, with fmt's text TOLD by the authors' own Lean function (tested against real Go, not proved from fmt's source: count such statements apart). THE CARD IS WHAT COUNTS. Prove the row's statement (the work); the ties are given (YtehhccdkdcgmkaaGreatDoorTie.lean); close each card by the builder's one call (the guide's Derived/Test/ToyasCard.lean, 'card_holds'). Laid BY PROGRAM, IN A SANDBOX (cutbox-door.mjs). By AI agents, Wed Nov 11 2026. No macro, syntax, notation, axiom, sorry.
-/
import Derived.Test.YtehhccdkdcgmkaaGreatDoorRows
import GoSem.ClaimSeven
namespace Go.Proofs.YtehhccdkdcgmkaaGreatDoor
namespace Rows

/-- THE TIED CARD OF 'overseerlaw50.MonitorChecks'. -/
def monitorChecksCard : Claim7 := { stood := { row := monitorChecksRow, standIns := [], harness := (true, "fa1b7f5a4798678db1e3469e94aa926244961a819f228903504e47474576d001"), looks := false }, kinds := [], alts := [], laidByText := true, laidKinds := [.data, .data, .data], laidTests := true, laidLooks := .later }
def MonitorChecksCardSaid : Prop := Claim7.holds Tryz.pinned (.plain (OpenSpec.ofChange monitorChecksSpec)) monitorChecksCard

/-- THE SECOND FORM's CARD OF 'overseerlaw50.MonitorChecks'. -/
def monitorChecksUptoCard : Claim7 := { stood := { row := monitorChecksUptoRow, standIns := [], harness := (true, "fa1b7f5a4798678db1e3469e94aa926244961a819f228903504e47474576d001"), looks := false }, kinds := [], alts := [], laidByText := true, laidKinds := [.data, .data, .data], laidTests := true, laidLooks := .later }
def MonitorChecksUptoCardSaid : Prop := Claim7.holds Tryz.pinned (.plain (OpenSpec.upto monitorChecksSpec)) monitorChecksUptoCard
end Rows
end Go.Proofs.YtehhccdkdcgmkaaGreatDoor
