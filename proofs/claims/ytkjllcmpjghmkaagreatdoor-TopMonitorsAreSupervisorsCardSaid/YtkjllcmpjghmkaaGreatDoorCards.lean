/-
  DERIVED. GIVEN WITH THE SEED: THE CARDS: each row of YtkjllcmpjghmkaaGreatDoorRows.lean that lists a variable, with what it lists TIED to the program's text (the seventh form; the later family's looks); each row that meets fmt, with fmt's text TOLD by the authors' own Lean function (tested against real Go, not proved from fmt's source: count such statements apart). THE CARD IS WHAT COUNTS. Prove the row's statement (the work); the ties are given (YtkjllcmpjghmkaaGreatDoorTie.lean); close each card by the builder's one call (the guide's Derived/Test/ToyasCard.lean, 'card_holds'). Laid BY PROGRAM, IN A SANDBOX (cutbox-door.mjs). By AI agents, Wed Nov 11 2026. No macro, syntax, notation, axiom, sorry.
-/
import Derived.Test.YtkjllcmpjghmkaaGreatDoorRows
import GoSem.ClaimSeven
namespace Go.Proofs.YtkjllcmpjghmkaaGreatDoor
namespace Rows

/-- THE TIED CARD OF 'overseertop.TopMonitorsAreSupervisors'. -/
def topMonitorsAreSupervisorsCard : Claim7 := { stood := { row := topMonitorsAreSupervisorsRow, standIns := [], harness := (true, "b894e5d3643d55624f4bbc5f2ca7db6ece32859e9d9aa9c4720edea5f3017c2c"), looks := false }, kinds := [], alts := [], laidByText := true, laidKinds := [.data, .data, .data], laidTests := true, laidLooks := .later }
def TopMonitorsAreSupervisorsCardSaid : Prop := Claim7.holds Tryz.pinned (.plain (OpenSpec.ofChange topMonitorsAreSupervisorsSpec)) topMonitorsAreSupervisorsCard

/-- THE TIED CARD OF 'overseertop.TopSiphonsAreDeadlocks'. -/
def topSiphonsAreDeadlocksCard : Claim7 := { stood := { row := topSiphonsAreDeadlocksRow, standIns := [], harness := (true, "b894e5d3643d55624f4bbc5f2ca7db6ece32859e9d9aa9c4720edea5f3017c2c"), looks := false }, kinds := [], alts := [], laidByText := true, laidKinds := [.data, .data, .data], laidTests := true, laidLooks := .later }
def TopSiphonsAreDeadlocksCardSaid : Prop := Claim7.holds Tryz.pinned (.plain (OpenSpec.ofChange topSiphonsAreDeadlocksSpec)) topSiphonsAreDeadlocksCard

/-- THE SECOND FORM's CARD OF 'overseertop.TopMonitorsAreSupervisors'. -/
def topMonitorsAreSupervisorsUptoCard : Claim7 := { stood := { row := topMonitorsAreSupervisorsUptoRow, standIns := [], harness := (true, "b894e5d3643d55624f4bbc5f2ca7db6ece32859e9d9aa9c4720edea5f3017c2c"), looks := false }, kinds := [], alts := [], laidByText := true, laidKinds := [.data, .data, .data], laidTests := true, laidLooks := .later }
def TopMonitorsAreSupervisorsUptoCardSaid : Prop := Claim7.holds Tryz.pinned (.plain (OpenSpec.upto topMonitorsAreSupervisorsSpec)) topMonitorsAreSupervisorsUptoCard

/-- THE SECOND FORM's CARD OF 'overseertop.TopSiphonsAreDeadlocks'. -/
def topSiphonsAreDeadlocksUptoCard : Claim7 := { stood := { row := topSiphonsAreDeadlocksUptoRow, standIns := [], harness := (true, "b894e5d3643d55624f4bbc5f2ca7db6ece32859e9d9aa9c4720edea5f3017c2c"), looks := false }, kinds := [], alts := [], laidByText := true, laidKinds := [.data, .data, .data], laidTests := true, laidLooks := .later }
def TopSiphonsAreDeadlocksUptoCardSaid : Prop := Claim7.holds Tryz.pinned (.plain (OpenSpec.upto topSiphonsAreDeadlocksSpec)) topSiphonsAreDeadlocksUptoCard
end Rows
end Go.Proofs.YtkjllcmpjghmkaaGreatDoor
