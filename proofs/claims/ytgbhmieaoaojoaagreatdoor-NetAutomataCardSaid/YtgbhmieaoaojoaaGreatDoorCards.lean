/-
  DERIVED. GIVEN WITH THE SEED: THE CARDS: each row of YtgbhmieaoaojoaaGreatDoorRows.lean that lists a variable, with what it lists TIED to the program's text (the seventh form; the later family's looks); each row that meets fmt, with fmt's text TOLD by the authors' own Lean function (tested against real Go, not proved from fmt's source: count such statements apart). THE CARD IS WHAT COUNTS. Prove the row's statement (the work); the ties are given (YtgbhmieaoaojoaaGreatDoorTie.lean); close each card by the builder's one call (the guide's Derived/Test/ToyasCard.lean, 'card_holds'). Laid BY PROGRAM, IN A SANDBOX (cutbox-door.mjs). By AI agents, Wed Nov 11 2026. No macro, syntax, notation, axiom, sorry.
-/
import Derived.Test.YtgbhmieaoaojoaaGreatDoorRows
import GoSem.ClaimSeven
namespace Go.Proofs.YtgbhmieaoaojoaaGreatDoor
namespace Rows

/-- THE TIED CARD OF 'overseertop.TopMonitorsAreSupervisors'. -/
def topMonitorsAreSupervisorsCard : Claim7 := { stood := { row := topMonitorsAreSupervisorsRow, standIns := [], harness := (true, "0603282ba6f7242b3f215da9ed18fd0a5d0c7b142f72631580e2c3cca97376a5"), looks := false }, kinds := [], alts := [], laidByText := true, laidKinds := [.data, .data, .data], laidTests := true, laidLooks := .later }
def TopMonitorsAreSupervisorsCardSaid : Prop := Claim7.holds Tryz.pinned (.plain (OpenSpec.ofChange topMonitorsAreSupervisorsSpec)) topMonitorsAreSupervisorsCard

/-- THE TIED CARD OF 'overseertop.TopSiphonsAreDeadlocks'. -/
def topSiphonsAreDeadlocksCard : Claim7 := { stood := { row := topSiphonsAreDeadlocksRow, standIns := [], harness := (true, "0603282ba6f7242b3f215da9ed18fd0a5d0c7b142f72631580e2c3cca97376a5"), looks := false }, kinds := [], alts := [], laidByText := true, laidKinds := [.data, .data, .data], laidTests := true, laidLooks := .later }
def TopSiphonsAreDeadlocksCardSaid : Prop := Claim7.holds Tryz.pinned (.plain (OpenSpec.ofChange topSiphonsAreDeadlocksSpec)) topSiphonsAreDeadlocksCard

/-- THE TIED CARD OF 'overseerlaw47.NetAutomata'. -/
def netAutomataCard : Claim7 := { stood := { row := netAutomataRow, standIns := [], harness := (true, "0603282ba6f7242b3f215da9ed18fd0a5d0c7b142f72631580e2c3cca97376a5"), looks := false }, kinds := [], alts := [], laidByText := true, laidKinds := [.data, .data, .data], laidTests := true, laidLooks := .later }
def NetAutomataCardSaid : Prop := Claim7.holds Tryz.pinned (.plain (OpenSpec.ofChange netAutomataSpec)) netAutomataCard

/-- THE SECOND FORM's CARD OF 'overseertop.TopMonitorsAreSupervisors'. -/
def topMonitorsAreSupervisorsUptoCard : Claim7 := { stood := { row := topMonitorsAreSupervisorsUptoRow, standIns := [], harness := (true, "0603282ba6f7242b3f215da9ed18fd0a5d0c7b142f72631580e2c3cca97376a5"), looks := false }, kinds := [], alts := [], laidByText := true, laidKinds := [.data, .data, .data], laidTests := true, laidLooks := .later }
def TopMonitorsAreSupervisorsUptoCardSaid : Prop := Claim7.holds Tryz.pinned (.plain (OpenSpec.upto topMonitorsAreSupervisorsSpec)) topMonitorsAreSupervisorsUptoCard

/-- THE SECOND FORM's CARD OF 'overseertop.TopSiphonsAreDeadlocks'. -/
def topSiphonsAreDeadlocksUptoCard : Claim7 := { stood := { row := topSiphonsAreDeadlocksUptoRow, standIns := [], harness := (true, "0603282ba6f7242b3f215da9ed18fd0a5d0c7b142f72631580e2c3cca97376a5"), looks := false }, kinds := [], alts := [], laidByText := true, laidKinds := [.data, .data, .data], laidTests := true, laidLooks := .later }
def TopSiphonsAreDeadlocksUptoCardSaid : Prop := Claim7.holds Tryz.pinned (.plain (OpenSpec.upto topSiphonsAreDeadlocksSpec)) topSiphonsAreDeadlocksUptoCard

/-- THE SECOND FORM's CARD OF 'overseerlaw47.NetAutomata'. -/
def netAutomataUptoCard : Claim7 := { stood := { row := netAutomataUptoRow, standIns := [], harness := (true, "0603282ba6f7242b3f215da9ed18fd0a5d0c7b142f72631580e2c3cca97376a5"), looks := false }, kinds := [], alts := [], laidByText := true, laidKinds := [.data, .data, .data], laidTests := true, laidLooks := .later }
def NetAutomataUptoCardSaid : Prop := Claim7.holds Tryz.pinned (.plain (OpenSpec.upto netAutomataSpec)) netAutomataUptoCard
end Rows
end Go.Proofs.YtgbhmieaoaojoaaGreatDoor
