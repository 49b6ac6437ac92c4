/-
  DERIVED. GIVEN WITH THE SEED: THE CARDS: each row of YtgbhmieaoaojoaaDoorRows.lean that lists a variable, with what it lists TIED to the program's text (the seventh form; the later family's looks); each row that meets fmt, with fmt's text TOLD by the authors' own Lean function (tested against real Go, not proved from fmt's source: count such statements apart). THE CARD IS WHAT COUNTS. Prove the row's statement (the work); the ties are given (YtgbhmieaoaojoaaDoorTie.lean); close each card by the builder's one call (the guide's Derived/Test/ToyasCard.lean, 'card_holds'). Laid BY PROGRAM, IN A SANDBOX (cutbox-door.mjs). By AI agents, Wed Nov 11 2026. No macro, syntax, notation, axiom, sorry.
-/
import Derived.Test.YtgbhmieaoaojoaaDoorRows
import GoSem.ClaimSeven
namespace Go.Proofs.YtgbhmieaoaojoaaDoor
namespace Rows

/-- THE TIED CARD OF 'overseerlaw50.MonitorLeaves'. -/
def monitorLeavesCard : Claim7 := { stood := { row := monitorLeavesRow, standIns := [], harness := (true, "a95cae4f6e1ae990d38ce87a005e6b69835298749cbff7e415c4b21477f8b4e7"), looks := false }, kinds := [], alts := [], laidByText := true, laidKinds := [.data, .data, .data], laidTests := true, laidLooks := .later }
def MonitorLeavesCardSaid : Prop := Claim7.holds Tryd.pinned (.plain (OpenSpec.ofChange monitorLeavesSpec)) monitorLeavesCard

/-- THE TIED CARD OF 'overseerlaw50.MonitorHolds'. -/
def monitorHoldsCard : Claim7 := { stood := { row := monitorHoldsRow, standIns := [], harness := (true, "a95cae4f6e1ae990d38ce87a005e6b69835298749cbff7e415c4b21477f8b4e7"), looks := false }, kinds := [], alts := [], laidByText := true, laidKinds := [.data, .data, .data], laidTests := true, laidLooks := .later }
def MonitorHoldsCardSaid : Prop := Claim7.holds Tryd.pinned (.plain (OpenSpec.ofChange monitorHoldsSpec)) monitorHoldsCard

/-- THE TIED CARD OF 'overseerlaw49.SiphonDead'. -/
def siphonDeadCard : Claim7 := { stood := { row := siphonDeadRow, standIns := [], harness := (true, "a95cae4f6e1ae990d38ce87a005e6b69835298749cbff7e415c4b21477f8b4e7"), looks := false }, kinds := [], alts := [], laidByText := true, laidKinds := [.data, .data, .data], laidTests := true, laidLooks := .later }
def SiphonDeadCardSaid : Prop := Claim7.holds Tryd.pinned (.plain (OpenSpec.ofChange siphonDeadSpec)) siphonDeadCard

/-- THE SECOND FORM's CARD OF 'overseerlaw50.MonitorLeaves'. -/
def monitorLeavesUptoCard : Claim7 := { stood := { row := monitorLeavesUptoRow, standIns := [], harness := (true, "a95cae4f6e1ae990d38ce87a005e6b69835298749cbff7e415c4b21477f8b4e7"), looks := false }, kinds := [], alts := [], laidByText := true, laidKinds := [.data, .data, .data], laidTests := true, laidLooks := .later }
def MonitorLeavesUptoCardSaid : Prop := Claim7.holds Tryd.pinned (.plain (OpenSpec.upto monitorLeavesSpec)) monitorLeavesUptoCard

/-- THE SECOND FORM's CARD OF 'overseerlaw50.MonitorHolds'. -/
def monitorHoldsUptoCard : Claim7 := { stood := { row := monitorHoldsUptoRow, standIns := [], harness := (true, "a95cae4f6e1ae990d38ce87a005e6b69835298749cbff7e415c4b21477f8b4e7"), looks := false }, kinds := [], alts := [], laidByText := true, laidKinds := [.data, .data, .data], laidTests := true, laidLooks := .later }
def MonitorHoldsUptoCardSaid : Prop := Claim7.holds Tryd.pinned (.plain (OpenSpec.upto monitorHoldsSpec)) monitorHoldsUptoCard

/-- THE SECOND FORM's CARD OF 'overseerlaw49.SiphonDead'. -/
def siphonDeadUptoCard : Claim7 := { stood := { row := siphonDeadUptoRow, standIns := [], harness := (true, "a95cae4f6e1ae990d38ce87a005e6b69835298749cbff7e415c4b21477f8b4e7"), looks := false }, kinds := [], alts := [], laidByText := true, laidKinds := [.data, .data, .data], laidTests := true, laidLooks := .later }
def SiphonDeadUptoCardSaid : Prop := Claim7.holds Tryd.pinned (.plain (OpenSpec.upto siphonDeadSpec)) siphonDeadUptoCard
end Rows
end Go.Proofs.YtgbhmieaoaojoaaDoor
