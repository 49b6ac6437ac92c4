/-
  DERIVED. GIVEN WITH THE SEED: THE CARDS: each row of YtljpfdehnjemlaaDoorRows.lean that lists a variable, with what it lists TIED to the program's text (the seventh form; the later family's looks); each row that meets fmt, with fmt's text TOLD by the authors' own Lean function (tested against real Go, not proved from fmt's source: count such statements apart). THE CARD IS WHAT COUNTS. Prove the row's statement (the work); the ties are given (YtljpfdehnjemlaaDoorTie.lean); close each card by the builder's one call (the guide's Derived/Test/ToyasCard.lean, 'card_holds'). Laid BY PROGRAM, IN A SANDBOX (cutbox-door.mjs). By AI agents, Wed Nov 11 2026. No macro, syntax, notation, axiom, sorry.
-/
import Derived.Test.YtljpfdehnjemlaaDoorRows
import GoSem.ClaimSeven
namespace Go.Proofs.YtljpfdehnjemlaaDoor
namespace Rows

/-- THE TIED CARD OF 'overseerlaw49.SiphonDead'. -/
def siphonDeadCard : Claim7 := { stood := { row := siphonDeadRow, standIns := [], harness := (true, "580d0f81040bde8d695828e9ddbe89e16dbc3eb73667ca7d3a3748b7e2fe2506"), looks := false }, kinds := [], alts := [], laidByText := true, laidKinds := [.data, .data, .data], laidTests := true, laidLooks := .later }
def SiphonDeadCardSaid : Prop := Claim7.holds Tryd.pinned (.plain (OpenSpec.ofChange siphonDeadSpec)) siphonDeadCard

/-- THE SECOND FORM's CARD OF 'overseerlaw49.SiphonDead'. -/
def siphonDeadUptoCard : Claim7 := { stood := { row := siphonDeadUptoRow, standIns := [], harness := (true, "580d0f81040bde8d695828e9ddbe89e16dbc3eb73667ca7d3a3748b7e2fe2506"), looks := false }, kinds := [], alts := [], laidByText := true, laidKinds := [.data, .data, .data], laidTests := true, laidLooks := .later }
def SiphonDeadUptoCardSaid : Prop := Claim7.holds Tryd.pinned (.plain (OpenSpec.upto siphonDeadSpec)) siphonDeadUptoCard
end Rows
end Go.Proofs.YtljpfdehnjemlaaDoor
