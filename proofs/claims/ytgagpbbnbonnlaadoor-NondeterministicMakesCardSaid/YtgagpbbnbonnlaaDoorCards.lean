/-
  DERIVED. GIVEN WITH THE SEED: THE CARDS: each row of YtgagpbbnbonnlaaDoorRows.lean that lists a variable, with what it lists TIED to the program's text (the seventh form; the later family's looks); each row that meets fmt, with fmt's text TOLD by the authors' own Lean function (tested against real Go, not proved from fmt's source: count such statements apart). THE CARD IS WHAT COUNTS. Prove the row's statement (the work); the ties are given (YtgagpbbnbonnlaaDoorTie.lean); close each card by the builder's one call (the guide's Derived/Test/ToyasCard.lean, 'card_holds'). Laid BY PROGRAM, IN A SANDBOX (cutbox-door.mjs). By AI agents, Wed Nov 11 2026. No macro, syntax, notation, axiom, sorry.
-/
import Derived.Test.YtgagpbbnbonnlaaDoorRows
import GoSem.ClaimSeven
namespace Go.Proofs.YtgagpbbnbonnlaaDoor
namespace Rows

/-- THE TIED CARD OF 'overseerlaw05.NondeterministicDeterminizes'. -/
def nondeterministicDeterminizesCard : Claim7 := { stood := { row := nondeterministicDeterminizesRow, standIns := [], harness := (true, "7e78c54044a1cd69e6938b325af9f4952069fec45f9cca9c11997cc94460e16a"), looks := false }, kinds := [], alts := [], laidByText := true, laidKinds := [.data, .data, .data], laidTests := true, laidLooks := .later }
def NondeterministicDeterminizesCardSaid : Prop := Claim7.holds Tryd.pinned (.plain (OpenSpec.ofChange nondeterministicDeterminizesSpec)) nondeterministicDeterminizesCard

/-- THE TIED CARD OF 'overseerlaw05.NondeterministicLimits'. -/
def nondeterministicLimitsCard : Claim7 := { stood := { row := nondeterministicLimitsRow, standIns := [], harness := (true, "7e78c54044a1cd69e6938b325af9f4952069fec45f9cca9c11997cc94460e16a"), looks := false }, kinds := [], alts := [], laidByText := true, laidKinds := [.data, .data, .data], laidTests := true, laidLooks := .later }
def NondeterministicLimitsCardSaid : Prop := Claim7.holds Tryd.pinned (.plain (OpenSpec.ofChange nondeterministicLimitsSpec)) nondeterministicLimitsCard

/-- THE TIED CARD OF 'overseerlaw05.NondeterministicSteps'. -/
def nondeterministicStepsCard : Claim7 := { stood := { row := nondeterministicStepsRow, standIns := [], harness := (true, "7e78c54044a1cd69e6938b325af9f4952069fec45f9cca9c11997cc94460e16a"), looks := false }, kinds := [], alts := [], laidByText := true, laidKinds := [.data, .data, .data], laidTests := true, laidLooks := .later }
def NondeterministicStepsCardSaid : Prop := Claim7.holds Tryd.pinned (.plain (OpenSpec.ofChange nondeterministicStepsSpec)) nondeterministicStepsCard

/-- THE TIED CARD OF 'overseerlaw05.NondeterministicEqual'. -/
def nondeterministicEqualCard : Claim7 := { stood := { row := nondeterministicEqualRow, standIns := [], harness := (true, "7e78c54044a1cd69e6938b325af9f4952069fec45f9cca9c11997cc94460e16a"), looks := false }, kinds := [], alts := [], laidByText := true, laidKinds := [.data, .data, .data], laidTests := true, laidLooks := .later }
def NondeterministicEqualCardSaid : Prop := Claim7.holds Tryd.pinned (.plain (OpenSpec.ofChange nondeterministicEqualSpec)) nondeterministicEqualCard

/-- THE TIED CARD OF 'overseerlaw05.NondeterministicWords'. -/
def nondeterministicWordsCard : Claim7 := { stood := { row := nondeterministicWordsRow, standIns := [], harness := (true, "7e78c54044a1cd69e6938b325af9f4952069fec45f9cca9c11997cc94460e16a"), looks := false }, kinds := [], alts := [], laidByText := true, laidKinds := [.data, .data, .data], laidTests := true, laidLooks := .later }
def NondeterministicWordsCardSaid : Prop := Claim7.holds Tryd.pinned (.plain (OpenSpec.ofChange nondeterministicWordsSpec)) nondeterministicWordsCard

/-- THE TIED CARD OF 'overseerlaw05.NondeterministicFrom'. -/
def nondeterministicFromCard : Claim7 := { stood := { row := nondeterministicFromRow, standIns := [], harness := (true, "7e78c54044a1cd69e6938b325af9f4952069fec45f9cca9c11997cc94460e16a"), looks := false }, kinds := [], alts := [], laidByText := true, laidKinds := [.data, .data, .data], laidTests := true, laidLooks := .later }
def NondeterministicFromCardSaid : Prop := Claim7.holds Tryd.pinned (.plain (OpenSpec.ofChange nondeterministicFromSpec)) nondeterministicFromCard

/-- THE TIED CARD OF 'overseerlaw05.NondeterministicMakes'. -/
def nondeterministicMakesCard : Claim7 := { stood := { row := nondeterministicMakesRow, standIns := [], harness := (true, "7e78c54044a1cd69e6938b325af9f4952069fec45f9cca9c11997cc94460e16a"), looks := false }, kinds := [], alts := [], laidByText := true, laidKinds := [.data, .data, .data], laidTests := true, laidLooks := .later }
def NondeterministicMakesCardSaid : Prop := Claim7.holds Tryd.pinned (.plain (OpenSpec.ofChange nondeterministicMakesSpec)) nondeterministicMakesCard

/-- THE TIED CARD OF 'overseerlaw05.NondeterministicJoins'. -/
def nondeterministicJoinsCard : Claim7 := { stood := { row := nondeterministicJoinsRow, standIns := [], harness := (true, "7e78c54044a1cd69e6938b325af9f4952069fec45f9cca9c11997cc94460e16a"), looks := false }, kinds := [], alts := [], laidByText := true, laidKinds := [.data, .data, .data], laidTests := true, laidLooks := .later }
def NondeterministicJoinsCardSaid : Prop := Claim7.holds Tryd.pinned (.plain (OpenSpec.ofChange nondeterministicJoinsSpec)) nondeterministicJoinsCard

/-- THE TIED CARD OF 'overseerlaw05.NondeterministicChecks'. -/
def nondeterministicChecksCard : Claim7 := { stood := { row := nondeterministicChecksRow, standIns := [], harness := (true, "7e78c54044a1cd69e6938b325af9f4952069fec45f9cca9c11997cc94460e16a"), looks := false }, kinds := [], alts := [], laidByText := true, laidKinds := [.data, .data, .data], laidTests := true, laidLooks := .later }
def NondeterministicChecksCardSaid : Prop := Claim7.holds Tryd.pinned (.plain (OpenSpec.ofChange nondeterministicChecksSpec)) nondeterministicChecksCard

/-- THE TIED CARD OF 'overseerlaw05.NondeterministicKeeps'. -/
def nondeterministicKeepsCard : Claim7 := { stood := { row := nondeterministicKeepsRow, standIns := [], harness := (true, "7e78c54044a1cd69e6938b325af9f4952069fec45f9cca9c11997cc94460e16a"), looks := false }, kinds := [], alts := [], laidByText := true, laidKinds := [.data, .data, .data], laidTests := true, laidLooks := .later }
def NondeterministicKeepsCardSaid : Prop := Claim7.holds Tryd.pinned (.plain (OpenSpec.ofChange nondeterministicKeepsSpec)) nondeterministicKeepsCard

/-- THE SECOND FORM's CARD OF 'overseerlaw05.NondeterministicDeterminizes'. -/
def nondeterministicDeterminizesUptoCard : Claim7 := { stood := { row := nondeterministicDeterminizesUptoRow, standIns := [], harness := (true, "7e78c54044a1cd69e6938b325af9f4952069fec45f9cca9c11997cc94460e16a"), looks := false }, kinds := [], alts := [], laidByText := true, laidKinds := [.data, .data, .data], laidTests := true, laidLooks := .later }
def NondeterministicDeterminizesUptoCardSaid : Prop := Claim7.holds Tryd.pinned (.plain (OpenSpec.upto nondeterministicDeterminizesSpec)) nondeterministicDeterminizesUptoCard

/-- THE SECOND FORM's CARD OF 'overseerlaw05.NondeterministicLimits'. -/
def nondeterministicLimitsUptoCard : Claim7 := { stood := { row := nondeterministicLimitsUptoRow, standIns := [], harness := (true, "7e78c54044a1cd69e6938b325af9f4952069fec45f9cca9c11997cc94460e16a"), looks := false }, kinds := [], alts := [], laidByText := true, laidKinds := [.data, .data, .data], laidTests := true, laidLooks := .later }
def NondeterministicLimitsUptoCardSaid : Prop := Claim7.holds Tryd.pinned (.plain (OpenSpec.upto nondeterministicLimitsSpec)) nondeterministicLimitsUptoCard

/-- THE SECOND FORM's CARD OF 'overseerlaw05.NondeterministicSteps'. -/
def nondeterministicStepsUptoCard : Claim7 := { stood := { row := nondeterministicStepsUptoRow, standIns := [], harness := (true, "7e78c54044a1cd69e6938b325af9f4952069fec45f9cca9c11997cc94460e16a"), looks := false }, kinds := [], alts := [], laidByText := true, laidKinds := [.data, .data, .data], laidTests := true, laidLooks := .later }
def NondeterministicStepsUptoCardSaid : Prop := Claim7.holds Tryd.pinned (.plain (OpenSpec.upto nondeterministicStepsSpec)) nondeterministicStepsUptoCard

/-- THE SECOND FORM's CARD OF 'overseerlaw05.NondeterministicEqual'. -/
def nondeterministicEqualUptoCard : Claim7 := { stood := { row := nondeterministicEqualUptoRow, standIns := [], harness := (true, "7e78c54044a1cd69e6938b325af9f4952069fec45f9cca9c11997cc94460e16a"), looks := false }, kinds := [], alts := [], laidByText := true, laidKinds := [.data, .data, .data], laidTests := true, laidLooks := .later }
def NondeterministicEqualUptoCardSaid : Prop := Claim7.holds Tryd.pinned (.plain (OpenSpec.upto nondeterministicEqualSpec)) nondeterministicEqualUptoCard

/-- THE SECOND FORM's CARD OF 'overseerlaw05.NondeterministicWords'. -/
def nondeterministicWordsUptoCard : Claim7 := { stood := { row := nondeterministicWordsUptoRow, standIns := [], harness := (true, "7e78c54044a1cd69e6938b325af9f4952069fec45f9cca9c11997cc94460e16a"), looks := false }, kinds := [], alts := [], laidByText := true, laidKinds := [.data, .data, .data], laidTests := true, laidLooks := .later }
def NondeterministicWordsUptoCardSaid : Prop := Claim7.holds Tryd.pinned (.plain (OpenSpec.upto nondeterministicWordsSpec)) nondeterministicWordsUptoCard

/-- THE SECOND FORM's CARD OF 'overseerlaw05.NondeterministicFrom'. -/
def nondeterministicFromUptoCard : Claim7 := { stood := { row := nondeterministicFromUptoRow, standIns := [], harness := (true, "7e78c54044a1cd69e6938b325af9f4952069fec45f9cca9c11997cc94460e16a"), looks := false }, kinds := [], alts := [], laidByText := true, laidKinds := [.data, .data, .data], laidTests := true, laidLooks := .later }
def NondeterministicFromUptoCardSaid : Prop := Claim7.holds Tryd.pinned (.plain (OpenSpec.upto nondeterministicFromSpec)) nondeterministicFromUptoCard

/-- THE SECOND FORM's CARD OF 'overseerlaw05.NondeterministicMakes'. -/
def nondeterministicMakesUptoCard : Claim7 := { stood := { row := nondeterministicMakesUptoRow, standIns := [], harness := (true, "7e78c54044a1cd69e6938b325af9f4952069fec45f9cca9c11997cc94460e16a"), looks := false }, kinds := [], alts := [], laidByText := true, laidKinds := [.data, .data, .data], laidTests := true, laidLooks := .later }
def NondeterministicMakesUptoCardSaid : Prop := Claim7.holds Tryd.pinned (.plain (OpenSpec.upto nondeterministicMakesSpec)) nondeterministicMakesUptoCard

/-- THE SECOND FORM's CARD OF 'overseerlaw05.NondeterministicJoins'. -/
def nondeterministicJoinsUptoCard : Claim7 := { stood := { row := nondeterministicJoinsUptoRow, standIns := [], harness := (true, "7e78c54044a1cd69e6938b325af9f4952069fec45f9cca9c11997cc94460e16a"), looks := false }, kinds := [], alts := [], laidByText := true, laidKinds := [.data, .data, .data], laidTests := true, laidLooks := .later }
def NondeterministicJoinsUptoCardSaid : Prop := Claim7.holds Tryd.pinned (.plain (OpenSpec.upto nondeterministicJoinsSpec)) nondeterministicJoinsUptoCard

/-- THE SECOND FORM's CARD OF 'overseerlaw05.NondeterministicChecks'. -/
def nondeterministicChecksUptoCard : Claim7 := { stood := { row := nondeterministicChecksUptoRow, standIns := [], harness := (true, "7e78c54044a1cd69e6938b325af9f4952069fec45f9cca9c11997cc94460e16a"), looks := false }, kinds := [], alts := [], laidByText := true, laidKinds := [.data, .data, .data], laidTests := true, laidLooks := .later }
def NondeterministicChecksUptoCardSaid : Prop := Claim7.holds Tryd.pinned (.plain (OpenSpec.upto nondeterministicChecksSpec)) nondeterministicChecksUptoCard

/-- THE SECOND FORM's CARD OF 'overseerlaw05.NondeterministicKeeps'. -/
def nondeterministicKeepsUptoCard : Claim7 := { stood := { row := nondeterministicKeepsUptoRow, standIns := [], harness := (true, "7e78c54044a1cd69e6938b325af9f4952069fec45f9cca9c11997cc94460e16a"), looks := false }, kinds := [], alts := [], laidByText := true, laidKinds := [.data, .data, .data], laidTests := true, laidLooks := .later }
def NondeterministicKeepsUptoCardSaid : Prop := Claim7.holds Tryd.pinned (.plain (OpenSpec.upto nondeterministicKeepsSpec)) nondeterministicKeepsUptoCard
end Rows
end Go.Proofs.YtgagpbbnbonnlaaDoor
