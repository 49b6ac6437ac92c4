/-
  DERIVED. GIVEN WITH THE SEED: THE CARDS: each row of YtjldfifepbdlmaaDoorRows.lean that lists a variable, with what it lists TIED to the program's text (the seventh form; the later family's looks); each row that meets fmt, with fmt's text TOLD by the authors' own Lean function (tested against real Go, not proved from fmt's source: count such statements apart). THE CARD IS WHAT COUNTS. Prove the row's statement (the work); the ties are given (YtjldfifepbdlmaaDoorTie.lean); close each card by the builder's one call (the guide's Derived/Test/ToyasCard.lean, 'card_holds'). Laid BY PROGRAM, IN A SANDBOX (cutbox-door.mjs). By AI agents, Wed Nov 11 2026. No macro, syntax, notation, axiom, sorry.
-/
import Derived.Test.YtjldfifepbdlmaaDoorRows
import GoSem.ClaimSeven
namespace Go.Proofs.YtjldfifepbdlmaaDoor
namespace Rows

/-- THE TIED CARD OF 'overseerlaw47.NetSearches'. -/
def netSearchesCard : Claim7 := { stood := { row := netSearchesRow, standIns := [], harness := (true, "2c6da988e5e709c17cd8c2c03bcacec864a4c042b03c938d8ac0a841be5339df"), looks := false }, kinds := [], alts := [], laidByText := true, laidKinds := [.data, .data, .data], laidTests := true, laidLooks := .later }
def NetSearchesCardSaid : Prop := Claim7.holds Tryd.pinned (.plain (OpenSpec.ofChange netSearchesSpec)) netSearchesCard

/-- THE TIED CARD OF 'overseerlaw47.NetPumps'. -/
def netPumpsCard : Claim7 := { stood := { row := netPumpsRow, standIns := [], harness := (true, "2c6da988e5e709c17cd8c2c03bcacec864a4c042b03c938d8ac0a841be5339df"), looks := false }, kinds := [], alts := [], laidByText := true, laidKinds := [.data, .data, .data], laidTests := true, laidLooks := .later }
def NetPumpsCardSaid : Prop := Claim7.holds Tryd.pinned (.plain (OpenSpec.ofChange netPumpsSpec)) netPumpsCard

/-- THE TIED CARD OF 'overseerlaw47.NetMonotone'. -/
def netMonotoneCard : Claim7 := { stood := { row := netMonotoneRow, standIns := [], harness := (true, "2c6da988e5e709c17cd8c2c03bcacec864a4c042b03c938d8ac0a841be5339df"), looks := false }, kinds := [], alts := [], laidByText := true, laidKinds := [.data, .data, .data], laidTests := true, laidLooks := .later }
def NetMonotoneCardSaid : Prop := Claim7.holds Tryd.pinned (.plain (OpenSpec.ofChange netMonotoneSpec)) netMonotoneCard

/-- THE TIED CARD OF 'overseerlaw47.NetLimits'. -/
def netLimitsCard : Claim7 := { stood := { row := netLimitsRow, standIns := [], harness := (true, "2c6da988e5e709c17cd8c2c03bcacec864a4c042b03c938d8ac0a841be5339df"), looks := false }, kinds := [], alts := [], laidByText := true, laidKinds := [.data, .data, .data], laidTests := true, laidLooks := .later }
def NetLimitsCardSaid : Prop := Claim7.holds Tryd.pinned (.plain (OpenSpec.ofChange netLimitsSpec)) netLimitsCard

/-- THE TIED CARD OF 'overseerlaw47.NetFires'. -/
def netFiresCard : Claim7 := { stood := { row := netFiresRow, standIns := [], harness := (true, "2c6da988e5e709c17cd8c2c03bcacec864a4c042b03c938d8ac0a841be5339df"), looks := false }, kinds := [], alts := [], laidByText := true, laidKinds := [.data, .data, .data], laidTests := true, laidLooks := .later }
def NetFiresCardSaid : Prop := Claim7.holds Tryd.pinned (.plain (OpenSpec.ofChange netFiresSpec)) netFiresCard

/-- THE TIED CARD OF 'overseerlaw47.NetRuns'. -/
def netRunsCard : Claim7 := { stood := { row := netRunsRow, standIns := [], harness := (true, "2c6da988e5e709c17cd8c2c03bcacec864a4c042b03c938d8ac0a841be5339df"), looks := false }, kinds := [], alts := [], laidByText := true, laidKinds := [.data, .data, .data], laidTests := true, laidLooks := .later }
def NetRunsCardSaid : Prop := Claim7.holds Tryd.pinned (.plain (OpenSpec.ofChange netRunsSpec)) netRunsCard

/-- THE TIED CARD OF 'overseerlaw47.NetChecks'. -/
def netChecksCard : Claim7 := { stood := { row := netChecksRow, standIns := [], harness := (true, "2c6da988e5e709c17cd8c2c03bcacec864a4c042b03c938d8ac0a841be5339df"), looks := false }, kinds := [], alts := [], laidByText := true, laidKinds := [.data, .data, .data], laidTests := true, laidLooks := .later }
def NetChecksCardSaid : Prop := Claim7.holds Tryd.pinned (.plain (OpenSpec.ofChange netChecksSpec)) netChecksCard

/-- THE SECOND FORM's CARD OF 'overseerlaw47.NetSearches'. -/
def netSearchesUptoCard : Claim7 := { stood := { row := netSearchesUptoRow, standIns := [], harness := (true, "2c6da988e5e709c17cd8c2c03bcacec864a4c042b03c938d8ac0a841be5339df"), looks := false }, kinds := [], alts := [], laidByText := true, laidKinds := [.data, .data, .data], laidTests := true, laidLooks := .later }
def NetSearchesUptoCardSaid : Prop := Claim7.holds Tryd.pinned (.plain (OpenSpec.upto netSearchesSpec)) netSearchesUptoCard

/-- THE SECOND FORM's CARD OF 'overseerlaw47.NetPumps'. -/
def netPumpsUptoCard : Claim7 := { stood := { row := netPumpsUptoRow, standIns := [], harness := (true, "2c6da988e5e709c17cd8c2c03bcacec864a4c042b03c938d8ac0a841be5339df"), looks := false }, kinds := [], alts := [], laidByText := true, laidKinds := [.data, .data, .data], laidTests := true, laidLooks := .later }
def NetPumpsUptoCardSaid : Prop := Claim7.holds Tryd.pinned (.plain (OpenSpec.upto netPumpsSpec)) netPumpsUptoCard

/-- THE SECOND FORM's CARD OF 'overseerlaw47.NetMonotone'. -/
def netMonotoneUptoCard : Claim7 := { stood := { row := netMonotoneUptoRow, standIns := [], harness := (true, "2c6da988e5e709c17cd8c2c03bcacec864a4c042b03c938d8ac0a841be5339df"), looks := false }, kinds := [], alts := [], laidByText := true, laidKinds := [.data, .data, .data], laidTests := true, laidLooks := .later }
def NetMonotoneUptoCardSaid : Prop := Claim7.holds Tryd.pinned (.plain (OpenSpec.upto netMonotoneSpec)) netMonotoneUptoCard

/-- THE SECOND FORM's CARD OF 'overseerlaw47.NetLimits'. -/
def netLimitsUptoCard : Claim7 := { stood := { row := netLimitsUptoRow, standIns := [], harness := (true, "2c6da988e5e709c17cd8c2c03bcacec864a4c042b03c938d8ac0a841be5339df"), looks := false }, kinds := [], alts := [], laidByText := true, laidKinds := [.data, .data, .data], laidTests := true, laidLooks := .later }
def NetLimitsUptoCardSaid : Prop := Claim7.holds Tryd.pinned (.plain (OpenSpec.upto netLimitsSpec)) netLimitsUptoCard

/-- THE SECOND FORM's CARD OF 'overseerlaw47.NetFires'. -/
def netFiresUptoCard : Claim7 := { stood := { row := netFiresUptoRow, standIns := [], harness := (true, "2c6da988e5e709c17cd8c2c03bcacec864a4c042b03c938d8ac0a841be5339df"), looks := false }, kinds := [], alts := [], laidByText := true, laidKinds := [.data, .data, .data], laidTests := true, laidLooks := .later }
def NetFiresUptoCardSaid : Prop := Claim7.holds Tryd.pinned (.plain (OpenSpec.upto netFiresSpec)) netFiresUptoCard

/-- THE SECOND FORM's CARD OF 'overseerlaw47.NetRuns'. -/
def netRunsUptoCard : Claim7 := { stood := { row := netRunsUptoRow, standIns := [], harness := (true, "2c6da988e5e709c17cd8c2c03bcacec864a4c042b03c938d8ac0a841be5339df"), looks := false }, kinds := [], alts := [], laidByText := true, laidKinds := [.data, .data, .data], laidTests := true, laidLooks := .later }
def NetRunsUptoCardSaid : Prop := Claim7.holds Tryd.pinned (.plain (OpenSpec.upto netRunsSpec)) netRunsUptoCard

/-- THE SECOND FORM's CARD OF 'overseerlaw47.NetChecks'. -/
def netChecksUptoCard : Claim7 := { stood := { row := netChecksUptoRow, standIns := [], harness := (true, "2c6da988e5e709c17cd8c2c03bcacec864a4c042b03c938d8ac0a841be5339df"), looks := false }, kinds := [], alts := [], laidByText := true, laidKinds := [.data, .data, .data], laidTests := true, laidLooks := .later }
def NetChecksUptoCardSaid : Prop := Claim7.holds Tryd.pinned (.plain (OpenSpec.upto netChecksSpec)) netChecksUptoCard
end Rows
end Go.Proofs.YtjldfifepbdlmaaDoor
