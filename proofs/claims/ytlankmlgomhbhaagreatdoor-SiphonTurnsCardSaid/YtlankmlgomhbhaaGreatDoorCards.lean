/-
  DERIVED. GIVEN WITH THE SEED: THE CARDS: each row of YtlankmlgomhbhaaGreatDoorRows.lean that lists a variable, with what it lists TIED to the program's text (the seventh form; the later family's looks); each row that meets fmt, with fmt's text TOLD by the authors' own Lean function (tested against real Go, not proved from fmt's source: count such statements apart). THE CARD IS WHAT COUNTS. Prove the row's statement (the work); the ties are given (YtlankmlgomhbhaaGreatDoorTie.lean); close each card by the builder's one call (the guide's Derived/Test/ToyasCard.lean, 'card_holds'). Laid BY PROGRAM, IN A SANDBOX (cutbox-door.mjs). By AI agents, Wed Nov 11 2026. No macro, syntax, notation, axiom, sorry.
-/
import Derived.Test.YtlankmlgomhbhaaGreatDoorRows
import GoSem.ClaimSeven
namespace Go.Proofs.YtlankmlgomhbhaaGreatDoor
namespace Rows

/-- THE TIED CARD OF 'overseerlaw49.SiphonMinimal'. -/
def siphonMinimalCard : Claim7 := { stood := { row := siphonMinimalRow, standIns := [], harness := (true, "a4148a744915b00c9c2952d66ac41375339c3ff3aa39c5667dc220c01707e240"), looks := false }, kinds := [], alts := [], laidByText := true, laidKinds := [.data, .data, .data], laidTests := true, laidLooks := .later }
def SiphonMinimalCardSaid : Prop := Claim7.holds Tryz.pinned (.plain (OpenSpec.ofChange siphonMinimalSpec)) siphonMinimalCard

/-- THE TIED CARD OF 'overseerlaw49.SiphonRefuses'. -/
def siphonRefusesCard : Claim7 := { stood := { row := siphonRefusesRow, standIns := [], harness := (true, "a4148a744915b00c9c2952d66ac41375339c3ff3aa39c5667dc220c01707e240"), looks := false }, kinds := [], alts := [], laidByText := true, laidKinds := [.data, .data, .data], laidTests := true, laidLooks := .later }
def SiphonRefusesCardSaid : Prop := Claim7.holds Tryz.pinned (.plain (OpenSpec.ofChange siphonRefusesSpec)) siphonRefusesCard

/-- THE TIED CARD OF 'overseerlaw49.SiphonCommoner'. -/
def siphonCommonerCard : Claim7 := { stood := { row := siphonCommonerRow, standIns := [], harness := (true, "a4148a744915b00c9c2952d66ac41375339c3ff3aa39c5667dc220c01707e240"), looks := false }, kinds := [], alts := [], laidByText := true, laidKinds := [.data, .data, .data], laidTests := true, laidLooks := .later }
def SiphonCommonerCardSaid : Prop := Claim7.holds Tryz.pinned (.plain (OpenSpec.ofChange siphonCommonerSpec)) siphonCommonerCard

/-- THE TIED CARD OF 'overseerlaw49.SiphonTests'. -/
def siphonTestsCard : Claim7 := { stood := { row := siphonTestsRow, standIns := [], harness := (true, "a4148a744915b00c9c2952d66ac41375339c3ff3aa39c5667dc220c01707e240"), looks := false }, kinds := [], alts := [], laidByText := true, laidKinds := [.data, .data, .data], laidTests := true, laidLooks := .later }
def SiphonTestsCardSaid : Prop := Claim7.holds Tryz.pinned (.plain (OpenSpec.ofChange siphonTestsSpec)) siphonTestsCard

/-- THE TIED CARD OF 'overseerlaw49.SiphonTurns'. -/
def siphonTurnsCard : Claim7 := { stood := { row := siphonTurnsRow, standIns := [], harness := (true, "a4148a744915b00c9c2952d66ac41375339c3ff3aa39c5667dc220c01707e240"), looks := false }, kinds := [], alts := [], laidByText := true, laidKinds := [.data, .data, .data], laidTests := true, laidLooks := .later }
def SiphonTurnsCardSaid : Prop := Claim7.holds Tryz.pinned (.plain (OpenSpec.ofChange siphonTurnsSpec)) siphonTurnsCard

/-- THE TIED CARD OF 'overseerlaw49.SiphonTokens'. -/
def siphonTokensCard : Claim7 := { stood := { row := siphonTokensRow, standIns := [], harness := (true, "a4148a744915b00c9c2952d66ac41375339c3ff3aa39c5667dc220c01707e240"), looks := false }, kinds := [], alts := [], laidByText := true, laidKinds := [.data, .data, .data], laidTests := true, laidLooks := .later }
def SiphonTokensCardSaid : Prop := Claim7.holds Tryz.pinned (.plain (OpenSpec.ofChange siphonTokensSpec)) siphonTokensCard

/-- THE SECOND FORM's CARD OF 'overseerlaw49.SiphonMinimal'. -/
def siphonMinimalUptoCard : Claim7 := { stood := { row := siphonMinimalUptoRow, standIns := [], harness := (true, "a4148a744915b00c9c2952d66ac41375339c3ff3aa39c5667dc220c01707e240"), looks := false }, kinds := [], alts := [], laidByText := true, laidKinds := [.data, .data, .data], laidTests := true, laidLooks := .later }
def SiphonMinimalUptoCardSaid : Prop := Claim7.holds Tryz.pinned (.plain (OpenSpec.upto siphonMinimalSpec)) siphonMinimalUptoCard

/-- THE SECOND FORM's CARD OF 'overseerlaw49.SiphonRefuses'. -/
def siphonRefusesUptoCard : Claim7 := { stood := { row := siphonRefusesUptoRow, standIns := [], harness := (true, "a4148a744915b00c9c2952d66ac41375339c3ff3aa39c5667dc220c01707e240"), looks := false }, kinds := [], alts := [], laidByText := true, laidKinds := [.data, .data, .data], laidTests := true, laidLooks := .later }
def SiphonRefusesUptoCardSaid : Prop := Claim7.holds Tryz.pinned (.plain (OpenSpec.upto siphonRefusesSpec)) siphonRefusesUptoCard

/-- THE SECOND FORM's CARD OF 'overseerlaw49.SiphonCommoner'. -/
def siphonCommonerUptoCard : Claim7 := { stood := { row := siphonCommonerUptoRow, standIns := [], harness := (true, "a4148a744915b00c9c2952d66ac41375339c3ff3aa39c5667dc220c01707e240"), looks := false }, kinds := [], alts := [], laidByText := true, laidKinds := [.data, .data, .data], laidTests := true, laidLooks := .later }
def SiphonCommonerUptoCardSaid : Prop := Claim7.holds Tryz.pinned (.plain (OpenSpec.upto siphonCommonerSpec)) siphonCommonerUptoCard

/-- THE SECOND FORM's CARD OF 'overseerlaw49.SiphonTests'. -/
def siphonTestsUptoCard : Claim7 := { stood := { row := siphonTestsUptoRow, standIns := [], harness := (true, "a4148a744915b00c9c2952d66ac41375339c3ff3aa39c5667dc220c01707e240"), looks := false }, kinds := [], alts := [], laidByText := true, laidKinds := [.data, .data, .data], laidTests := true, laidLooks := .later }
def SiphonTestsUptoCardSaid : Prop := Claim7.holds Tryz.pinned (.plain (OpenSpec.upto siphonTestsSpec)) siphonTestsUptoCard

/-- THE SECOND FORM's CARD OF 'overseerlaw49.SiphonTurns'. -/
def siphonTurnsUptoCard : Claim7 := { stood := { row := siphonTurnsUptoRow, standIns := [], harness := (true, "a4148a744915b00c9c2952d66ac41375339c3ff3aa39c5667dc220c01707e240"), looks := false }, kinds := [], alts := [], laidByText := true, laidKinds := [.data, .data, .data], laidTests := true, laidLooks := .later }
def SiphonTurnsUptoCardSaid : Prop := Claim7.holds Tryz.pinned (.plain (OpenSpec.upto siphonTurnsSpec)) siphonTurnsUptoCard

/-- THE SECOND FORM's CARD OF 'overseerlaw49.SiphonTokens'. -/
def siphonTokensUptoCard : Claim7 := { stood := { row := siphonTokensUptoRow, standIns := [], harness := (true, "a4148a744915b00c9c2952d66ac41375339c3ff3aa39c5667dc220c01707e240"), looks := false }, kinds := [], alts := [], laidByText := true, laidKinds := [.data, .data, .data], laidTests := true, laidLooks := .later }
def SiphonTokensUptoCardSaid : Prop := Claim7.holds Tryz.pinned (.plain (OpenSpec.upto siphonTokensSpec)) siphonTokensUptoCard
end Rows
end Go.Proofs.YtlankmlgomhbhaaGreatDoor
