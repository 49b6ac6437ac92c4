/-
  No cell of these rows narrows 'for every input' (looked for: loops, veiled, ifaces, maps, wideKeys, modest, calm, conditions, laid).
  DERIVED. THE GIVEN ROWS OF THIS SEAT. 11 by the template 'for every input the law returns true; each argument reads behind the call as it read before'; 0 by the template 'total and deterministic' (their statements: YtdhkmgnhbllbfaaTotals.lean).
  GIVEN WITH THE SEED: the statements are not yours to turn. If you find one false, say at which input.
  Laid BY PROGRAM, IN A SANDBOX (cutbox-rows.mjs): the forced cells as the released guide's own fill.sh prints them over the translation 8f45a362ba8a047c… (all of the seat's roots in one cut). By AI agents, Wed Nov 11 2026. No macro, syntax, notation, axiom, sorry.
-/
import Derived.Test.YtdhkmgnhbllbfaaChecked
import GoSem.Claim
import GoSem.ClaimJoined
import GoSem.ClaimMapViews
import Derived.JoinedTies
import Derived.KernelRfl
namespace Go.Proofs.Ytdhkmgnhbllbfaa
/- THE CELL 'sum', in the pinned program and in every row, IS THE sha256 OF THE DUMP (.gsa) THAT YtdhkmgnhbllbfaaProg.lean LOADS. Nothing in Lean hashes anything: it is a label: what it is worth is what the hold of that sum in a sandbox is worth. -/
noncomputable def Try.pinned : Pinned := { name := "ytdhkmgnhbllbfaa", sum := "8f45a362ba8a047cb43d88023259c06694dca641ca817ef29df8b47551148147", checked := Try.checked }
namespace Rows
def none {H : Type} : Left H := { results := [], args := [] }

/-- 'overseerlaw01.AlphabetNames': WHATEVER THE INPUT: true; the input reads as it did. -/
def alphabetNamesSpec : ChangeSpec := { name := "alphabetNames", fn := fun _ => fun
  | [d1, d2, d3] => { results := [.lit (.bool true)], args := [d1, d2, d3] }
  | _ => none }
def alphabetNamesRow : OpenClaim := { program := "ytdhkmgnhbllbfaa", sum := "8f45a362ba8a047cb43d88023259c06694dca641ca817ef29df8b47551148147", func := "overseer/overseerlaw01.AlphabetNames", spec := "alphabetNames", unfollowed := true, recurses := true, apart := false }
def AlphabetNamesSaid : Prop := alphabetNamesRow.holds Try.pinned (OpenSpec.ofChange alphabetNamesSpec)

/-- ITS FALSE NEIGHBOUR: 'it returns false'. Refute it at one input. -/
def alphabetNamesWrong : ChangeSpec := { name := "alphabetNames", fn := fun _ => fun
  | [d1, d2, d3] => { results := [.lit (.bool false)], args := [d1, d2, d3] }
  | _ => none }
def AlphabetNamesWrongFalsely : Prop := alphabetNamesRow.holds Try.pinned (OpenSpec.ofChange alphabetNamesWrong)

/-- 'overseerlaw01.AlphabetChecks': WHATEVER THE INPUT: true; the input reads as it did. -/
def alphabetChecksSpec : ChangeSpec := { name := "alphabetChecks", fn := fun _ => fun
  | [d] => { results := [.lit (.bool true)], args := [d] }
  | _ => none }
def alphabetChecksRow : OpenClaim := { program := "ytdhkmgnhbllbfaa", sum := "8f45a362ba8a047cb43d88023259c06694dca641ca817ef29df8b47551148147", func := "overseer/overseerlaw01.AlphabetChecks", spec := "alphabetChecks", unfollowed := true, recurses := true, apart := false }
def AlphabetChecksSaid : Prop := alphabetChecksRow.holds Try.pinned (OpenSpec.ofChange alphabetChecksSpec)

/-- ITS FALSE NEIGHBOUR: 'it returns false'. Refute it at one input. -/
def alphabetChecksWrong : ChangeSpec := { name := "alphabetChecks", fn := fun _ => fun
  | [d] => { results := [.lit (.bool false)], args := [d] }
  | _ => none }
def AlphabetChecksWrongFalsely : Prop := alphabetChecksRow.holds Try.pinned (OpenSpec.ofChange alphabetChecksWrong)

/-- 'overseerlaw01.AlphabetSets': WHATEVER THE INPUT: true; the input reads as it did. -/
def alphabetSetsSpec : ChangeSpec := { name := "alphabetSets", fn := fun _ => fun
  | [d1, d2] => { results := [.lit (.bool true)], args := [d1, d2] }
  | _ => none }
def alphabetSetsRow : OpenClaim := { program := "ytdhkmgnhbllbfaa", sum := "8f45a362ba8a047cb43d88023259c06694dca641ca817ef29df8b47551148147", func := "overseer/overseerlaw01.AlphabetSets", spec := "alphabetSets", unfollowed := true, recurses := true, apart := false }
def AlphabetSetsSaid : Prop := alphabetSetsRow.holds Try.pinned (OpenSpec.ofChange alphabetSetsSpec)

/-- ITS FALSE NEIGHBOUR: 'it returns false'. Refute it at one input. -/
def alphabetSetsWrong : ChangeSpec := { name := "alphabetSets", fn := fun _ => fun
  | [d1, d2] => { results := [.lit (.bool false)], args := [d1, d2] }
  | _ => none }
def AlphabetSetsWrongFalsely : Prop := alphabetSetsRow.holds Try.pinned (OpenSpec.ofChange alphabetSetsWrong)

/-- 'overseerlaw01.AlphabetSelects': WHATEVER THE INPUT: true; the input reads as it did. -/
def alphabetSelectsSpec : ChangeSpec := { name := "alphabetSelects", fn := fun _ => fun
  | [d1, d2] => { results := [.lit (.bool true)], args := [d1, d2] }
  | _ => none }
def alphabetSelectsRow : OpenClaim := { program := "ytdhkmgnhbllbfaa", sum := "8f45a362ba8a047cb43d88023259c06694dca641ca817ef29df8b47551148147", func := "overseer/overseerlaw01.AlphabetSelects", spec := "alphabetSelects", unfollowed := true, recurses := true, apart := false }
def AlphabetSelectsSaid : Prop := alphabetSelectsRow.holds Try.pinned (OpenSpec.ofChange alphabetSelectsSpec)

/-- ITS FALSE NEIGHBOUR: 'it returns false'. Refute it at one input. -/
def alphabetSelectsWrong : ChangeSpec := { name := "alphabetSelects", fn := fun _ => fun
  | [d1, d2] => { results := [.lit (.bool false)], args := [d1, d2] }
  | _ => none }
def AlphabetSelectsWrongFalsely : Prop := alphabetSelectsRow.holds Try.pinned (OpenSpec.ofChange alphabetSelectsWrong)

/-- 'overseerlaw01.AlphabetFaults': WHATEVER THE INPUT: true; the input reads as it did. -/
def alphabetFaultsSpec : ChangeSpec := { name := "alphabetFaults", fn := fun _ => fun
  | [d1, d2] => { results := [.lit (.bool true)], args := [d1, d2] }
  | _ => none }
def alphabetFaultsRow : OpenClaim := { program := "ytdhkmgnhbllbfaa", sum := "8f45a362ba8a047cb43d88023259c06694dca641ca817ef29df8b47551148147", func := "overseer/overseerlaw01.AlphabetFaults", spec := "alphabetFaults", unfollowed := true, recurses := true, apart := false }
def AlphabetFaultsSaid : Prop := alphabetFaultsRow.holds Try.pinned (OpenSpec.ofChange alphabetFaultsSpec)

/-- ITS FALSE NEIGHBOUR: 'it returns false'. Refute it at one input. -/
def alphabetFaultsWrong : ChangeSpec := { name := "alphabetFaults", fn := fun _ => fun
  | [d1, d2] => { results := [.lit (.bool false)], args := [d1, d2] }
  | _ => none }
def AlphabetFaultsWrongFalsely : Prop := alphabetFaultsRow.holds Try.pinned (OpenSpec.ofChange alphabetFaultsWrong)

/-- 'overseerlaw01.AlphabetMasks': WHATEVER THE INPUT: true; the input reads as it did. -/
def alphabetMasksSpec : ChangeSpec := { name := "alphabetMasks", fn := fun _ => fun
  | [d1, d2] => { results := [.lit (.bool true)], args := [d1, d2] }
  | _ => none }
def alphabetMasksRow : OpenClaim := { program := "ytdhkmgnhbllbfaa", sum := "8f45a362ba8a047cb43d88023259c06694dca641ca817ef29df8b47551148147", func := "overseer/overseerlaw01.AlphabetMasks", spec := "alphabetMasks", unfollowed := true, recurses := true, apart := false }
def AlphabetMasksSaid : Prop := alphabetMasksRow.holds Try.pinned (OpenSpec.ofChange alphabetMasksSpec)

/-- ITS FALSE NEIGHBOUR: 'it returns false'. Refute it at one input. -/
def alphabetMasksWrong : ChangeSpec := { name := "alphabetMasks", fn := fun _ => fun
  | [d1, d2] => { results := [.lit (.bool false)], args := [d1, d2] }
  | _ => none }
def AlphabetMasksWrongFalsely : Prop := alphabetMasksRow.holds Try.pinned (OpenSpec.ofChange alphabetMasksWrong)

/-- 'overseerlaw01.AlphabetListed': WHATEVER THE INPUT: true; the input reads as it did. -/
def alphabetListedSpec : ChangeSpec := { name := "alphabetListed", fn := fun _ => fun
  | [d1, d2] => { results := [.lit (.bool true)], args := [d1, d2] }
  | _ => none }
def alphabetListedRow : OpenClaim := { program := "ytdhkmgnhbllbfaa", sum := "8f45a362ba8a047cb43d88023259c06694dca641ca817ef29df8b47551148147", func := "overseer/overseerlaw01.AlphabetListed", spec := "alphabetListed", unfollowed := true, recurses := true, apart := false }
def AlphabetListedSaid : Prop := alphabetListedRow.holds Try.pinned (OpenSpec.ofChange alphabetListedSpec)

/-- ITS FALSE NEIGHBOUR: 'it returns false'. Refute it at one input. -/
def alphabetListedWrong : ChangeSpec := { name := "alphabetListed", fn := fun _ => fun
  | [d1, d2] => { results := [.lit (.bool false)], args := [d1, d2] }
  | _ => none }
def AlphabetListedWrongFalsely : Prop := alphabetListedRow.holds Try.pinned (OpenSpec.ofChange alphabetListedWrong)

/-- 'overseerlaw01.AlphabetParts': WHATEVER THE INPUT: true; the input reads as it did. -/
def alphabetPartsSpec : ChangeSpec := { name := "alphabetParts", fn := fun _ => fun
  | [d] => { results := [.lit (.bool true)], args := [d] }
  | _ => none }
def alphabetPartsRow : OpenClaim := { program := "ytdhkmgnhbllbfaa", sum := "8f45a362ba8a047cb43d88023259c06694dca641ca817ef29df8b47551148147", func := "overseer/overseerlaw01.AlphabetParts", spec := "alphabetParts", unfollowed := true, recurses := true, apart := false }
def AlphabetPartsSaid : Prop := alphabetPartsRow.holds Try.pinned (OpenSpec.ofChange alphabetPartsSpec)

/-- ITS FALSE NEIGHBOUR: 'it returns false'. Refute it at one input. -/
def alphabetPartsWrong : ChangeSpec := { name := "alphabetParts", fn := fun _ => fun
  | [d] => { results := [.lit (.bool false)], args := [d] }
  | _ => none }
def AlphabetPartsWrongFalsely : Prop := alphabetPartsRow.holds Try.pinned (OpenSpec.ofChange alphabetPartsWrong)

/-- 'overseerlaw01.AlphabetLaws': WHATEVER THE INPUT: true; the input reads as it did. -/
def alphabetLawsSpec : ChangeSpec := { name := "alphabetLaws", fn := fun _ => fun
  | [d1, d2, d3] => { results := [.lit (.bool true)], args := [d1, d2, d3] }
  | _ => none }
def alphabetLawsRow : OpenClaim := { program := "ytdhkmgnhbllbfaa", sum := "8f45a362ba8a047cb43d88023259c06694dca641ca817ef29df8b47551148147", func := "overseer/overseerlaw01.AlphabetLaws", spec := "alphabetLaws", unfollowed := true, recurses := true, apart := false }
def AlphabetLawsSaid : Prop := alphabetLawsRow.holds Try.pinned (OpenSpec.ofChange alphabetLawsSpec)

/-- ITS FALSE NEIGHBOUR: 'it returns false'. Refute it at one input. -/
def alphabetLawsWrong : ChangeSpec := { name := "alphabetLaws", fn := fun _ => fun
  | [d1, d2, d3] => { results := [.lit (.bool false)], args := [d1, d2, d3] }
  | _ => none }
def AlphabetLawsWrongFalsely : Prop := alphabetLawsRow.holds Try.pinned (OpenSpec.ofChange alphabetLawsWrong)

/-- 'overseerlaw01.AlphabetFinds': WHATEVER THE INPUT: true; the input reads as it did. -/
def alphabetFindsSpec : ChangeSpec := { name := "alphabetFinds", fn := fun _ => fun
  | [d1, d2, d3] => { results := [.lit (.bool true)], args := [d1, d2, d3] }
  | _ => none }
def alphabetFindsRow : OpenClaim := { program := "ytdhkmgnhbllbfaa", sum := "8f45a362ba8a047cb43d88023259c06694dca641ca817ef29df8b47551148147", func := "overseer/overseerlaw01.AlphabetFinds", spec := "alphabetFinds", unfollowed := true, recurses := true, apart := false }
def AlphabetFindsSaid : Prop := alphabetFindsRow.holds Try.pinned (OpenSpec.ofChange alphabetFindsSpec)

/-- ITS FALSE NEIGHBOUR: 'it returns false'. Refute it at one input. -/
def alphabetFindsWrong : ChangeSpec := { name := "alphabetFinds", fn := fun _ => fun
  | [d1, d2, d3] => { results := [.lit (.bool false)], args := [d1, d2, d3] }
  | _ => none }
def AlphabetFindsWrongFalsely : Prop := alphabetFindsRow.holds Try.pinned (OpenSpec.ofChange alphabetFindsWrong)

/-- 'overseerlaw01.AlphabetCombines': WHATEVER THE INPUT: true; the input reads as it did. -/
def alphabetCombinesSpec : ChangeSpec := { name := "alphabetCombines", fn := fun _ => fun
  | [d1, d2, d3] => { results := [.lit (.bool true)], args := [d1, d2, d3] }
  | _ => none }
def alphabetCombinesRow : OpenClaim := { program := "ytdhkmgnhbllbfaa", sum := "8f45a362ba8a047cb43d88023259c06694dca641ca817ef29df8b47551148147", func := "overseer/overseerlaw01.AlphabetCombines", spec := "alphabetCombines", unfollowed := true, recurses := true, apart := false }
def AlphabetCombinesSaid : Prop := alphabetCombinesRow.holds Try.pinned (OpenSpec.ofChange alphabetCombinesSpec)

/-- ITS FALSE NEIGHBOUR: 'it returns false'. Refute it at one input. -/
def alphabetCombinesWrong : ChangeSpec := { name := "alphabetCombines", fn := fun _ => fun
  | [d1, d2, d3] => { results := [.lit (.bool false)], args := [d1, d2, d3] }
  | _ => none }
def AlphabetCombinesWrongFalsely : Prop := alphabetCombinesRow.holds Try.pinned (OpenSpec.ofChange alphabetCombinesWrong)

/- THE SECOND FORM. 'bulk': how many values and letters a reading holds, each counted each time it is reached (what is shared counts as often as it is met; a slice's spare places count too). A statement '..UptoSaid' is the law's where the arguments, and the package variables that the reading takes, are together of bulk at most 1048576: NARROWER than '..Said'. Prove '..Said' where nothing that the law and all that it calls make is longer than what came in: it says more and counts as full. Else prove '..UptoSaid'. A law counts once. -/
mutual
def uptoBulk {H : Type} : DataW H → Nat
  | .lit (.string bytes) => bytes.length + 1
  | .lit _ => 1
  | .nil => 1
  | .ptr d => uptoBulk d + 1
  | .slice elems spare => uptoBulkAll elems + uptoBulkAll spare + 1
  | .agg parts => uptoBulkAll parts + 1
  | .iface _ d => uptoBulk d + 1
  | .map entries => uptoBulkEntries entries + 1
  | .held _ => 1
def uptoBulkAll {H : Type} : List (DataW H) → Nat
  | [] => 0
  | d :: r => uptoBulk d + uptoBulkAll r
def uptoBulkEntries {H : Type} : List (Lit × DataW H) → Nat
  | [] => 0
  | x :: r => uptoBulkEntry x + uptoBulkEntries r
def uptoBulkEntry {H : Type} : Lit × DataW H → Nat
  | (.string bytes, d) => bytes.length + uptoBulk d + 1
  | (_, d) => uptoBulk d + 1
 end
def uptoSmall : (H : Type) → List (DataW H) → Bool := fun _ ds => decide (uptoBulkAll ds ≤ 1048576)
def OpenSpec.upto (s : _root_.Go.ChangeSpec) : _root_.Go.OpenSpec := { _root_.Go.OpenSpec.ofChange s with cond := some uptoSmall }

/-- 'overseerlaw01.AlphabetNames', WHERE WHAT IT READS IS OF BULK AT MOST 1048576: true; the input reads as it did. -/
def alphabetNamesUptoRow : OpenClaim := { program := "ytdhkmgnhbllbfaa", sum := "8f45a362ba8a047cb43d88023259c06694dca641ca817ef29df8b47551148147", func := "overseer/overseerlaw01.AlphabetNames", spec := "alphabetNames", unfollowed := true, recurses := true, apart := false, narrowed := true }
def AlphabetNamesUptoSaid : Prop := alphabetNamesUptoRow.holds Try.pinned (OpenSpec.upto alphabetNamesSpec)

/-- 'overseerlaw01.AlphabetChecks', WHERE WHAT IT READS IS OF BULK AT MOST 1048576: true; the input reads as it did. -/
def alphabetChecksUptoRow : OpenClaim := { program := "ytdhkmgnhbllbfaa", sum := "8f45a362ba8a047cb43d88023259c06694dca641ca817ef29df8b47551148147", func := "overseer/overseerlaw01.AlphabetChecks", spec := "alphabetChecks", unfollowed := true, recurses := true, apart := false, narrowed := true }
def AlphabetChecksUptoSaid : Prop := alphabetChecksUptoRow.holds Try.pinned (OpenSpec.upto alphabetChecksSpec)

/-- 'overseerlaw01.AlphabetSets', WHERE WHAT IT READS IS OF BULK AT MOST 1048576: true; the input reads as it did. -/
def alphabetSetsUptoRow : OpenClaim := { program := "ytdhkmgnhbllbfaa", sum := "8f45a362ba8a047cb43d88023259c06694dca641ca817ef29df8b47551148147", func := "overseer/overseerlaw01.AlphabetSets", spec := "alphabetSets", unfollowed := true, recurses := true, apart := false, narrowed := true }
def AlphabetSetsUptoSaid : Prop := alphabetSetsUptoRow.holds Try.pinned (OpenSpec.upto alphabetSetsSpec)

/-- 'overseerlaw01.AlphabetSelects', WHERE WHAT IT READS IS OF BULK AT MOST 1048576: true; the input reads as it did. -/
def alphabetSelectsUptoRow : OpenClaim := { program := "ytdhkmgnhbllbfaa", sum := "8f45a362ba8a047cb43d88023259c06694dca641ca817ef29df8b47551148147", func := "overseer/overseerlaw01.AlphabetSelects", spec := "alphabetSelects", unfollowed := true, recurses := true, apart := false, narrowed := true }
def AlphabetSelectsUptoSaid : Prop := alphabetSelectsUptoRow.holds Try.pinned (OpenSpec.upto alphabetSelectsSpec)

/-- 'overseerlaw01.AlphabetFaults', WHERE WHAT IT READS IS OF BULK AT MOST 1048576: true; the input reads as it did. -/
def alphabetFaultsUptoRow : OpenClaim := { program := "ytdhkmgnhbllbfaa", sum := "8f45a362ba8a047cb43d88023259c06694dca641ca817ef29df8b47551148147", func := "overseer/overseerlaw01.AlphabetFaults", spec := "alphabetFaults", unfollowed := true, recurses := true, apart := false, narrowed := true }
def AlphabetFaultsUptoSaid : Prop := alphabetFaultsUptoRow.holds Try.pinned (OpenSpec.upto alphabetFaultsSpec)

/-- 'overseerlaw01.AlphabetMasks', WHERE WHAT IT READS IS OF BULK AT MOST 1048576: true; the input reads as it did. -/
def alphabetMasksUptoRow : OpenClaim := { program := "ytdhkmgnhbllbfaa", sum := "8f45a362ba8a047cb43d88023259c06694dca641ca817ef29df8b47551148147", func := "overseer/overseerlaw01.AlphabetMasks", spec := "alphabetMasks", unfollowed := true, recurses := true, apart := false, narrowed := true }
def AlphabetMasksUptoSaid : Prop := alphabetMasksUptoRow.holds Try.pinned (OpenSpec.upto alphabetMasksSpec)

/-- 'overseerlaw01.AlphabetListed', WHERE WHAT IT READS IS OF BULK AT MOST 1048576: true; the input reads as it did. -/
def alphabetListedUptoRow : OpenClaim := { program := "ytdhkmgnhbllbfaa", sum := "8f45a362ba8a047cb43d88023259c06694dca641ca817ef29df8b47551148147", func := "overseer/overseerlaw01.AlphabetListed", spec := "alphabetListed", unfollowed := true, recurses := true, apart := false, narrowed := true }
def AlphabetListedUptoSaid : Prop := alphabetListedUptoRow.holds Try.pinned (OpenSpec.upto alphabetListedSpec)

/-- 'overseerlaw01.AlphabetParts', WHERE WHAT IT READS IS OF BULK AT MOST 1048576: true; the input reads as it did. -/
def alphabetPartsUptoRow : OpenClaim := { program := "ytdhkmgnhbllbfaa", sum := "8f45a362ba8a047cb43d88023259c06694dca641ca817ef29df8b47551148147", func := "overseer/overseerlaw01.AlphabetParts", spec := "alphabetParts", unfollowed := true, recurses := true, apart := false, narrowed := true }
def AlphabetPartsUptoSaid : Prop := alphabetPartsUptoRow.holds Try.pinned (OpenSpec.upto alphabetPartsSpec)

/-- 'overseerlaw01.AlphabetLaws', WHERE WHAT IT READS IS OF BULK AT MOST 1048576: true; the input reads as it did. -/
def alphabetLawsUptoRow : OpenClaim := { program := "ytdhkmgnhbllbfaa", sum := "8f45a362ba8a047cb43d88023259c06694dca641ca817ef29df8b47551148147", func := "overseer/overseerlaw01.AlphabetLaws", spec := "alphabetLaws", unfollowed := true, recurses := true, apart := false, narrowed := true }
def AlphabetLawsUptoSaid : Prop := alphabetLawsUptoRow.holds Try.pinned (OpenSpec.upto alphabetLawsSpec)

/-- 'overseerlaw01.AlphabetFinds', WHERE WHAT IT READS IS OF BULK AT MOST 1048576: true; the input reads as it did. -/
def alphabetFindsUptoRow : OpenClaim := { program := "ytdhkmgnhbllbfaa", sum := "8f45a362ba8a047cb43d88023259c06694dca641ca817ef29df8b47551148147", func := "overseer/overseerlaw01.AlphabetFinds", spec := "alphabetFinds", unfollowed := true, recurses := true, apart := false, narrowed := true }
def AlphabetFindsUptoSaid : Prop := alphabetFindsUptoRow.holds Try.pinned (OpenSpec.upto alphabetFindsSpec)

/-- 'overseerlaw01.AlphabetCombines', WHERE WHAT IT READS IS OF BULK AT MOST 1048576: true; the input reads as it did. -/
def alphabetCombinesUptoRow : OpenClaim := { program := "ytdhkmgnhbllbfaa", sum := "8f45a362ba8a047cb43d88023259c06694dca641ca817ef29df8b47551148147", func := "overseer/overseerlaw01.AlphabetCombines", spec := "alphabetCombines", unfollowed := true, recurses := true, apart := false, narrowed := true }
def AlphabetCombinesUptoSaid : Prop := alphabetCombinesUptoRow.holds Try.pinned (OpenSpec.upto alphabetCombinesSpec)

end Rows
end Go.Proofs.Ytdhkmgnhbllbfaa
