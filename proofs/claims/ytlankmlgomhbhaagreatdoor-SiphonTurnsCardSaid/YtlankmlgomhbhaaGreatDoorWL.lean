/-
 Contracts: chapter 49's law: all sets of places, its minimal and greatest sets.
-/
import Derived.Test.YtlankmlgomhbhaaGreatDoorWK
set_option linter.unusedSimpArgs false
set_option linter.unusedVariables false
namespace Go.Proofs.YtlankmlgomhbhaaGreatDoor
open Go.Eng Go.RowKit
end Go.Proofs.YtlankmlgomhbhaaGreatDoor
