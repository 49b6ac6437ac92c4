/-
 Contracts: Deadlock; what a search within the limit gives.
-/
import Derived.Test.YtlankmlgomhbhaaGreatDoorS7
set_option linter.unusedSimpArgs false
set_option linter.unusedVariables false
namespace Go.Proofs.YtlankmlgomhbhaaGreatDoor
open Go.Eng Go.RowKit
end Go.Proofs.YtlankmlgomhbhaaGreatDoor
