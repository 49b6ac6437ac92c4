/-
 Contracts: Reverse of a net.
-/
import Derived.Test.YtlankmlgomhbhaaGreatDoorS8
set_option linter.unusedSimpArgs false
set_option linter.unusedVariables false
namespace Go.Proofs.YtlankmlgomhbhaaGreatDoor
open Go.Eng Go.RowKit
end Go.Proofs.YtlankmlgomhbhaaGreatDoor
