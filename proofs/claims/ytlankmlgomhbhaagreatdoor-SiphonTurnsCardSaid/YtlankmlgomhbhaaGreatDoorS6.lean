/-
 Contracts: comparing lists and lists of lists; the nets of the first example.
-/
import Derived.Test.YtlankmlgomhbhaaGreatDoorS4
set_option linter.unusedSimpArgs false
set_option linter.unusedVariables false
namespace Go.Proofs.YtlankmlgomhbhaaGreatDoor
open Go.Eng Go.RowKit
end Go.Proofs.YtlankmlgomhbhaaGreatDoor
