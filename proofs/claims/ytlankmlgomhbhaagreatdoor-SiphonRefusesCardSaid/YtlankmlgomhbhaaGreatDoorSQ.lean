/-
 The arguments of chapter 47's laws, opened.
-/
import Derived.Test.YtlankmlgomhbhaaGreatDoorN3
import Derived.Test.YtlankmlgomhbhaaGreatDoorLift4
set_option linter.unusedSimpArgs false
set_option linter.unusedVariables false
namespace Go.Proofs.YtlankmlgomhbhaaGreatDoor
open Go.Eng Go.RowKit Go.ChangeShapes
end Go.Proofs.YtlankmlgomhbhaaGreatDoor
