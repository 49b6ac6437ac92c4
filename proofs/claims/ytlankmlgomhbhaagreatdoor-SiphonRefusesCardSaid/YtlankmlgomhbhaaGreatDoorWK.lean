/-
 Contracts: chapter 49's law: its own sets, kinds, minimal and greatest sets.
-/
import Derived.Test.YtlankmlgomhbhaaGreatDoorWJ
import Derived.Test.YtlankmlgomhbhaaGreatDoorN3
set_option linter.unusedSimpArgs false
set_option linter.unusedVariables false
namespace Go.Proofs.YtlankmlgomhbhaaGreatDoor
open Go.Eng Go.RowKit
end Go.Proofs.YtlankmlgomhbhaaGreatDoor
