/-
 Contracts: Run with a list that is the caller's own.
-/
import Derived.Test.YtjldfifepbdlmaaDoorSE
import Derived.Test.YtjldfifepbdlmaaDoorSM
set_option linter.unusedSimpArgs false
set_option linter.unusedVariables false
namespace Go.Proofs.YtjldfifepbdlmaaDoor
open Go.Eng Go.RowKit
end Go.Proofs.YtjldfifepbdlmaaDoor
