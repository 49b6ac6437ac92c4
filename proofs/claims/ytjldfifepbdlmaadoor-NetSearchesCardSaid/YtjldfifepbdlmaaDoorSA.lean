/-
 Contracts: Reverse of a net.
-/
import Derived.Test.YtjldfifepbdlmaaDoorS9
set_option linter.unusedSimpArgs false
set_option linter.unusedVariables false
namespace Go.Proofs.YtjldfifepbdlmaaDoor
open Go.Eng Go.RowKit
end Go.Proofs.YtjldfifepbdlmaaDoor
