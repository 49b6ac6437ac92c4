/-
 Contracts: nets with a control place.
-/
import Derived.Test.YtjldfifepbdlmaaDoorN5
set_option linter.unusedSimpArgs false
set_option linter.unusedVariables false
namespace Go.Proofs.YtjldfifepbdlmaaDoor
open Go.Eng Go.RowKit
def Net.zero : Net := ⟨[], []⟩
end Go.Proofs.YtjldfifepbdlmaaDoor
