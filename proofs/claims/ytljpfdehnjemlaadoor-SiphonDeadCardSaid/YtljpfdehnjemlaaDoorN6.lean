/-
 Contracts: nets with a control place.
-/
import Derived.Test.YtljpfdehnjemlaaDoorN5
set_option linter.unusedSimpArgs false
set_option linter.unusedVariables false
namespace Go.Proofs.YtljpfdehnjemlaaDoor
open Go.Eng Go.RowKit
def Net.zero : Net := ⟨[], []⟩
end Go.Proofs.YtljpfdehnjemlaaDoor
