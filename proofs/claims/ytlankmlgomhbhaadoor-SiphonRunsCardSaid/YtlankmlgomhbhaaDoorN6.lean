/-
 Contracts: nets with a control place.
-/
import Derived.Test.YtlankmlgomhbhaaDoorN5
set_option linter.unusedSimpArgs false
set_option linter.unusedVariables false
namespace Go.Proofs.YtlankmlgomhbhaaDoor
open Go.Eng Go.RowKit
def Net.zero : Net := ⟨[], []⟩
end Go.Proofs.YtlankmlgomhbhaaDoor
