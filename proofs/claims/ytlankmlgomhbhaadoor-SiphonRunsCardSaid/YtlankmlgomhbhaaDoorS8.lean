/-
 Contracts: Deadlock; what a search within the limit gives.
-/
import Derived.Test.YtlankmlgomhbhaaDoorS7
set_option linter.unusedSimpArgs false
set_option linter.unusedVariables false
namespace Go.Proofs.YtlankmlgomhbhaaDoor
open Go.Eng Go.RowKit
end Go.Proofs.YtlankmlgomhbhaaDoor
