/-
 Contracts: Reverse of a net.
-/
import Derived.Test.YtlankmlgomhbhaaDoorS8
set_option linter.unusedSimpArgs false
set_option linter.unusedVariables false
namespace Go.Proofs.YtlankmlgomhbhaaDoor
open Go.Eng Go.RowKit
end Go.Proofs.YtlankmlgomhbhaaDoor
