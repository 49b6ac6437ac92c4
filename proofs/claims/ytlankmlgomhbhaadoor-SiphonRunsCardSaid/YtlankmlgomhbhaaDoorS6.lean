/-
 Contracts: comparing lists and lists of lists; the nets of the first example.
-/
import Derived.Test.YtlankmlgomhbhaaDoorS4
set_option linter.unusedSimpArgs false
set_option linter.unusedVariables false
namespace Go.Proofs.YtlankmlgomhbhaaDoor
open Go.Eng Go.RowKit
end Go.Proofs.YtlankmlgomhbhaaDoor
