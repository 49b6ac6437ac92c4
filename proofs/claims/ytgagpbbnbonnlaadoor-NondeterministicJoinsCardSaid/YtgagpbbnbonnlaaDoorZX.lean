/-
 Chapter 05: the reference: by, Closure, Step, After, Word, find.
-/
import Derived.Test.YtgagpbbnbonnlaaDoorZE
import Derived.Test.YtgagpbbnbonnlaaDoorZD
set_option linter.unusedSimpArgs false
set_option linter.unusedVariables false
namespace Go.Proofs.YtgagpbbnbonnlaaDoor
open Go.Eng Go.RowKit
end Go.Proofs.YtgagpbbnbonnlaaDoor
