/-
 Chapter 05: the reference's Determinize.
-/
import Derived.Test.YtgagpbbnbonnlaaDoorZX
import Derived.Test.YtgagpbbnbonnlaaDoorZP
set_option linter.unusedSimpArgs false
set_option linter.unusedVariables false
namespace Go.Proofs.YtgagpbbnbonnlaaDoor
open Go.Eng Go.RowKit
end Go.Proofs.YtgagpbbnbonnlaaDoor
