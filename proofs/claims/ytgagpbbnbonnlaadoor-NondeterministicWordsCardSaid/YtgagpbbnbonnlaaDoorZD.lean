/-
 Chapter 05: the reference's Check; Equal of both; Clone of edges.
-/
import Derived.Test.YtgagpbbnbonnlaaDoorZA
set_option linter.unusedSimpArgs false
set_option linter.unusedVariables false
namespace Go.Proofs.YtgagpbbnbonnlaaDoor
open Go.Eng Go.RowKit
end Go.Proofs.YtgagpbbnbonnlaaDoor
