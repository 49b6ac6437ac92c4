/-
 Chapter 05, plain: edges put in order, each once.
-/
import Derived.Test.YtgagpbbnbonnlaaDoorYH
set_option linter.unusedSimpArgs false
set_option linter.unusedVariables false
namespace Go.Proofs.YtgagpbbnbonnlaaDoor
end Go.Proofs.YtgagpbbnbonnlaaDoor
