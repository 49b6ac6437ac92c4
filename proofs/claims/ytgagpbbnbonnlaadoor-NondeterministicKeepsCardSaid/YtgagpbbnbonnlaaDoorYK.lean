/-
 Chapter 05, plain: two automata side by side generate and accept what one of both does.
-/
import Derived.Test.YtgagpbbnbonnlaaDoorYJ
set_option linter.unusedSimpArgs false
set_option linter.unusedVariables false
namespace Go.Proofs.YtgagpbbnbonnlaaDoor
section
variable {a b : NA} {al : List Int} {sil : Int}
end
end Go.Proofs.YtgagpbbnbonnlaaDoor
