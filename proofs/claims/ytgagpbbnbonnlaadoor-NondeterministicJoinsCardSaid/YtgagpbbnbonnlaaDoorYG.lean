/-
 Chapter 05, plain: the automaton that guesses and counts: how many sets it has.
-/
import Derived.Test.YtgagpbbnbonnlaaDoorYF
set_option linter.unusedSimpArgs false
set_option linter.unusedVariables false
namespace Go.Proofs.YtgagpbbnbonnlaaDoor
/-! the search of sets within a class of sets -/
/-! the class: the sets below k + 2 with 0 -/
/-! the automaton: its edges, its steps -/
end Go.Proofs.YtgagpbbnbonnlaaDoor
