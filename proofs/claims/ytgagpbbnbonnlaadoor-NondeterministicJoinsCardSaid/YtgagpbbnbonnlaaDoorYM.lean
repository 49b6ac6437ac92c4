/-
 Chapter 05, plain: the automaton that guesses and counts is right; its sets (law NondeterministicLimits).
-/
import Derived.Test.YtgagpbbnbonnlaaDoorYL
set_option linter.unusedSimpArgs false
set_option linter.unusedVariables false
namespace Go.Proofs.YtgagpbbnbonnlaaDoor
open Go.Eng Go.RowKit
end Go.Proofs.YtgagpbbnbonnlaaDoor
