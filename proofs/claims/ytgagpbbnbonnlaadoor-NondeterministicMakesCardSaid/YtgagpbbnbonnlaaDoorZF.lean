/-
 Chapter 05: automaton.Check, From.
-/
import Derived.Test.YtgagpbbnbonnlaaDoorZK
set_option linter.unusedSimpArgs false
set_option linter.unusedVariables false
namespace Go.Proofs.YtgagpbbnbonnlaaDoor
open Go.Eng Go.RowKit
structure AU.Fits (a : AU) : Prop where
 alpha : a.alpha.length ≤ 1000
 marked : a.marked.length ≤ 1000
 edges : a.edges.length ≤ 1000
end Go.Proofs.YtgagpbbnbonnlaaDoor
