/-
 Chapter 05, plain: the deterministic automaton is right; it generates and accepts the same words.
-/
import Derived.Test.YtgagpbbnbonnlaaDoorYI
set_option linter.unusedSimpArgs false
set_option linter.unusedVariables false
namespace Go.Proofs.YtgagpbbnbonnlaaDoor
section
variable {st : List Int → Int → List Int} {mt : List Int → Bool} {al : List Int}
end
theorem met_iff {s m : List Int} : metL s m = true ↔ ∃ x ∈ s, x ∈ m := by simp [metL]
end Go.Proofs.YtgagpbbnbonnlaaDoor
