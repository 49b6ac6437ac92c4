/-
 Contracts: Run.
-/
import Derived.Test.YtjldfifepbdlmaaDoorSB
set_option linter.unusedSimpArgs false
set_option linter.unusedVariables false
namespace Go.Proofs.YtjldfifepbdlmaaDoor
open Go.Eng Go.RowKit
theorem any_tokF {l : List Int} (h : l.any tokB = false) : ∀ x ∈ l, 0 ≤ x ∧ x ≤ 65536 := fun x hx => by
 rw [List.any_eq_false] at h
 have := h x hx
 simp only [tokB, Bool.or_eq_true, decide_eq_true_eq] at this
 omega
end Go.Proofs.YtjldfifepbdlmaaDoor
