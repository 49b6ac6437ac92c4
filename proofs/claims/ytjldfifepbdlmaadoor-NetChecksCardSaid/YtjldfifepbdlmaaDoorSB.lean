/-
 Plain law: a net of a shape is a right one; more tokens enable more; the reversed net leads back.
-/
import Derived.Test.YtjldfifepbdlmaaDoorSA
set_option linter.unusedSimpArgs false
set_option linter.unusedVariables false
namespace Go.Proofs.YtjldfifepbdlmaaDoor
open Go.Eng Go.RowKit
theorem enB_mono {a b : List Int} {t : Tr} (h : ∀ p, a.getD p 0 ≤ b.getD p 0) (he : enB a t = true) : enB b t = true := by
 rw [enB, Bool.not_eq_true', List.any_eq_false] at he ⊢
 intro x hx
 have := he x hx
 have hp := h x.place.toNat
 simp only [lacksB, decide_eq_true_eq] at this ⊢
 omega
end Go.Proofs.YtjldfifepbdlmaaDoor
