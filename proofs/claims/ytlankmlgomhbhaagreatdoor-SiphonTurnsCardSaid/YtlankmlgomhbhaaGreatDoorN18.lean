/-
 Contracts: Fire, Value; what firing does to sums and to bounds.
-/
import Derived.Test.YtlankmlgomhbhaaGreatDoorN17
set_option linter.unusedSimpArgs false
set_option linter.unusedVariables false
namespace Go.Proofs.YtlankmlgomhbhaaGreatDoor
open Go.Eng Go.RowKit
/-! what firing does -/
theorem set_getD' (l : List Int) (k p : Nat) (x : Int) (hk : k < l.length) : (l.set k x).getD p 0 = if k = p then x else l.getD p 0 := by
 by_cases h : k = p
 ·subst h; rw [if_pos rfl, set_getD l k x 0 hk]
 ·rw [if_neg h]; simp [List.getD, List.getElem?_set_ne h]
end Go.Proofs.YtlankmlgomhbhaaGreatDoor
