/-
 Chapter 23: the laws DocumentApplies, DocumentKeeps.
-/
import Derived.Test.YtkjnjkdcpbgabaaGreatDoorVA
import Derived.Test.YtkjnjkdcpbgabaaGreatDoorLift4
set_option linter.unusedSimpArgs false
set_option linter.unusedVariables false
namespace Go.Proofs.YtkjnjkdcpbgabaaGreatDoor
open Go.Eng Go.RowKit
theorem lawGo_fits : ∀ (es : List Edt) (l : List It), LFits l → (∀ e ∈ es, e.it.Fits) → LFits (lawGo l es).1 := by
 intro es
 induction es with
 | nil => intro l h _; exact h
 | cons x r ih =>
  intro l h hx
  have he : LFits [] := ⟨by decide, fun y hy => by simp at hy⟩
  rw [lawGo]
  split
  ·split
   ·exact he
   ·exact ih _ (dropL_fits h _ _) fun e he => hx e (List.mem_cons_of_mem _ he)
  ·split
   ·exact he
   ·split
    ·exact he
    ·exact ih _ (lawPut_fits h (hx x (List.mem_cons_self ..)) (by omega)) fun e he => hx e (List.mem_cons_of_mem _ he)
end Go.Proofs.YtkjnjkdcpbgabaaGreatDoor
