/-
 Chapter 05: the laws' arguments.
-/
import Derived.Test.YtgagpbbnbonnlaaDoorZM
import Derived.Test.YtgagpbbnbonnlaaDoorZK
import Derived.Test.YtgagpbbnbonnlaaDoorLift4
set_option linter.unusedSimpArgs false
set_option linter.unusedVariables false
namespace Go.Proofs.YtgagpbbnbonnlaaDoor
open Go.Eng Go.RowKit Go.ChangeShapes
theorem u8_range {z : Int} (h : (Lit.int .u8 z).wf = true) : 0 ≤ z ∧ z ≤ 255 := by
 simp only [Lit.wf, Bool.and_eq_true, decide_eq_true_eq] at h
 exact ⟨h.1, Int.le_trans h.2 (by decide)⟩
theorem op_u8 : OpArg Tryd.prog 5 (fun z : Int => (Lit.int .u8 z).wf = true) (fun z => .one (.int .u8 z)) := arg_int Tryd.underlying5
end Go.Proofs.YtgagpbbnbonnlaaDoor
