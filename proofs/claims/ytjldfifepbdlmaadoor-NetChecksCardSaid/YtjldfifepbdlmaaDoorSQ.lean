/-
 The arguments of chapter 47's laws, opened.
-/
import Derived.Test.YtjldfifepbdlmaaDoorN3
import Derived.Test.YtjldfifepbdlmaaDoorLift4
set_option linter.unusedSimpArgs false
set_option linter.unusedVariables false
namespace Go.Proofs.YtjldfifepbdlmaaDoor
open Go.Eng Go.RowKit Go.ChangeShapes
theorem op_ints : OpArg Tryd.prog 27 (fun xs : List Int => xs.length ≤ maxLen ∧ ∀ a ∈ xs, (Lit.int .i64 a).wf = true) (fun xs => .one (.list (ints xs))) := arg_slice Tryd.underlying27 (of_decide_eq_true (by kernel_rfl)) (opens_int Tryd.underlying3)
end Go.Proofs.YtjldfifepbdlmaaDoor
