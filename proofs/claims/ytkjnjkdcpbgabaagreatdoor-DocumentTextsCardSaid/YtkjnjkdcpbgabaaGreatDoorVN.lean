/-
 Chapter 23: cells and events as arguments.
-/
import Derived.Test.YtkjnjkdcpbgabaaGreatDoorVQ
set_option linter.unusedSimpArgs false
set_option linter.unusedVariables false
namespace Go.Proofs.YtkjnjkdcpbgabaaGreatDoor
open Go.Eng Go.RowKit Go.ChangeShapes
set_option maxRecDepth 100000 in
theorem opens_ev : Opens Tryz.prog 66 (fun _ : Ev => True) Ev.d :=
 (opens_struct Tryz.underlying66 (opensF_cons rfl (opens_str Tryz.underlying9) (opensF_cons (by kernel_rfl) (opens_bool Tryz.underlying4) (opensF_cons (by kernel_rfl) (opens_bool Tryz.underlying4) (opensF_cons (by kernel_rfl) (opens_bool Tryz.underlying4) (opensF_cons (by kernel_rfl) (opens_int Tryz.underlying3) opensF_nil)))))).map
  (fun x => ⟨x.1, x.2.1, x.2.2.1, x.2.2.2.1, x.2.2.2.2.1⟩) (fun _ _ => trivial) (fun _ => rfl)
theorem op_evs : OpArg Tryz.prog 47 (fun xs : List Ev => xs.length ≤ maxLen ∧ ∀ a ∈ xs, True) (fun xs => .one (.list (evs xs))) := arg_slice Tryz.underlying47 (of_decide_eq_true (by kernel_rfl)) opens_ev
end Go.Proofs.YtkjnjkdcpbgabaaGreatDoor
