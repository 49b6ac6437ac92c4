/-
 Chapter 05: the laws' arguments.
-/
import Derived.Test.YtgagpbbnbonnlaaDoorZM
import Derived.Test.YtgagpbbnbonnlaaDoorZK
import Derived.Test.YtgagpbbnbonnlaaDoorLift4
set_option linter.unusedSimpArgs false
set_option linter.unusedVariables false
namespace Go.Proofs.YtgagpbbnbonnlaaDoor
open Go.Eng Go.RowKit Go.ChangeShapes
set_option maxRecDepth 100000 in
theorem opens_ed : Opens Tryd.prog 43 (fun _ : Ed => True) Ed.d :=
 (opens_struct Tryd.underlying43 (opensF_cons rfl (opens_int Tryd.underlying3) (opensF_cons (by kernel_rfl) (opens_int Tryd.underlying3) (opensF_cons (by kernel_rfl) (opens_int Tryd.underlying3) opensF_nil)))).map (fun x => ⟨x.1, x.2.1, x.2.2.1⟩) (fun _ _ => trivial) (fun _ => rfl)
set_option maxRecDepth 100000 in
theorem opens_na : Opens Tryd.prog 29 (fun _ : NA => True) NA.d :=
 (opens_struct Tryd.underlying29 (opensF_cons rfl (opens_slice Tryd.underlying26 (of_decide_eq_true (by kernel_rfl)) (opens_int Tryd.underlying3)) (opensF_cons (by kernel_rfl) (opens_int Tryd.underlying3)
  (opensF_cons (by kernel_rfl) (opens_slice Tryd.underlying26 (of_decide_eq_true (by kernel_rfl)) (opens_int Tryd.underlying3)) (opensF_cons (by kernel_rfl) (opens_slice Tryd.underlying26 (of_decide_eq_true (by kernel_rfl)) (opens_int Tryd.underlying3))
   (opensF_cons (by kernel_rfl) (opens_slice Tryd.underlying27 (of_decide_eq_true (by kernel_rfl)) opens_ed) opensF_nil)))))).map
  (fun x => ⟨x.1, x.2.1, x.2.2.1, x.2.2.2.1, x.2.2.2.2.1⟩) (fun _ _ => trivial) (fun _ => rfl)
theorem op_na : OpArg Tryd.prog 29 (fun _ : NA => True) (fun n => .agg n.d) := arg_struct Tryd.underlying29 opens_na
def naZ : Value := .agg #[.slice none 0 0, .int .i64 0, .slice none 0 0, .slice none 0 0, .slice none 0 0]
end Go.Proofs.YtgagpbbnbonnlaaDoor
