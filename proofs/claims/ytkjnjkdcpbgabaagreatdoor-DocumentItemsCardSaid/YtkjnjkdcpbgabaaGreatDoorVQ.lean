/-
 Chapter 23: the laws' arguments.
-/
import Derived.Test.YtkjnjkdcpbgabaaGreatDoorUY
import Derived.Test.YtkjnjkdcpbgabaaGreatDoorLift4
set_option linter.unusedSimpArgs false
set_option linter.unusedVariables false
namespace Go.Proofs.YtkjnjkdcpbgabaaGreatDoor
open Go.Eng Go.RowKit Go.ChangeShapes
set_option maxRecDepth 100000 in
theorem opens_ed : Opens Tryz.prog 115 (fun _ : Ed => True) Ed.d :=
 (opens_struct Tryz.underlying115 (opensF_cons rfl (opens_int Tryz.underlying3) (opensF_cons (by kernel_rfl) (opens_int Tryz.underlying3) (opensF_cons (by kernel_rfl) (opens_int Tryz.underlying3) opensF_nil)))).map (fun x => ⟨x.1, x.2.1, x.2.2.1⟩) (fun _ _ => trivial) (fun _ => rfl)
set_option maxRecDepth 100000 in
theorem opens_au : Opens Tryz.prog 26 (fun _ : AU => True) AU.d :=
 (opens_struct Tryz.underlying26 (opensF_cons rfl (opens_slice Tryz.underlying23 (of_decide_eq_true (by kernel_rfl)) (opens_int Tryz.underlying3)) (opensF_cons (by kernel_rfl) (opens_int Tryz.underlying3)
  (opensF_cons (by kernel_rfl) (opens_slice Tryz.underlying23 (of_decide_eq_true (by kernel_rfl)) (opens_int Tryz.underlying3))
   (opensF_cons (by kernel_rfl) (opens_slice Tryz.underlying24 (of_decide_eq_true (by kernel_rfl)) opens_ed) opensF_nil))))).map
  (fun x => ⟨x.1, x.2.1, x.2.2.1, x.2.2.2.1⟩) (fun _ _ => trivial) (fun _ => rfl)
structure ItOk (x : It) : Prop where
 locs : ∀ y ∈ x.locs, I64 y.val
 terms : ∀ y ∈ x.terms, I64 y.val
 bound : I64 x.bound
end Go.Proofs.YtkjnjkdcpbgabaaGreatDoor
