/-
 Chapter 23: the laws' arguments.
-/
import Derived.Test.YtkjnjkdcpbgabaaGreatDoorUY
import Derived.Test.YtkjnjkdcpbgabaaGreatDoorLift4
set_option linter.unusedSimpArgs false
set_option linter.unusedVariables false
namespace Go.Proofs.YtkjnjkdcpbgabaaGreatDoor
open Go.Eng Go.RowKit Go.ChangeShapes
theorem i64_range {z : Int} (h : (Lit.int .i64 z).wf = true) : I64 z := by
 simp only [Lit.wf, Bool.and_eq_true, decide_eq_true_eq] at h
 exact ⟨Int.le_trans (by decide) h.1, Int.le_trans h.2 (by decide)⟩
set_option maxRecDepth 100000 in
theorem opens_ed : Opens Tryz.prog 115 (fun _ : Ed => True) Ed.d :=
 (opens_struct Tryz.underlying115 (opensF_cons rfl (opens_int Tryz.underlying3) (opensF_cons (by kernel_rfl) (opens_int Tryz.underlying3) (opensF_cons (by kernel_rfl) (opens_int Tryz.underlying3) opensF_nil)))).map (fun x => ⟨x.1, x.2.1, x.2.2.1⟩) (fun _ _ => trivial) (fun _ => rfl)
set_option maxRecDepth 100000 in
theorem opens_au : Opens Tryz.prog 26 (fun _ : AU => True) AU.d :=
 (opens_struct Tryz.underlying26 (opensF_cons rfl (opens_slice Tryz.underlying23 (of_decide_eq_true (by kernel_rfl)) (opens_int Tryz.underlying3)) (opensF_cons (by kernel_rfl) (opens_int Tryz.underlying3)
  (opensF_cons (by kernel_rfl) (opens_slice Tryz.underlying23 (of_decide_eq_true (by kernel_rfl)) (opens_int Tryz.underlying3))
   (opensF_cons (by kernel_rfl) (opens_slice Tryz.underlying24 (of_decide_eq_true (by kernel_rfl)) opens_ed) opensF_nil))))).map
  (fun x => ⟨x.1, x.2.1, x.2.2.1, x.2.2.2.1⟩) (fun _ _ => trivial) (fun _ => rfl)
set_option maxRecDepth 100000 in
theorem opens_loc : Opens Tryz.prog 60 (fun y : Lt => I64 y.val) Lt.d :=
 (opens_struct Tryz.underlying60 (opensF_cons rfl (opens_str Tryz.underlying9) (opensF_cons (by kernel_rfl) (opens_int Tryz.underlying3) opensF_nil))).map (fun x => ⟨x.1, x.2.1⟩) (fun _ h => i64_range h.2.1) (fun _ => rfl)
set_option maxRecDepth 100000 in
theorem opens_term : Opens Tryz.prog 62 (fun y : Lt => I64 y.val) Lt.d :=
 (opens_struct Tryz.underlying62 (opensF_cons rfl (opens_str Tryz.underlying9) (opensF_cons (by kernel_rfl) (opens_int Tryz.underlying3) opensF_nil))).map (fun x => ⟨x.1, x.2.1⟩) (fun _ h => i64_range h.2.1) (fun _ => rfl)
structure ItOk (x : It) : Prop where
 locs : ∀ y ∈ x.locs, I64 y.val
 terms : ∀ y ∈ x.terms, I64 y.val
 bound : I64 x.bound
set_option maxRecDepth 100000 in
theorem opens_it : Opens Tryz.prog 30 ItOk It.d :=
 (opens_struct Tryz.underlying30 (opensF_cons rfl (opens_int Tryz.underlying3) (opensF_cons (by kernel_rfl) (opens_str Tryz.underlying9) (opensF_cons (by kernel_rfl) opens_au
  (opensF_cons (by kernel_rfl) (opens_slice Tryz.underlying27 (of_decide_eq_true (by kernel_rfl)) opens_loc) (opensF_cons (by kernel_rfl) (opens_slice Tryz.underlying28 (of_decide_eq_true (by kernel_rfl)) opens_term)
   (opensF_cons (by kernel_rfl) (opens_int Tryz.underlying3) opensF_nil))))))).map
  (fun x => ⟨x.1, x.2.1, x.2.2.1, x.2.2.2.1, x.2.2.2.2.1, x.2.2.2.2.2.1⟩) (fun _ h => ⟨h.2.2.2.1.2, h.2.2.2.2.1.2, i64_range h.2.2.2.2.2.1⟩) (fun _ => rfl)
theorem op_its : OpArg Tryz.prog 22 (fun l : List It => l.length ≤ maxLen ∧ ∀ x ∈ l, ItOk x) (fun l => .one (.list (itD l))) := arg_slice Tryz.underlying22 (of_decide_eq_true (by kernel_rfl)) opens_it
end Go.Proofs.YtkjnjkdcpbgabaaGreatDoor
