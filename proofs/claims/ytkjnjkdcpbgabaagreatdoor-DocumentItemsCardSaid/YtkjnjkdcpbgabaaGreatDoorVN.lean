/-
 Chapter 23: cells and events as arguments.
-/
import Derived.Test.YtkjnjkdcpbgabaaGreatDoorVQ
set_option linter.unusedSimpArgs false
set_option linter.unusedVariables false
namespace Go.Proofs.YtkjnjkdcpbgabaaGreatDoor
open Go.Eng Go.RowKit Go.ChangeShapes
set_option maxRecDepth 100000 in
theorem opens_ev : Opens Tryz.prog 66 (fun _ : Ev => True) Ev.d :=
 (opens_struct Tryz.underlying66 (opensF_cons rfl (opens_str Tryz.underlying9) (opensF_cons (by kernel_rfl) (opens_bool Tryz.underlying4) (opensF_cons (by kernel_rfl) (opens_bool Tryz.underlying4) (opensF_cons (by kernel_rfl) (opens_bool Tryz.underlying4) (opensF_cons (by kernel_rfl) (opens_int Tryz.underlying3) opensF_nil)))))).map
  (fun x => ⟨x.1, x.2.1, x.2.2.1, x.2.2.2.1, x.2.2.2.2.1⟩) (fun _ _ => trivial) (fun _ => rfl)
set_option maxRecDepth 100000 in
theorem opens_ni : Opens Tryz.prog 92 (fun _ : NI => True) NI.d :=
 (opens_struct Tryz.underlying92 (opensF_cons rfl (opens_str Tryz.underlying9) (opensF_cons (by kernel_rfl) opens_au opensF_nil))).map (fun x => ⟨x.1, x.2.1⟩) (fun _ _ => trivial) (fun _ => rfl)
set_option maxRecDepth 100000 in
theorem opens_prl : Opens Tryz.prog 104 (fun _ : Pr => True) Pr.d :=
 (opens_struct Tryz.underlying104 (opensF_cons rfl (opens_int Tryz.underlying3) (opensF_cons (by kernel_rfl) (opens_int Tryz.underlying3) opensF_nil))).map (fun x => ⟨x.1, x.2.1⟩) (fun _ _ => trivial) (fun _ => rfl)
set_option maxRecDepth 100000 in
theorem opens_prt : Opens Tryz.prog 106 (fun _ : Pr => True) Pr.d :=
 (opens_struct Tryz.underlying106 (opensF_cons rfl (opens_int Tryz.underlying3) (opensF_cons (by kernel_rfl) (opens_int Tryz.underlying3) opensF_nil))).map (fun x => ⟨x.1, x.2.1⟩) (fun _ _ => trivial) (fun _ => rfl)
set_option maxRecDepth 100000 in
theorem opens_ex : Opens Tryz.prog 95 (fun _ : Ex => True) Ex.d :=
 (opens_struct Tryz.underlying95 (opensF_cons rfl (opens_str Tryz.underlying9) (opensF_cons (by kernel_rfl) (opens_slice Tryz.underlying93 (of_decide_eq_true (by kernel_rfl)) opens_prl) opensF_nil))).map (fun x => ⟨x.1, x.2.1⟩) (fun _ _ => trivial) (fun _ => rfl)
set_option maxRecDepth 100000 in
theorem opens_cn : Opens Tryz.prog 98 (fun _ : Cn => True) Cn.d :=
 (opens_struct Tryz.underlying98 (opensF_cons rfl (opens_str Tryz.underlying9) (opensF_cons (by kernel_rfl) (opens_slice Tryz.underlying96 (of_decide_eq_true (by kernel_rfl)) opens_prt) (opensF_cons (by kernel_rfl) (opens_int Tryz.underlying3) opensF_nil)))).map (fun x => ⟨x.1, x.2.1, x.2.2.1⟩) (fun _ _ => trivial) (fun _ => rfl)
set_option maxRecDepth 100000 in
theorem op_cell : OpArg Tryz.prog 52 (fun _ : List Ev × CE => True) (fun x => .agg (cellD (evs x.1) x.2)) :=
 arg_struct Tryz.underlying52 ((opens_struct Tryz.underlying52 (opensF_cons rfl (opens_slice Tryz.underlying47 (of_decide_eq_true (by kernel_rfl)) opens_ev) (opensF_cons (by kernel_rfl) (opens_slice Tryz.underlying48 (of_decide_eq_true (by kernel_rfl)) opens_ni)
  (opensF_cons (by kernel_rfl) (opens_slice Tryz.underlying48 (of_decide_eq_true (by kernel_rfl)) opens_ni) (opensF_cons (by kernel_rfl) (opens_slice Tryz.underlying49 (of_decide_eq_true (by kernel_rfl)) opens_ex)
   (opensF_cons (by kernel_rfl) (opens_slice Tryz.underlying50 (of_decide_eq_true (by kernel_rfl)) opens_cn) opensF_nil)))))).map
  (fun x => (x.1, ⟨x.2.1, x.2.2.1, x.2.2.2.1, x.2.2.2.2.1⟩)) (fun _ _ => trivial) (fun _ => rfl))
def cellZ : Value := .agg #[.slice none 0 0, .slice none 0 0, .slice none 0 0, .slice none 0 0, .slice none 0 0]
end Go.Proofs.YtkjnjkdcpbgabaaGreatDoor
