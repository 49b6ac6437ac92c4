/-
  The row: keeps.
-/
import Derived.Test.YtehhccdkdcgmkaaNK
import Derived.Test.YtehhccdkdcgmkaaNR0
set_option linter.unusedSimpArgs false
set_option linter.unusedVariables false
namespace Go.Proofs.Ytehhccdkdcgmkaa
open Go.Eng Go.RowKit Go.ChangeShapes
set_option maxRecDepth 100000 in
theorem op_u8s : OpArg Try.prog 59 (fun xs : List Int => xs.length ≤ maxLen ∧ ∀ a ∈ xs, (Lit.int .u8 a).wf = true) (fun xs => .one (.list (u8s xs))) := arg_slice Try.underlying59 (of_decide_eq_true (by kernel_rfl)) (opens_int Try.underlying5)
set_option maxRecDepth 100000 in
theorem MonitorKeeps_lifted (os : Os) (started : os.Started) (H : Type) (enc : TypeId × Value → H) :
    ReturnsInHanded {} Try.checked os 6 .any (Rows.monitorKeepsSpec.pre6 enc Try.prog Try.f6 Rows.monitorKeepsRow.domain false) (Rows.monitorKeepsSpec.post enc Try.prog Try.f6 false true false false) :=
  law_lifted (C := Try.checked) (tb := 4) ownKnob_none started (by kernel_rfl) Try.func6 laidOut rfl (by kernel_rfl) (by kernel_rfl) Try.underlying4
    (fun ds h => by
      match ds, h with
      | [_, _, _], _ => rfl)
    (ChangeSpec.witness6 (enc := enc) (C := Try.checked) false ⟨#[], #[.agg (.replicate 37 (.int .u8 0)), .agg (.replicate 6 (.int .i8 0)), .slice none 0 0], []⟩ 8 (by kernel_rfl) (by kernel_rfl) (by kernel_rfl) (by kernel_rfl))
    (HO_cons op_shape fun s hs => HO_cons op_f6 fun f _ => HO_cons op_u8s fun l hl => HO_nil (Keeps_c s hs f l (fun x hx => u8_range (hl.2 x hx)) (maxLen_eq ▸ hl.1)))
theorem MonitorKeeps_holds : Rows.MonitorKeepsSaid :=
  OpenClaim.holds_of_wide 6 Try.f6 rfl rfl rfl rfl rfl rfl rfl ⟨rfl, rfl, rfl, rfl, rfl⟩ rfl rfl rfl rfl rfl (by kernel_rfl) Try.func6 (by kernel_rfl)
    (of_decide_eq_true (by kernel_rfl)) (by unfold Func.isWrapper; rw [if_neg (by decide +kernel)]; exact ⟨rfl, rfl⟩)
    (fun os started H enc _ => MonitorKeeps_lifted os started H enc)
end Go.Proofs.Ytehhccdkdcgmkaa
