/-
  The row: transforms.
-/
import Derived.Test.YtehhccdkdcgmkaaNT
import Derived.Test.YtehhccdkdcgmkaaNR0
set_option linter.unusedSimpArgs false
set_option linter.unusedVariables false
namespace Go.Proofs.Ytehhccdkdcgmkaa
open Go.Eng Go.RowKit Go.ChangeShapes
set_option maxRecDepth 100000 in
theorem MonitorTransforms_lifted (os : Os) (started : os.Started) (H : Type) (enc : TypeId × Value → H) :
    ReturnsInHanded {} Try.checked os 3 .any (Rows.monitorTransformsSpec.pre6 enc Try.prog Try.f3 Rows.monitorTransformsRow.domain false) (Rows.monitorTransformsSpec.post enc Try.prog Try.f3 false true false false) :=
  law_lifted (C := Try.checked) (tb := 4) ownKnob_none started (by kernel_rfl) Try.func3 laidOut rfl (by kernel_rfl) (by kernel_rfl) Try.underlying4
    (fun ds h => by
      match ds, h with
      | [_, _, _], _ => rfl)
    (ChangeSpec.witness6 (enc := enc) (C := Try.checked) false ⟨#[], #[.agg (.replicate 37 (.int .u8 0)), .agg (.replicate 6 (.int .i8 0)), .slice none 0 0], []⟩ 8 (by kernel_rfl) (by kernel_rfl) (by kernel_rfl) (by kernel_rfl))
    (HO_cons op_shape fun s hs => HO_cons op_f6 fun f _ => HO_cons op_ints fun u hu => HO_nil (Transforms_c s hs f u (maxLen_eq ▸ hu.1)))
theorem MonitorTransforms_holds : Rows.MonitorTransformsSaid :=
  OpenClaim.holds_of_wide 3 Try.f3 rfl rfl rfl rfl rfl rfl rfl ⟨rfl, rfl, rfl, rfl, rfl⟩ rfl rfl rfl rfl rfl (by kernel_rfl) Try.func3 (by kernel_rfl)
    (of_decide_eq_true (by kernel_rfl)) (by unfold Func.isWrapper; rw [if_neg (by decide +kernel)]; exact ⟨rfl, rfl⟩)
    (fun os started H enc _ => MonitorTransforms_lifted os started H enc)
end Go.Proofs.Ytehhccdkdcgmkaa
