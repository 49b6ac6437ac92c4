/-
  The row: masks.
-/
import Derived.Test.YtdhkmgnhbllbfaaL4
import Derived.Test.YtdhkmgnhbllbfaaR0
set_option linter.unusedSimpArgs false
set_option linter.unusedVariables false
namespace Go.Proofs.Ytdhkmgnhbllbfaa
open Go.Eng Go.RowKit Go.ChangeShapes
set_option maxRecDepth 100000 in
theorem AlphabetMasks_lifted (os : Os) (started : os.Started) (H : Type) (enc : TypeId × Value → H) :
    ReturnsInHanded {} Try.checked os 8 .any (Rows.alphabetMasksSpec.pre6 enc Try.prog Try.f8 Rows.alphabetMasksRow.domain false) (Rows.alphabetMasksSpec.post enc Try.prog Try.f8 false true false false) :=
  law_lifted (C := Try.checked) (tb := 4) ownKnob_none started (by kernel_rfl) Try.func8 laidOut rfl (by kernel_rfl) (by kernel_rfl) Try.underlying4
    (fun ds h => by
      match ds, h with
      | [_, _], _ => rfl)
    (ChangeSpec.witness6 (enc := enc) (C := Try.checked) false ⟨#[], #[.slice none 0 0, .int .u32 0], []⟩ 8 (by kernel_rfl) (by kernel_rfl) (by kernel_rfl) (by kernel_rfl))
    (HO_cons op_ints fun xs hx => HO_cons op_u32 fun n hn => HO_nil (AlphabetMasks_c xs n (maxLen_eq ▸ hx.1) hn))
theorem AlphabetMasks_holds : Rows.AlphabetMasksSaid :=
  OpenClaim.holds_of_wide 8 Try.f8 rfl rfl rfl rfl rfl rfl rfl ⟨rfl, rfl, rfl, rfl, rfl⟩ rfl rfl rfl rfl rfl (by kernel_rfl) Try.func8 (by kernel_rfl)
    (of_decide_eq_true (by kernel_rfl)) (by unfold Func.isWrapper; rw [if_neg (by decide +kernel)]; exact ⟨rfl, rfl⟩)
    (fun os started H enc _ => AlphabetMasks_lifted os started H enc)
end Go.Proofs.Ytdhkmgnhbllbfaa
