/-
  The row: parts of an alphabet.
-/
import Derived.Test.YtdhkmgnhbllbfaaL10
import Derived.Test.YtdhkmgnhbllbfaaR0
set_option linter.unusedSimpArgs false
set_option linter.unusedVariables false
namespace Go.Proofs.Ytdhkmgnhbllbfaa
open Go.Eng Go.RowKit Go.ChangeShapes
set_option maxRecDepth 100000 in
theorem AlphabetParts_lifted (os : Os) (started : os.Started) (H : Type) (enc : TypeId × Value → H) :
    ReturnsInHanded {} Try.checked os 10 .any (Rows.alphabetPartsSpec.pre6 enc Try.prog Try.f10 Rows.alphabetPartsRow.domain false) (Rows.alphabetPartsSpec.post enc Try.prog Try.f10 false true false false) :=
  law_lifted (C := Try.checked) (tb := 4) ownKnob_none started (by kernel_rfl) Try.func10 laidOut rfl (by kernel_rfl) (by kernel_rfl) Try.underlying4
    (fun ds h => by
      match ds, h with
      | [_], _ => rfl)
    (ChangeSpec.witness6 (enc := enc) (C := Try.checked) false ⟨#[], #[.slice none 0 0], []⟩ 8 (by kernel_rfl) (by kernel_rfl) (by kernel_rfl) (by kernel_rfl))
    (HO_cons op_evs fun l hx => HO_nil (AlphabetParts_c l (maxLen_eq ▸ hx.1)))
theorem AlphabetParts_holds : Rows.AlphabetPartsSaid :=
  OpenClaim.holds_of_wide 10 Try.f10 rfl rfl rfl rfl rfl rfl rfl ⟨rfl, rfl, rfl, rfl, rfl⟩ rfl rfl rfl rfl rfl (by kernel_rfl) Try.func10 (by kernel_rfl)
    (of_decide_eq_true (by kernel_rfl)) (by unfold Func.isWrapper; rw [if_neg (by decide +kernel)]; exact ⟨rfl, rfl⟩)
    (fun os started H enc _ => AlphabetParts_lifted os started H enc)
end Go.Proofs.Ytdhkmgnhbllbfaa
