/-
  The row: names of sets.
-/
import Derived.Test.YtdhkmgnhbllbfaaL5
import Derived.Test.YtdhkmgnhbllbfaaR0
set_option linter.unusedSimpArgs false
set_option linter.unusedVariables false
namespace Go.Proofs.Ytdhkmgnhbllbfaa
open Go.Eng Go.RowKit Go.ChangeShapes
set_option maxRecDepth 100000 in
theorem AlphabetListed_lifted (os : Os) (started : os.Started) (H : Type) (enc : TypeId × Value → H) :
    ReturnsInHanded {} Try.checked os 9 .any (Rows.alphabetListedSpec.pre6 enc Try.prog Try.f9 Rows.alphabetListedRow.domain false) (Rows.alphabetListedSpec.post enc Try.prog Try.f9 false true false false) :=
  law_lifted (C := Try.checked) (tb := 4) ownKnob_none started (by kernel_rfl) Try.func9 laidOut rfl (by kernel_rfl) (by kernel_rfl) Try.underlying4
    (fun ds h => by
      match ds, h with
      | [_, _], _ => rfl)
    (ChangeSpec.witness6 (enc := enc) (C := Try.checked) false ⟨#[], #[.slice none 0 0, .slice none 0 0], []⟩ 8 (by kernel_rfl) (by kernel_rfl) (by kernel_rfl) (by kernel_rfl))
    (HO_cons op_evs fun l hl => HO_cons op_ints fun xs hx => HO_nil (AlphabetListed_c l xs (maxLen_eq ▸ hl.1) (maxLen_eq ▸ hx.1)))
theorem AlphabetListed_holds : Rows.AlphabetListedSaid :=
  OpenClaim.holds_of_wide 9 Try.f9 rfl rfl rfl rfl rfl rfl rfl ⟨rfl, rfl, rfl, rfl, rfl⟩ rfl rfl rfl rfl rfl (by kernel_rfl) Try.func9 (by kernel_rfl)
    (of_decide_eq_true (by kernel_rfl)) (by unfold Func.isWrapper; rw [if_neg (by decide +kernel)]; exact ⟨rfl, rfl⟩)
    (fun os started H enc _ => AlphabetListed_lifted os started H enc)
end Go.Proofs.Ytdhkmgnhbllbfaa
