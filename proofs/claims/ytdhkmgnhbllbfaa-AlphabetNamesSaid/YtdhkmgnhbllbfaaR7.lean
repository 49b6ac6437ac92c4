/-
  The row: names.
-/
import Derived.Test.YtdhkmgnhbllbfaaL6
import Derived.Test.YtdhkmgnhbllbfaaR0
set_option linter.unusedSimpArgs false
set_option linter.unusedVariables false
namespace Go.Proofs.Ytdhkmgnhbllbfaa
open Go.Eng Go.RowKit Go.ChangeShapes
theorem op_u8 : OpArg Try.prog 5 (fun z => (Lit.int .u8 z).wf = true) (fun z => .one (.int .u8 z)) := arg_int Try.underlying5
theorem u8_range {z : Int} (h : (Lit.int .u8 z).wf = true) : 0 ≤ z ∧ z ≤ 255 := by
  simp only [Lit.wf, Bool.and_eq_true, decide_eq_true_eq] at h
  exact ⟨h.1, Int.le_trans h.2 (by decide)⟩
set_option maxRecDepth 100000 in
theorem AlphabetNames_lifted (os : Os) (started : os.Started) (H : Type) (enc : TypeId × Value → H) :
    ReturnsInHanded {} Try.checked os 3 .any (Rows.alphabetNamesSpec.pre6 enc Try.prog Try.f3 Rows.alphabetNamesRow.domain false) (Rows.alphabetNamesSpec.post enc Try.prog Try.f3 false true false false) :=
  law_lifted (C := Try.checked) (tb := 4) ownKnob_none started (by kernel_rfl) Try.func3 laidOut rfl (by kernel_rfl) (by kernel_rfl) Try.underlying4
    (fun ds h => by
      match ds, h with
      | [_, _, _], _ => rfl)
    (ChangeSpec.witness6 (enc := enc) (C := Try.checked) false ⟨#[], #[.string .empty, .int .u8 0, .int .u8 0], []⟩ 8 (by kernel_rfl) (by kernel_rfl) (by kernel_rfl) (by kernel_rfl))
    (HO_cons op_str fun s hs => HO_cons op_u8 fun f _ => HO_cons op_u8 fun m hm => HO_nil (AlphabetNames_c s f m (maxLen_eq ▸ hs) (u8_range hm)))
theorem AlphabetNames_holds : Rows.AlphabetNamesSaid :=
  OpenClaim.holds_of_wide 3 Try.f3 rfl rfl rfl rfl rfl rfl rfl ⟨rfl, rfl, rfl, rfl, rfl⟩ rfl rfl rfl rfl rfl (by kernel_rfl) Try.func3 (by kernel_rfl)
    (of_decide_eq_true (by kernel_rfl)) (by unfold Func.isWrapper; rw [if_neg (by decide +kernel)]; exact ⟨rfl, rfl⟩)
    (fun os started H enc _ => AlphabetNames_lifted os started H enc)
end Go.Proofs.Ytdhkmgnhbllbfaa
