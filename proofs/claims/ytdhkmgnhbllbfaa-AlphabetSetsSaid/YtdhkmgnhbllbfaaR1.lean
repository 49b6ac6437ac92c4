/-
  The rows: sets and checks.
-/
import Derived.Test.YtdhkmgnhbllbfaaL1
import Derived.Test.YtdhkmgnhbllbfaaLift
set_option linter.unusedSimpArgs false
set_option linter.unusedVariables false
namespace Go.Proofs.Ytdhkmgnhbllbfaa
open Go.Eng Go.RowKit Go.ChangeShapes
theorem ownKnob_none : ownKnob Try.prog.godebug = none := by kernel_rfl
theorem laidOut : laidOutB Try.prog = true := by kernel_rfl
theorem op_ints : OpArg Try.prog 30 (fun xs : List Int => xs.length ≤ maxLen ∧ ∀ a ∈ xs, (Lit.int .i64 a).wf = true) (fun xs => .one (.list (ints xs))) := arg_slice Try.underlying30 (of_decide_eq_true (by kernel_rfl)) (opens_int Try.underlying3)
theorem opens_ev : Opens Try.prog 47 (fun _ : Ev => True) Ev.d :=
  (opens_struct Try.underlying47 (opensF_cons rfl (opens_str Try.underlying9) (opensF_cons (by kernel_rfl) (opens_bool Try.underlying4) (opensF_cons (by kernel_rfl) (opens_bool Try.underlying4) (opensF_cons (by kernel_rfl) (opens_bool Try.underlying4) (opensF_cons (by kernel_rfl) (opens_int Try.underlying3) opensF_nil)))))).map
    (fun x => ⟨x.1, x.2.1, x.2.2.1, x.2.2.2.1, x.2.2.2.2.1⟩) (fun _ _ => trivial) (fun _ => rfl)
theorem op_evs : OpArg Try.prog 26 (fun xs : List Ev => xs.length ≤ maxLen ∧ ∀ a ∈ xs, True) (fun xs => .one (.list (evs xs))) := arg_slice Try.underlying26 (of_decide_eq_true (by kernel_rfl)) opens_ev
theorem maxLen_eq : maxLen = 9223372036854775807 := rfl
set_option maxRecDepth 100000 in
theorem AlphabetSets_lifted (os : Os) (started : os.Started) (H : Type) (enc : TypeId × Value → H) :
    ReturnsInHanded {} Try.checked os 5 .any (Rows.alphabetSetsSpec.pre6 enc Try.prog Try.f5 Rows.alphabetSetsRow.domain false) (Rows.alphabetSetsSpec.post enc Try.prog Try.f5 false true false false) :=
  law_lifted (C := Try.checked) (tb := 4) ownKnob_none started (by kernel_rfl) Try.func5 laidOut rfl (by kernel_rfl) (by kernel_rfl) Try.underlying4
    (fun ds h => by
      match ds, h with
      | [_, _], _ => rfl)
    (ChangeSpec.witness6 (enc := enc) (C := Try.checked) false ⟨#[], #[.slice none 0 0, .int .i64 0], []⟩ 8 (by kernel_rfl) (by kernel_rfl) (by kernel_rfl) (by kernel_rfl))
    (HO_cons op_ints fun xs hx => HO_cons (arg_int Try.underlying3) fun n _ => HO_nil (AlphabetSets_c xs n (maxLen_eq ▸ hx.1)))
theorem AlphabetSets_holds : Rows.AlphabetSetsSaid :=
  OpenClaim.holds_of_wide 5 Try.f5 rfl rfl rfl rfl rfl rfl rfl ⟨rfl, rfl, rfl, rfl, rfl⟩ rfl rfl rfl rfl rfl (by kernel_rfl) Try.func5 (by kernel_rfl)
    (of_decide_eq_true (by kernel_rfl)) (by unfold Func.isWrapper; rw [if_neg (by decide +kernel)]; exact ⟨rfl, rfl⟩)
    (fun os started H enc _ => AlphabetSets_lifted os started H enc)
end Go.Proofs.Ytdhkmgnhbllbfaa
