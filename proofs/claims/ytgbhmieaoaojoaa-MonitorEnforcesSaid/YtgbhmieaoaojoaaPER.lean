/-
 The row: MonitorEnforces.
-/
import Derived.Test.YtgbhmieaoaojoaaPE
import Derived.Test.YtgbhmieaoaojoaaNR0
set_option linter.unusedSimpArgs false
set_option linter.unusedVariables false
namespace Go.Proofs.Ytgbhmieaoaojoaa
open Go.Eng Go.RowKit Go.ChangeShapes
theorem opens_f6 : Opens Try.prog 38 (fun _ : Nat → Int => True) sixD := by
 intro H enc W fuel cs x hx
 obtain ⟨l, ⟨h1, _⟩, hr⟩ := opens_array Try.underlying38 (by kernel_rfl) (opens_int Try.underlying37) H enc W fuel cs x hx
 change RepL W NoM (l.flatMap fun z => [D.int .i8 z]) cs at hr
 rw [six l h1] at hr
 exact ⟨fun i => l.getD i 0, trivial, hr⟩
theorem op_l6 : OpArg Try.prog 26 (fun xs : List (Nat → Int) => xs.length ≤ maxLen ∧ ∀ a ∈ xs, True) (fun xs => .one (.list (l6D xs))) := arg_slice Try.underlying26 (of_decide_eq_true (by kernel_rfl)) opens_f6
theorem op_u8 : OpArg Try.prog 5 (fun z : Int => (Lit.int .u8 z).wf = true) (fun z => .one (.int .u8 z)) := arg_int Try.underlying5
set_option maxRecDepth 100000 in
theorem MonitorEnforces_lifted (os : Os) (started : os.Started) (H : Type) (enc : TypeId × Value → H) :
  ReturnsInHanded {} Try.checked os 3 .any (Rows.monitorEnforcesSpec.pre6 enc Try.prog Try.f3 Rows.monitorEnforcesRow.domain false) (Rows.monitorEnforcesSpec.post enc Try.prog Try.f3 false true false false) :=
 law_lifted (C := Try.checked) (tb := 4) ownKnob_none started (by kernel_rfl) Try.func3 laidOut rfl (by kernel_rfl) (by kernel_rfl) Try.underlying4
  (fun ds h => by
   match ds, h with
   | [_, _, _], _ => rfl)
  (ChangeSpec.witness6 (enc := enc) (C := Try.checked) false ⟨#[], #[.agg (.replicate 37 (.int .u8 0)), .slice none 0 0, .int .u8 0], []⟩ 8 (by kernel_rfl) (by kernel_rfl) (by kernel_rfl) (by kernel_rfl))
  rfl (HO_cons op_shape fun s hs => HO_cons op_l6 fun l hl => HO_cons op_u8 fun w hw => HO_nil (Enforces_c s hs l (maxLen_eq ▸ hl.1) w (u8_range hw)))
theorem MonitorEnforces_holds : Rows.MonitorEnforcesSaid :=
 OpenClaim.holds_of_wide 3 Try.f3 rfl rfl rfl rfl rfl rfl rfl ⟨rfl, rfl, rfl, rfl, rfl⟩ rfl rfl rfl rfl rfl (by kernel_rfl) Try.func3 (by kernel_rfl)
  (of_decide_eq_true (by kernel_rfl)) (by unfold Func.isWrapper; rw [if_neg (by decide +kernel)]; exact ⟨rfl, rfl⟩)
  (fun os started H enc _ => MonitorEnforces_lifted os started H enc)
end Go.Proofs.Ytgbhmieaoaojoaa
