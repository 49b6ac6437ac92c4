/-
  The row: adds.
-/
import Derived.Test.YtehhccdkdcgmkaaNA
import Derived.Test.YtehhccdkdcgmkaaNR0
set_option linter.unusedSimpArgs false
set_option linter.unusedVariables false
namespace Go.Proofs.Ytehhccdkdcgmkaa
open Go.Eng Go.RowKit Go.ChangeShapes
set_option maxRecDepth 100000 in
theorem opens_con : Opens Try.prog 35 (fun c : Con => c.fac.length ≤ maxLen) Con.d :=
  (opens_struct Try.underlying35 (opensF_cons rfl (opens_slice Try.underlying28 (of_decide_eq_true (by kernel_rfl)) (opens_int Try.underlying3)) (opensF_cons (by kernel_rfl) (opens_int Try.underlying3) opensF_nil))).map
    (fun x => ⟨x.1, x.2.1⟩) (fun _ h => h.1.1) (fun _ => rfl)
set_option maxRecDepth 100000 in
theorem op_con : OpArg Try.prog 35 (fun c : Con => c.fac.length ≤ maxLen) (fun c => .agg c.d) := arg_struct Try.underlying35 opens_con
def conZ : Value := .agg #[.slice none 0 0, .int .i64 0]
set_option maxRecDepth 100000 in
theorem MonitorAdds_lifted (os : Os) (started : os.Started) (H : Type) (enc : TypeId × Value → H) :
    ReturnsInHanded {} Try.checked os 4 .any (Rows.monitorAddsSpec.pre6 enc Try.prog Try.f4 Rows.monitorAddsRow.domain false) (Rows.monitorAddsSpec.post enc Try.prog Try.f4 false true false false) :=
  law_lifted (C := Try.checked) (tb := 4) ownKnob_none started (by kernel_rfl) Try.func4 laidOut rfl (by kernel_rfl) (by kernel_rfl) Try.underlying4
    (fun ds h => by
      match ds, h with
      | [_, _], _ => rfl)
    (ChangeSpec.witness6 (enc := enc) (C := Try.checked) false ⟨#[], #[.agg (.replicate 37 (.int .u8 0)), conZ], []⟩ 8 (by kernel_rfl) (by kernel_rfl) (by kernel_rfl) (by kernel_rfl))
    (HO_cons op_shape fun s hs => HO_cons op_con fun c hc => HO_nil (Adds_c s hs c (maxLen_eq ▸ hc)))
theorem MonitorAdds_holds : Rows.MonitorAddsSaid :=
  OpenClaim.holds_of_wide 4 Try.f4 rfl rfl rfl rfl rfl rfl rfl ⟨rfl, rfl, rfl, rfl, rfl⟩ rfl rfl rfl rfl rfl (by kernel_rfl) Try.func4 (by kernel_rfl)
    (of_decide_eq_true (by kernel_rfl)) (by unfold Func.isWrapper; rw [if_neg (by decide +kernel)]; exact ⟨rfl, rfl⟩)
    (fun os started H enc _ => MonitorAdds_lifted os started H enc)
end Go.Proofs.Ytehhccdkdcgmkaa
