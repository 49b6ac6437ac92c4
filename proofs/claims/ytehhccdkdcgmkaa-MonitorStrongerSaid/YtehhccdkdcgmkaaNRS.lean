/-
  The row: stronger.
-/
import Derived.Test.YtehhccdkdcgmkaaNS
import Derived.Test.YtehhccdkdcgmkaaNR0
set_option linter.unusedSimpArgs false
set_option linter.unusedVariables false
namespace Go.Proofs.Ytehhccdkdcgmkaa
open Go.Eng Go.RowKit Go.ChangeShapes
theorem seven (l : List Int) (h : l.length = 7) : l.flatMap (fun z => [D.int .u8 z]) = [.int .u8 (l.getD 0 0), .int .u8 (l.getD 1 0), .int .u8 (l.getD 2 0), .int .u8 (l.getD 3 0), .int .u8 (l.getD 4 0), .int .u8 (l.getD 5 0), .int .u8 (l.getD 6 0)] := by
  match l, h with
  | [a, b, c, d, e, f, g], _ => rfl
set_option maxRecDepth 100000 in
theorem op_p7 : OpArg Try.prog 69 Bytes (fun f => .agg [.int .u8 (f 0), .int .u8 (f 1), .int .u8 (f 2), .int .u8 (f 3), .int .u8 (f 4), .int .u8 (f 5), .int .u8 (f 6)]) := by
  intro H enc W base v d ps hok hd
  obtain ⟨l, ⟨h1, h2⟩, hr⟩ := arg_array Try.underlying69 (opens_array Try.underlying69 (by kernel_rfl) (opens_int Try.underlying5)) H enc W base v d ps hok hd
  change RepV W NoM [] (.agg (l.flatMap fun z => [D.int .u8 z])) v at hr
  rw [seven l h1] at hr
  refine ⟨fun i => l.getD i 0, fun i => ?_, hr⟩
  by_cases hi : i < l.length
  · exact u8_range (h2 _ (getD_mem l i 0 hi))
  · have : l.getD i 0 = 0 := by rw [List.getD, List.getElem?_eq_none (Nat.le_of_not_lt hi)]; rfl
    simp only [this]; omega
set_option maxRecDepth 100000 in
theorem MonitorStronger_lifted (os : Os) (started : os.Started) (H : Type) (enc : TypeId × Value → H) :
    ReturnsInHanded {} Try.checked os 7 .any (Rows.monitorStrongerSpec.pre6 enc Try.prog Try.f7 Rows.monitorStrongerRow.domain false) (Rows.monitorStrongerSpec.post enc Try.prog Try.f7 false true false false) :=
  law_lifted (C := Try.checked) (tb := 4) ownKnob_none started (by kernel_rfl) Try.func7 laidOut rfl (by kernel_rfl) (by kernel_rfl) Try.underlying4
    (fun ds h => by
      match ds, h with
      | [_, _, _], _ => rfl)
    (ChangeSpec.witness6 (enc := enc) (C := Try.checked) false ⟨#[], #[.agg (.replicate 37 (.int .u8 0)), .agg (.replicate 6 (.int .i8 0)), .agg (.replicate 7 (.int .u8 0))], []⟩ 8 (by kernel_rfl) (by kernel_rfl) (by kernel_rfl) (by kernel_rfl))
    (HO_cons op_shape fun s hs => HO_cons op_f6 fun f _ => HO_cons op_p7 fun p hp => HO_nil (Stronger_c s hs f p hp))
theorem MonitorStronger_holds : Rows.MonitorStrongerSaid :=
  OpenClaim.holds_of_wide 7 Try.f7 rfl rfl rfl rfl rfl rfl rfl ⟨rfl, rfl, rfl, rfl, rfl⟩ rfl rfl rfl rfl rfl (by kernel_rfl) Try.func7 (by kernel_rfl)
    (of_decide_eq_true (by kernel_rfl)) (by unfold Func.isWrapper; rw [if_neg (by decide +kernel)]; exact ⟨rfl, rfl⟩)
    (fun os started H enc _ => MonitorStronger_lifted os started H enc)
end Go.Proofs.Ytehhccdkdcgmkaa
