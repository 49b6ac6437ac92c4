/-
 The row and the card: MonitorHolds.
-/
import Derived.Test.YtgbhmieaoaojoaaDoorSQ
import Derived.Test.YtgbhmieaoaojoaaDoorMHL
set_option linter.unusedSimpArgs false
set_option linter.unusedVariables false
namespace Go.Proofs.YtgbhmieaoaojoaaDoor
open Go.Eng Go.RowKit Go.ChangeShapes
theorem six (l : List Int) (h : l.length = 6) : l.flatMap (fun z => [D.int .i8 z]) = [.int .i8 (l.getD 0 0), .int .i8 (l.getD 1 0), .int .i8 (l.getD 2 0), .int .i8 (l.getD 3 0), .int .i8 (l.getD 4 0), .int .i8 (l.getD 5 0)] := by
 match l, h with
 | [a, b, c, d, e, f], _ => rfl
set_option maxRecDepth 100000 in
theorem op_f6 : OpArg Tryd.prog 27 (fun _ : Nat → Int => True) (fun f => .agg [.int .i8 (f 0), .int .i8 (f 1), .int .i8 (f 2), .int .i8 (f 3), .int .i8 (f 4), .int .i8 (f 5)]) := by
 intro H enc W base v d ps hok hd
 obtain ⟨l, ⟨h1, h2⟩, hr⟩ := arg_array Tryd.underlying27 (opens_array Tryd.underlying27 (by kernel_rfl) (opens_int Tryd.underlying26)) H enc W base v d ps hok hd
 change RepV W NoM [] (.agg (l.flatMap fun z => [D.int .i8 z])) v at hr
 rw [six l h1] at hr
 exact ⟨fun i => l.getD i 0, trivial, hr⟩
end Go.Proofs.YtgbhmieaoaojoaaDoor
set_option linter.unusedSimpArgs false
set_option linter.unusedVariables false
namespace Go.Proofs.YtgbhmieaoaojoaaDoor
open Go.Eng Go.RowKit Go.ChangeShapes
set_option maxRecDepth 100000 in
theorem MonitorHolds_lifted (os : Os) (started : os.Started) (H : Type) (enc : TypeId × Value → H) :
  ReturnsInHanded {} Tryd.checked os 4 .any (fun w args => (Rows.monitorHoldsSpec.pre enc Tryd.prog Tryd.f4 [] false w args ∧ laidMetH Tryd.prog laidL w) ∧ sizedMet enc Tryd.prog Tryd.f4 (OpenSpec.ofChange Rows.monitorHoldsSpec) false w args) (Rows.monitorHoldsSpec.post enc Tryd.prog Tryd.f4 false true false false) :=
 law_lifted_laid (C := Tryd.checked) (tb := 4) (laid := laidL) ownKnob_none started (by kernel_rfl) Tryd.func4 laidOut rfl (by kernel_rfl) (by kernel_rfl) Tryd.underlying4
  (fun ds h => by
   match ds, h with
   | [_, _], _ => rfl)
  (ChangeSpec.witness_shaped (enc := enc) (C := Tryd.checked) (os := os) (X := fun w _ => laidMetH Tryd.prog laidL w) false (World.laidAll Tryd.prog os laidL) #[.agg (.replicate 37 (.int .u8 0)), .agg (.replicate 6 (.int .i8 0))] 8 (World.laidAll_os _ _ _) (World.shaped_of_ZipB (by kernel_rfl) (by kernel_rfl)) (by kernel_rfl) (by kernel_rfl) (by kernel_rfl) (laid_met os _))
  globs_laid (HO_cons op_shape fun s hs => HO_cons op_f6 fun f _ => HO_nil (MonHolds_c s hs f))
theorem MonitorHolds_row : Rows.MonitorHoldsSaid :=
 OpenClaim.holds_of_wide 4 Tryd.f4 rfl rfl rfl rfl rfl rfl rfl ⟨rfl, rfl, rfl, rfl, rfl⟩ rfl rfl rfl rfl rfl (by kernel_rfl) Tryd.func4 (by kernel_rfl)
  (of_decide_eq_true (by kernel_rfl)) (by unfold Func.isWrapper; rw [if_neg (by decide +kernel)]; exact ⟨rfl, rfl⟩)
  (fun os started H enc _ => MonitorHolds_lifted os started H enc)
theorem MonitorHolds_holds : Rows.MonitorHoldsCardSaid :=
 Claim7.holds_tied_plain_at .later [] [.data, .data, .data] true (true, "a95cae4f6e1ae990d38ce87a005e6b69835298749cbff7e415c4b21477f8b4e7") false
  MonitorHolds_row (fun _ h => by cases h) (by kernel_rfl) (fun _ h => by cases h) monitorHolds_row_tie rfl ⟨rfl, rfl⟩ (by kernel_rfl) rfl
  (fun f fn hf hfn => by
   obtain rfl : f = 4 := (Option.some.inj ((show Tryd.prog.funcNamed "overseer/overseerlaw50.MonitorHolds" = some 4 by kernel_rfl).symm.trans hf)).symm
   obtain rfl : fn = Tryd.f4 := (Option.some.inj (Tryd.func4.symm.trans hfn)).symm
   exact ⟨by kernel_rfl, fun j t ht => by
    have hm : t ∈ Tryd.f4.params.toList := by simpa using Array.mem_of_getElem? ht
    have hall : (Tryd.f4.params.toList.all fun u => !Tryd.prog.wantsStandIn u) = true := by kernel_rfl
    exact (show Tryd.prog.wantsStandIn t = false by simpa using List.all_eq_true.1 hall t hm)⟩)
  (by kernel_rfl)
end Go.Proofs.YtgbhmieaoaojoaaDoor
