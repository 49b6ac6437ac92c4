/-
 The row and the card: SiphonRefuses.
-/
import Derived.Test.YtlankmlgomhbhaaGreatDoorWQ
import Derived.Test.YtlankmlgomhbhaaGreatDoorSQ
set_option linter.unusedSimpArgs false
set_option linter.unusedVariables false
namespace Go.Proofs.YtlankmlgomhbhaaGreatDoor
open Go.Eng Go.RowKit Go.ChangeShapes
set_option maxRecDepth 100000 in
theorem opens_arc : Opens Tryz.prog 69 (fun _ : Arc => True) Arc.d :=
 (opens_struct Tryz.underlying69 (opensF_cons rfl (opens_int Tryz.underlying3) (opensF_cons (by kernel_rfl) (opens_int Tryz.underlying3) opensF_nil))).map (fun x => ⟨x.1, x.2.1⟩) (fun _ _ => trivial) (fun _ => rfl)
set_option maxRecDepth 100000 in
theorem opens_tr : Opens Tryz.prog 67 (fun _ : Tr => True) Tr.d :=
 (opens_struct Tryz.underlying67 (opensF_cons rfl (opens_int Tryz.underlying3) (opensF_cons (by kernel_rfl) (opens_slice Tryz.underlying65 (of_decide_eq_true (by kernel_rfl)) opens_arc) (opensF_cons (by kernel_rfl) (opens_slice Tryz.underlying65 (of_decide_eq_true (by kernel_rfl)) opens_arc) opensF_nil)))).map
  (fun x => ⟨x.1, x.2.1, x.2.2.1⟩) (fun _ _ => trivial) (fun _ => rfl)
set_option maxRecDepth 100000 in
theorem opens_net : Opens Tryz.prog 30 (fun _ : Net => True) Net.d :=
 (opens_struct Tryz.underlying30 (opensF_cons rfl (opens_slice Tryz.underlying27 (of_decide_eq_true (by kernel_rfl)) (opens_int Tryz.underlying3)) (opensF_cons (by kernel_rfl) (opens_slice Tryz.underlying28 (of_decide_eq_true (by kernel_rfl)) opens_tr) opensF_nil))).map
  (fun x => ⟨x.1, x.2.1⟩) (fun _ _ => trivial) (fun _ => rfl)
theorem op_net : OpArg Tryz.prog 30 (fun _ : Net => True) (fun n => .agg n.d) := arg_struct Tryz.underlying30 opens_net
def netZ : Value := .agg #[.slice none 0 0, .slice none 0 0]
set_option maxRecDepth 100000 in
theorem SiphonRefuses_lifted (os : Os) (started : os.Started) (H : Type) (enc : TypeId × Value → H) :
  ReturnsInHanded {} Tryz.checked os 4 .any (fun w args => (Rows.siphonRefusesSpec.pre enc Tryz.prog Tryz.f4 [] false w args ∧ laidMetH Tryz.prog laidL w) ∧ sizedMet enc Tryz.prog Tryz.f4 (OpenSpec.ofChange Rows.siphonRefusesSpec) false w args) (Rows.siphonRefusesSpec.post enc Tryz.prog Tryz.f4 false true false false) :=
 law_lifted_laid (C := Tryz.checked) (tb := 4) (laid := laidL) ownKnob_none started (by kernel_rfl) Tryz.func4 laidOut rfl (by kernel_rfl) (by kernel_rfl) Tryz.underlying4
  (fun ds h => by
   match ds, h with
   | [_], _ => rfl)
  (ChangeSpec.witness_shaped (enc := enc) (C := Tryz.checked) (os := os) (X := fun w _ => laidMetH Tryz.prog laidL w) false (World.laidAll Tryz.prog os laidL) #[netZ] 8 (World.laidAll_os _ _ _) (World.shaped_of_ZipB (by kernel_rfl) (by kernel_rfl)) (by kernel_rfl) (by kernel_rfl) (by kernel_rfl) (laid_met os _))
  globs_laid (HO_cons op_net fun n _ => HO_nil (SiphonRefuses_c n))
theorem SiphonRefuses_row : Rows.SiphonRefusesSaid :=
 OpenClaim.holds_of_wide 4 Tryz.f4 rfl rfl rfl rfl rfl rfl rfl ⟨rfl, rfl, rfl, rfl, rfl⟩ rfl rfl rfl rfl rfl (by kernel_rfl) Tryz.func4 (by kernel_rfl)
  (of_decide_eq_true (by kernel_rfl)) (by unfold Func.isWrapper; rw [if_neg (by decide +kernel)]; exact ⟨rfl, rfl⟩)
  (fun os started H enc _ => SiphonRefuses_lifted os started H enc)
theorem SiphonRefuses_holds : Rows.SiphonRefusesCardSaid :=
 Claim7.holds_tied_plain_at .later [] [.data, .data, .data] true (true, "a4148a744915b00c9c2952d66ac41375339c3ff3aa39c5667dc220c01707e240") false
  SiphonRefuses_row (fun _ h => by cases h) (by kernel_rfl) (fun _ h => by cases h) siphonRefuses_row_tie rfl ⟨rfl, rfl⟩ (by kernel_rfl) rfl
  (fun f fn hf hfn => by
   obtain rfl : f = 4 := (Option.some.inj ((show Tryz.prog.funcNamed "overseer/overseerlaw49.SiphonRefuses" = some 4 by kernel_rfl).symm.trans hf)).symm
   obtain rfl : fn = Tryz.f4 := (Option.some.inj (Tryz.func4.symm.trans hfn)).symm
   exact ⟨by kernel_rfl, fun j t ht => by
    have hm : t ∈ Tryz.f4.params.toList := by simpa using Array.mem_of_getElem? ht
    have hall : (Tryz.f4.params.toList.all fun u => !Tryz.prog.wantsStandIn u) = true := by kernel_rfl
    exact (show Tryz.prog.wantsStandIn t = false by simpa using List.all_eq_true.1 hall t hm)⟩)
  (by kernel_rfl)
end Go.Proofs.YtlankmlgomhbhaaGreatDoor
