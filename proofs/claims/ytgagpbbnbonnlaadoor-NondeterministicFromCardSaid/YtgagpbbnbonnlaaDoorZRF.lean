/-
 The row and the card: NondeterministicFrom.
-/
import Derived.Test.YtgagpbbnbonnlaaDoorZV
import Derived.Test.YtgagpbbnbonnlaaDoorZQ
set_option linter.unusedSimpArgs false
set_option linter.unusedVariables false
namespace Go.Proofs.YtgagpbbnbonnlaaDoor
open Go.Eng Go.RowKit Go.ChangeShapes
set_option maxRecDepth 100000 in
theorem NondeterministicFrom_lifted (os : Os) (started : os.Started) (H : Type) (enc : TypeId × Value → H) :
  ReturnsInHanded {} Tryd.checked os 8 .any (fun w args => (Rows.nondeterministicFromSpec.pre enc Tryd.prog Tryd.f8 [] false w args ∧ laidMetH Tryd.prog laidL w) ∧ sizedMet enc Tryd.prog Tryd.f8 (OpenSpec.ofChange Rows.nondeterministicFromSpec) false w args) (Rows.nondeterministicFromSpec.post enc Tryd.prog Tryd.f8 false true false false) :=
 law_lifted_laid (C := Tryd.checked) (tb := 4) (laid := laidL) ownKnob_none started (by kernel_rfl) Tryd.func8 laidOut rfl (by kernel_rfl) (by kernel_rfl) Tryd.underlying4
  (fun ds h => by
   match ds, h with
   | [_, _, _], _ => rfl)
  (ChangeSpec.witness_shaped (enc := enc) (C := Tryd.checked) (os := os) (X := fun w _ => laidMetH Tryd.prog laidL w) false (World.laidAll Tryd.prog os laidL) #[auZ, dftZ, dftZ] 8 (World.laidAll_os _ _ _) (World.shaped_of_ZipB (by kernel_rfl) (by kernel_rfl)) (by kernel_rfl) (by kernel_rfl) (by kernel_rfl) (laid_met os _))
  globs_laid (HO_cons op_au fun a _ => HO_cons op_dft fun d hd => HO_cons op_dft fun o ho => HO_nil (From_law a d o hd ho))
theorem NondeterministicFrom_row : Rows.NondeterministicFromSaid :=
 OpenClaim.holds_of_wide 8 Tryd.f8 rfl rfl rfl rfl rfl rfl rfl ⟨rfl, rfl, rfl, rfl, rfl⟩ rfl rfl rfl rfl rfl (by kernel_rfl) Tryd.func8 (by kernel_rfl)
  (of_decide_eq_true (by kernel_rfl)) (by unfold Func.isWrapper; rw [if_neg (by decide +kernel)]; exact ⟨rfl, rfl⟩)
  (fun os started H enc _ => NondeterministicFrom_lifted os started H enc)
theorem NondeterministicFrom_holds : Rows.NondeterministicFromCardSaid :=
 Claim7.holds_tied_plain_at .later [] [.data, .data, .data] true (true, "7e78c54044a1cd69e6938b325af9f4952069fec45f9cca9c11997cc94460e16a") false
  NondeterministicFrom_row (fun _ h => by cases h) (by kernel_rfl) (fun _ h => by cases h) nondeterministicFrom_row_tie rfl ⟨rfl, rfl⟩ (by kernel_rfl) rfl
  (fun f fn hf hfn => by
   obtain rfl : f = 8 := (Option.some.inj ((show Tryd.prog.funcNamed "overseer/overseerlaw05.NondeterministicFrom" = some 8 by kernel_rfl).symm.trans hf)).symm
   obtain rfl : fn = Tryd.f8 := (Option.some.inj (Tryd.func8.symm.trans hfn)).symm
   exact ⟨by kernel_rfl, fun j t ht => by
    have hm : t ∈ Tryd.f8.params.toList := by simpa using Array.mem_of_getElem? ht
    have hall : (Tryd.f8.params.toList.all fun u => !Tryd.prog.wantsStandIn u) = true := by kernel_rfl
    exact (show Tryd.prog.wantsStandIn t = false by simpa using List.all_eq_true.1 hall t hm)⟩)
  (by kernel_rfl)
end Go.Proofs.YtgagpbbnbonnlaaDoor
