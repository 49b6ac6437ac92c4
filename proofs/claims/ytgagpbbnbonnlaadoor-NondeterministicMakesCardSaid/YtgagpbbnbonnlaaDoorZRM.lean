/-
 The row and the card: NondeterministicMakes.
-/
import Derived.Test.YtgagpbbnbonnlaaDoorZLM
import Derived.Test.YtgagpbbnbonnlaaDoorZQ
set_option linter.unusedSimpArgs false
set_option linter.unusedVariables false
namespace Go.Proofs.YtgagpbbnbonnlaaDoor
open Go.Eng Go.RowKit Go.ChangeShapes
set_option maxRecDepth 100000 in
theorem NondeterministicMakes_lifted (os : Os) (started : os.Started) (H : Type) (enc : TypeId × Value → H) :
  ReturnsInHanded {} Tryd.checked os 9 .any (fun w args => (Rows.nondeterministicMakesSpec.pre enc Tryd.prog Tryd.f9 [] false w args ∧ laidMetH Tryd.prog laidL w) ∧ sizedMet enc Tryd.prog Tryd.f9 (OpenSpec.ofChange Rows.nondeterministicMakesSpec) false w args) (Rows.nondeterministicMakesSpec.post enc Tryd.prog Tryd.f9 false true false false) :=
 law_lifted_laid (C := Tryd.checked) (tb := 4) (laid := laidL) ownKnob_none started (by kernel_rfl) Tryd.func9 laidOut rfl (by kernel_rfl) (by kernel_rfl) Tryd.underlying4
  (fun ds h => by
   match ds, h with
   | [_, _], _ => rfl)
  (ChangeSpec.witness_shaped (enc := enc) (C := Tryd.checked) (os := os) (X := fun w _ => laidMetH Tryd.prog laidL w) false (World.laidAll Tryd.prog os laidL) #[dftZ, .slice none 0 0] 8 (World.laidAll_os _ _ _) (World.shaped_of_ZipB (by kernel_rfl) (by kernel_rfl)) (by kernel_rfl) (by kernel_rfl) (by kernel_rfl) (laid_met os _))
  globs_laid (HO_cons op_dft fun d hd => HO_cons op_ints fun s hs => HO_nil (Makes_law d hd s hs.1))
theorem NondeterministicMakes_row : Rows.NondeterministicMakesSaid :=
 OpenClaim.holds_of_wide 9 Tryd.f9 rfl rfl rfl rfl rfl rfl rfl ⟨rfl, rfl, rfl, rfl, rfl⟩ rfl rfl rfl rfl rfl (by kernel_rfl) Tryd.func9 (by kernel_rfl)
  (of_decide_eq_true (by kernel_rfl)) (by unfold Func.isWrapper; rw [if_neg (by decide +kernel)]; exact ⟨rfl, rfl⟩)
  (fun os started H enc _ => NondeterministicMakes_lifted os started H enc)
theorem NondeterministicMakes_holds : Rows.NondeterministicMakesCardSaid :=
 Claim7.holds_tied_plain_at .later [] [.data, .data, .data] true (true, "7e78c54044a1cd69e6938b325af9f4952069fec45f9cca9c11997cc94460e16a") false
  NondeterministicMakes_row (fun _ h => by cases h) (by kernel_rfl) (fun _ h => by cases h) nondeterministicMakes_row_tie rfl ⟨rfl, rfl⟩ (by kernel_rfl) rfl
  (fun f fn hf hfn => by
   obtain rfl : f = 9 := (Option.some.inj ((show Tryd.prog.funcNamed "overseer/overseerlaw05.NondeterministicMakes" = some 9 by kernel_rfl).symm.trans hf)).symm
   obtain rfl : fn = Tryd.f9 := (Option.some.inj (Tryd.func9.symm.trans hfn)).symm
   exact ⟨by kernel_rfl, fun j t ht => by
    have hm : t ∈ Tryd.f9.params.toList := by simpa using Array.mem_of_getElem? ht
    have hall : (Tryd.f9.params.toList.all fun u => !Tryd.prog.wantsStandIn u) = true := by kernel_rfl
    exact (show Tryd.prog.wantsStandIn t = false by simpa using List.all_eq_true.1 hall t hm)⟩)
  (by kernel_rfl)
end Go.Proofs.YtgagpbbnbonnlaaDoor
