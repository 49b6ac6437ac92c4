/-
 The row and the card: PreventionChecks.
-/
import Derived.Test.YtlpllbbjmbbfnaaGreatDoorQU
import Derived.Test.YtlpllbbjmbbfnaaGreatDoorQT
set_option linter.unusedSimpArgs false
set_option linter.unusedVariables false
namespace Go.Proofs.YtlpllbbjmbbfnaaGreatDoor
open Go.Eng Go.RowKit Go.ChangeShapes
set_option maxRecDepth 100000 in
theorem PreventionChecks_lifted (os : Os) (started : os.Started) (H : Type) (enc : TypeId × Value → H) :
  ReturnsInHanded {} Tryz.checked os 8 .any (fun w args => (Rows.preventionChecksSpec.pre enc Tryz.prog Tryz.f8 [] false w args ∧ laidMetH Tryz.prog laidL w) ∧ sizedMet enc Tryz.prog Tryz.f8 (OpenSpec.ofChange Rows.preventionChecksSpec) false w args) (Rows.preventionChecksSpec.post enc Tryz.prog Tryz.f8 false true false false) :=
 law_lifted_laid (C := Tryz.checked) (tb := 4) (laid := laidL) ownKnob_none started (by kernel_rfl) Tryz.func8 laidOut rfl (by kernel_rfl) (by kernel_rfl) Tryz.underlying4
  (fun ds h => by
   match ds, h with
   | [_, _], _ => rfl)
  (ChangeSpec.witness_shaped (enc := enc) (C := Tryz.checked) (os := os) (X := fun w _ => laidMetH Tryz.prog laidL w) false (World.laidAll Tryz.prog os laidL) #[netZ, .slice none 0 0] 8 (World.laidAll_os _ _ _) (World.shaped_of_ZipB (by kernel_rfl) (by kernel_rfl)) (by kernel_rfl) (by kernel_rfl) (by kernel_rfl) (laid_met os _))
  globs_laid (HO_cons op_net fun n _ => HO_cons op_ints fun l _ => HO_nil (PreventionChecks_c n l))
theorem PreventionChecks_row : Rows.PreventionChecksSaid :=
 OpenClaim.holds_of_wide 8 Tryz.f8 rfl rfl rfl rfl rfl rfl rfl ⟨rfl, rfl, rfl, rfl, rfl⟩ rfl rfl rfl rfl rfl (by kernel_rfl) Tryz.func8 (by kernel_rfl)
  (of_decide_eq_true (by kernel_rfl)) (by unfold Func.isWrapper; rw [if_neg (by decide +kernel)]; exact ⟨rfl, rfl⟩)
  (fun os started H enc _ => PreventionChecks_lifted os started H enc)
theorem PreventionChecks_holds : Rows.PreventionChecksCardSaid :=
 Claim7.holds_tied_plain_at .later [] [.data, .data, .data] true (true, "c0cafe115ded92e8486ca3434d15a5a34424e462dc9fbc58da252d5362afe241") false
  PreventionChecks_row (fun _ h => by cases h) (by kernel_rfl) (fun _ h => by cases h) preventionChecks_row_tie rfl ⟨rfl, rfl⟩ (by kernel_rfl) rfl
  (fun f fn hf hfn => by
   obtain rfl : f = 8 := (Option.some.inj ((show Tryz.prog.funcNamed "overseer/overseerlaw51.PreventionChecks" = some 8 by kernel_rfl).symm.trans hf)).symm
   obtain rfl : fn = Tryz.f8 := (Option.some.inj (Tryz.func8.symm.trans hfn)).symm
   exact ⟨by kernel_rfl, fun j t ht => by
    have hm : t ∈ Tryz.f8.params.toList := by simpa using Array.mem_of_getElem? ht
    have hall : (Tryz.f8.params.toList.all fun u => !Tryz.prog.wantsStandIn u) = true := by kernel_rfl
    exact (show Tryz.prog.wantsStandIn t = false by simpa using List.all_eq_true.1 hall t hm)⟩)
  (by kernel_rfl)
end Go.Proofs.YtlpllbbjmbbfnaaGreatDoor
