/-
 The row and the card: DocumentChecks.
-/
import Derived.Test.YtkjnjkdcpbgabaaGreatDoorVE
import Derived.Test.YtkjnjkdcpbgabaaGreatDoorVQ
set_option linter.unusedSimpArgs false
set_option linter.unusedVariables false
namespace Go.Proofs.YtkjnjkdcpbgabaaGreatDoor
open Go.Eng Go.RowKit Go.ChangeShapes
set_option maxRecDepth 100000 in
theorem DocumentChecks_lifted (os : Os) (started : os.Started) (H : Type) (enc : TypeId × Value → H) :
  ReturnsInHanded {} Tryz.checked os 11 .any (fun w args => (Rows.documentChecksSpec.pre enc Tryz.prog Tryz.f11 [] false w args ∧ laidMetH Tryz.prog laidL w) ∧ sizedMet enc Tryz.prog Tryz.f11 (OpenSpec.ofChange Rows.documentChecksSpec) false w args) (Rows.documentChecksSpec.post enc Tryz.prog Tryz.f11 false true false false) :=
 law_lifted_laid (C := Tryz.checked) (tb := 4) (laid := laidL) ownKnob_none started (by kernel_rfl) Tryz.func11 laidOut rfl (by kernel_rfl) (by kernel_rfl) Tryz.underlying4
  (fun ds h => by
   match ds, h with
   | [_, _], _ => rfl)
  (ChangeSpec.witness_shaped (enc := enc) (C := Tryz.checked) (os := os) (X := fun w _ => laidMetH Tryz.prog laidL w) false (World.laidAll Tryz.prog os laidL) #[.slice none 0 0, .slice none 0 0] 8 (World.laidAll_os _ _ _) (World.shaped_of_ZipB (by kernel_rfl) (by kernel_rfl)) (by kernel_rfl) (by kernel_rfl) (by kernel_rfl) (laid_met os _))
  globs_laid (HO_cons op_its fun a _ => HO_cons op_its fun b _ => HO_nil (Checks_law a b))
theorem DocumentChecks_row : Rows.DocumentChecksSaid :=
 OpenClaim.holds_of_wide 11 Tryz.f11 rfl rfl rfl rfl rfl rfl rfl ⟨rfl, rfl, rfl, rfl, rfl⟩ rfl rfl rfl rfl rfl (by kernel_rfl) Tryz.func11 (by kernel_rfl)
  (of_decide_eq_true (by kernel_rfl)) (by unfold Func.isWrapper; rw [if_neg (by decide +kernel)]; exact ⟨rfl, rfl⟩)
  (fun os started H enc _ => DocumentChecks_lifted os started H enc)
theorem DocumentChecks_holds : Rows.DocumentChecksCardSaid :=
 Claim7.holds_tied_plain_at .later [] [.data, .data, .data] true (true, "cb237452c08fd4b43e324368d5e7c11f1af00542888327663c09d7a2173cb626") false
  DocumentChecks_row (fun _ h => by cases h) (by kernel_rfl) (fun _ h => by cases h) documentChecks_row_tie rfl ⟨rfl, rfl⟩ (by kernel_rfl) rfl
  (fun f fn hf hfn => by
   obtain rfl : f = 11 := (Option.some.inj ((show Tryz.prog.funcNamed "overseer/overseerlaw23.DocumentChecks" = some 11 by kernel_rfl).symm.trans hf)).symm
   obtain rfl : fn = Tryz.f11 := (Option.some.inj (Tryz.func11.symm.trans hfn)).symm
   exact ⟨by kernel_rfl, fun j t ht => by
    have hm : t ∈ Tryz.f11.params.toList := by simpa using Array.mem_of_getElem? ht
    have hall : (Tryz.f11.params.toList.all fun u => !Tryz.prog.wantsStandIn u) = true := by kernel_rfl
    exact (show Tryz.prog.wantsStandIn t = false by simpa using List.all_eq_true.1 hall t hm)⟩)
  (by kernel_rfl)
end Go.Proofs.YtkjnjkdcpbgabaaGreatDoor
