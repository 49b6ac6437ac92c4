/-
 The row and the card: SiphonCommoner.
-/
import Derived.Test.YtlankmlgomhbhaaGreatDoorWO
import Derived.Test.YtlankmlgomhbhaaGreatDoorSQ
set_option linter.unusedSimpArgs false
set_option linter.unusedVariables false
namespace Go.Proofs.YtlankmlgomhbhaaGreatDoor
open Go.Eng Go.RowKit Go.ChangeShapes
set_option maxRecDepth 100000 in
theorem SiphonCommoner_lifted (os : Os) (started : os.Started) (H : Type) (enc : TypeId × Value → H) :
  ReturnsInHanded {} Tryz.checked os 5 .any (fun w args => (Rows.siphonCommonerSpec.pre enc Tryz.prog Tryz.f5 [] false w args ∧ laidMetH Tryz.prog laidL w) ∧ sizedMet enc Tryz.prog Tryz.f5 (OpenSpec.ofChange Rows.siphonCommonerSpec) false w args) (Rows.siphonCommonerSpec.post enc Tryz.prog Tryz.f5 false true false false) :=
 law_lifted_laid (C := Tryz.checked) (tb := 4) (laid := laidL) ownKnob_none started (by kernel_rfl) Tryz.func5 laidOut rfl (by kernel_rfl) (by kernel_rfl) Tryz.underlying4
  (fun ds h => by
   match ds, h with
   | [_], _ => rfl)
  (ChangeSpec.witness_shaped (enc := enc) (C := Tryz.checked) (os := os) (X := fun w _ => laidMetH Tryz.prog laidL w) false (World.laidAll Tryz.prog os laidL) #[.agg (.replicate 37 (.int .u8 0))] 8 (World.laidAll_os _ _ _) (World.shaped_of_ZipB (by kernel_rfl) (by kernel_rfl)) (by kernel_rfl) (by kernel_rfl) (by kernel_rfl) (laid_met os _))
  globs_laid (HO_cons op_shape fun s hs => HO_nil (SiphonCommoner_c s hs))
theorem SiphonCommoner_row : Rows.SiphonCommonerSaid :=
 OpenClaim.holds_of_wide 5 Tryz.f5 rfl rfl rfl rfl rfl rfl rfl ⟨rfl, rfl, rfl, rfl, rfl⟩ rfl rfl rfl rfl rfl (by kernel_rfl) Tryz.func5 (by kernel_rfl)
  (of_decide_eq_true (by kernel_rfl)) (by unfold Func.isWrapper; rw [if_neg (by decide +kernel)]; exact ⟨rfl, rfl⟩)
  (fun os started H enc _ => SiphonCommoner_lifted os started H enc)
theorem SiphonCommoner_holds : Rows.SiphonCommonerCardSaid :=
 Claim7.holds_tied_plain_at .later [] [.data, .data, .data] true (true, "a4148a744915b00c9c2952d66ac41375339c3ff3aa39c5667dc220c01707e240") false
  SiphonCommoner_row (fun _ h => by cases h) (by kernel_rfl) (fun _ h => by cases h) siphonCommoner_row_tie rfl ⟨rfl, rfl⟩ (by kernel_rfl) rfl
  (fun f fn hf hfn => by
   obtain rfl : f = 5 := (Option.some.inj ((show Tryz.prog.funcNamed "overseer/overseerlaw49.SiphonCommoner" = some 5 by kernel_rfl).symm.trans hf)).symm
   obtain rfl : fn = Tryz.f5 := (Option.some.inj (Tryz.func5.symm.trans hfn)).symm
   exact ⟨by kernel_rfl, fun j t ht => by
    have hm : t ∈ Tryz.f5.params.toList := by simpa using Array.mem_of_getElem? ht
    have hall : (Tryz.f5.params.toList.all fun u => !Tryz.prog.wantsStandIn u) = true := by kernel_rfl
    exact (show Tryz.prog.wantsStandIn t = false by simpa using List.all_eq_true.1 hall t hm)⟩)
  (by kernel_rfl)
end Go.Proofs.YtlankmlgomhbhaaGreatDoor
