/-
 The row and the card: SiphonTurns.
-/
import Derived.Test.YtlankmlgomhbhaaGreatDoorWU
import Derived.Test.YtlankmlgomhbhaaGreatDoorSQ
set_option linter.unusedSimpArgs false
set_option linter.unusedVariables false
namespace Go.Proofs.YtlankmlgomhbhaaGreatDoor
open Go.Eng Go.RowKit Go.ChangeShapes
set_option maxRecDepth 100000 in
theorem SiphonTurns_lifted (os : Os) (started : os.Started) (H : Type) (enc : TypeId × Value → H) :
  ReturnsInHanded {} Tryz.checked os 7 .any (fun w args => (Rows.siphonTurnsSpec.pre enc Tryz.prog Tryz.f7 [] false w args ∧ laidMetH Tryz.prog laidL w) ∧ sizedMet enc Tryz.prog Tryz.f7 (OpenSpec.ofChange Rows.siphonTurnsSpec) false w args) (Rows.siphonTurnsSpec.post enc Tryz.prog Tryz.f7 false true false false) :=
 law_lifted_laid (C := Tryz.checked) (tb := 4) (laid := laidL) ownKnob_none started (by kernel_rfl) Tryz.func7 laidOut rfl (by kernel_rfl) (by kernel_rfl) Tryz.underlying4
  (fun ds h => by
   match ds, h with
   | [_], _ => rfl)
  (ChangeSpec.witness_shaped (enc := enc) (C := Tryz.checked) (os := os) (X := fun w _ => laidMetH Tryz.prog laidL w) false (World.laidAll Tryz.prog os laidL) #[.agg (.replicate 37 (.int .u8 0))] 8 (World.laidAll_os _ _ _) (World.shaped_of_ZipB (by kernel_rfl) (by kernel_rfl)) (by kernel_rfl) (by kernel_rfl) (by kernel_rfl) (laid_met os _))
  globs_laid (HO_cons op_shape fun s hs => HO_nil (SiphonTurns_c s hs))
theorem SiphonTurns_row : Rows.SiphonTurnsSaid :=
 OpenClaim.holds_of_wide 7 Tryz.f7 rfl rfl rfl rfl rfl rfl rfl ⟨rfl, rfl, rfl, rfl, rfl⟩ rfl rfl rfl rfl rfl (by kernel_rfl) Tryz.func7 (by kernel_rfl)
  (of_decide_eq_true (by kernel_rfl)) (by unfold Func.isWrapper; rw [if_neg (by decide +kernel)]; exact ⟨rfl, rfl⟩)
  (fun os started H enc _ => SiphonTurns_lifted os started H enc)
theorem SiphonTurns_holds : Rows.SiphonTurnsCardSaid :=
 Claim7.holds_tied_plain_at .later [] [.data, .data, .data] true (true, "a4148a744915b00c9c2952d66ac41375339c3ff3aa39c5667dc220c01707e240") false
  SiphonTurns_row (fun _ h => by cases h) (by kernel_rfl) (fun _ h => by cases h) siphonTurns_row_tie rfl ⟨rfl, rfl⟩ (by kernel_rfl) rfl
  (fun f fn hf hfn => by
   obtain rfl : f = 7 := (Option.some.inj ((show Tryz.prog.funcNamed "overseer/overseerlaw49.SiphonTurns" = some 7 by kernel_rfl).symm.trans hf)).symm
   obtain rfl : fn = Tryz.f7 := (Option.some.inj (Tryz.func7.symm.trans hfn)).symm
   exact ⟨by kernel_rfl, fun j t ht => by
    have hm : t ∈ Tryz.f7.params.toList := by simpa using Array.mem_of_getElem? ht
    have hall : (Tryz.f7.params.toList.all fun u => !Tryz.prog.wantsStandIn u) = true := by kernel_rfl
    exact (show Tryz.prog.wantsStandIn t = false by simpa using List.all_eq_true.1 hall t hm)⟩)
  (by kernel_rfl)
end Go.Proofs.YtlankmlgomhbhaaGreatDoor
