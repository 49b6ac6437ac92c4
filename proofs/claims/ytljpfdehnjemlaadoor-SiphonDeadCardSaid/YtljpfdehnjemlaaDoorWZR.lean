/-
 The row and the card: SiphonDead.
-/
import Derived.Test.YtljpfdehnjemlaaDoorWZ
import Derived.Test.YtljpfdehnjemlaaDoorSQ
set_option linter.unusedSimpArgs false
set_option linter.unusedVariables false
namespace Go.Proofs.YtljpfdehnjemlaaDoor
open Go.Eng Go.RowKit Go.ChangeShapes
set_option maxRecDepth 100000 in
theorem SiphonDead_lifted (os : Os) (started : os.Started) (H : Type) (enc : TypeId × Value → H) :
  ReturnsInHanded {} Tryd.checked os 3 .any (fun w args => (Rows.siphonDeadSpec.pre enc Tryd.prog Tryd.f3 [] false w args ∧ laidMetH Tryd.prog laidL w) ∧ sizedMet enc Tryd.prog Tryd.f3 (OpenSpec.ofChange Rows.siphonDeadSpec) false w args) (Rows.siphonDeadSpec.post enc Tryd.prog Tryd.f3 false true false false) :=
 law_lifted_laid (C := Tryd.checked) (tb := 4) (laid := laidL) ownKnob_none started (by kernel_rfl) Tryd.func3 laidOut rfl (by kernel_rfl) (by kernel_rfl) Tryd.underlying4
  (fun ds h => by
   match ds, h with
   | [_], _ => rfl)
  (ChangeSpec.witness_shaped (enc := enc) (C := Tryd.checked) (os := os) (X := fun w _ => laidMetH Tryd.prog laidL w) false (World.laidAll Tryd.prog os laidL) #[.agg (.replicate 37 (.int .u8 0))] 8 (World.laidAll_os _ _ _) (World.shaped_of_ZipB (by kernel_rfl) (by kernel_rfl)) (by kernel_rfl) (by kernel_rfl) (by kernel_rfl) (laid_met os _))
  globs_laid (HO_cons op_shape fun s hs => HO_nil (SiphonDead_c s hs))
theorem SiphonDead_row : Rows.SiphonDeadSaid :=
 OpenClaim.holds_of_wide 3 Tryd.f3 rfl rfl rfl rfl rfl rfl rfl ⟨rfl, rfl, rfl, rfl, rfl⟩ rfl rfl rfl rfl rfl (by kernel_rfl) Tryd.func3 (by kernel_rfl)
  (of_decide_eq_true (by kernel_rfl)) (by unfold Func.isWrapper; rw [if_neg (by decide +kernel)]; exact ⟨rfl, rfl⟩)
  (fun os started H enc _ => SiphonDead_lifted os started H enc)
theorem SiphonDead_holds : Rows.SiphonDeadCardSaid :=
 Claim7.holds_tied_plain_at .later [] [.data, .data, .data] true (true, "580d0f81040bde8d695828e9ddbe89e16dbc3eb73667ca7d3a3748b7e2fe2506") false
  SiphonDead_row (fun _ h => by cases h) (by kernel_rfl) (fun _ h => by cases h) siphonDead_row_tie rfl ⟨rfl, rfl⟩ (by kernel_rfl) rfl
  (fun f fn hf hfn => by
   obtain rfl : f = 3 := (Option.some.inj ((show Tryd.prog.funcNamed "overseer/overseerlaw49.SiphonDead" = some 3 by kernel_rfl).symm.trans hf)).symm
   obtain rfl : fn = Tryd.f3 := (Option.some.inj (Tryd.func3.symm.trans hfn)).symm
   exact ⟨by kernel_rfl, fun j t ht => by
    have hm : t ∈ Tryd.f3.params.toList := by simpa using Array.mem_of_getElem? ht
    have hall : (Tryd.f3.params.toList.all fun u => !Tryd.prog.wantsStandIn u) = true := by kernel_rfl
    exact (show Tryd.prog.wantsStandIn t = false by simpa using List.all_eq_true.1 hall t hm)⟩)
  (by kernel_rfl)
end Go.Proofs.YtljpfdehnjemlaaDoor
