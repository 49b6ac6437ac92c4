/-
 The row and the card: SiphonRuns.
-/
import Derived.Test.YtlankmlgomhbhaaDoorWV
import Derived.Test.YtlankmlgomhbhaaDoorSQ
set_option linter.unusedSimpArgs false
set_option linter.unusedVariables false
namespace Go.Proofs.YtlankmlgomhbhaaDoor
open Go.Eng Go.RowKit Go.ChangeShapes
theorem SiphonRuns_z (s : Nat → Int) (hs : Bytes s) (z : Int) (hz : 0 ≤ z ∧ z ≤ 255) : ACalls Tryd.prog 3 [.agg (bytesD 37 s), .one (.int .u8 z)] (.one (.bool true)) [] := by
 have h := SiphonRuns_c s hs z.toNat (by omega)
 rwa [show ((z.toNat : Nat) : Int) = z by omega] at h
set_option maxRecDepth 100000 in
theorem SiphonRuns_lifted (os : Os) (started : os.Started) (H : Type) (enc : TypeId × Value → H) :
  ReturnsInHanded {} Tryd.checked os 3 .any (fun w args => (Rows.siphonRunsSpec.pre enc Tryd.prog Tryd.f3 [] false w args ∧ laidMetH Tryd.prog laidL w) ∧ sizedMet enc Tryd.prog Tryd.f3 (OpenSpec.ofChange Rows.siphonRunsSpec) false w args) (Rows.siphonRunsSpec.post enc Tryd.prog Tryd.f3 false true false false) :=
 law_lifted_laid (C := Tryd.checked) (tb := 4) (laid := laidL) ownKnob_none started (by kernel_rfl) Tryd.func3 laidOut rfl (by kernel_rfl) (by kernel_rfl) Tryd.underlying4
  (fun ds h => by
   match ds, h with
   | [_, _], _ => rfl)
  (ChangeSpec.witness_shaped (enc := enc) (C := Tryd.checked) (os := os) (X := fun w _ => laidMetH Tryd.prog laidL w) false (World.laidAll Tryd.prog os laidL) #[.agg (.replicate 37 (.int .u8 0)), .int .u8 0] 8 (World.laidAll_os _ _ _) (World.shaped_of_ZipB (by kernel_rfl) (by kernel_rfl)) (by kernel_rfl) (by kernel_rfl) (by kernel_rfl) (laid_met os _))
  globs_laid (HO_cons op_shape fun s hs => HO_cons op_u8 fun z hz => HO_nil (SiphonRuns_z s hs z (u8_range hz)))
theorem SiphonRuns_row : Rows.SiphonRunsSaid :=
 OpenClaim.holds_of_wide 3 Tryd.f3 rfl rfl rfl rfl rfl rfl rfl ⟨rfl, rfl, rfl, rfl, rfl⟩ rfl rfl rfl rfl rfl (by kernel_rfl) Tryd.func3 (by kernel_rfl)
  (of_decide_eq_true (by kernel_rfl)) (by unfold Func.isWrapper; rw [if_neg (by decide +kernel)]; exact ⟨rfl, rfl⟩)
  (fun os started H enc _ => SiphonRuns_lifted os started H enc)
theorem SiphonRuns_holds : Rows.SiphonRunsCardSaid :=
 Claim7.holds_tied_plain_at .later [] [.data, .data, .data] true (true, "eb5487cc2f292f6f79d4e7832dedceb8ff0699ec53d895858ec1d9ad777eba42") false
  SiphonRuns_row (fun _ h => by cases h) (by kernel_rfl) (fun _ h => by cases h) siphonRuns_row_tie rfl ⟨rfl, rfl⟩ (by kernel_rfl) rfl
  (fun f fn hf hfn => by
   obtain rfl : f = 3 := (Option.some.inj ((show Tryd.prog.funcNamed "overseer/overseerlaw49.SiphonRuns" = some 3 by kernel_rfl).symm.trans hf)).symm
   obtain rfl : fn = Tryd.f3 := (Option.some.inj (Tryd.func3.symm.trans hfn)).symm
   exact ⟨by kernel_rfl, fun j t ht => by
    have hm : t ∈ Tryd.f3.params.toList := by simpa using Array.mem_of_getElem? ht
    have hall : (Tryd.f3.params.toList.all fun u => !Tryd.prog.wantsStandIn u) = true := by kernel_rfl
    exact (show Tryd.prog.wantsStandIn t = false by simpa using List.all_eq_true.1 hall t hm)⟩)
  (by kernel_rfl)
end Go.Proofs.YtlankmlgomhbhaaDoor
