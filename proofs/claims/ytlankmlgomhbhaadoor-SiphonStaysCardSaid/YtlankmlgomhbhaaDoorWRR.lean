/-
 The row and the card: SiphonStays.
-/
import Derived.Test.YtlankmlgomhbhaaDoorWR
import Derived.Test.YtlankmlgomhbhaaDoorSQ
set_option linter.unusedSimpArgs false
set_option linter.unusedVariables false
namespace Go.Proofs.YtlankmlgomhbhaaDoor
open Go.Eng Go.RowKit Go.ChangeShapes
set_option maxRecDepth 100000 in
theorem op_b5 : OpArg Tryd.prog 22 Bytes (fun f => .agg (bytesD 5 f)) := by
 intro H enc W base v d ps hok hd
 obtain ⟨l, ⟨h1, h2⟩, hr⟩ := arg_array Tryd.underlying22 (opens_array Tryd.underlying22 (by kernel_rfl) (opens_int Tryd.underlying5)) H enc W base v d ps hok hd
 change RepV W NoM [] (.agg (l.flatMap fun z => [D.int .u8 z])) v at hr
 rw [flat_u8, ← bytesD_of h1] at hr
 refine ⟨fun i => l.getD i 0, fun i => ?_, hr⟩
 by_cases hi : i < l.length
 ·exact u8_range (h2 _ (getD_mem l i 0 hi))
 ·have : l.getD i 0 = 0 := by rw [List.getD, List.getElem?_eq_none (Nat.le_of_not_lt hi)]; rfl
  simp only [this]; omega
set_option maxRecDepth 100000 in
theorem op_b2 : OpArg Tryd.prog 50 Bytes (fun f => .agg (bytesD 2 f)) := by
 intro H enc W base v d ps hok hd
 obtain ⟨l, ⟨h1, h2⟩, hr⟩ := arg_array Tryd.underlying50 (opens_array Tryd.underlying50 (by kernel_rfl) (opens_int Tryd.underlying5)) H enc W base v d ps hok hd
 change RepV W NoM [] (.agg (l.flatMap fun z => [D.int .u8 z])) v at hr
 rw [flat_u8, ← bytesD_of h1] at hr
 refine ⟨fun i => l.getD i 0, fun i => ?_, hr⟩
 by_cases hi : i < l.length
 ·exact u8_range (h2 _ (getD_mem l i 0 hi))
 ·have : l.getD i 0 = 0 := by rw [List.getD, List.getElem?_eq_none (Nat.le_of_not_lt hi)]; rfl
  simp only [this]; omega
set_option maxRecDepth 100000 in
theorem SiphonStays_lifted (os : Os) (started : os.Started) (H : Type) (enc : TypeId × Value → H) :
  ReturnsInHanded {} Tryd.checked os 4 .any (fun w args => (Rows.siphonStaysSpec.pre enc Tryd.prog Tryd.f4 [] false w args ∧ laidMetH Tryd.prog laidL w) ∧ sizedMet enc Tryd.prog Tryd.f4 (OpenSpec.ofChange Rows.siphonStaysSpec) false w args) (Rows.siphonStaysSpec.post enc Tryd.prog Tryd.f4 false true false false) :=
 law_lifted_laid (C := Tryd.checked) (tb := 4) (laid := laidL) ownKnob_none started (by kernel_rfl) Tryd.func4 laidOut rfl (by kernel_rfl) (by kernel_rfl) Tryd.underlying4
  (fun ds h => by
   match ds, h with
   | [_, _, _], _ => rfl)
  (ChangeSpec.witness_shaped (enc := enc) (C := Tryd.checked) (os := os) (X := fun w _ => laidMetH Tryd.prog laidL w) false (World.laidAll Tryd.prog os laidL) #[.agg (.replicate 37 (.int .u8 0)), .agg (.replicate 5 (.int .u8 0)), .agg (.replicate 2 (.int .u8 0))] 8 (World.laidAll_os _ _ _) (World.shaped_of_ZipB (by kernel_rfl) (by kernel_rfl)) (by kernel_rfl) (by kernel_rfl) (by kernel_rfl) (laid_met os _))
  globs_laid (HO_cons op_shape fun s hs => HO_cons op_b5 fun f hf => HO_cons op_b2 fun g hg => HO_nil (SiphonStays_c s hs f g hf hg))
theorem SiphonStays_row : Rows.SiphonStaysSaid :=
 OpenClaim.holds_of_wide 4 Tryd.f4 rfl rfl rfl rfl rfl rfl rfl ⟨rfl, rfl, rfl, rfl, rfl⟩ rfl rfl rfl rfl rfl (by kernel_rfl) Tryd.func4 (by kernel_rfl)
  (of_decide_eq_true (by kernel_rfl)) (by unfold Func.isWrapper; rw [if_neg (by decide +kernel)]; exact ⟨rfl, rfl⟩)
  (fun os started H enc _ => SiphonStays_lifted os started H enc)
theorem SiphonStays_holds : Rows.SiphonStaysCardSaid :=
 Claim7.holds_tied_plain_at .later [] [.data, .data, .data] true (true, "eb5487cc2f292f6f79d4e7832dedceb8ff0699ec53d895858ec1d9ad777eba42") false
  SiphonStays_row (fun _ h => by cases h) (by kernel_rfl) (fun _ h => by cases h) siphonStays_row_tie rfl ⟨rfl, rfl⟩ (by kernel_rfl) rfl
  (fun f fn hf hfn => by
   obtain rfl : f = 4 := (Option.some.inj ((show Tryd.prog.funcNamed "overseer/overseerlaw49.SiphonStays" = some 4 by kernel_rfl).symm.trans hf)).symm
   obtain rfl : fn = Tryd.f4 := (Option.some.inj (Tryd.func4.symm.trans hfn)).symm
   exact ⟨by kernel_rfl, fun j t ht => by
    have hm : t ∈ Tryd.f4.params.toList := by simpa using Array.mem_of_getElem? ht
    have hall : (Tryd.f4.params.toList.all fun u => !Tryd.prog.wantsStandIn u) = true := by kernel_rfl
    exact (show Tryd.prog.wantsStandIn t = false by simpa using List.all_eq_true.1 hall t hm)⟩)
  (by kernel_rfl)
end Go.Proofs.YtlankmlgomhbhaaDoor
