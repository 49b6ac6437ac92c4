/-
 The row and the card: NetRuns.
-/
import Derived.Test.YtjldfifepbdlmaaDoorSX
import Derived.Test.YtjldfifepbdlmaaDoorSQ
set_option linter.unusedSimpArgs false
set_option linter.unusedVariables false
namespace Go.Proofs.YtjldfifepbdlmaaDoor
open Go.Eng Go.RowKit Go.ChangeShapes
set_option maxRecDepth 100000 in
set_option maxRecDepth 100000 in
theorem NetRuns_lifted (os : Os) (started : os.Started) (H : Type) (enc : TypeId × Value → H) :
  ReturnsInHanded {} Tryd.checked os 8 .any (fun w args => (Rows.netRunsSpec.pre enc Tryd.prog Tryd.f8 [] false w args ∧ laidMetH Tryd.prog laidL w) ∧ sizedMet enc Tryd.prog Tryd.f8 (OpenSpec.ofChange Rows.netRunsSpec) false w args) (Rows.netRunsSpec.post enc Tryd.prog Tryd.f8 false true false false) :=
 law_lifted_laid (C := Tryd.checked) (tb := 4) (laid := laidL) ownKnob_none started (by kernel_rfl) Tryd.func8 laidOut rfl (by kernel_rfl) (by kernel_rfl) Tryd.underlying4
  (fun ds h => by
   match ds, h with
   | [_, _], _ => rfl)
  (ChangeSpec.witness_shaped (enc := enc) (C := Tryd.checked) (os := os) (X := fun w _ => laidMetH Tryd.prog laidL w) false (World.laidAll Tryd.prog os laidL) #[.agg (.replicate 37 (.int .u8 0)), .slice none 0 0] 8 (World.laidAll_os _ _ _) (World.shaped_of_ZipB (by kernel_rfl) (by kernel_rfl)) (by kernel_rfl) (by kernel_rfl) (by kernel_rfl) (laid_met os _))
  globs_laid (HO_cons op_shape fun s hs => HO_cons op_ints fun l hl => HO_nil (Runs_c s hs l (maxLen_eq ▸ hl.1)))
theorem NetRuns_row : Rows.NetRunsSaid :=
 OpenClaim.holds_of_wide 8 Tryd.f8 rfl rfl rfl rfl rfl rfl rfl ⟨rfl, rfl, rfl, rfl, rfl⟩ rfl rfl rfl rfl rfl (by kernel_rfl) Tryd.func8 (by kernel_rfl)
  (of_decide_eq_true (by kernel_rfl)) (by unfold Func.isWrapper; rw [if_neg (by decide +kernel)]; exact ⟨rfl, rfl⟩)
  (fun os started H enc _ => NetRuns_lifted os started H enc)
theorem NetRuns_holds : Rows.NetRunsCardSaid :=
 Claim7.holds_tied_plain_at .later [] [.data, .data, .data] true (true, "2c6da988e5e709c17cd8c2c03bcacec864a4c042b03c938d8ac0a841be5339df") false
  NetRuns_row (fun _ h => by cases h) (by kernel_rfl) (fun _ h => by cases h) netRuns_row_tie rfl ⟨rfl, rfl⟩ (by kernel_rfl) rfl
  (fun f fn hf hfn => by
   obtain rfl : f = 8 := (Option.some.inj ((show Tryd.prog.funcNamed "overseer/overseerlaw47.NetRuns" = some 8 by kernel_rfl).symm.trans hf)).symm
   obtain rfl : fn = Tryd.f8 := (Option.some.inj (Tryd.func8.symm.trans hfn)).symm
   exact ⟨by kernel_rfl, fun j t ht => by
    have hm : t ∈ Tryd.f8.params.toList := by simpa using Array.mem_of_getElem? ht
    have hall : (Tryd.f8.params.toList.all fun u => !Tryd.prog.wantsStandIn u) = true := by kernel_rfl
    exact (show Tryd.prog.wantsStandIn t = false by simpa using List.all_eq_true.1 hall t hm)⟩)
  (by kernel_rfl)
end Go.Proofs.YtjldfifepbdlmaaDoor
