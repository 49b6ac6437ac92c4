/-
 The row and the card: NetFires.
-/
import Derived.Test.YtjldfifepbdlmaaDoorSZ
import Derived.Test.YtjldfifepbdlmaaDoorSQ
set_option linter.unusedSimpArgs false
set_option linter.unusedVariables false
namespace Go.Proofs.YtjldfifepbdlmaaDoor
open Go.Eng Go.RowKit Go.ChangeShapes
theorem op_int : OpArg Tryd.prog 3 (fun z => (Lit.int .i64 z).wf = true) (fun z => .one (.int .i64 z)) := arg_int Tryd.underlying3
set_option maxRecDepth 100000 in
set_option maxRecDepth 100000 in
theorem NetFires_lifted (os : Os) (started : os.Started) (H : Type) (enc : TypeId × Value → H) :
  ReturnsInHanded {} Tryd.checked os 7 .any (fun w args => (Rows.netFiresSpec.pre enc Tryd.prog Tryd.f7 [] false w args ∧ laidMetH Tryd.prog laidL w) ∧ sizedMet enc Tryd.prog Tryd.f7 (OpenSpec.ofChange Rows.netFiresSpec) false w args) (Rows.netFiresSpec.post enc Tryd.prog Tryd.f7 false true false false) :=
 law_lifted_laid (C := Tryd.checked) (tb := 4) (laid := laidL) ownKnob_none started (by kernel_rfl) Tryd.func7 laidOut rfl (by kernel_rfl) (by kernel_rfl) Tryd.underlying4
  (fun ds h => by
   match ds, h with
   | [_, _, _], _ => rfl)
  (ChangeSpec.witness_shaped (enc := enc) (C := Tryd.checked) (os := os) (X := fun w _ => laidMetH Tryd.prog laidL w) false (World.laidAll Tryd.prog os laidL) #[.agg (.replicate 37 (.int .u8 0)), .slice none 0 0, .int .i64 0] 8 (World.laidAll_os _ _ _) (World.shaped_of_ZipB (by kernel_rfl) (by kernel_rfl)) (by kernel_rfl) (by kernel_rfl) (by kernel_rfl) (laid_met os _))
  globs_laid (HO_cons op_shape fun s hs => HO_cons op_ints fun l hl => HO_cons op_int fun t _ => HO_nil (Fires_c s hs l t (maxLen_eq ▸ hl.1)))
theorem NetFires_row : Rows.NetFiresSaid :=
 OpenClaim.holds_of_wide 7 Tryd.f7 rfl rfl rfl rfl rfl rfl rfl ⟨rfl, rfl, rfl, rfl, rfl⟩ rfl rfl rfl rfl rfl (by kernel_rfl) Tryd.func7 (by kernel_rfl)
  (of_decide_eq_true (by kernel_rfl)) (by unfold Func.isWrapper; rw [if_neg (by decide +kernel)]; exact ⟨rfl, rfl⟩)
  (fun os started H enc _ => NetFires_lifted os started H enc)
theorem NetFires_holds : Rows.NetFiresCardSaid :=
 Claim7.holds_tied_plain_at .later [] [.data, .data, .data] true (true, "2c6da988e5e709c17cd8c2c03bcacec864a4c042b03c938d8ac0a841be5339df") false
  NetFires_row (fun _ h => by cases h) (by kernel_rfl) (fun _ h => by cases h) netFires_row_tie rfl ⟨rfl, rfl⟩ (by kernel_rfl) rfl
  (fun f fn hf hfn => by
   obtain rfl : f = 7 := (Option.some.inj ((show Tryd.prog.funcNamed "overseer/overseerlaw47.NetFires" = some 7 by kernel_rfl).symm.trans hf)).symm
   obtain rfl : fn = Tryd.f7 := (Option.some.inj (Tryd.func7.symm.trans hfn)).symm
   exact ⟨by kernel_rfl, fun j t ht => by
    have hm : t ∈ Tryd.f7.params.toList := by simpa using Array.mem_of_getElem? ht
    have hall : (Tryd.f7.params.toList.all fun u => !Tryd.prog.wantsStandIn u) = true := by kernel_rfl
    exact (show Tryd.prog.wantsStandIn t = false by simpa using List.all_eq_true.1 hall t hm)⟩)
  (by kernel_rfl)
end Go.Proofs.YtjldfifepbdlmaaDoor
