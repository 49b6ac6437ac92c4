/-
  The row and the card: NetPumps.
-/
import Derived.Test.YtjldfifepbdlmaaDoorSJ
import Derived.Test.YtjldfifepbdlmaaDoorSQ
set_option linter.unusedSimpArgs false
set_option linter.unusedVariables false
namespace Go.Proofs.YtjldfifepbdlmaaDoor
open Go.Eng Go.RowKit Go.ChangeShapes
set_option maxRecDepth 100000 in
theorem op_u8s : OpArg Tryd.prog 58 (fun xs : List Int => xs.length ≤ maxLen ∧ ∀ a ∈ xs, (Lit.int .u8 a).wf = true) (fun xs => .one (.list (u8s xs))) := arg_slice Tryd.underlying58 (of_decide_eq_true (by kernel_rfl)) (opens_int Tryd.underlying5)
set_option maxRecDepth 100000 in
theorem NetPumps_lifted (os : Os) (started : os.Started) (H : Type) (enc : TypeId × Value → H) :
    ReturnsInHanded {} Tryd.checked os 4 .any (fun w args => (Rows.netPumpsSpec.pre enc Tryd.prog Tryd.f4 [] false w args ∧ laidMetH Tryd.prog laidL w) ∧ sizedMet enc Tryd.prog Tryd.f4 (OpenSpec.ofChange Rows.netPumpsSpec) false w args) (Rows.netPumpsSpec.post enc Tryd.prog Tryd.f4 false true false false) :=
  law_lifted_laid (C := Tryd.checked) (tb := 4) (laid := laidL) ownKnob_none started (by kernel_rfl) Tryd.func4 laidOut rfl (by kernel_rfl) (by kernel_rfl) Tryd.underlying4
    (fun ds h => by
      match ds, h with
      | [_, _], _ => rfl)
    (ChangeSpec.witness_shaped (enc := enc) (C := Tryd.checked) (os := os) (X := fun w _ => laidMetH Tryd.prog laidL w) false (World.laidAll Tryd.prog os laidL) #[.agg (.replicate 37 (.int .u8 0)), .slice none 0 0] 8 (World.laidAll_os _ _ _) (World.shaped_of_ZipB (by kernel_rfl) (by kernel_rfl)) (by kernel_rfl) (by kernel_rfl) (by kernel_rfl) (laid_met os _))
    globs_laid (HO_cons op_shape fun s hs => HO_cons op_u8s fun l hl => HO_nil (Pumps_c s hs l (fun x hx => u8_range (hl.2 x hx)) (maxLen_eq ▸ hl.1)))
theorem NetPumps_row : Rows.NetPumpsSaid :=
  OpenClaim.holds_of_wide 4 Tryd.f4 rfl rfl rfl rfl rfl rfl rfl ⟨rfl, rfl, rfl, rfl, rfl⟩ rfl rfl rfl rfl rfl (by kernel_rfl) Tryd.func4 (by kernel_rfl)
    (of_decide_eq_true (by kernel_rfl)) (by unfold Func.isWrapper; rw [if_neg (by decide +kernel)]; exact ⟨rfl, rfl⟩)
    (fun os started H enc _ => NetPumps_lifted os started H enc)
theorem NetPumps_holds : Rows.NetPumpsCardSaid :=
  Claim7.holds_tied_plain_at .later [] [.data, .data, .data] true (true, "2c6da988e5e709c17cd8c2c03bcacec864a4c042b03c938d8ac0a841be5339df") false
    NetPumps_row (fun _ h => by cases h) (by kernel_rfl) (fun _ h => by cases h) netPumps_row_tie rfl ⟨rfl, rfl⟩ (by kernel_rfl) rfl
    (fun f fn hf hfn => by
      obtain rfl : f = 4 := (Option.some.inj ((show Tryd.prog.funcNamed "overseer/overseerlaw47.NetPumps" = some 4 by kernel_rfl).symm.trans hf)).symm
      obtain rfl : fn = Tryd.f4 := (Option.some.inj (Tryd.func4.symm.trans hfn)).symm
      exact ⟨by kernel_rfl, fun j t ht => by
        have hm : t ∈ Tryd.f4.params.toList := by simpa using Array.mem_of_getElem? ht
        have hall : (Tryd.f4.params.toList.all fun u => !Tryd.prog.wantsStandIn u) = true := by kernel_rfl
        exact (show Tryd.prog.wantsStandIn t = false by simpa using List.all_eq_true.1 hall t hm)⟩)
    (by kernel_rfl)
end Go.Proofs.YtjldfifepbdlmaaDoor
