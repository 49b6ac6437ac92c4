/-
  The row and the card: checks.
-/
import Derived.Test.YtehhccdkdcgmkaaGreatDoorNC
import Derived.Test.YtehhccdkdcgmkaaGreatDoorLift4
set_option linter.unusedSimpArgs false
set_option linter.unusedVariables false
namespace Go.Proofs.YtehhccdkdcgmkaaGreatDoor
open Go.Eng Go.RowKit Go.ChangeShapes
set_option maxRecDepth 100000 in
theorem opens_arc : Opens Tryz.prog 63 (fun _ : Arc => True) Arc.d :=
  (opens_struct Tryz.underlying63 (opensF_cons rfl (opens_int Tryz.underlying3) (opensF_cons (by kernel_rfl) (opens_int Tryz.underlying3) opensF_nil))).map (fun x => ⟨x.1, x.2.1⟩) (fun _ _ => trivial) (fun _ => rfl)
set_option maxRecDepth 100000 in
theorem opens_tr : Opens Tryz.prog 54 (fun _ : Tr => True) Tr.d :=
  (opens_struct Tryz.underlying54 (opensF_cons rfl (opens_int Tryz.underlying3) (opensF_cons (by kernel_rfl) (opens_slice Tryz.underlying52 (of_decide_eq_true (by kernel_rfl)) opens_arc) (opensF_cons (by kernel_rfl) (opens_slice Tryz.underlying52 (of_decide_eq_true (by kernel_rfl)) opens_arc) opensF_nil)))).map
    (fun x => ⟨x.1, x.2.1, x.2.2.1⟩) (fun _ _ => trivial) (fun _ => rfl)
set_option maxRecDepth 100000 in
theorem opens_net : Opens Tryz.prog 25 (fun _ : Net => True) Net.d :=
  (opens_struct Tryz.underlying25 (opensF_cons rfl (opens_slice Tryz.underlying22 (of_decide_eq_true (by kernel_rfl)) (opens_int Tryz.underlying3)) (opensF_cons (by kernel_rfl) (opens_slice Tryz.underlying23 (of_decide_eq_true (by kernel_rfl)) opens_tr) opensF_nil))).map
    (fun x => ⟨x.1, x.2.1⟩) (fun _ _ => trivial) (fun _ => rfl)
theorem op_net : OpArg Tryz.prog 25 (fun _ : Net => True) (fun n => .agg n.d) := arg_struct Tryz.underlying25 opens_net
set_option maxRecDepth 100000 in
theorem opens_con : Opens Tryz.prog 27 (fun c : Con => c.fac.length ≤ maxLen) Con.d :=
  (opens_struct Tryz.underlying27 (opensF_cons rfl (opens_slice Tryz.underlying22 (of_decide_eq_true (by kernel_rfl)) (opens_int Tryz.underlying3)) (opensF_cons (by kernel_rfl) (opens_int Tryz.underlying3) opensF_nil))).map
    (fun x => ⟨x.1, x.2.1⟩) (fun _ h => h.1.1) (fun _ => rfl)
set_option maxRecDepth 100000 in
theorem op_con : OpArg Tryz.prog 27 (fun c : Con => c.fac.length ≤ maxLen) (fun c => .agg c.d) := arg_struct Tryz.underlying27 opens_con
set_option maxRecDepth 100000 in
theorem op_ints : OpArg Tryz.prog 22 (fun xs : List Int => xs.length ≤ maxLen ∧ ∀ a ∈ xs, (Lit.int .i64 a).wf = true) (fun xs => .one (.list (ints xs))) := arg_slice Tryz.underlying22 (of_decide_eq_true (by kernel_rfl)) (opens_int Tryz.underlying3)
def conZ : Value := .agg #[.slice none 0 0, .int .i64 0]
def netZ : Value := .agg #[.slice none 0 0, .slice none 0 0]
set_option maxRecDepth 100000 in
theorem MonitorChecks_lifted (os : Os) (started : os.Started) (H : Type) (enc : TypeId × Value → H) :
    ReturnsInHanded {} Tryz.checked os 3 .any (fun w args => (Rows.monitorChecksSpec.pre enc Tryz.prog Tryz.f3 [] false w args ∧ laidMetH Tryz.prog laidL w) ∧ sizedMet enc Tryz.prog Tryz.f3 (OpenSpec.ofChange Rows.monitorChecksSpec) false w args) (Rows.monitorChecksSpec.post enc Tryz.prog Tryz.f3 false true false false) :=
  law_lifted_laid (C := Tryz.checked) (tb := 4) (laid := laidL) ownKnob_none started (by kernel_rfl) Tryz.func3 laidOut rfl (by kernel_rfl) (by kernel_rfl) Tryz.underlying4
    (fun ds h => by
      match ds, h with
      | [_, _, _], _ => rfl)
    (ChangeSpec.witness_shaped (enc := enc) (C := Tryz.checked) (os := os) (X := fun w _ => laidMetH Tryz.prog laidL w) false (World.laidAll Tryz.prog os laidL) #[netZ, conZ, .slice none 0 0] 8 (World.laidAll_os _ _ _) (World.shaped_of_ZipB (by kernel_rfl) (by kernel_rfl)) (by kernel_rfl) (by kernel_rfl) (by kernel_rfl) (laid_met os _))
    globs_laid (HO_cons op_net fun n _ => HO_cons op_con fun c _ => HO_cons op_ints fun mk _ => HO_nil (Checks_c n c mk))
theorem MonitorChecks_row : Rows.MonitorChecksSaid :=
  OpenClaim.holds_of_wide 3 Tryz.f3 rfl rfl rfl rfl rfl rfl rfl ⟨rfl, rfl, rfl, rfl, rfl⟩ rfl rfl rfl rfl rfl (by kernel_rfl) Tryz.func3 (by kernel_rfl)
    (of_decide_eq_true (by kernel_rfl)) (by unfold Func.isWrapper; rw [if_neg (by decide +kernel)]; exact ⟨rfl, rfl⟩)
    (fun os started H enc _ => MonitorChecks_lifted os started H enc)
theorem MonitorChecks_holds : Rows.MonitorChecksCardSaid :=
  Claim7.holds_tied_plain_at .later [] [.data, .data, .data] true (true, "fa1b7f5a4798678db1e3469e94aa926244961a819f228903504e47474576d001") false
    MonitorChecks_row (fun _ h => by cases h) (by kernel_rfl) (fun _ h => by cases h) monitorChecks_row_tie rfl ⟨rfl, rfl⟩ (by kernel_rfl) rfl
    (fun f fn hf hfn => by
      obtain rfl : f = 3 := (Option.some.inj ((show Tryz.prog.funcNamed "overseer/overseerlaw50.MonitorChecks" = some 3 by kernel_rfl).symm.trans hf)).symm
      obtain rfl : fn = Tryz.f3 := (Option.some.inj (Tryz.func3.symm.trans hfn)).symm
      exact ⟨by kernel_rfl, fun j t ht => by
        have hm : t ∈ Tryz.f3.params.toList := by simpa using Array.mem_of_getElem? ht
        have hall : (Tryz.f3.params.toList.all fun u => !Tryz.prog.wantsStandIn u) = true := by kernel_rfl
        exact (show Tryz.prog.wantsStandIn t = false by simpa using List.all_eq_true.1 hall t hm)⟩)
    (by kernel_rfl)
end Go.Proofs.YtehhccdkdcgmkaaGreatDoor
