/-
 The row and the card: NetChecks.
-/
import Derived.Test.YtjldfifepbdlmaaDoorSPL
import Derived.Test.YtjldfifepbdlmaaDoorSQ
set_option linter.unusedSimpArgs false
set_option linter.unusedVariables false
namespace Go.Proofs.YtjldfifepbdlmaaDoor
open Go.Eng Go.RowKit Go.ChangeShapes
set_option maxRecDepth 100000 in
theorem opens_arc : Opens Tryd.prog 69 (fun _ : Arc => True) Arc.d :=
 (opens_struct Tryd.underlying69 (opensF_cons rfl (opens_int Tryd.underlying3) (opensF_cons (by kernel_rfl) (opens_int Tryd.underlying3) opensF_nil))).map (fun x => ⟨x.1, x.2.1⟩) (fun _ _ => trivial) (fun _ => rfl)
set_option maxRecDepth 100000 in
theorem opens_tr : Opens Tryd.prog 72 (fun _ : Tr => True) Tr.d :=
 (opens_struct Tryd.underlying72 (opensF_cons rfl (opens_int Tryd.underlying3) (opensF_cons (by kernel_rfl) (opens_slice Tryd.underlying70 (of_decide_eq_true (by kernel_rfl)) opens_arc) (opensF_cons (by kernel_rfl) (opens_slice Tryd.underlying70 (of_decide_eq_true (by kernel_rfl)) opens_arc) opensF_nil)))).map
  (fun x => ⟨x.1, x.2.1, x.2.2.1⟩) (fun _ _ => trivial) (fun _ => rfl)
set_option maxRecDepth 100000 in
theorem opens_net : Opens Tryd.prog 30 (fun _ : Net => True) Net.d :=
 (opens_struct Tryd.underlying30 (opensF_cons rfl (opens_slice Tryd.underlying27 (of_decide_eq_true (by kernel_rfl)) (opens_int Tryd.underlying3)) (opensF_cons (by kernel_rfl) (opens_slice Tryd.underlying28 (of_decide_eq_true (by kernel_rfl)) opens_tr) opensF_nil))).map
  (fun x => ⟨x.1, x.2.1⟩) (fun _ _ => trivial) (fun _ => rfl)
theorem op_net : OpArg Tryd.prog 30 (fun _ : Net => True) (fun n => .agg n.d) := arg_struct Tryd.underlying30 opens_net
def netZ : Value := .agg #[.slice none 0 0, .slice none 0 0]
set_option maxRecDepth 100000 in
theorem NetChecks_lifted (os : Os) (started : os.Started) (H : Type) (enc : TypeId × Value → H) :
  ReturnsInHanded {} Tryd.checked os 9 .any (fun w args => (Rows.netChecksSpec.pre enc Tryd.prog Tryd.f9 [] false w args ∧ laidMetH Tryd.prog laidL w) ∧ sizedMet enc Tryd.prog Tryd.f9 (OpenSpec.ofChange Rows.netChecksSpec) false w args) (Rows.netChecksSpec.post enc Tryd.prog Tryd.f9 false true false false) :=
 law_lifted_laid (C := Tryd.checked) (tb := 4) (laid := laidL) ownKnob_none started (by kernel_rfl) Tryd.func9 laidOut rfl (by kernel_rfl) (by kernel_rfl) Tryd.underlying4
  (fun ds h => by
   match ds, h with
   | [_, _, _], _ => rfl)
  (ChangeSpec.witness_shaped (enc := enc) (C := Tryd.checked) (os := os) (X := fun w _ => laidMetH Tryd.prog laidL w) false (World.laidAll Tryd.prog os laidL) #[netZ, netZ, .slice none 0 0] 8 (World.laidAll_os _ _ _) (World.shaped_of_ZipB (by kernel_rfl) (by kernel_rfl)) (by kernel_rfl) (by kernel_rfl) (by kernel_rfl) (laid_met os _))
  globs_laid (HO_cons op_net fun n _ => HO_cons op_net fun o _ => HO_cons op_ints fun mk _ => HO_nil (NetChecks_c n o mk))
theorem NetChecks_row : Rows.NetChecksSaid :=
 OpenClaim.holds_of_wide 9 Tryd.f9 rfl rfl rfl rfl rfl rfl rfl ⟨rfl, rfl, rfl, rfl, rfl⟩ rfl rfl rfl rfl rfl (by kernel_rfl) Tryd.func9 (by kernel_rfl)
  (of_decide_eq_true (by kernel_rfl)) (by unfold Func.isWrapper; rw [if_neg (by decide +kernel)]; exact ⟨rfl, rfl⟩)
  (fun os started H enc _ => NetChecks_lifted os started H enc)
theorem NetChecks_holds : Rows.NetChecksCardSaid :=
 Claim7.holds_tied_plain_at .later [] [.data, .data, .data] true (true, "2c6da988e5e709c17cd8c2c03bcacec864a4c042b03c938d8ac0a841be5339df") false
  NetChecks_row (fun _ h => by cases h) (by kernel_rfl) (fun _ h => by cases h) netChecks_row_tie rfl ⟨rfl, rfl⟩ (by kernel_rfl) rfl
  (fun f fn hf hfn => by
   obtain rfl : f = 9 := (Option.some.inj ((show Tryd.prog.funcNamed "overseer/overseerlaw47.NetChecks" = some 9 by kernel_rfl).symm.trans hf)).symm
   obtain rfl : fn = Tryd.f9 := (Option.some.inj (Tryd.func9.symm.trans hfn)).symm
   exact ⟨by kernel_rfl, fun j t ht => by
    have hm : t ∈ Tryd.f9.params.toList := by simpa using Array.mem_of_getElem? ht
    have hall : (Tryd.f9.params.toList.all fun u => !Tryd.prog.wantsStandIn u) = true := by kernel_rfl
    exact (show Tryd.prog.wantsStandIn t = false by simpa using List.all_eq_true.1 hall t hm)⟩)
  (by kernel_rfl)
end Go.Proofs.YtjldfifepbdlmaaDoor
