/-
 Chapter 23: the law's sameAll, has, alike, difference.
-/
import Derived.Test.YtkjnjkdcpbgabaaGreatDoorUF
set_option linter.unusedSimpArgs false
set_option linter.unusedVariables false
namespace Go.Proofs.YtkjnjkdcpbgabaaGreatDoor
open Go.Eng Go.RowKit
set_option maxHeartbeats 8000000 in
theorem has_c (l : List It) (x : It) (hl : LFits l) : ACalls Tryz.prog 76 [.one (.list (itD l)), .agg x.d] (.one (.bool (hasB l x))) [] := by
 have hll := hl.len
 generalize hE : hasB l x = E at *
 (refine ACalls.of_body Ty_ok mixed Tryz.func76 rfl (by kernel_rfl) Tryz.ntmps76 (by simp) (congrArg Array.toList Tryz.results76) ?_)
 simp only [slotsOf, It.d]
 (repeat' (first | (with_reducible first | exact True.intro | refine And.intro ?_ ?_ | refine awp_block ?_ | ((first | refine awp_seq1 6 [] ?_ | refine awp_seq2 6 [] ?_ | refine awp_seq3 6 [] ?_ | refine awp_seq4 6 [] ?_ | refine awp_seq 6 [] ?_); intro K hK)) | ((with_reducible first | refine awp_reg ?_ | refine awp_exit ?_ | refine awp_skip ?_ | refine likeK_i ?_ | refine otWR_i ?_ | refine rP Ty_ok mixed 4 [0, 1] [.mid [pe 2, pe 3, pe 4] 0, .one 5] ?_); simp only [go_sem]) | (with_reducible refine awp_ret ?_; simp only [retF, retM, retL, resV, resW, retO, resAV, AV.bor, D.bor, D.bor1, D.bor0, AV.flatOwn, D.flatOwn, D.flat, AV.tagged, D.tagged, AObj.plain, go_sem]) | ((with_reducible refine awp_cond' ?_ ?_ (fun hb => ?_) (fun hb => ?_)); (simp only [go_sem]); (simp only [go_sem]); all_goals (simp only [go_sem] at hb; try simp only [bls] at hb)) | ((iterate 6 try ((fail_if_success with_reducible refine hK _ ?_ ?_ ?_); clear hK K)); with_reducible refine hK _ ?_ ?_ ?_; rotate_left; (focus (simp only [go_sem]; exact rfl)); clear hK K) | (with_reducible refine gsplit_i (fun hg0 => ?_) (fun hg0 => ?_) <;> first | (with_reducible first | exact absurd hg0 Bool.false_ne_true | exact absurd hg0.symm Bool.false_ne_true) | (simp only [hg0, go_sem])) | (with_reducible refine nilK_i ?_; intro bnil hnil; try simp only []) | (omega; done) | (intro hv; (try simp only [bls] at hv); (try simp only [bls]); omega) | (intro hg; (simp only [hg, Bool.true_and, true_and, implies_true]; try (intro hg2; simp only [hg2, Bool.not_false, Bool.not_true])); done)))
 all_goals first | omega | skip
 refine awp_loop _ (by simp only [go_sem]; rfl) Nat (fun k => k ≤ l.length ∧ E = hasB (l.drop k) x) (fun k => [(5, .one (.int .i64 k))]) (fun _ H => H) (fun k => l.length - k) 0 ⟨by omega, by simpa using hE.symm⟩ ?_ ?_
 ·(simp only [SubF, go_sem]; (try simp only [go_sem]); repeat' (first | exact True.intro | with_reducible refine And.intro ?_ ?_ | rfl | omega))
 rintro k ⟨hk, hres⟩ L hL
 have hq : ((k : Nat) : Int).toNat = k := by omega
 rcases (Decidable.em (k < l.length)) with hlt | hlt
 ·have hlf : decide ((k : Int) < l.length) = true := decide_eq_true (by omega)
  have hga := itD_get hlt [.int .i64 0, .str [], .nil, .int .i64 0, .nil, .nil, .nil, .nil, .int .i64 0]
  have hc := same_c (l.getD k It.no) x (hl.it _ (getD_mem l k It.no hlt))
  rw [hasB, drop_getD l k It.no hlt, List.any_cons] at hres
  have hcm : decide (x = l.getD k It.no) = decide (l.getD k It.no = x) := by rw [Bool.eq_iff_iff, decide_eq_true_eq, decide_eq_true_eq]; exact eq_comm
  rw [hcm] at hres
  generalize hu : decide (l.getD k It.no = x) = u at *
  generalize l.getD k It.no = y at *
  simp only [It.d] at hga hc
  (simp only [go_sem] at hL ⊢)
  (repeat' (first | (with_reducible first | exact True.intro | refine And.intro ?_ ?_ | refine awp_block ?_ | ((first | refine awp_seq1 6 [] ?_ | refine awp_seq2 6 [] ?_ | refine awp_seq3 6 [] ?_ | refine awp_seq4 6 [] ?_ | refine awp_seq 6 [] ?_); intro K hK)) | ((with_reducible first | refine awp_reg ?_ | refine awp_exit ?_ | refine awp_skip ?_ | refine likeK_i ?_ | refine otWR_i ?_ | refine rP Ty_ok mixed 4 [0, 1] [.mid [pe 2, pe 3, pe 4] 0, .one 5] ?_); simp only [hq, hlf, hga, go_sem]) | (with_reducible refine awp_ret ?_; simp only [retF, retM, retL, resV, resW, retO, resAV, AV.bor, D.bor, D.bor1, D.bor0, AV.flatOwn, D.flatOwn, D.flat, AV.tagged, D.tagged, AObj.plain, hq, hlf, hga, go_sem]) | ((with_reducible refine awp_cond' ?_ ?_ (fun hb => ?_) (fun hb => ?_)); (simp only [hq, hlf, hga, go_sem]); (simp only [hq, hlf, hga, go_sem]); all_goals (simp only [hq, hlf, hga, go_sem] at hb; try simp only [bls] at hb)) | ((iterate 6 try ((fail_if_success with_reducible refine hK _ ?_ ?_ ?_); clear hK K)); with_reducible refine hK _ ?_ ?_ ?_; rotate_left; (focus (simp only [hq, hlf, hga, go_sem]; exact rfl)); clear hK K) | ((first | (with_reducible first | refine cA hc ?_ | refine cD hc ?_ | refine cO hc ?_ | refine cR hc ?_ | refine cG (fun hg => hc) ?_ | refine cH (fun hg => hc) ?_ | refine cM (fun hg => hc) ?_) | (guard_target = CallAt _ _ _ _ _ _ _ _ _ _; refine cA hc ?_) | (guard_target = DCallAt _ _ _ _ _ _ _ _; refine cD hc ?_) | (guard_target = GCallAt _ _ _ _ _ _ _ _ _ _ _; refine cG (fun hg => hc) ?_)); simp only [hq, hlf, hga, go_sem]) | (with_reducible refine gsplit_i (fun hg0 => ?_) (fun hg0 => ?_) <;> first | (with_reducible first | exact absurd hg0 Bool.false_ne_true | exact absurd hg0.symm Bool.false_ne_true) | (simp only [hg0, hq, hlf, hga, go_sem])) | (with_reducible refine nilK_i ?_; intro bnil hnil; try simp only []) | (omega; done) | (intro hv; (try simp only [bls] at hv); (try simp only [bls]); omega) | (intro hg; (simp only [hg, Bool.true_and, true_and, implies_true]; try (intro hg2; simp only [hg2, Bool.not_false, Bool.not_true])); done)))
  all_goals first | omega | skip
  ·rw [hres, hb, Bool.true_or]
  ·rw [hb, Bool.false_or] at hres
   exact hL _ (k + 1) ⟨by omega, hres⟩ (by (simp only [SubF, go_sem]; (try simp only [go_sem]); repeat' (first | exact True.intro | with_reducible refine And.intro ?_ ?_ | rfl | omega))) (by omega)
 have hkk : k = l.length := by omega
 subst hkk
 have hlf : decide ((l.length : Int) < l.length) = false := decide_eq_false (by omega)
 rw [drop_end l _ (Nat.le_refl _)] at hres
 (simp only [go_sem] at hL ⊢)
 (repeat' (first | (with_reducible first | exact True.intro | refine And.intro ?_ ?_ | refine awp_block ?_ | ((first | refine awp_seq1 6 [] ?_ | refine awp_seq2 6 [] ?_ | refine awp_seq3 6 [] ?_ | refine awp_seq4 6 [] ?_ | refine awp_seq 6 [] ?_); intro K hK)) | ((with_reducible first | refine awp_reg ?_ | refine awp_exit ?_ | refine awp_skip ?_ | refine likeK_i ?_ | refine otWR_i ?_ | refine rP Ty_ok mixed 4 [0, 1] [.mid [pe 2, pe 3, pe 4] 0, .one 5] ?_); simp only [hlf, go_sem]) | (with_reducible refine awp_ret ?_; simp only [retF, retM, retL, resV, resW, retO, resAV, AV.bor, D.bor, D.bor1, D.bor0, AV.flatOwn, D.flatOwn, D.flat, AV.tagged, D.tagged, AObj.plain, hlf, go_sem]) | ((with_reducible refine awp_cond' ?_ ?_ (fun hb => ?_) (fun hb => ?_)); (simp only [hlf, go_sem]); (simp only [hlf, go_sem]); all_goals (simp only [hlf, go_sem] at hb; try simp only [bls] at hb)) | ((iterate 6 try ((fail_if_success with_reducible refine hK _ ?_ ?_ ?_); clear hK K)); with_reducible refine hK _ ?_ ?_ ?_; rotate_left; (focus (simp only [hlf, go_sem]; exact rfl)); clear hK K) | (with_reducible refine gsplit_i (fun hg0 => ?_) (fun hg0 => ?_) <;> first | (with_reducible first | exact absurd hg0 Bool.false_ne_true | exact absurd hg0.symm Bool.false_ne_true) | (simp only [hg0, hlf, go_sem])) | (with_reducible refine nilK_i ?_; intro bnil hnil; try simp only []) | (omega; done) | (intro hv; (try simp only [bls] at hv); (try simp only [bls]); omega) | (intro hg; (simp only [hg, Bool.true_and, true_and, implies_true]; try (intro hg2; simp only [hg2, Bool.not_false, Bool.not_true])); done)))
 all_goals first | omega | skip
 rw [hres]; rfl
set_option maxHeartbeats 8000000 in
theorem lawalike_c (a b : List It) (ha : LFits a) (hb0 : LFits b) : ACalls Tryz.prog 40 [.one (.list (itD a)), .one (.list (itD b))] (.one (.bool (alikeB a b))) [] := by
 have hal := ha.len
 have hbl := hb0.len
 have hE : alikeB a b = (decide (a.length = b.length) && (a.all (hasB b) && b.all (hasB a))) := rfl
 generalize alikeB a b = E at *
 (refine ACalls.of_body Ty_ok mixed Tryz.func40 rfl (by kernel_rfl) Tryz.ntmps40 (by simp) (congrArg Array.toList Tryz.results40) ?_)
 simp only [slotsOf]
 (repeat' (first | (with_reducible first | exact True.intro | refine And.intro ?_ ?_ | refine awp_block ?_ | ((first | refine awp_seq1 6 [] ?_ | refine awp_seq2 6 [] ?_ | refine awp_seq3 6 [] ?_ | refine awp_seq4 6 [] ?_ | refine awp_seq 6 [] ?_); intro K hK)) | ((with_reducible first | refine awp_reg ?_ | refine awp_exit ?_ | refine awp_skip ?_ | refine likeK_i ?_ | refine otWR_i ?_); simp only [go_sem]) | (with_reducible refine awp_ret ?_; simp only [retF, retM, retL, resV, resW, retO, resAV, AV.bor, D.bor, D.bor1, D.bor0, AV.flatOwn, D.flatOwn, D.flat, AV.tagged, D.tagged, AObj.plain, go_sem]) | ((with_reducible refine awp_cond' ?_ ?_ (fun hb => ?_) (fun hb => ?_)); (simp only [go_sem]); (simp only [go_sem]); all_goals (simp only [go_sem] at hb; try simp only [bls] at hb)) | ((iterate 6 try ((fail_if_success with_reducible refine hK _ ?_ ?_ ?_); clear hK K)); with_reducible refine hK _ ?_ ?_ ?_; rotate_left; (focus (simp only [go_sem]; exact rfl)); clear hK K) | (with_reducible refine gsplit_i (fun hg0 => ?_) (fun hg0 => ?_) <;> first | (with_reducible first | exact absurd hg0 Bool.false_ne_true | exact absurd hg0.symm Bool.false_ne_true) | (simp only [hg0, go_sem])) | (with_reducible refine nilK_i ?_; intro bnil hnil; try simp only []) | (omega; done) | (intro hv; (try simp only [bls] at hv); (try simp only [bls]); omega) | (intro hg; (simp only [hg, Bool.true_and, true_and, implies_true]; try (intro hg2; simp only [hg2, Bool.not_false, Bool.not_true])); done)))
 all_goals first | omega | skip
 ·rw [hE, decide_eq_false (by omega)]; rfl
 have hlen : a.length = b.length := by omega
 rw [decide_eq_true hlen, Bool.true_and] at hE
 refine awp_loop _ (by simp only [go_sem]; rfl) Nat (fun k => k ≤ a.length ∧ E = ((a.drop k).all (hasB b) && (b.drop k).all (hasB a))) (fun k => [(5, .one (.int .i64 k))]) (fun _ H => H) (fun k => a.length - k) 0 ⟨by omega, by simpa using hE⟩ ?_ ?_
 ·(simp only [SubF, go_sem]; (try simp only [go_sem]); repeat' (first | exact True.intro | with_reducible refine And.intro ?_ ?_ | rfl | omega))
 rintro k ⟨hk, hres⟩ L hL
 have hq : ((k : Nat) : Int).toNat = k := by omega
 rcases (Decidable.em (k < a.length)) with hlt | hlt
 ·have hlf : decide ((k : Int) < a.length) = true := decide_eq_true (by omega)
  have hga := itD_get hlt [.int .i64 0, .str [], .nil, .int .i64 0, .nil, .nil, .nil, .nil, .int .i64 0]
  have hgb := itD_get (show k < b.length by omega) [.int .i64 0, .str [], .nil, .int .i64 0, .nil, .nil, .nil, .nil, .int .i64 0]
  have hc1 := has_c b (a.getD k It.no) hb0
  have hc2 := has_c a (b.getD k It.no) ha
  rw [all_step (d := It.no) hlt, all_step (d := It.no) (show k < b.length by omega)] at hres
  generalize hasB b (a.getD k It.no) = u at *
  generalize hasB a (b.getD k It.no) = v at *
  generalize a.getD k It.no = x at *
  generalize b.getD k It.no = y at *
  simp only [It.d] at hga hgb hc1 hc2
  (simp only [go_sem] at hL ⊢)
  (repeat' (first | (with_reducible first | exact True.intro | refine And.intro ?_ ?_ | refine awp_block ?_ | ((first | refine awp_seq1 6 [] ?_ | refine awp_seq2 6 [] ?_ | refine awp_seq3 6 [] ?_ | refine awp_seq4 6 [] ?_ | refine awp_seq 6 [] ?_); intro K hK)) | ((with_reducible first | refine awp_reg ?_ | refine awp_exit ?_ | refine awp_skip ?_ | refine likeK_i ?_ | refine otWR_i ?_); simp only [hq, hlf, hga, hgb, go_sem]) | (with_reducible refine awp_ret ?_; simp only [retF, retM, retL, resV, resW, retO, resAV, AV.bor, D.bor, D.bor1, D.bor0, AV.flatOwn, D.flatOwn, D.flat, AV.tagged, D.tagged, AObj.plain, hq, hlf, hga, hgb, go_sem]) | ((with_reducible refine awp_cond' ?_ ?_ (fun hb => ?_) (fun hb => ?_)); (simp only [hq, hlf, hga, hgb, go_sem]); (simp only [hq, hlf, hga, hgb, go_sem]); all_goals (simp only [hq, hlf, hga, hgb, go_sem] at hb; try simp only [bls] at hb)) | ((iterate 6 try ((fail_if_success with_reducible refine hK _ ?_ ?_ ?_); clear hK K)); with_reducible refine hK _ ?_ ?_ ?_; rotate_left; (focus (simp only [hq, hlf, hga, hgb, go_sem]; exact rfl)); clear hK K) | ((first | (with_reducible first | refine cA hc1 ?_ | refine cA hc2 ?_ | refine cD hc1 ?_ | refine cD hc2 ?_ | refine cO hc1 ?_ | refine cO hc2 ?_ | refine cR hc1 ?_ | refine cR hc2 ?_ | refine cG (fun hg => hc1) ?_ | refine cG (fun hg => hc2) ?_ | refine cH (fun hg => hc1) ?_ | refine cH (fun hg => hc2) ?_ | refine cM (fun hg => hc1) ?_ | refine cM (fun hg => hc2) ?_) | (guard_target = CallAt _ _ _ _ _ _ _ _ _ _; first | refine cA hc1 ?_ | refine cA hc2 ?_) | (guard_target = DCallAt _ _ _ _ _ _ _ _; first | refine cD hc1 ?_ | refine cD hc2 ?_) | (guard_target = GCallAt _ _ _ _ _ _ _ _ _ _ _; first | refine cG (fun hg => hc1) ?_ | refine cG (fun hg => hc2) ?_)); simp only [hq, hlf, hga, hgb, go_sem]) | (with_reducible refine gsplit_i (fun hg0 => ?_) (fun hg0 => ?_) <;> first | (with_reducible first | exact absurd hg0 Bool.false_ne_true | exact absurd hg0.symm Bool.false_ne_true) | (simp only [hg0, hq, hlf, hga, hgb, go_sem])) | (with_reducible refine nilK_i ?_; intro bnil hnil; try simp only []) | (omega; done) | (intro hv; (try simp only [bls] at hv); (try simp only [bls]); omega) | (intro hg; (simp only [hg, Bool.true_and, true_and, implies_true]; try (intro hg2; simp only [hg2, Bool.not_false, Bool.not_true])); done)))
  all_goals first | omega | skip
  ·intro h; exact ⟨h, by omega, by omega⟩
  ·rcases hb with h | h
   ·rw [hres, h]; simp
   ·rw [hres, h]; simp
  ·rw [hb.1, hb.2, Bool.true_and, Bool.true_and] at hres
   exact hL _ (k + 1) ⟨by omega, hres⟩ (by (simp only [SubF, go_sem]; (try simp only [go_sem]); repeat' (first | exact True.intro | with_reducible refine And.intro ?_ ?_ | rfl | omega))) (by omega)
 have hkk : k = a.length := by omega
 subst hkk
 have hlf : decide ((a.length : Int) < a.length) = false := decide_eq_false (by omega)
 rw [drop_end a _ (Nat.le_refl _), drop_end b _ (by omega)] at hres
 (simp only [go_sem] at hL ⊢)
 (repeat' (first | (with_reducible first | exact True.intro | refine And.intro ?_ ?_ | refine awp_block ?_ | ((first | refine awp_seq1 6 [] ?_ | refine awp_seq2 6 [] ?_ | refine awp_seq3 6 [] ?_ | refine awp_seq4 6 [] ?_ | refine awp_seq 6 [] ?_); intro K hK)) | ((with_reducible first | refine awp_reg ?_ | refine awp_exit ?_ | refine awp_skip ?_ | refine likeK_i ?_ | refine otWR_i ?_); simp only [hlf, go_sem]) | (with_reducible refine awp_ret ?_; simp only [retF, retM, retL, resV, resW, retO, resAV, AV.bor, D.bor, D.bor1, D.bor0, AV.flatOwn, D.flatOwn, D.flat, AV.tagged, D.tagged, AObj.plain, hlf, go_sem]) | ((with_reducible refine awp_cond' ?_ ?_ (fun hb => ?_) (fun hb => ?_)); (simp only [hlf, go_sem]); (simp only [hlf, go_sem]); all_goals (simp only [hlf, go_sem] at hb; try simp only [bls] at hb)) | ((iterate 6 try ((fail_if_success with_reducible refine hK _ ?_ ?_ ?_); clear hK K)); with_reducible refine hK _ ?_ ?_ ?_; rotate_left; (focus (simp only [hlf, go_sem]; exact rfl)); clear hK K) | (with_reducible refine gsplit_i (fun hg0 => ?_) (fun hg0 => ?_) <;> first | (with_reducible first | exact absurd hg0 Bool.false_ne_true | exact absurd hg0.symm Bool.false_ne_true) | (simp only [hg0, hlf, go_sem])) | (with_reducible refine nilK_i ?_; intro bnil hnil; try simp only []) | (omega; done) | (intro hv; (try simp only [bls] at hv); (try simp only [bls]); omega) | (intro hg; (simp only [hg, Bool.true_and, true_and, implies_true]; try (intro hg2; simp only [hg2, Bool.not_false, Bool.not_true])); done)))
 all_goals first | omega | skip
 rw [hres]; rfl
set_option maxHeartbeats 16000000 in
theorem lawdiffN_c (a b : List It) (ha : LFits a) (hb0 : LFits b) : ACalls Tryz.prog 39 [.one (.list (itD a)), .one (.list (itD b))] (.one (.list (edtN (diffA b a ++ (b.filter (fun x => !hasB a x)).map (fun x => ⟨false, x⟩))))) [] := by
 have hal := ha.len
 have hbl := hb0.len
 generalize hX : diffA b a ++ (b.filter (fun x => !hasB a x)).map (fun x => (⟨false, x⟩ : Edt)) = X at *
 (refine ACalls.of_body Ty_ok mixed Tryz.func39 rfl (by kernel_rfl) Tryz.ntmps39 (by simp) (congrArg Array.toList Tryz.results39) ?_)
 simp only [slotsOf]
 (repeat' (first | (with_reducible first | exact True.intro | refine And.intro ?_ ?_ | refine awp_block ?_ | ((first | refine awp_seq1 8 [] ?_ | refine awp_seq2 8 [] ?_ | refine awp_seq3 8 [] ?_ | refine awp_seq4 8 [] ?_ | refine awp_seq 8 [] ?_); intro K hK)) | ((with_reducible first | refine awp_reg ?_ | refine awp_exit ?_ | refine awp_skip ?_ | refine likeK_i ?_ | refine otWR_i ?_ | refine rP Ty_ok mixed 5 [0, 1, 2, 6, 7] [.mid [pe 3, pe 4, pe 5, pe 8, pe 9, pe 10] 0, .one 11, .one 12] ?_ | refine rP Ty_ok mixed 6 [0, 1, 2, 6, 7] [.mid [pe 3, pe 4, pe 5, pe 8, pe 9, pe 10, pe 11, pe 12, pe 13] 0, .one 14, .one 15] ?_); simp only [go_sem]) | (with_reducible refine awp_ret ?_; simp only [retF, retM, retL, resV, resW, retO, resAV, AV.bor, D.bor, D.bor1, D.bor0, AV.flatOwn, D.flatOwn, D.flat, AV.tagged, D.tagged, AObj.plain, go_sem]) | ((with_reducible refine awp_cond' ?_ ?_ (fun hb => ?_) (fun hb => ?_)); (simp only [go_sem]); (simp only [go_sem]); all_goals (simp only [go_sem] at hb; try simp only [bls] at hb)) | ((iterate 6 try ((fail_if_success with_reducible refine hK _ ?_ ?_ ?_); clear hK K)); with_reducible refine hK _ ?_ ?_ ?_; rotate_left; (focus (simp only [go_sem]; exact rfl)); clear hK K) | (with_reducible refine gsplit_i (fun hg0 => ?_) (fun hg0 => ?_) <;> first | (with_reducible first | exact absurd hg0 Bool.false_ne_true | exact absurd hg0.symm Bool.false_ne_true) | (simp only [hg0, go_sem])) | (with_reducible refine nilK_i ?_; intro bnil hnil; try simp only []) | (omega; done) | (intro hv; (try simp only [bls] at hv); (try simp only [bls]); omega) | (intro hg; (simp only [hg, Bool.true_and, true_and, implies_true]; try (intro hg2; simp only [hg2, Bool.not_false, Bool.not_true])); done)))
 all_goals first | omega | skip
 refine awp_loop _ (by simp only [go_sem]; rfl) (Nat × List Edt) (fun z => z.1 ≤ a.length ∧ X = (z.2 ++ diffA b (a.drop z.1)) ++ (b.filter (fun x => !hasB a x)).map (fun x => (⟨false, x⟩ : Edt)) ∧ z.2.length ≤ z.1) (fun z => [(5, .one (.own 1)), (6, .one (.int .i64 z.1))]) (fun z H => H.set 1 (.row 42 10 (edtN z.2))) (fun z => a.length - z.1) (0, []) ⟨by omega, by simpa using hX.symm, by decide⟩ ?_ ?_
 ·(simp only [SubF, go_sem]; (try simp only [go_sem]); repeat' (first | exact True.intro | with_reducible refine And.intro ?_ ?_ | rfl | omega))
 rintro ⟨k, o⟩ ⟨hk, hres, hol⟩ L hL
 dsimp only at hk hres hol
 have hq : ((k : Nat) : Int).toNat = k := by omega
 rcases (Decidable.em (k < a.length)) with hlt | hlt
 ·have hlf : decide ((k : Int) < a.length) = true := decide_eq_true (by omega)
  have hg := itD_get hlt [.int .i64 0, .str [], .nil, .int .i64 0, .nil, .nil, .nil, .nil, .int .i64 0]
  rw [drop_getD a k It.no hlt, diffA, List.filter_cons] at hres
  generalize a.getD k It.no = y at *
  have hF := lawfind_c b y.kind y.name (by omega)
  generalize findI b y.kind y.name = f at *
  simp only [It.d] at hg
  (simp only [go_sem] at hL ⊢)
  (repeat' (first | (with_reducible first | exact True.intro | refine And.intro ?_ ?_ | refine awp_block ?_ | ((first | refine awp_seq1 8 [] ?_ | refine awp_seq2 8 [] ?_ | refine awp_seq3 8 [] ?_ | refine awp_seq4 8 [] ?_ | refine awp_seq 8 [] ?_); intro K hK)) | ((with_reducible first | refine awp_reg ?_ | refine awp_exit ?_ | refine awp_skip ?_ | refine likeK_i ?_ | refine otWR_i ?_ | refine rP Ty_ok mixed 5 [0, 1, 2, 6, 7] [.mid [pe 3, pe 4, pe 5, pe 8, pe 9, pe 10] 0, .one 11, .one 12] ?_ | refine rP Ty_ok mixed 6 [0, 1, 2, 6, 7] [.mid [pe 3, pe 4, pe 5, pe 8, pe 9, pe 10, pe 11, pe 12, pe 13] 0, .one 14, .one 15] ?_); simp only [hg, hq, hlf, go_sem]) | (with_reducible refine awp_ret ?_; simp only [retF, retM, retL, resV, resW, retO, resAV, AV.bor, D.bor, D.bor1, D.bor0, AV.flatOwn, D.flatOwn, D.flat, AV.tagged, D.tagged, AObj.plain, hg, hq, hlf, go_sem]) | ((with_reducible refine awp_cond' ?_ ?_ (fun hb => ?_) (fun hb => ?_)); (simp only [hg, hq, hlf, go_sem]); (simp only [hg, hq, hlf, go_sem]); all_goals (simp only [hg, hq, hlf, go_sem] at hb; try simp only [bls] at hb)) | ((iterate 6 try ((fail_if_success with_reducible refine hK _ ?_ ?_ ?_); clear hK K)); with_reducible refine hK _ ?_ ?_ ?_; rotate_left; (focus (simp only [hg, hq, hlf, go_sem]; exact rfl)); clear hK K) | ((first | (with_reducible first | refine cA hF ?_ | refine cD hF ?_ | refine cO hF ?_ | refine cR hF ?_ | refine cG (fun hg => hF) ?_ | refine cH (fun hg => hF) ?_ | refine cM (fun hg => hF) ?_) | (guard_target = CallAt _ _ _ _ _ _ _ _ _ _; refine cA hF ?_) | (guard_target = DCallAt _ _ _ _ _ _ _ _; refine cD hF ?_) | (guard_target = GCallAt _ _ _ _ _ _ _ _ _ _ _; refine cG (fun hg => hF) ?_)); simp only [hg, hq, hlf, go_sem]) | (with_reducible refine gsplit_i (fun hg0 => ?_) (fun hg0 => ?_) <;> first | (with_reducible first | exact absurd hg0 Bool.false_ne_true | exact absurd hg0.symm Bool.false_ne_true) | (simp only [hg0, hg, hq, hlf, go_sem])) | (with_reducible refine nilK_i ?_; intro bnil hnil; try simp only []) | (omega; done) | (intro hv; (try simp only [bls] at hv); (try simp only [bls]); omega) | (intro hg; (simp only [hg, Bool.true_and, true_and, implies_true]; try (intro hg2; simp only [hg2, Bool.not_false, Bool.not_true])); done)))
  all_goals first | omega | skip
  ·rw [if_pos (by simpa using hb), List.map_cons] at hres
   refine hL _ (k + 1, o ++ [⟨true, ⟨y.kind, y.name, AU.no, [], [], 0⟩⟩]) ⟨by omega, by rw [hres, diffA]; simp, by simp only [List.length_append, List.length_cons, List.length_nil]; omega⟩ ?_ (by dsimp only; omega)
   dsimp only
   rw [← edtN_append, edtN_drop]
   (simp only [SubF, go_sem]; (try simp only [go_sem]); repeat' (first | exact True.intro | with_reducible refine And.intro ?_ ?_ | rfl | omega))
  ·rw [if_neg (by simpa using hb)] at hres
   refine hL _ (k + 1, o) ⟨by omega, by rw [hres, diffA], by dsimp only; omega⟩ ?_ (by dsimp only; omega)
   (simp only [SubF, go_sem]; (try simp only [go_sem]); repeat' (first | exact True.intro | with_reducible refine And.intro ?_ ?_ | rfl | omega))
 have hkl : k = a.length := by omega
 subst hkl
 have hlf : decide ((a.length : Int) < a.length) = false := decide_eq_false (by omega)
 rw [List.drop_length, diffA, List.filter_nil, List.map_nil, List.append_nil] at hres
 (simp only [go_sem] at hL ⊢)
 (repeat' (first | (with_reducible first | exact True.intro | refine And.intro ?_ ?_ | refine awp_block ?_ | ((first | refine awp_seq1 8 [] ?_ | refine awp_seq2 8 [] ?_ | refine awp_seq3 8 [] ?_ | refine awp_seq4 8 [] ?_ | refine awp_seq 8 [] ?_); intro K hK)) | ((with_reducible first | refine awp_reg ?_ | refine awp_exit ?_ | refine awp_skip ?_ | refine likeK_i ?_ | refine otWR_i ?_ | refine rP Ty_ok mixed 5 [0, 1, 2, 6, 7] [.mid [pe 3, pe 4, pe 5, pe 8, pe 9, pe 10] 0, .one 11, .one 12] ?_ | refine rP Ty_ok mixed 6 [0, 1, 2, 6, 7] [.mid [pe 3, pe 4, pe 5, pe 8, pe 9, pe 10, pe 11, pe 12, pe 13] 0, .one 14, .one 15] ?_); simp only [hlf, go_sem]) | (with_reducible refine awp_ret ?_; simp only [retF, retM, retL, resV, resW, retO, resAV, AV.bor, D.bor, D.bor1, D.bor0, AV.flatOwn, D.flatOwn, D.flat, AV.tagged, D.tagged, AObj.plain, hlf, go_sem]) | ((with_reducible refine awp_cond' ?_ ?_ (fun hb => ?_) (fun hb => ?_)); (simp only [hlf, go_sem]); (simp only [hlf, go_sem]); all_goals (simp only [hlf, go_sem] at hb; try simp only [bls] at hb)) | ((iterate 6 try ((fail_if_success with_reducible refine hK _ ?_ ?_ ?_); clear hK K)); with_reducible refine hK _ ?_ ?_ ?_; rotate_left; (focus (simp only [hlf, go_sem]; exact rfl)); clear hK K) | (with_reducible refine gsplit_i (fun hg0 => ?_) (fun hg0 => ?_) <;> first | (with_reducible first | exact absurd hg0 Bool.false_ne_true | exact absurd hg0.symm Bool.false_ne_true) | (simp only [hg0, hlf, go_sem])) | (with_reducible refine nilK_i ?_; intro bnil hnil; try simp only []) | (omega; done) | (intro hv; (try simp only [bls] at hv); (try simp only [bls]); omega) | (intro hg; (simp only [hg, Bool.true_and, true_and, implies_true]; try (intro hg2; simp only [hg2, Bool.not_false, Bool.not_true])); done)))
 all_goals first | omega | skip
 clear hL
 refine awp_loop _ (by simp only [go_sem]; rfl) (Nat × List Edt) (fun z => z.1 ≤ b.length ∧ X = z.2 ++ ((b.drop z.1).filter (fun x => !hasB a x)).map (fun x => (⟨false, x⟩ : Edt)) ∧ z.2.length ≤ 2000 + z.1) (fun z => [(5, .one (.own 1)), (7, .one (.int .i64 z.1))]) (fun z H => H.set 1 (.row 42 10 (edtN z.2))) (fun z => b.length - z.1) (0, o) ⟨by omega, by simpa using hres, by dsimp only; omega⟩ ?_ ?_
 ·(simp only [SubF, go_sem]; (try simp only [go_sem]); repeat' (first | exact True.intro | with_reducible refine And.intro ?_ ?_ | rfl | omega))
 rintro ⟨k, p⟩ ⟨hk, hres, hpl⟩ L hL
 dsimp only at hk hres hpl
 have hq : ((k : Nat) : Int).toNat = k := by omega
 rcases (Decidable.em (k < b.length)) with hlt | hlt
 ·have hlf : decide ((k : Int) < b.length) = true := decide_eq_true (by omega)
  have hg := itD_get hlt [.int .i64 0, .str [], .nil, .int .i64 0, .nil, .nil, .nil, .nil, .int .i64 0]
  rw [drop_getD b k It.no hlt, List.filter_cons] at hres
  have hH := has_c a (b.getD k It.no) ha
  generalize hasB a (b.getD k It.no) = u at *
  generalize b.getD k It.no = y at *
  simp only [It.d] at hg hH
  (simp only [go_sem] at hL ⊢)
  (repeat' (first | (with_reducible first | exact True.intro | refine And.intro ?_ ?_ | refine awp_block ?_ | ((first | refine awp_seq1 8 [] ?_ | refine awp_seq2 8 [] ?_ | refine awp_seq3 8 [] ?_ | refine awp_seq4 8 [] ?_ | refine awp_seq 8 [] ?_); intro K hK)) | ((with_reducible first | refine awp_reg ?_ | refine awp_exit ?_ | refine awp_skip ?_ | refine likeK_i ?_ | refine otWR_i ?_ | refine rP Ty_ok mixed 5 [0, 1, 2, 6, 7] [.mid [pe 3, pe 4, pe 5, pe 8, pe 9, pe 10] 0, .one 11, .one 12] ?_ | refine rP Ty_ok mixed 6 [0, 1, 2, 6, 7] [.mid [pe 3, pe 4, pe 5, pe 8, pe 9, pe 10, pe 11, pe 12, pe 13] 0, .one 14, .one 15] ?_); simp only [hg, hq, hlf, go_sem]) | (with_reducible refine awp_ret ?_; simp only [retF, retM, retL, resV, resW, retO, resAV, AV.bor, D.bor, D.bor1, D.bor0, AV.flatOwn, D.flatOwn, D.flat, AV.tagged, D.tagged, AObj.plain, hg, hq, hlf, go_sem]) | ((with_reducible refine awp_cond' ?_ ?_ (fun hb => ?_) (fun hb => ?_)); (simp only [hg, hq, hlf, go_sem]); (simp only [hg, hq, hlf, go_sem]); all_goals (simp only [hg, hq, hlf, go_sem] at hb; try simp only [bls] at hb)) | ((iterate 6 try ((fail_if_success with_reducible refine hK _ ?_ ?_ ?_); clear hK K)); with_reducible refine hK _ ?_ ?_ ?_; rotate_left; (focus (simp only [hg, hq, hlf, go_sem]; exact rfl)); clear hK K) | ((first | (with_reducible first | refine cA hH ?_ | refine cD hH ?_ | refine cO hH ?_ | refine cR hH ?_ | refine cG (fun hg => hH) ?_ | refine cH (fun hg => hH) ?_ | refine cM (fun hg => hH) ?_) | (guard_target = CallAt _ _ _ _ _ _ _ _ _ _; refine cA hH ?_) | (guard_target = DCallAt _ _ _ _ _ _ _ _; refine cD hH ?_) | (guard_target = GCallAt _ _ _ _ _ _ _ _ _ _ _; refine cG (fun hg => hH) ?_)); simp only [hg, hq, hlf, go_sem]) | (with_reducible refine gsplit_i (fun hg0 => ?_) (fun hg0 => ?_) <;> first | (with_reducible first | exact absurd hg0 Bool.false_ne_true | exact absurd hg0.symm Bool.false_ne_true) | (simp only [hg0, hg, hq, hlf, go_sem])) | (with_reducible refine nilK_i ?_; intro bnil hnil; try simp only []) | (omega; done) | (intro hv; (try simp only [bls] at hv); (try simp only [bls]); omega) | (intro hg; (simp only [hg, Bool.true_and, true_and, implies_true]; try (intro hg2; simp only [hg2, Bool.not_false, Bool.not_true])); done)))
  all_goals first | omega | skip
  ·rw [if_pos (by rw [hb]; rfl), List.map_cons] at hres
   refine hL _ (k + 1, p ++ [⟨false, y⟩]) ⟨by omega, by rw [hres]; simp, by simp only [List.length_append, List.length_cons, List.length_nil]; omega⟩ ?_ (by dsimp only; omega)
   dsimp only
   rw [← edtN_append, edtN_put]
   (simp only [SubF, go_sem]; (try simp only [go_sem]); repeat' (first | exact True.intro | with_reducible refine And.intro ?_ ?_ | rfl | omega))
  ·rw [if_neg (by rw [hb]; decide)] at hres
   refine hL _ (k + 1, p) ⟨by omega, hres, by dsimp only; omega⟩ ?_ (by dsimp only; omega)
   (simp only [SubF, go_sem]; (try simp only [go_sem]); repeat' (first | exact True.intro | with_reducible refine And.intro ?_ ?_ | rfl | omega))
 have hkl : k = b.length := by omega
 subst hkl
 have hlf : decide ((b.length : Int) < b.length) = false := decide_eq_false (by omega)
 rw [List.drop_length, List.filter_nil, List.map_nil, List.append_nil] at hres
 subst hres
 (simp only [go_sem] at hL ⊢)
 (repeat' (first | (with_reducible first | exact True.intro | refine And.intro ?_ ?_ | refine awp_block ?_ | ((first | refine awp_seq1 8 [] ?_ | refine awp_seq2 8 [] ?_ | refine awp_seq3 8 [] ?_ | refine awp_seq4 8 [] ?_ | refine awp_seq 8 [] ?_); intro K hK)) | ((with_reducible first | refine awp_reg ?_ | refine awp_exit ?_ | refine awp_skip ?_ | refine likeK_i ?_ | refine otWR_i ?_ | refine rP Ty_ok mixed 5 [0, 1, 2, 6, 7] [.mid [pe 3, pe 4, pe 5, pe 8, pe 9, pe 10] 0, .one 11, .one 12] ?_ | refine rP Ty_ok mixed 6 [0, 1, 2, 6, 7] [.mid [pe 3, pe 4, pe 5, pe 8, pe 9, pe 10, pe 11, pe 12, pe 13] 0, .one 14, .one 15] ?_); simp only [hlf, go_sem]) | (with_reducible refine awp_ret ?_; simp only [retF, retM, retL, resV, resW, retO, resAV, AV.bor, D.bor, D.bor1, D.bor0, AV.flatOwn, D.flatOwn, D.flat, AV.tagged, D.tagged, AObj.plain, hlf, go_sem]) | ((with_reducible refine awp_cond' ?_ ?_ (fun hb => ?_) (fun hb => ?_)); (simp only [hlf, go_sem]); (simp only [hlf, go_sem]); all_goals (simp only [hlf, go_sem] at hb; try simp only [bls] at hb)) | ((iterate 6 try ((fail_if_success with_reducible refine hK _ ?_ ?_ ?_); clear hK K)); with_reducible refine hK _ ?_ ?_ ?_; rotate_left; (focus (simp only [hlf, go_sem]; exact rfl)); clear hK K) | (with_reducible refine gsplit_i (fun hg0 => ?_) (fun hg0 => ?_) <;> first | (with_reducible first | exact absurd hg0 Bool.false_ne_true | exact absurd hg0.symm Bool.false_ne_true) | (simp only [hg0, hlf, go_sem])) | (with_reducible refine nilK_i ?_; intro bnil hnil; try simp only []) | (omega; done) | (intro hv; (try simp only [bls] at hv); (try simp only [bls]); omega) | (intro hg; (simp only [hg, Bool.true_and, true_and, implies_true]; try (intro hg2; simp only [hg2, Bool.not_false, Bool.not_true])); done)))
 all_goals first | omega | rfl | skip
end Go.Proofs.YtkjnjkdcpbgabaaGreatDoor
