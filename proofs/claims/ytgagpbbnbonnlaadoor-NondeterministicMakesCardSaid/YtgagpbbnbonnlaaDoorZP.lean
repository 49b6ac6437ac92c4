/-
 Chapter 05: Determinize, in all cases.
-/
import Derived.Test.YtgagpbbnbonnlaaDoorZO
set_option linter.unusedSimpArgs false
set_option linter.unusedVariables false
namespace Go.Proofs.YtgagpbbnbonnlaaDoor
open Go.Eng Go.RowKit
set_option maxHeartbeats 16000000 in
theorem det0_c (a : NA) (n : Nat) (h : DGood a n) (hchk : chkNA a = 0) (hi0 : a.init = []) : ACalls Tryd.prog 15 [.agg a.d] (detAV a (detN a (-1))) [] := by
 have hR : detN a (-1) = some ([], [], []) := by rw [detN, if_pos hi0]; rfl
 rw [hR]
 have hal := h.al
 have c1 := naCheck_c a h.fits
 rw [hchk] at c1
 have c2 := CloneInts_c a.alpha (by omega)
 have hi1 : a.init.length = 0 := by rw [hi0]; rfl
 simp only [NA.d] at c1
 (refine ACalls.of_body Ty_ok mixed Tryd.func15 rfl (by kernel_rfl) Tryd.ntmps15 (by simp) (congrArg Array.toList Tryd.results15) ?_)
 simp only [slotsOf, NA.d]
 (repeat' (first | (with_reducible first | exact True.intro | refine And.intro ?_ ?_ | refine awp_block ?_ | ((first | refine awp_seq1 14 [61, 60, 62] ?_ | refine awp_seq2 14 [61, 60, 62] ?_ | refine awp_seq3 14 [61, 60, 62] ?_ | refine awp_seq4 14 [61, 60, 62] ?_ | refine awp_seq 14 [61, 60, 62] ?_); intro K hK)) | ((with_reducible first | refine awp_reg ?_ | refine awp_exit ?_ | refine awp_skip ?_ | refine likeK_i ?_ | refine otWR_i ?_ | refine rO Ty_ok mixed 25 [] (.alt 0 (.alt 1 (.alt 2 (.alt 3 (.alt 4 .leaf .nil) .nil) .nil) (.alt 2 (.alt 1 (.alt 3 (.alt 4 .leaf .nil) .nil) .nil) .nil)) (.alt 1 (.alt 0 (.alt 2 (.alt 3 (.alt 4 .leaf .nil) .nil) .nil) .nil) .nil)) [] 5 ?_ | refine rO Ty_ok mixed 22 [0, 2, 3, 4, 5] (.alt 1 (.alt 6 (.alt 7 (.alt 8 .leaf .nil) .nil) .nil) (.alt 6 (.alt 1 (.alt 7 (.alt 8 .leaf .nil) .nil) (.alt 7 (.alt 1 (.alt 8 .leaf .nil) (.alt 8 (.alt 1 .leaf .nil) .nil)) .nil)) .nil)) [.one 9, .one 10, .one 11] 4 ?_ | refine rP Ty_ok mixed 15 [1, 4] [.mid [pe 0, pe 2, pe 3, pe 5] 0, .one 6] ?_ | refine rP Ty_ok mixed 20 [2, 5] [.mid [pe 0, pe 1, pe 3, pe 4] 0, .one 6, .one 7] ?_); simp only [hi1, go_sem]) | (with_reducible refine awp_ret ?_; simp only [retF, retM, retL, resV, resW, retO, resAV, AV.bor, D.bor, D.bor1, D.bor0, AV.flatOwn, D.flatOwn, D.flat, AV.tagged, D.tagged, AObj.plain, hi1, go_sem]) | ((with_reducible refine awp_cond' ?_ ?_ (fun hb => ?_) (fun hb => ?_)); (simp only [hi1, go_sem]); (simp only [hi1, go_sem]); all_goals (simp only [hi1, go_sem] at hb; try simp only [bls] at hb)) | ((iterate 6 try ((fail_if_success with_reducible refine hK _ ?_ ?_ ?_); clear hK K)); with_reducible refine hK _ ?_ ?_ ?_; rotate_left; (focus (simp only [hi1, go_sem]; exact rfl)); clear hK K) | ((first | (with_reducible first | refine cA c1 ?_ | refine cA c2 ?_ | refine cD c1 ?_ | refine cD c2 ?_ | refine cO c1 ?_ | refine cO c2 ?_ | refine cR c1 ?_ | refine cR c2 ?_ | refine cG (fun hg => c1) ?_ | refine cG (fun hg => c2) ?_ | refine cH (fun hg => c1) ?_ | refine cH (fun hg => c2) ?_ | refine cM (fun hg => c1) ?_ | refine cM (fun hg => c2) ?_) | (guard_target = CallAt _ _ _ _ _ _ _ _ _ _; first | refine cA c1 ?_ | refine cA c2 ?_) | (guard_target = DCallAt _ _ _ _ _ _ _ _; first | refine cD c1 ?_ | refine cD c2 ?_) | (guard_target = GCallAt _ _ _ _ _ _ _ _ _ _ _; first | refine cG (fun hg => c1) ?_ | refine cG (fun hg => c2) ?_)); simp only [hi1, go_sem]) | (with_reducible refine gsplit_i (fun hg0 => ?_) (fun hg0 => ?_) <;> first | (with_reducible first | exact absurd hg0 Bool.false_ne_true | exact absurd hg0.symm Bool.false_ne_true) | (simp only [hg0, hi1, go_sem])) | (with_reducible refine nilK_i ?_; intro bnil hnil; try simp only []) | (omega; done) | (intro hv; (try simp only [bls] at hv); (try simp only [bls]); omega) | (intro hg; (simp only [hg, Bool.true_and, true_and, implies_true]; try (intro hg2; simp only [hg2, Bool.not_false, Bool.not_true])); done)))
 all_goals first | omega | skip
 refine awp_loop _ (by simp only [go_sem]; rfl) Unit (fun _ => True) (fun _ => [(10, .one (.int .i64 0))]) (fun _ H => H) (fun _ => 0) () trivial ?_ ?_
 ·(simp only [SubF, go_sem]; (try simp only [go_sem]); repeat' (first | exact True.intro | with_reducible refine And.intro ?_ ?_ | rfl | omega))
 rintro _ _ L hL
 (simp only [go_sem] at hL ⊢)
 (repeat' (first | (with_reducible first | exact True.intro | refine And.intro ?_ ?_ | refine awp_block ?_ | ((first | refine awp_seq1 14 [61, 60, 62] ?_ | refine awp_seq2 14 [61, 60, 62] ?_ | refine awp_seq3 14 [61, 60, 62] ?_ | refine awp_seq4 14 [61, 60, 62] ?_ | refine awp_seq 14 [61, 60, 62] ?_); intro K hK)) | ((with_reducible first | refine awp_reg ?_ | refine awp_exit ?_ | refine awp_skip ?_ | refine likeK_i ?_ | refine otWR_i ?_ | refine rO Ty_ok mixed 25 [] (.alt 0 (.alt 1 (.alt 2 (.alt 3 (.alt 4 .leaf .nil) .nil) .nil) (.alt 2 (.alt 1 (.alt 3 (.alt 4 .leaf .nil) .nil) .nil) .nil)) (.alt 1 (.alt 0 (.alt 2 (.alt 3 (.alt 4 .leaf .nil) .nil) .nil) .nil) .nil)) [] 5 ?_ | refine rO Ty_ok mixed 22 [0, 2, 3, 4, 5] (.alt 1 (.alt 6 (.alt 7 (.alt 8 .leaf .nil) .nil) .nil) (.alt 6 (.alt 1 (.alt 7 (.alt 8 .leaf .nil) .nil) (.alt 7 (.alt 1 (.alt 8 .leaf .nil) (.alt 8 (.alt 1 .leaf .nil) .nil)) .nil)) .nil)) [.one 9, .one 10, .one 11] 4 ?_ | refine rP Ty_ok mixed 15 [1, 4] [.mid [pe 0, pe 2, pe 3, pe 5] 0, .one 6] ?_ | refine rP Ty_ok mixed 20 [2, 5] [.mid [pe 0, pe 1, pe 3, pe 4] 0, .one 6, .one 7] ?_); simp only [go_sem]) | (with_reducible refine awp_ret ?_; simp only [retF, retM, retL, resV, resW, retO, resAV, AV.bor, D.bor, D.bor1, D.bor0, AV.flatOwn, D.flatOwn, D.flat, AV.tagged, D.tagged, AObj.plain, go_sem]) | ((with_reducible refine awp_cond' ?_ ?_ (fun hb => ?_) (fun hb => ?_)); (simp only [go_sem]); (simp only [go_sem]); all_goals (simp only [go_sem] at hb; try simp only [bls] at hb)) | ((iterate 6 try ((fail_if_success with_reducible refine hK _ ?_ ?_ ?_); clear hK K)); with_reducible refine hK _ ?_ ?_ ?_; rotate_left; (focus (simp only [go_sem]; exact rfl)); clear hK K) | (with_reducible refine gsplit_i (fun hg0 => ?_) (fun hg0 => ?_) <;> first | (with_reducible first | exact absurd hg0 Bool.false_ne_true | exact absurd hg0.symm Bool.false_ne_true) | (simp only [hg0, go_sem])) | (with_reducible refine nilK_i ?_; intro bnil hnil; try simp only []) | (omega; done) | (intro hv; (try simp only [bls] at hv); (try simp only [bls]); omega) | (intro hg; (simp only [hg, Bool.true_and, true_and, implies_true]; try (intro hg2; simp only [hg2, Bool.not_false, Bool.not_true])); done)))
 all_goals first | omega | skip
 all_goals rfl
theorem Determinize_c (a : NA) (n : Nat) (h : DGood a n) (hchk : chkNA a = 0) : ACalls Tryd.prog 15 [.agg a.d] (detAV a (detN a (-1))) [] := by
 by_cases hi : a.init = []
 ·exact det0_c a n h hchk hi
 ·exact det1_c a n h hchk hi
end Go.Proofs.YtgagpbbnbonnlaaDoor
