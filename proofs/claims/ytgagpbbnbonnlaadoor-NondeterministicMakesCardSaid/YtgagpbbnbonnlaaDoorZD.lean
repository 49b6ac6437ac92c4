/-
 Chapter 05: the reference's Check; Equal of both; Clone of edges.
-/
import Derived.Test.YtgagpbbnbonnlaaDoorZA
set_option linter.unusedSimpArgs false
set_option linter.unusedVariables false
namespace Go.Proofs.YtgagpbbnbonnlaaDoor
open Go.Eng Go.RowKit
theorem before_c (x y : Ed) : ACalls Tryd.prog 72 [.agg x.d, .agg y.d] (.one (.bool (decide (edLt x y)))) [] := by
 (refine ACalls.of_body Ty_ok mixed Tryd.func72 rfl (by kernel_rfl) Tryd.ntmps72 (by simp) (congrArg Array.toList Tryd.results72) ?_)
 simp only [slotsOf, Ed.d]
 (repeat' (first | (with_reducible first | exact True.intro | refine And.intro ?_ ?_ | refine awp_block ?_ | ((first | refine awp_seq1 5 [] ?_ | refine awp_seq2 5 [] ?_ | refine awp_seq3 5 [] ?_ | refine awp_seq4 5 [] ?_ | refine awp_seq 5 [] ?_); intro K hK)) | ((with_reducible first | refine awp_reg ?_ | refine awp_exit ?_ | refine awp_skip ?_ | refine likeK_i ?_ | refine otWR_i ?_); simp only [go_sem]) | (with_reducible refine awp_ret ?_; simp only [retF, retM, retL, resV, resW, retO, resAV, AV.bor, D.bor, D.bor1, D.bor0, AV.flatOwn, D.flatOwn, D.flat, AV.tagged, D.tagged, AObj.plain, go_sem]) | ((with_reducible refine awp_cond' ?_ ?_ (fun hb => ?_) (fun hb => ?_)); (simp only [go_sem]); (simp only [go_sem]); all_goals (simp only [go_sem] at hb; try simp only [bls] at hb)) | ((iterate 6 try ((fail_if_success with_reducible refine hK _ ?_ ?_ ?_); clear hK K)); with_reducible refine hK _ ?_ ?_ ?_; rotate_left; (focus (simp only [go_sem]; exact rfl)); clear hK K) | (with_reducible refine gsplit_i (fun hg0 => ?_) (fun hg0 => ?_) <;> first | (with_reducible first | exact absurd hg0 Bool.false_ne_true | exact absurd hg0.symm Bool.false_ne_true) | (simp only [hg0, go_sem])) | (with_reducible refine nilK_i ?_; intro bnil hnil; try simp only []) | (omega; done) | (intro hv; (try simp only [bls] at hv); (try simp only [bls]); omega) | (intro hg; (simp only [hg, Bool.true_and, true_and, implies_true]; try (intro hg2; simp only [hg2, Bool.not_false, Bool.not_true])); done)))
 all_goals (exact decide_eq_decide.2 (by unfold edLt; omega))
theorem ed_ext {a b : Ed} (h : a.src = b.src ∧ a.ev = b.ev ∧ a.dst = b.dst) : a = b := by
 obtain ⟨a1, a2, a3⟩ := a
 obtain ⟨b1, b2, b3⟩ := b
 simp_all
theorem na_eq (a b : NA) : decide (a = b) = (decide (a.states = b.states) && decide (a.alpha = b.alpha) && decide (a.init = b.init) && decide (a.marked = b.marked) && decide (a.edges = b.edges)) := by
 obtain ⟨a1, a2, a3, a4, a5⟩ := a
 obtain ⟨b1, b2, b3, b4, b5⟩ := b
 rw [Bool.eq_iff_iff]
 simp only [decide_eq_true_eq, Bool.and_eq_true, NA.mk.injEq]
 constructor
 ·rintro ⟨h1, h2, h3, h4, h5⟩; exact ⟨⟨⟨⟨h2, h1⟩, h3⟩, h4⟩, h5⟩
 ·rintro ⟨⟨⟨⟨h2, h1⟩, h3⟩, h4⟩, h5⟩; exact ⟨h1, h2, h3, h4, h5⟩
set_option maxHeartbeats 4000000 in
theorem refEqual_c (a b : NA) (ha : a.Fits) : ACalls Tryd.prog 27 [.agg a.d, .agg b.d] (.one (.bool (decide (a = b)))) [] := by
 obtain ⟨f1, f2, f3, f4⟩ := ha
 have c1 := Same_c a.alpha b.alpha (by omega)
 have c2 := Same_c a.init b.init (by omega)
 have c3 := Same_c a.marked b.marked (by omega)
 rw [na_eq]
 (refine ACalls.of_body Ty_ok mixed Tryd.func27 rfl (by kernel_rfl) Tryd.ntmps27 (by simp) (congrArg Array.toList Tryd.results27) ?_)
 simp only [slotsOf, NA.d]
 (repeat' (first | (with_reducible first | exact True.intro | refine And.intro ?_ ?_ | refine awp_block ?_ | ((first | refine awp_seq1 6 [] ?_ | refine awp_seq2 6 [] ?_ | refine awp_seq3 6 [] ?_ | refine awp_seq4 6 [] ?_ | refine awp_seq 6 [] ?_); intro K hK)) | ((with_reducible first | refine awp_reg ?_ | refine awp_exit ?_ | refine awp_skip ?_ | refine likeK_i ?_ | refine otWR_i ?_ | refine rD (id := 6) ?_); simp only [go_sem]) | (with_reducible refine awp_ret ?_; simp only [retF, retM, retL, resV, resW, retO, resAV, AV.bor, D.bor, D.bor1, D.bor0, AV.flatOwn, D.flatOwn, D.flat, AV.tagged, D.tagged, AObj.plain, go_sem]) | ((with_reducible refine awp_cond' ?_ ?_ (fun hb => ?_) (fun hb => ?_)); (simp only [go_sem]); (simp only [go_sem]); all_goals (simp only [go_sem] at hb; try simp only [bls] at hb)) | ((iterate 6 try ((fail_if_success with_reducible refine hK _ ?_ ?_ ?_); clear hK K)); with_reducible refine hK _ ?_ ?_ ?_; rotate_left; (focus (simp only [go_sem]; exact rfl)); clear hK K) | ((first | (with_reducible first | refine cA c1 ?_ | refine cA c2 ?_ | refine cA c3 ?_ | refine cD c1 ?_ | refine cD c2 ?_ | refine cD c3 ?_ | refine cO c1 ?_ | refine cO c2 ?_ | refine cO c3 ?_ | refine cR c1 ?_ | refine cR c2 ?_ | refine cR c3 ?_ | refine cG (fun hg => c1) ?_ | refine cG (fun hg => c2) ?_ | refine cG (fun hg => c3) ?_ | refine cH (fun hg => c1) ?_ | refine cH (fun hg => c2) ?_ | refine cH (fun hg => c3) ?_ | refine cM (fun hg => c1) ?_ | refine cM (fun hg => c2) ?_ | refine cM (fun hg => c3) ?_) | (guard_target = CallAt _ _ _ _ _ _ _ _ _ _; first | refine cA c1 ?_ | refine cA c2 ?_ | refine cA c3 ?_) | (guard_target = DCallAt _ _ _ _ _ _ _ _; first | refine cD c1 ?_ | refine cD c2 ?_ | refine cD c3 ?_) | (guard_target = GCallAt _ _ _ _ _ _ _ _ _ _ _; first | refine cG (fun hg => c1) ?_ | refine cG (fun hg => c2) ?_ | refine cG (fun hg => c3) ?_)); simp only [go_sem]) | (with_reducible refine gsplit_i (fun hg0 => ?_) (fun hg0 => ?_) <;> first | (with_reducible first | exact absurd hg0 Bool.false_ne_true | exact absurd hg0.symm Bool.false_ne_true) | (simp only [hg0, go_sem])) | (with_reducible refine nilK_i ?_; intro bnil hnil; try simp only []) | (omega; done) | (intro hv; (try simp only [bls] at hv); (try simp only [bls]); omega) | (intro hg; (simp only [hg, Bool.true_and, true_and, implies_true]; try (intro hg2; simp only [hg2, Bool.not_false, Bool.not_true])); done)))
 all_goals first | omega | skip
 ·rw [Bool.eq_iff_iff]
  simp only [Bool.false_eq_true, false_iff, Bool.and_eq_true, decide_eq_true_eq]
  rintro ⟨⟨⟨⟨h1, h2⟩, h3⟩, h4⟩, h5⟩
  rw [h5] at hb
  exact hb.elim (fun hb => hb.elim (fun hb => hb.elim (fun hb => hb.elim (fun h => h h1) fun h => h h2) fun h => h h3) fun h => h h4) fun h => h rfl
 obtain ⟨⟨⟨⟨h1, h2⟩, h3⟩, h4⟩, h5⟩ := hb
 have e : (decide (a.states = b.states) && decide (a.alpha = b.alpha) && decide (a.init = b.init) && decide (a.marked = b.marked) && decide (a.edges = b.edges)) = decide (a.edges = b.edges) := by simp [h1, h2, h3, h4]
 rw [e]
 clear e
 generalize a.edges = xs at *
 generalize b.edges = ys at *
 refine awp_loop _ (by simp only [go_sem]; rfl) Nat (fun k => k ≤ xs.length ∧ decide (xs = ys) = decide (xs.drop k = ys.drop k)) (fun k => [(5, .one (.int .i64 k))]) (fun _ H => H) (fun k => xs.length - k) 0 ⟨by omega, by simp⟩ ?_ ?_
 ·(simp only [SubF, go_sem]; (try simp only [go_sem]); repeat' (first | exact True.intro | with_reducible refine And.intro ?_ ?_ | rfl | omega))
 ·rintro k ⟨hk, hres⟩ L hL
  (simp only [go_sem] at hL ⊢)
  (repeat' (first | (with_reducible first | exact True.intro | refine And.intro ?_ ?_ | refine awp_block ?_ | ((first | refine awp_seq1 6 [] ?_ | refine awp_seq2 6 [] ?_ | refine awp_seq3 6 [] ?_ | refine awp_seq4 6 [] ?_ | refine awp_seq 6 [] ?_); intro K hK)) | ((with_reducible first | refine awp_reg ?_ | refine awp_exit ?_ | refine awp_skip ?_ | refine likeK_i ?_ | refine otWR_i ?_ | refine rD (id := 6) ?_); simp only [go_sem]) | (with_reducible refine awp_ret ?_; simp only [retF, retM, retL, resV, resW, retO, resAV, AV.bor, D.bor, D.bor1, D.bor0, AV.flatOwn, D.flatOwn, D.flat, AV.tagged, D.tagged, AObj.plain, go_sem]) | ((with_reducible refine awp_cond' ?_ ?_ (fun hb => ?_) (fun hb => ?_)); (simp only [go_sem]); (simp only [go_sem]); all_goals (simp only [go_sem] at hb; try simp only [bls] at hb)) | ((iterate 6 try ((fail_if_success with_reducible refine hK _ ?_ ?_ ?_); clear hK K)); with_reducible refine hK _ ?_ ?_ ?_; rotate_left; (focus (simp only [go_sem]; exact rfl)); clear hK K) | (with_reducible refine gsplit_i (fun hg0 => ?_) (fun hg0 => ?_) <;> first | (with_reducible first | exact absurd hg0 Bool.false_ne_true | exact absurd hg0.symm Bool.false_ne_true) | (simp only [hg0, go_sem])) | (with_reducible refine nilK_i ?_; intro bnil hnil; try simp only []) | (omega; done) | (intro hv; (try simp only [bls] at hv); (try simp only [bls]); omega) | (intro hg; (simp only [hg, Bool.true_and, true_and, implies_true]; try (intro hg2; simp only [hg2, Bool.not_false, Bool.not_true])); done)))
  all_goals first | omega | skip
  ·rw [eqq_step (d := Ed.no) (by omega) (by omega) hres, decide_eq_false]
   ·rfl
   ·intro h; rw [h] at hb; simp at hb
  ·have h1 := eqq_step (d := Ed.no) (by omega) (by omega) hres
   rw [decide_eq_true (ed_ext (by simpa using hb)), Bool.true_and] at h1
   exact hL _ (k + 1) ⟨by omega, h1⟩ (by (simp only [SubF, go_sem]; (try simp only [go_sem]); repeat' (first | exact True.intro | with_reducible refine And.intro ?_ ?_ | rfl | omega))) (by omega)
  ·rw [hres, drop_end xs k (by omega), drop_end ys k (by omega)]; simp [h1, h2, h3, h4]
end Go.Proofs.YtgagpbbnbonnlaaDoor
