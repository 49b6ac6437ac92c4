/-
 Chapter 05: Closure, Step, After, Generates, Accepts of the program, with their errors.
-/
import Derived.Test.YtgagpbbnbonnlaaDoorZN
set_option linter.unusedSimpArgs false
set_option linter.unusedVariables false
namespace Go.Proofs.YtgagpbbnbonnlaaDoor
open Go.Eng Go.RowKit
theorem dgood_of {a : NA} (hf : a.Fits) (h : chkNA a = 0) : DGood a a.states.toNat := by
 obtain ⟨h1, h2, h3, h4⟩ := chkNA_zero.1 h
 have hp := h1.pos
 exact { st := by omega, le := by omega, ed := h1.edges, fits := hf, ok := h1, al := inc_len h1.alpha h3 }
def cloE (a : NA) (s : List Int) : Int := if chkNA a ≠ 0 then chkNA a else checkSet s a.states
def cloV (a : NA) (s : List Int) : List Int := if cloE a s = 0 then closN a.states.toNat (leadE a.edges (-1)) s else []
theorem set_rng {s : List Int} {m : Int} (h : checkSet s m = 0) : ∀ x ∈ s, 0 ≤ x ∧ x < m := ((checkSet_zero _ _).1 h).1
theorem set_inc {s : List Int} {m : Int} (h : checkSet s m = 0) : IncI s := ((checkSet_zero _ _).1 h).2
set_option maxHeartbeats 4000000 in
theorem Closure_c (a : NA) (s : List Int) (hf : a.Fits) (hs : s.length ≤ 1000000) : ACalls Tryd.prog 19 [.agg a.d, .one (.list (ints s))] (.tup [.one (.list (ints (cloV a s))), .one (.int .i64 (cloE a s))]) [] := by
 have c1 := naCheck_c a hf
 have c2 := CheckSet_c s a.states (by omega)
 by_cases h1 : chkNA a = 0
 ·have hg := dgood_of hf h1
  have hst := hg.st
  by_cases h2 : checkSet s a.states = 0
  ·have c3 := closure_c a _ s hg.toGood (by omega) fun x hx => by have := set_rng h2 x hx; omega
   have e1 : cloE a s = 0 := by rw [cloE, if_neg (by simpa using h1), h2]
   rw [cloV, if_pos e1, e1]
   rw [h1] at c1
   rw [h2] at c2
   simp only [NA.d] at c1 c3
   (refine ACalls.of_body Ty_ok mixed Tryd.func19 rfl (by kernel_rfl) Tryd.ntmps19 (by simp) (congrArg Array.toList Tryd.results19) ?_)
   simp only [slotsOf, NA.d]
   (repeat' (first | (with_reducible first | exact True.intro | refine And.intro ?_ ?_ | refine awp_block ?_ | ((first | refine awp_seq1 8 [] ?_ | refine awp_seq2 8 [] ?_ | refine awp_seq3 8 [] ?_ | refine awp_seq4 8 [] ?_ | refine awp_seq 8 [] ?_); intro K hK)) | ((with_reducible first | refine awp_reg ?_ | refine awp_exit ?_ | refine awp_skip ?_ | refine likeK_i ?_ | refine otWR_i ?_); simp only [go_sem]) | (with_reducible refine awp_ret ?_; simp only [retF, retM, retL, resV, resW, retO, resAV, AV.bor, D.bor, D.bor1, D.bor0, AV.flatOwn, D.flatOwn, D.flat, AV.tagged, D.tagged, AObj.plain, go_sem]) | ((with_reducible refine awp_cond' ?_ ?_ (fun hb => ?_) (fun hb => ?_)); (simp only [go_sem]); (simp only [go_sem]); all_goals (simp only [go_sem] at hb; try simp only [bls] at hb)) | ((iterate 6 try ((fail_if_success with_reducible refine hK _ ?_ ?_ ?_); clear hK K)); with_reducible refine hK _ ?_ ?_ ?_; rotate_left; (focus (simp only [go_sem]; exact rfl)); clear hK K) | ((first | (with_reducible first | refine cA c1 ?_ | refine cA c2 ?_ | refine cA c3 ?_ | refine cD c1 ?_ | refine cD c2 ?_ | refine cD c3 ?_ | refine cO c1 ?_ | refine cO c2 ?_ | refine cO c3 ?_ | refine cR c1 ?_ | refine cR c2 ?_ | refine cR c3 ?_ | refine cG (fun hg => c1) ?_ | refine cG (fun hg => c2) ?_ | refine cG (fun hg => c3) ?_ | refine cH (fun hg => c1) ?_ | refine cH (fun hg => c2) ?_ | refine cH (fun hg => c3) ?_ | refine cM (fun hg => c1) ?_ | refine cM (fun hg => c2) ?_ | refine cM (fun hg => c3) ?_) | (guard_target = CallAt _ _ _ _ _ _ _ _ _ _; first | refine cA c1 ?_ | refine cA c2 ?_ | refine cA c3 ?_) | (guard_target = DCallAt _ _ _ _ _ _ _ _; first | refine cD c1 ?_ | refine cD c2 ?_ | refine cD c3 ?_) | (guard_target = GCallAt _ _ _ _ _ _ _ _ _ _ _; first | refine cG (fun hg => c1) ?_ | refine cG (fun hg => c2) ?_ | refine cG (fun hg => c3) ?_)); simp only [go_sem]) | (with_reducible refine gsplit_i (fun hg0 => ?_) (fun hg0 => ?_) <;> first | (with_reducible first | exact absurd hg0 Bool.false_ne_true | exact absurd hg0.symm Bool.false_ne_true) | (simp only [hg0, go_sem])) | (with_reducible refine nilK_i ?_; intro bnil hnil; try simp only []) | (omega; done) | (intro hv; (try simp only [bls] at hv); (try simp only [bls]); omega) | (intro hg; (simp only [hg, Bool.true_and, true_and, implies_true]; try (intro hg2; simp only [hg2, Bool.not_false, Bool.not_true])); done)))
   all_goals first | omega | skip
  ·have e1 : cloE a s = checkSet s a.states := by rw [cloE, if_neg (by simpa using h1)]
   rw [cloV, e1, if_neg h2]
   rw [h1] at c1
   generalize checkSet s a.states = e at *
   simp only [NA.d] at c1
   (refine ACalls.of_body Ty_ok mixed Tryd.func19 rfl (by kernel_rfl) Tryd.ntmps19 (by simp) (congrArg Array.toList Tryd.results19) ?_)
   simp only [slotsOf, NA.d]
   (repeat' (first | (with_reducible first | exact True.intro | refine And.intro ?_ ?_ | refine awp_block ?_ | ((first | refine awp_seq1 8 [] ?_ | refine awp_seq2 8 [] ?_ | refine awp_seq3 8 [] ?_ | refine awp_seq4 8 [] ?_ | refine awp_seq 8 [] ?_); intro K hK)) | ((with_reducible first | refine awp_reg ?_ | refine awp_exit ?_ | refine awp_skip ?_ | refine likeK_i ?_ | refine otWR_i ?_); simp only [go_sem]) | (with_reducible refine awp_ret ?_; simp only [retF, retM, retL, resV, resW, retO, resAV, AV.bor, D.bor, D.bor1, D.bor0, AV.flatOwn, D.flatOwn, D.flat, AV.tagged, D.tagged, AObj.plain, go_sem]) | ((with_reducible refine awp_cond' ?_ ?_ (fun hb => ?_) (fun hb => ?_)); (simp only [go_sem]); (simp only [go_sem]); all_goals (simp only [go_sem] at hb; try simp only [bls] at hb)) | ((iterate 6 try ((fail_if_success with_reducible refine hK _ ?_ ?_ ?_); clear hK K)); with_reducible refine hK _ ?_ ?_ ?_; rotate_left; (focus (simp only [go_sem]; exact rfl)); clear hK K) | ((first | (with_reducible first | refine cA c1 ?_ | refine cA c2 ?_ | refine cD c1 ?_ | refine cD c2 ?_ | refine cO c1 ?_ | refine cO c2 ?_ | refine cR c1 ?_ | refine cR c2 ?_ | refine cG (fun hg => c1) ?_ | refine cG (fun hg => c2) ?_ | refine cH (fun hg => c1) ?_ | refine cH (fun hg => c2) ?_ | refine cM (fun hg => c1) ?_ | refine cM (fun hg => c2) ?_) | (guard_target = CallAt _ _ _ _ _ _ _ _ _ _; first | refine cA c1 ?_ | refine cA c2 ?_) | (guard_target = DCallAt _ _ _ _ _ _ _ _; first | refine cD c1 ?_ | refine cD c2 ?_) | (guard_target = GCallAt _ _ _ _ _ _ _ _ _ _ _; first | refine cG (fun hg => c1) ?_ | refine cG (fun hg => c2) ?_)); simp only [go_sem]) | (with_reducible refine gsplit_i (fun hg0 => ?_) (fun hg0 => ?_) <;> first | (with_reducible first | exact absurd hg0 Bool.false_ne_true | exact absurd hg0.symm Bool.false_ne_true) | (simp only [hg0, go_sem])) | (with_reducible refine nilK_i ?_; intro bnil hnil; try simp only []) | (omega; done) | (intro hv; (try simp only [bls] at hv); (try simp only [bls]); omega) | (intro hg; (simp only [hg, Bool.true_and, true_and, implies_true]; try (intro hg2; simp only [hg2, Bool.not_false, Bool.not_true])); done)))
   all_goals first | omega | skip
   all_goals rfl
 ·have e1 : cloE a s = chkNA a := by rw [cloE, if_pos h1]
  rw [cloV, e1, if_neg h1]
  generalize chkNA a = e at *
  simp only [NA.d] at c1
  (refine ACalls.of_body Ty_ok mixed Tryd.func19 rfl (by kernel_rfl) Tryd.ntmps19 (by simp) (congrArg Array.toList Tryd.results19) ?_)
  simp only [slotsOf, NA.d]
  (repeat' (first | (with_reducible first | exact True.intro | refine And.intro ?_ ?_ | refine awp_block ?_ | ((first | refine awp_seq1 8 [] ?_ | refine awp_seq2 8 [] ?_ | refine awp_seq3 8 [] ?_ | refine awp_seq4 8 [] ?_ | refine awp_seq 8 [] ?_); intro K hK)) | ((with_reducible first | refine awp_reg ?_ | refine awp_exit ?_ | refine awp_skip ?_ | refine likeK_i ?_ | refine otWR_i ?_); simp only [go_sem]) | (with_reducible refine awp_ret ?_; simp only [retF, retM, retL, resV, resW, retO, resAV, AV.bor, D.bor, D.bor1, D.bor0, AV.flatOwn, D.flatOwn, D.flat, AV.tagged, D.tagged, AObj.plain, go_sem]) | ((with_reducible refine awp_cond' ?_ ?_ (fun hb => ?_) (fun hb => ?_)); (simp only [go_sem]); (simp only [go_sem]); all_goals (simp only [go_sem] at hb; try simp only [bls] at hb)) | ((iterate 6 try ((fail_if_success with_reducible refine hK _ ?_ ?_ ?_); clear hK K)); with_reducible refine hK _ ?_ ?_ ?_; rotate_left; (focus (simp only [go_sem]; exact rfl)); clear hK K) | ((first | (with_reducible first | refine cA c1 ?_ | refine cD c1 ?_ | refine cO c1 ?_ | refine cR c1 ?_ | refine cG (fun hg => c1) ?_ | refine cH (fun hg => c1) ?_ | refine cM (fun hg => c1) ?_) | (guard_target = CallAt _ _ _ _ _ _ _ _ _ _; refine cA c1 ?_) | (guard_target = DCallAt _ _ _ _ _ _ _ _; refine cD c1 ?_) | (guard_target = GCallAt _ _ _ _ _ _ _ _ _ _ _; refine cG (fun hg => c1) ?_)); simp only [go_sem]) | (with_reducible refine gsplit_i (fun hg0 => ?_) (fun hg0 => ?_) <;> first | (with_reducible first | exact absurd hg0 Bool.false_ne_true | exact absurd hg0.symm Bool.false_ne_true) | (simp only [hg0, go_sem])) | (with_reducible refine nilK_i ?_; intro bnil hnil; try simp only []) | (omega; done) | (intro hv; (try simp only [bls] at hv); (try simp only [bls]); omega) | (intro hg; (simp only [hg, Bool.true_and, true_and, implies_true]; try (intro hg2; simp only [hg2, Bool.not_false, Bool.not_true])); done)))
  all_goals first | omega | skip
  all_goals rfl
/-! words -/
end Go.Proofs.YtgagpbbnbonnlaaDoor
