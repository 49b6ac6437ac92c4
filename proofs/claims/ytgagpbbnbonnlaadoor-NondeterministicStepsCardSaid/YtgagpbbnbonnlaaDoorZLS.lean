/-
 Chapter 05: the laws NondeterministicSteps, NondeterministicWords.
-/
import Derived.Test.YtgagpbbnbonnlaaDoorZK
import Derived.Test.YtgagpbbnbonnlaaDoorZM
import Derived.Test.YtgagpbbnbonnlaaDoorZX
set_option linter.unusedSimpArgs false
set_option linter.unusedVariables false
namespace Go.Proofs.YtgagpbbnbonnlaaDoor
open Go.Eng Go.RowKit
theorem Dft.good (d : Dft) : DGood d.na d.n := by
 have h := dgood_of d.fits d.chk
 have e : d.na.states.toNat = d.n := Int.toNat_natCast d.n
 rwa [e] at h
set_option maxHeartbeats 16000000 in
set_option maxRecDepth 20000 in
theorem Steps_law (d : Dft) (hd : d.Ok) (s : List Int) (hsl : s.length ≤ maxLen) (x : Int) : ACalls Tryd.prog 5 [.agg d.d, .one (.list (ints s)), .one (.int .i64 x)] (.one (.bool true)) [] := by
 have k := known_c
 unfold maxLen at hsl
 by_cases h8 : s.length ≤ 8
 ·have m := Make_c d hd
  have hg := d.good
  have hf := d.fits
  have hchk := d.chk
  have hfa := hf.alpha
  have c1 := Closure_c d.na s hf (by omega)
  have c2 := Step_c d.na s x hf (by omega)
  have c3 := refCheckSet_c s d.na.states (by omega)
  have c4 := refContains_c d.na.alpha x (by omega)
  have eC : cloE d.na s = checkSet s d.na.states := by rw [cloE, if_neg (by simpa using hchk)]
  simp only [Dft.d] at m
  by_cases h0 : checkSet s d.na.states = 0
  ·have hr := set_rng h0
   have hst := hg.st
   have e1 : cloE d.na s = 0 := by rw [eC, h0]
   have hr' : ∀ y ∈ s, 0 ≤ y ∧ y < (d.n : Int) := fun y hy => by have := hr y hy; omega
   have v1 : cloV d.na s = closN d.n (leadE d.na.edges (-1)) s := by rw [cloV, if_pos e1, hg.tn]
   have c5 := refClosure_c d.na d.n s hg.toGood (set_inc h0) hr'
   have c6 := refStep_c d.na d.n s x hg.toGood (set_inc h0) hr'
   have hcl : (closN d.n (leadE d.na.edges (-1)) s).length ≤ d.n := closN_le
   have hn := d.n_lt
   have c7 := Same_c (closN d.n (leadE d.na.edges (-1)) s) (closN d.n (leadE d.na.edges (-1)) s) (by omega)
   rw [e1, v1] at c1
   rw [h0] at c3
   rw [decide_eq_true rfl] at c7
   generalize closN d.n (leadE d.na.edges (-1)) s = C at *
   by_cases hx : x ∈ d.na.alpha
   ·have e2 : stpE d.na s x = 0 := by rw [stpE, if_neg (by rw [e1]; decide), if_pos hx]
    have v2 : stpV d.na s x = stepN d.n d.na.edges (-1) s x := by rw [stpV, if_pos e2, hg.tn]
    have hsl : (stepN d.n d.na.edges (-1) s x).length ≤ d.n := closN_le
    have c8 := Same_c (stepN d.n d.na.edges (-1) s x) (stepN d.n d.na.edges (-1) s x) (by omega)
    rw [decide_eq_true rfl] at c8
    rw [e2, v2] at c2
    rw [decide_eq_true hx] at c4
    generalize stepN d.n d.na.edges (-1) s x = T at *
    generalize d.na = A at *
    simp only [NA.d] at m c1 c2 c5 c6
    (refine ACalls.of_body Ty_ok mixed Tryd.func5 rfl (by kernel_rfl) Tryd.ntmps5 (by simp) (congrArg Array.toList Tryd.results5) ?_)
    simp only [slotsOf, Dft.d]
    (repeat' (first | (with_reducible first | exact True.intro | refine And.intro ?_ ?_ | refine awp_block ?_ | ((first | refine awp_seq1 13 [] ?_ | refine awp_seq2 13 [] ?_ | refine awp_seq3 13 [] ?_ | refine awp_seq4 13 [] ?_ | refine awp_seq 13 [] ?_); intro K hK)) | ((with_reducible first | refine awp_reg ?_ | refine awp_exit ?_ | refine awp_skip ?_ | refine likeK_i ?_ | refine otWR_i ?_); simp only [go_sem]) | (with_reducible refine awp_ret ?_; simp only [retF, retM, retL, resV, resW, retO, resAV, AV.bor, D.bor, D.bor1, D.bor0, AV.flatOwn, D.flatOwn, D.flat, AV.tagged, D.tagged, AObj.plain, go_sem]) | ((with_reducible refine awp_cond' ?_ ?_ (fun hb => ?_) (fun hb => ?_)); (simp only [go_sem]); (simp only [go_sem]); all_goals (simp only [go_sem] at hb; try simp only [bls] at hb)) | ((iterate 6 try ((fail_if_success with_reducible refine hK _ ?_ ?_ ?_); clear hK K)); with_reducible refine hK _ ?_ ?_ ?_; rotate_left; (focus (simp only [go_sem]; exact rfl)); clear hK K) | ((first | (with_reducible first | refine cA k ?_ | refine cA m ?_ | refine cA c1 ?_ | refine cA c2 ?_ | refine cA c3 ?_ | refine cA c4 ?_ | refine cA c5 ?_ | refine cA c6 ?_ | refine cA c7 ?_ | refine cA c8 ?_ | refine cD k ?_ | refine cD m ?_ | refine cD c1 ?_ | refine cD c2 ?_ | refine cD c3 ?_ | refine cD c4 ?_ | refine cD c5 ?_ | refine cD c6 ?_ | refine cD c7 ?_ | refine cD c8 ?_ | refine cO k ?_ | refine cO m ?_ | refine cO c1 ?_ | refine cO c2 ?_ | refine cO c3 ?_ | refine cO c4 ?_ | refine cO c5 ?_ | refine cO c6 ?_ | refine cO c7 ?_ | refine cO c8 ?_ | refine cR k ?_ | refine cR m ?_ | refine cR c1 ?_ | refine cR c2 ?_ | refine cR c3 ?_ | refine cR c4 ?_ | refine cR c5 ?_ | refine cR c6 ?_ | refine cR c7 ?_ | refine cR c8 ?_ | refine cG (fun hg => k) ?_ | refine cG (fun hg => m) ?_ | refine cG (fun hg => c1) ?_ | refine cG (fun hg => c2) ?_ | refine cG (fun hg => c3) ?_ | refine cG (fun hg => c4) ?_ | refine cG (fun hg => c5) ?_ | refine cG (fun hg => c6) ?_ | refine cG (fun hg => c7) ?_ | refine cG (fun hg => c8) ?_ | refine cH (fun hg => k) ?_ | refine cH (fun hg => m) ?_ | refine cH (fun hg => c1) ?_ | refine cH (fun hg => c2) ?_ | refine cH (fun hg => c3) ?_ | refine cH (fun hg => c4) ?_ | refine cH (fun hg => c5) ?_ | refine cH (fun hg => c6) ?_ | refine cH (fun hg => c7) ?_ | refine cH (fun hg => c8) ?_ | refine cM (fun hg => k) ?_ | refine cM (fun hg => m) ?_ | refine cM (fun hg => c1) ?_ | refine cM (fun hg => c2) ?_ | refine cM (fun hg => c3) ?_ | refine cM (fun hg => c4) ?_ | refine cM (fun hg => c5) ?_ | refine cM (fun hg => c6) ?_ | refine cM (fun hg => c7) ?_ | refine cM (fun hg => c8) ?_) | (guard_target = CallAt _ _ _ _ _ _ _ _ _ _; first | refine cA k ?_ | refine cA m ?_ | refine cA c1 ?_ | refine cA c2 ?_ | refine cA c3 ?_ | refine cA c4 ?_ | refine cA c5 ?_ | refine cA c6 ?_ | refine cA c7 ?_ | refine cA c8 ?_) | (guard_target = DCallAt _ _ _ _ _ _ _ _; first | refine cD k ?_ | refine cD m ?_ | refine cD c1 ?_ | refine cD c2 ?_ | refine cD c3 ?_ | refine cD c4 ?_ | refine cD c5 ?_ | refine cD c6 ?_ | refine cD c7 ?_ | refine cD c8 ?_) | (guard_target = GCallAt _ _ _ _ _ _ _ _ _ _ _; first | refine cG (fun hg => k) ?_ | refine cG (fun hg => m) ?_ | refine cG (fun hg => c1) ?_ | refine cG (fun hg => c2) ?_ | refine cG (fun hg => c3) ?_ | refine cG (fun hg => c4) ?_ | refine cG (fun hg => c5) ?_ | refine cG (fun hg => c6) ?_ | refine cG (fun hg => c7) ?_ | refine cG (fun hg => c8) ?_)); simp only [go_sem]) | (with_reducible refine gsplit_i (fun hg0 => ?_) (fun hg0 => ?_) <;> first | (with_reducible first | exact absurd hg0 Bool.false_ne_true | exact absurd hg0.symm Bool.false_ne_true) | (simp only [hg0, go_sem])) | (with_reducible refine nilK_i ?_; intro bnil hnil; try simp only []) | (omega; done) | (intro hv; (try simp only [bls] at hv); (try simp only [bls]); omega) | (intro hg; (simp only [hg, Bool.true_and, true_and, implies_true]; try (intro hg2; simp only [hg2, Bool.not_false, Bool.not_true])); done)))
    all_goals first | omega | skip
   ·have e2 : stpE d.na s x = 9 := by rw [stpE, if_neg (by rw [e1]; decide), if_neg hx]
    have v2 : stpV d.na s x = [] := by rw [stpV, if_neg (by rw [e2]; decide)]
    rw [e2, v2] at c2
    rw [decide_eq_false hx] at c4
    generalize d.na = A at *
    simp only [NA.d] at m c1 c2 c5
    (refine ACalls.of_body Ty_ok mixed Tryd.func5 rfl (by kernel_rfl) Tryd.ntmps5 (by simp) (congrArg Array.toList Tryd.results5) ?_)
    simp only [slotsOf, Dft.d]
    (repeat' (first | (with_reducible first | exact True.intro | refine And.intro ?_ ?_ | refine awp_block ?_ | ((first | refine awp_seq1 13 [] ?_ | refine awp_seq2 13 [] ?_ | refine awp_seq3 13 [] ?_ | refine awp_seq4 13 [] ?_ | refine awp_seq 13 [] ?_); intro K hK)) | ((with_reducible first | refine awp_reg ?_ | refine awp_exit ?_ | refine awp_skip ?_ | refine likeK_i ?_ | refine otWR_i ?_); simp only [go_sem]) | (with_reducible refine awp_ret ?_; simp only [retF, retM, retL, resV, resW, retO, resAV, AV.bor, D.bor, D.bor1, D.bor0, AV.flatOwn, D.flatOwn, D.flat, AV.tagged, D.tagged, AObj.plain, go_sem]) | ((with_reducible refine awp_cond' ?_ ?_ (fun hb => ?_) (fun hb => ?_)); (simp only [go_sem]); (simp only [go_sem]); all_goals (simp only [go_sem] at hb; try simp only [bls] at hb)) | ((iterate 6 try ((fail_if_success with_reducible refine hK _ ?_ ?_ ?_); clear hK K)); with_reducible refine hK _ ?_ ?_ ?_; rotate_left; (focus (simp only [go_sem]; exact rfl)); clear hK K) | ((first | (with_reducible first | refine cA k ?_ | refine cA m ?_ | refine cA c1 ?_ | refine cA c2 ?_ | refine cA c3 ?_ | refine cA c4 ?_ | refine cA c5 ?_ | refine cA c7 ?_ | refine cD k ?_ | refine cD m ?_ | refine cD c1 ?_ | refine cD c2 ?_ | refine cD c3 ?_ | refine cD c4 ?_ | refine cD c5 ?_ | refine cD c7 ?_ | refine cO k ?_ | refine cO m ?_ | refine cO c1 ?_ | refine cO c2 ?_ | refine cO c3 ?_ | refine cO c4 ?_ | refine cO c5 ?_ | refine cO c7 ?_ | refine cR k ?_ | refine cR m ?_ | refine cR c1 ?_ | refine cR c2 ?_ | refine cR c3 ?_ | refine cR c4 ?_ | refine cR c5 ?_ | refine cR c7 ?_ | refine cG (fun hg => k) ?_ | refine cG (fun hg => m) ?_ | refine cG (fun hg => c1) ?_ | refine cG (fun hg => c2) ?_ | refine cG (fun hg => c3) ?_ | refine cG (fun hg => c4) ?_ | refine cG (fun hg => c5) ?_ | refine cG (fun hg => c7) ?_ | refine cH (fun hg => k) ?_ | refine cH (fun hg => m) ?_ | refine cH (fun hg => c1) ?_ | refine cH (fun hg => c2) ?_ | refine cH (fun hg => c3) ?_ | refine cH (fun hg => c4) ?_ | refine cH (fun hg => c5) ?_ | refine cH (fun hg => c7) ?_ | refine cM (fun hg => k) ?_ | refine cM (fun hg => m) ?_ | refine cM (fun hg => c1) ?_ | refine cM (fun hg => c2) ?_ | refine cM (fun hg => c3) ?_ | refine cM (fun hg => c4) ?_ | refine cM (fun hg => c5) ?_ | refine cM (fun hg => c7) ?_) | (guard_target = CallAt _ _ _ _ _ _ _ _ _ _; first | refine cA k ?_ | refine cA m ?_ | refine cA c1 ?_ | refine cA c2 ?_ | refine cA c3 ?_ | refine cA c4 ?_ | refine cA c5 ?_ | refine cA c7 ?_) | (guard_target = DCallAt _ _ _ _ _ _ _ _; first | refine cD k ?_ | refine cD m ?_ | refine cD c1 ?_ | refine cD c2 ?_ | refine cD c3 ?_ | refine cD c4 ?_ | refine cD c5 ?_ | refine cD c7 ?_) | (guard_target = GCallAt _ _ _ _ _ _ _ _ _ _ _; first | refine cG (fun hg => k) ?_ | refine cG (fun hg => m) ?_ | refine cG (fun hg => c1) ?_ | refine cG (fun hg => c2) ?_ | refine cG (fun hg => c3) ?_ | refine cG (fun hg => c4) ?_ | refine cG (fun hg => c5) ?_ | refine cG (fun hg => c7) ?_)); simp only [go_sem]) | (with_reducible refine gsplit_i (fun hg0 => ?_) (fun hg0 => ?_) <;> first | (with_reducible first | exact absurd hg0 Bool.false_ne_true | exact absurd hg0.symm Bool.false_ne_true) | (simp only [hg0, go_sem])) | (with_reducible refine nilK_i ?_; intro bnil hnil; try simp only []) | (omega; done) | (intro hv; (try simp only [bls] at hv); (try simp only [bls]); omega) | (intro hg; (simp only [hg, Bool.true_and, true_and, implies_true]; try (intro hg2; simp only [hg2, Bool.not_false, Bool.not_true])); done)))
    all_goals first | omega | skip
  ·have e2 : stpE d.na s x = cloE d.na s := by rw [stpE, if_pos (by rw [eC]; exact h0)]
   have v1 : cloV d.na s = [] := by rw [cloV, if_neg (by rw [eC]; exact h0)]
   have v2 : stpV d.na s x = [] := by rw [stpV, if_neg (by rw [e2, eC]; exact h0)]
   rw [v2, e2, eC] at c2
   rw [v1, eC] at c1
   generalize checkSet s d.na.states = e at *
   have h0' : (e == 0) = false := by simpa using h0
   generalize d.na = A at *
   simp only [NA.d] at m c1 c2
   (refine ACalls.of_body Ty_ok mixed Tryd.func5 rfl (by kernel_rfl) Tryd.ntmps5 (by simp) (congrArg Array.toList Tryd.results5) ?_)
   simp only [slotsOf, Dft.d]
   (repeat' (first | (with_reducible first | exact True.intro | refine And.intro ?_ ?_ | refine awp_block ?_ | ((first | refine awp_seq1 13 [] ?_ | refine awp_seq2 13 [] ?_ | refine awp_seq3 13 [] ?_ | refine awp_seq4 13 [] ?_ | refine awp_seq 13 [] ?_); intro K hK)) | ((with_reducible first | refine awp_reg ?_ | refine awp_exit ?_ | refine awp_skip ?_ | refine likeK_i ?_ | refine otWR_i ?_); simp only [h0', go_sem]) | (with_reducible refine awp_ret ?_; simp only [retF, retM, retL, resV, resW, retO, resAV, AV.bor, D.bor, D.bor1, D.bor0, AV.flatOwn, D.flatOwn, D.flat, AV.tagged, D.tagged, AObj.plain, h0', go_sem]) | ((with_reducible refine awp_cond' ?_ ?_ (fun hb => ?_) (fun hb => ?_)); (simp only [h0', go_sem]); (simp only [h0', go_sem]); all_goals (simp only [h0', go_sem] at hb; try simp only [bls] at hb)) | ((iterate 6 try ((fail_if_success with_reducible refine hK _ ?_ ?_ ?_); clear hK K)); with_reducible refine hK _ ?_ ?_ ?_; rotate_left; (focus (simp only [h0', go_sem]; exact rfl)); clear hK K) | ((first | (with_reducible first | refine cA k ?_ | refine cA m ?_ | refine cA c1 ?_ | refine cA c2 ?_ | refine cA c3 ?_ | refine cD k ?_ | refine cD m ?_ | refine cD c1 ?_ | refine cD c2 ?_ | refine cD c3 ?_ | refine cO k ?_ | refine cO m ?_ | refine cO c1 ?_ | refine cO c2 ?_ | refine cO c3 ?_ | refine cR k ?_ | refine cR m ?_ | refine cR c1 ?_ | refine cR c2 ?_ | refine cR c3 ?_ | refine cG (fun hg => k) ?_ | refine cG (fun hg => m) ?_ | refine cG (fun hg => c1) ?_ | refine cG (fun hg => c2) ?_ | refine cG (fun hg => c3) ?_ | refine cH (fun hg => k) ?_ | refine cH (fun hg => m) ?_ | refine cH (fun hg => c1) ?_ | refine cH (fun hg => c2) ?_ | refine cH (fun hg => c3) ?_ | refine cM (fun hg => k) ?_ | refine cM (fun hg => m) ?_ | refine cM (fun hg => c1) ?_ | refine cM (fun hg => c2) ?_ | refine cM (fun hg => c3) ?_) | (guard_target = CallAt _ _ _ _ _ _ _ _ _ _; first | refine cA k ?_ | refine cA m ?_ | refine cA c1 ?_ | refine cA c2 ?_ | refine cA c3 ?_) | (guard_target = DCallAt _ _ _ _ _ _ _ _; first | refine cD k ?_ | refine cD m ?_ | refine cD c1 ?_ | refine cD c2 ?_ | refine cD c3 ?_) | (guard_target = GCallAt _ _ _ _ _ _ _ _ _ _ _; first | refine cG (fun hg => k) ?_ | refine cG (fun hg => m) ?_ | refine cG (fun hg => c1) ?_ | refine cG (fun hg => c2) ?_ | refine cG (fun hg => c3) ?_)); simp only [h0', go_sem]) | (with_reducible refine gsplit_i (fun hg0 => ?_) (fun hg0 => ?_) <;> first | (with_reducible first | exact absurd hg0 Bool.false_ne_true | exact absurd hg0.symm Bool.false_ne_true) | (simp only [hg0, h0', go_sem])) | (with_reducible refine nilK_i ?_; intro bnil hnil; try simp only []) | (omega; done) | (intro hv; (try simp only [bls] at hv); (try simp only [bls]); omega) | (intro hg; (simp only [hg, Bool.true_and, true_and, implies_true]; try (intro hg2; simp only [hg2, Bool.not_false, Bool.not_true])); done)))
   all_goals first | omega | skip
 ·(refine ACalls.of_body Ty_ok mixed Tryd.func5 rfl (by kernel_rfl) Tryd.ntmps5 (by simp) (congrArg Array.toList Tryd.results5) ?_)
  simp only [slotsOf, Dft.d]
  (repeat' (first | (with_reducible first | exact True.intro | refine And.intro ?_ ?_ | refine awp_block ?_ | ((first | refine awp_seq1 13 [] ?_ | refine awp_seq2 13 [] ?_ | refine awp_seq3 13 [] ?_ | refine awp_seq4 13 [] ?_ | refine awp_seq 13 [] ?_); intro K hK)) | ((with_reducible first | refine awp_reg ?_ | refine awp_exit ?_ | refine awp_skip ?_ | refine likeK_i ?_ | refine otWR_i ?_); simp only [go_sem]) | (with_reducible refine awp_ret ?_; simp only [retF, retM, retL, resV, resW, retO, resAV, AV.bor, D.bor, D.bor1, D.bor0, AV.flatOwn, D.flatOwn, D.flat, AV.tagged, D.tagged, AObj.plain, go_sem]) | ((with_reducible refine awp_cond' ?_ ?_ (fun hb => ?_) (fun hb => ?_)); (simp only [go_sem]); (simp only [go_sem]); all_goals (simp only [go_sem] at hb; try simp only [bls] at hb)) | ((iterate 6 try ((fail_if_success with_reducible refine hK _ ?_ ?_ ?_); clear hK K)); with_reducible refine hK _ ?_ ?_ ?_; rotate_left; (focus (simp only [go_sem]; exact rfl)); clear hK K) | ((first | (with_reducible first | refine cA k ?_ | refine cD k ?_ | refine cO k ?_ | refine cR k ?_ | refine cG (fun hg => k) ?_ | refine cH (fun hg => k) ?_ | refine cM (fun hg => k) ?_) | (guard_target = CallAt _ _ _ _ _ _ _ _ _ _; refine cA k ?_) | (guard_target = DCallAt _ _ _ _ _ _ _ _; refine cD k ?_) | (guard_target = GCallAt _ _ _ _ _ _ _ _ _ _ _; refine cG (fun hg => k) ?_)); simp only [go_sem]) | (with_reducible refine gsplit_i (fun hg0 => ?_) (fun hg0 => ?_) <;> first | (with_reducible first | exact absurd hg0 Bool.false_ne_true | exact absurd hg0.symm Bool.false_ne_true) | (simp only [hg0, go_sem])) | (with_reducible refine nilK_i ?_; intro bnil hnil; try simp only []) | (omega; done) | (intro hv; (try simp only [bls] at hv); (try simp only [bls]); omega) | (intro hg; (simp only [hg, Bool.true_and, true_and, implies_true]; try (intro hg2; simp only [hg2, Bool.not_false, Bool.not_true])); done)))
  all_goals first | omega | skip
end Go.Proofs.YtgagpbbnbonnlaaDoor
