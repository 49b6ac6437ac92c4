/-
 Chapter 05: the laws NondeterministicSteps, NondeterministicWords.
-/
import Derived.Test.YtgagpbbnbonnlaaDoorZK
import Derived.Test.YtgagpbbnbonnlaaDoorZM
import Derived.Test.YtgagpbbnbonnlaaDoorZX
set_option linter.unusedSimpArgs false
set_option linter.unusedVariables false
namespace Go.Proofs.YtgagpbbnbonnlaaDoor
open Go.Eng Go.RowKit
theorem Dft.good (d : Dft) : DGood d.na d.n := by
 have h := dgood_of d.fits d.chk
 have e : d.na.states.toNat = d.n := Int.toNat_natCast d.n
 rwa [e] at h
set_option maxHeartbeats 16000000 in
set_option maxRecDepth 20000 in
theorem Words_law (d : Dft) (hd : d.Ok) (w : List Int) (hsl : w.length ≤ maxLen) : ACalls Tryd.prog 7 [.agg d.d, .one (.list (ints w))] (.one (.bool true)) [] := by
 have k := known_c
 unfold maxLen at hsl
 by_cases h8 : w.length ≤ 10 ∨ 4096 < w.length ∧ w.length ≤ 4098
 ·have m := Make_c d hd
  have hg := d.good
  have hf := d.fits
  have hchk := d.chk
  have hwl : w.length ≤ 1000000 := by omega
  have c1 := After_c d.na w hf hwl
  have c2 := Generates_c d.na w hf hwl
  have c3 := Accepts_c d.na w hf hwl
  have c4 := refWord_c d.na w hf hwl
  have c5 := refAfter_c d.na d.n w hg hwl
  have eA : aftE d.na w = wrdE d.na w := by rw [aftE, if_neg (by simpa using hchk)]
  rw [eA] at c1 c2 c3
  simp only [Dft.d] at m
  by_cases h0 : wrdE d.na w = 0
  ·have hs := aft_set (a := d.na) (w := w)
   have hst := hg.st
   have e0 : aftE d.na w = 0 := by rw [eA, h0]
   have v1 : aftV d.na w = aftA d.na (-1) w := by rw [aftV, if_pos e0]
   have v2 : accV d.na w = metL (aftA d.na (-1) w) d.na.marked := by rw [accV, decide_eq_true e0, v1]; rfl
   have hl := inc_len (n := d.n) hs.1 fun y hy => by have := hs.2 e0 y hy; omega
   have hn := d.n_lt
   have hmk := hf.marked
   rw [v1] at c1 c2 hl
   rw [v2] at c3
   rw [h0] at c1 c2 c3 c4
   have c6 := refIntersect_c (aftA d.na (-1) w) d.na.marked (by omega) (by omega)
   have c7 := Same_c (aftA d.na (-1) w) (aftA d.na (-1) w) (by omega)
   rw [decide_eq_true rfl] at c7
   have c8 := met_filter (aftA d.na (-1) w) d.na.marked
   rw [← c8] at c3
   clear c8
   generalize aftA d.na (-1) w = T at *
   generalize d.na = A at *
   simp only [NA.d] at m c1 c2 c3 c4 c5
   (refine ACalls.of_body Ty_ok mixed Tryd.func7 rfl (by kernel_rfl) Tryd.ntmps7 (by simp) (congrArg Array.toList Tryd.results7) ?_)
   simp only [slotsOf, Dft.d]
   (repeat' (first | (with_reducible first | exact True.intro | refine And.intro ?_ ?_ | refine awp_block ?_ | ((first | refine awp_seq1 14 [] ?_ | refine awp_seq2 14 [] ?_ | refine awp_seq3 14 [] ?_ | refine awp_seq4 14 [] ?_ | refine awp_seq 14 [] ?_); intro K hK)) | ((with_reducible first | refine awp_reg ?_ | refine awp_exit ?_ | refine awp_skip ?_ | refine likeK_i ?_ | refine otWR_i ?_); simp only [go_sem]) | (with_reducible refine awp_ret ?_; simp only [retF, retM, retL, resV, resW, retO, resAV, AV.bor, D.bor, D.bor1, D.bor0, AV.flatOwn, D.flatOwn, D.flat, AV.tagged, D.tagged, AObj.plain, go_sem]) | ((with_reducible refine awp_cond' ?_ ?_ (fun hb => ?_) (fun hb => ?_)); (simp only [go_sem]); (simp only [go_sem]); all_goals (simp only [go_sem] at hb; try simp only [bls] at hb)) | ((iterate 6 try ((fail_if_success with_reducible refine hK _ ?_ ?_ ?_); clear hK K)); with_reducible refine hK _ ?_ ?_ ?_; rotate_left; (focus (simp only [go_sem]; exact rfl)); clear hK K) | ((first | (with_reducible first | refine cA k ?_ | refine cA m ?_ | refine cA c1 ?_ | refine cA c2 ?_ | refine cA c3 ?_ | refine cA c4 ?_ | refine cA c5 ?_ | refine cA c6 ?_ | refine cA c7 ?_ | refine cD k ?_ | refine cD m ?_ | refine cD c1 ?_ | refine cD c2 ?_ | refine cD c3 ?_ | refine cD c4 ?_ | refine cD c5 ?_ | refine cD c6 ?_ | refine cD c7 ?_ | refine cO k ?_ | refine cO m ?_ | refine cO c1 ?_ | refine cO c2 ?_ | refine cO c3 ?_ | refine cO c4 ?_ | refine cO c5 ?_ | refine cO c6 ?_ | refine cO c7 ?_ | refine cR k ?_ | refine cR m ?_ | refine cR c1 ?_ | refine cR c2 ?_ | refine cR c3 ?_ | refine cR c4 ?_ | refine cR c5 ?_ | refine cR c6 ?_ | refine cR c7 ?_ | refine cG (fun hg => k) ?_ | refine cG (fun hg => m) ?_ | refine cG (fun hg => c1) ?_ | refine cG (fun hg => c2) ?_ | refine cG (fun hg => c3) ?_ | refine cG (fun hg => c4) ?_ | refine cG (fun hg => c5) ?_ | refine cG (fun hg => c6) ?_ | refine cG (fun hg => c7) ?_ | refine cH (fun hg => k) ?_ | refine cH (fun hg => m) ?_ | refine cH (fun hg => c1) ?_ | refine cH (fun hg => c2) ?_ | refine cH (fun hg => c3) ?_ | refine cH (fun hg => c4) ?_ | refine cH (fun hg => c5) ?_ | refine cH (fun hg => c6) ?_ | refine cH (fun hg => c7) ?_ | refine cM (fun hg => k) ?_ | refine cM (fun hg => m) ?_ | refine cM (fun hg => c1) ?_ | refine cM (fun hg => c2) ?_ | refine cM (fun hg => c3) ?_ | refine cM (fun hg => c4) ?_ | refine cM (fun hg => c5) ?_ | refine cM (fun hg => c6) ?_ | refine cM (fun hg => c7) ?_) | (guard_target = CallAt _ _ _ _ _ _ _ _ _ _; first | refine cA k ?_ | refine cA m ?_ | refine cA c1 ?_ | refine cA c2 ?_ | refine cA c3 ?_ | refine cA c4 ?_ | refine cA c5 ?_ | refine cA c6 ?_ | refine cA c7 ?_) | (guard_target = DCallAt _ _ _ _ _ _ _ _; first | refine cD k ?_ | refine cD m ?_ | refine cD c1 ?_ | refine cD c2 ?_ | refine cD c3 ?_ | refine cD c4 ?_ | refine cD c5 ?_ | refine cD c6 ?_ | refine cD c7 ?_) | (guard_target = GCallAt _ _ _ _ _ _ _ _ _ _ _; first | refine cG (fun hg => k) ?_ | refine cG (fun hg => m) ?_ | refine cG (fun hg => c1) ?_ | refine cG (fun hg => c2) ?_ | refine cG (fun hg => c3) ?_ | refine cG (fun hg => c4) ?_ | refine cG (fun hg => c5) ?_ | refine cG (fun hg => c6) ?_ | refine cG (fun hg => c7) ?_)); simp only [go_sem]) | (with_reducible refine gsplit_i (fun hg0 => ?_) (fun hg0 => ?_) <;> first | (with_reducible first | exact absurd hg0 Bool.false_ne_true | exact absurd hg0.symm Bool.false_ne_true) | (simp only [hg0, go_sem])) | (with_reducible refine nilK_i ?_; intro bnil hnil; try simp only []) | (omega; done) | (intro hv; (try simp only [bls] at hv); (try simp only [bls]); omega) | (intro hg; (simp only [hg, Bool.true_and, true_and, implies_true]; try (intro hg2; simp only [hg2, Bool.not_false, Bool.not_true])); done)))
   all_goals first | omega | skip
   rw [beq_iff_eq]
   exact decide_eq_decide.2 (by omega)
  ·have v1 : aftV d.na w = [] := by rw [aftV, if_neg (by rw [eA]; exact h0)]
   have v2 : accV d.na w = false := by rw [accV, decide_eq_false (by rw [eA]; exact h0)]; rfl
   rw [v1] at c1 c2
   rw [v2] at c3
   generalize wrdE d.na w = e at *
   have h0' : (e == 0) = false := by simpa using h0
   generalize d.na = A at *
   simp only [NA.d] at m c1 c2 c3 c4
   (refine ACalls.of_body Ty_ok mixed Tryd.func7 rfl (by kernel_rfl) Tryd.ntmps7 (by simp) (congrArg Array.toList Tryd.results7) ?_)
   simp only [slotsOf, Dft.d]
   (repeat' (first | (with_reducible first | exact True.intro | refine And.intro ?_ ?_ | refine awp_block ?_ | ((first | refine awp_seq1 14 [] ?_ | refine awp_seq2 14 [] ?_ | refine awp_seq3 14 [] ?_ | refine awp_seq4 14 [] ?_ | refine awp_seq 14 [] ?_); intro K hK)) | ((with_reducible first | refine awp_reg ?_ | refine awp_exit ?_ | refine awp_skip ?_ | refine likeK_i ?_ | refine otWR_i ?_); simp only [h0', go_sem]) | (with_reducible refine awp_ret ?_; simp only [retF, retM, retL, resV, resW, retO, resAV, AV.bor, D.bor, D.bor1, D.bor0, AV.flatOwn, D.flatOwn, D.flat, AV.tagged, D.tagged, AObj.plain, h0', go_sem]) | ((with_reducible refine awp_cond' ?_ ?_ (fun hb => ?_) (fun hb => ?_)); (simp only [h0', go_sem]); (simp only [h0', go_sem]); all_goals (simp only [h0', go_sem] at hb; try simp only [bls] at hb)) | ((iterate 6 try ((fail_if_success with_reducible refine hK _ ?_ ?_ ?_); clear hK K)); with_reducible refine hK _ ?_ ?_ ?_; rotate_left; (focus (simp only [h0', go_sem]; exact rfl)); clear hK K) | ((first | (with_reducible first | refine cA k ?_ | refine cA m ?_ | refine cA c1 ?_ | refine cA c2 ?_ | refine cA c3 ?_ | refine cA c4 ?_ | refine cD k ?_ | refine cD m ?_ | refine cD c1 ?_ | refine cD c2 ?_ | refine cD c3 ?_ | refine cD c4 ?_ | refine cO k ?_ | refine cO m ?_ | refine cO c1 ?_ | refine cO c2 ?_ | refine cO c3 ?_ | refine cO c4 ?_ | refine cR k ?_ | refine cR m ?_ | refine cR c1 ?_ | refine cR c2 ?_ | refine cR c3 ?_ | refine cR c4 ?_ | refine cG (fun hg => k) ?_ | refine cG (fun hg => m) ?_ | refine cG (fun hg => c1) ?_ | refine cG (fun hg => c2) ?_ | refine cG (fun hg => c3) ?_ | refine cG (fun hg => c4) ?_ | refine cH (fun hg => k) ?_ | refine cH (fun hg => m) ?_ | refine cH (fun hg => c1) ?_ | refine cH (fun hg => c2) ?_ | refine cH (fun hg => c3) ?_ | refine cH (fun hg => c4) ?_ | refine cM (fun hg => k) ?_ | refine cM (fun hg => m) ?_ | refine cM (fun hg => c1) ?_ | refine cM (fun hg => c2) ?_ | refine cM (fun hg => c3) ?_ | refine cM (fun hg => c4) ?_) | (guard_target = CallAt _ _ _ _ _ _ _ _ _ _; first | refine cA k ?_ | refine cA m ?_ | refine cA c1 ?_ | refine cA c2 ?_ | refine cA c3 ?_ | refine cA c4 ?_) | (guard_target = DCallAt _ _ _ _ _ _ _ _; first | refine cD k ?_ | refine cD m ?_ | refine cD c1 ?_ | refine cD c2 ?_ | refine cD c3 ?_ | refine cD c4 ?_) | (guard_target = GCallAt _ _ _ _ _ _ _ _ _ _ _; first | refine cG (fun hg => k) ?_ | refine cG (fun hg => m) ?_ | refine cG (fun hg => c1) ?_ | refine cG (fun hg => c2) ?_ | refine cG (fun hg => c3) ?_ | refine cG (fun hg => c4) ?_)); simp only [h0', go_sem]) | (with_reducible refine gsplit_i (fun hg0 => ?_) (fun hg0 => ?_) <;> first | (with_reducible first | exact absurd hg0 Bool.false_ne_true | exact absurd hg0.symm Bool.false_ne_true) | (simp only [hg0, h0', go_sem])) | (with_reducible refine nilK_i ?_; intro bnil hnil; try simp only []) | (omega; done) | (intro hv; (try simp only [bls] at hv); (try simp only [bls]); omega) | (intro hg; (simp only [hg, Bool.true_and, true_and, implies_true]; try (intro hg2; simp only [hg2, Bool.not_false, Bool.not_true])); done)))
   all_goals first | omega | skip
 ·(refine ACalls.of_body Ty_ok mixed Tryd.func7 rfl (by kernel_rfl) Tryd.ntmps7 (by simp) (congrArg Array.toList Tryd.results7) ?_)
  simp only [slotsOf, Dft.d]
  (repeat' (first | (with_reducible first | exact True.intro | refine And.intro ?_ ?_ | refine awp_block ?_ | ((first | refine awp_seq1 14 [] ?_ | refine awp_seq2 14 [] ?_ | refine awp_seq3 14 [] ?_ | refine awp_seq4 14 [] ?_ | refine awp_seq 14 [] ?_); intro K hK)) | ((with_reducible first | refine awp_reg ?_ | refine awp_exit ?_ | refine awp_skip ?_ | refine likeK_i ?_ | refine otWR_i ?_); simp only [go_sem]) | (with_reducible refine awp_ret ?_; simp only [retF, retM, retL, resV, resW, retO, resAV, AV.bor, D.bor, D.bor1, D.bor0, AV.flatOwn, D.flatOwn, D.flat, AV.tagged, D.tagged, AObj.plain, go_sem]) | ((with_reducible refine awp_cond' ?_ ?_ (fun hb => ?_) (fun hb => ?_)); (simp only [go_sem]); (simp only [go_sem]); all_goals (simp only [go_sem] at hb; try simp only [bls] at hb)) | ((iterate 6 try ((fail_if_success with_reducible refine hK _ ?_ ?_ ?_); clear hK K)); with_reducible refine hK _ ?_ ?_ ?_; rotate_left; (focus (simp only [go_sem]; exact rfl)); clear hK K) | ((first | (with_reducible first | refine cA k ?_ | refine cD k ?_ | refine cO k ?_ | refine cR k ?_ | refine cG (fun hg => k) ?_ | refine cH (fun hg => k) ?_ | refine cM (fun hg => k) ?_) | (guard_target = CallAt _ _ _ _ _ _ _ _ _ _; refine cA k ?_) | (guard_target = DCallAt _ _ _ _ _ _ _ _; refine cD k ?_) | (guard_target = GCallAt _ _ _ _ _ _ _ _ _ _ _; refine cG (fun hg => k) ?_)); simp only [go_sem]) | (with_reducible refine gsplit_i (fun hg0 => ?_) (fun hg0 => ?_) <;> first | (with_reducible first | exact absurd hg0 Bool.false_ne_true | exact absurd hg0.symm Bool.false_ne_true) | (simp only [hg0, go_sem])) | (with_reducible refine nilK_i ?_; intro bnil hnil; try simp only []) | (omega; done) | (intro hv; (try simp only [bls] at hv); (try simp only [bls]); omega) | (intro hg; (simp only [hg, Bool.true_and, true_and, implies_true]; try (intro hg2; simp only [hg2, Bool.not_false, Bool.not_true])); done)))
  all_goals first | omega | skip
end Go.Proofs.YtgagpbbnbonnlaaDoor
