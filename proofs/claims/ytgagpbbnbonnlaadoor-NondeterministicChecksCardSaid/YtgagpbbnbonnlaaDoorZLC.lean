/-
 Chapter 05: the law NondeterministicChecks.
-/
import Derived.Test.YtgagpbbnbonnlaaDoorZK
import Derived.Test.YtgagpbbnbonnlaaDoorZM
import Derived.Test.YtgagpbbnbonnlaaDoorZU
set_option linter.unusedSimpArgs false
set_option linter.unusedVariables false
namespace Go.Proofs.YtgagpbbnbonnlaaDoor
open Go.Eng Go.RowKit
theorem zero_na : Dft.na ⟨0, 0, 0, 0, []⟩ = NA.no := by decide
theorem zero_ok : Dft.Ok ⟨0, 0, 0, 0, []⟩ := ⟨⟨by decide, by decide⟩, ⟨by decide, by decide⟩, ⟨by decide, by decide⟩, ⟨by decide, by decide⟩, fun _ h => (List.not_mem_nil h).elim, Nat.zero_le _⟩
theorem no_fits : NA.no.Fits := ⟨by decide, by decide, by decide, by decide⟩
theorem no_chk : chkNA NA.no = 0 := by decide
theorem Make0_c : ACalls Tryd.prog 14 [.agg [.int .u8 0, .int .u8 0, .int .u8 0, .int .u8 0, .list []]] (.agg [.list [], .int .i64 0, .list [], .list [], .list []]) [] := by
 have h := Make_c ⟨0, 0, 0, 0, []⟩ zero_ok
 rw [zero_na] at h
 exact h
set_option maxHeartbeats 32000000 in
set_option maxRecDepth 20000 in
theorem Checks_law (a : NA) : ACalls Tryd.prog 11 [.agg a.d] (.one (.bool true)) [] := by
 have k := known_c
 have f1 := few_c a
 by_cases h1 : fewB a = true
 ·have hf := few_fits h1
  have c1 := refCheck_c a hf
  have c2 := naCheck_c a hf
  rw [h1] at f1
  by_cases h0 : chkNA a = 0
  ·rw [h0] at c1 c2
   simp only [NA.d] at f1 c1 c2
   (refine ACalls.of_body Ty_ok mixed Tryd.func11 rfl (by kernel_rfl) Tryd.ntmps11 (by simp) (congrArg Array.toList Tryd.results11) ?_)
   simp only [slotsOf, NA.d]
   (repeat' (first | (with_reducible first | exact True.intro | refine And.intro ?_ ?_ | refine awp_block ?_ | ((first | refine awp_seq1 26 [] ?_ | refine awp_seq2 26 [] ?_ | refine awp_seq3 26 [] ?_ | refine awp_seq4 26 [] ?_ | refine awp_seq 26 [] ?_); intro K hK)) | ((with_reducible first | refine awp_reg ?_ | refine awp_exit ?_ | refine awp_skip ?_ | refine likeK_i ?_ | refine otWR_i ?_ | refine rP Ty_ok mixed 16 [] [.mid [pe 0, ⟨1, 0, true, false, false, [], []⟩, ⟨2, 1, false, false, false, [0], []⟩, ⟨3, 1, true, false, false, [], []⟩, ⟨4, 2, false, false, false, [], []⟩, ⟨5, 2, false, false, false, [], []⟩, ⟨6, 2, false, true, false, [], []⟩, ⟨7, 2, true, false, false, [1, 0], []⟩] 3, .one 8, .one 9] ?_ | refine rP Ty_ok mixed 17 [] [.mid [pe 0, pe 1, ⟨2, 0, true, false, false, [], []⟩, ⟨3, 1, true, false, false, [], []⟩, ⟨4, 2, false, false, false, [], []⟩, ⟨5, 2, false, false, false, [], []⟩, ⟨6, 2, false, true, false, [], []⟩, ⟨7, 2, true, false, false, [1, 0], []⟩] 3, .one 8, .one 9] ?_); simp only [go_sem]) | (with_reducible refine awp_ret ?_; simp only [retF, retM, retL, resV, resW, retO, resAV, AV.bor, D.bor, D.bor1, D.bor0, AV.flatOwn, D.flatOwn, D.flat, AV.tagged, D.tagged, AObj.plain, go_sem]) | ((with_reducible refine awp_cond' ?_ ?_ (fun hb => ?_) (fun hb => ?_)); (simp only [go_sem]); (simp only [go_sem]); all_goals (simp only [go_sem] at hb; try simp only [bls] at hb)) | ((iterate 6 try ((fail_if_success with_reducible refine hK _ ?_ ?_ ?_); clear hK K)); with_reducible refine hK _ ?_ ?_ ?_; rotate_left; (focus (simp only [go_sem]; exact rfl)); clear hK K) | ((first | (with_reducible first | refine cA k ?_ | refine cA f1 ?_ | refine cA c1 ?_ | refine cA c2 ?_ | refine cD k ?_ | refine cD f1 ?_ | refine cD c1 ?_ | refine cD c2 ?_ | refine cO k ?_ | refine cO f1 ?_ | refine cO c1 ?_ | refine cO c2 ?_ | refine cR k ?_ | refine cR f1 ?_ | refine cR c1 ?_ | refine cR c2 ?_ | refine cG (fun hg => k) ?_ | refine cG (fun hg => f1) ?_ | refine cG (fun hg => c1) ?_ | refine cG (fun hg => c2) ?_ | refine cH (fun hg => k) ?_ | refine cH (fun hg => f1) ?_ | refine cH (fun hg => c1) ?_ | refine cH (fun hg => c2) ?_ | refine cM (fun hg => k) ?_ | refine cM (fun hg => f1) ?_ | refine cM (fun hg => c1) ?_ | refine cM (fun hg => c2) ?_) | (guard_target = CallAt _ _ _ _ _ _ _ _ _ _; first | refine cA k ?_ | refine cA f1 ?_ | refine cA c1 ?_ | refine cA c2 ?_) | (guard_target = DCallAt _ _ _ _ _ _ _ _; first | refine cD k ?_ | refine cD f1 ?_ | refine cD c1 ?_ | refine cD c2 ?_) | (guard_target = GCallAt _ _ _ _ _ _ _ _ _ _ _; first | refine cG (fun hg => k) ?_ | refine cG (fun hg => f1) ?_ | refine cG (fun hg => c1) ?_ | refine cG (fun hg => c2) ?_)); simp only [go_sem]) | (with_reducible refine gsplit_i (fun hg0 => ?_) (fun hg0 => ?_) <;> first | (with_reducible first | exact absurd hg0 Bool.false_ne_true | exact absurd hg0.symm Bool.false_ne_true) | (simp only [hg0, go_sem])) | (with_reducible refine nilK_i ?_; intro bnil hnil; try simp only []) | (omega; done) | (intro hv; (try simp only [bls] at hv); (try simp only [bls]); omega) | (intro hg; (simp only [hg, Bool.true_and, true_and, implies_true]; try (intro hg2; simp only [hg2, Bool.not_false, Bool.not_true])); done)))
   all_goals first | omega | skip
  ·have e1 : cloE a [] = chkNA a := by rw [cloE, if_pos h0]
   have e2 : stpE a [] 0 = chkNA a := by rw [stpE, if_pos (by rw [e1]; exact h0), e1]
   have e3 : aftE a [] = chkNA a := by rw [aftE, if_pos h0]
   have v1 : cloV a [] = [] := by rw [cloV, if_neg (by rw [e1]; exact h0)]
   have v2 : stpV a [] 0 = [] := by rw [stpV, if_neg (by rw [e2]; exact h0)]
   have v3 : aftV a [] = [] := by rw [aftV, if_neg (by rw [e3]; exact h0)]
   have v4 : accV a [] = false := by rw [accV, decide_eq_false (by rw [e3]; exact h0)]; rfl
   have c3 : ACalls Tryd.prog 19 [.agg a.d, .one (.list [])] (.tup [.one (.list []), .one (.int .i64 (chkNA a))]) [] := by
    have h := Closure_c a [] hf (by decide)
    rw [e1, v1] at h
    exact h
   have c4 : ACalls Tryd.prog 20 [.agg a.d, .one (.list []), .one (.int .i64 0)] (.tup [.one (.list []), .one (.int .i64 (chkNA a))]) [] := by
    have h := Step_c a [] 0 hf (by decide)
    rw [e2, v2] at h
    exact h
   have c5 : ACalls Tryd.prog 28 [.agg a.d, .one (.list [])] (.tup [.one (.list []), .one (.int .i64 (chkNA a))]) [] := by
    have h := After_c a [] hf (by decide)
    rw [e3, v3] at h
    exact h
   have c6 : ACalls Tryd.prog 29 [.agg a.d, .one (.list [])] (.tup [.one (.bool false), .one (.int .i64 (chkNA a))]) [] := by
    have h := Generates_c a [] hf (by decide)
    rw [e3, v3] at h
    exact h
   have c7 : ACalls Tryd.prog 30 [.agg a.d, .one (.list [])] (.tup [.one (.bool false), .one (.int .i64 (chkNA a))]) [] := by
    have h := Accepts_c a [] hf (by decide)
    rw [e3, v4] at h
    exact h
   have c8 := detE_c a hf h0
   have c9 : ACalls Tryd.prog 40 [.agg a.d, .one (.list [])] (.tup [.agg NA.no.d, .one (.int .i64 (chkNA a))]) [] := ErasE_c a [] hf h0
   have c10 := ReversE_c a hf h0
   have c11 := UnioE2_c NA.no a no_fits hf no_chk h0
   have c12 := UnioE1_c a NA.no hf h0
   have c13 := none_c NA.no no_fits
   have c14 := same_c AU.no AU.no ⟨by decide, by decide, by decide, by decide⟩
   have m0 := Make0_c
   rw [decide_eq_true rfl] at c13 c14
   have d1 : NA.no.d = [.list [], .int .i64 0, .list [], .list [], .list []] := rfl
   have d2 : AU.no.d = [.list [], .int .i64 0, .list [], .list []] := rfl
   rw [d1] at c9 c10 c11 c12 c13
   rw [d2] at c8 c14
   generalize chkNA a = e at *
   have h0' : (e == 0) = false := by simpa using h0
   simp only [NA.d] at f1 c1 c2 c3 c4 c5 c6 c7 c8 c9 c10 c11 c12
   (refine ACalls.of_body Ty_ok mixed Tryd.func11 rfl (by kernel_rfl) Tryd.ntmps11 (by simp) (congrArg Array.toList Tryd.results11) ?_)
   simp only [slotsOf, NA.d]
   (repeat' (first | (with_reducible first | exact True.intro | refine And.intro ?_ ?_ | refine awp_block ?_ | ((first | refine awp_seq1 26 [] ?_ | refine awp_seq2 26 [] ?_ | refine awp_seq3 26 [] ?_ | refine awp_seq4 26 [] ?_ | refine awp_seq 26 [] ?_); intro K hK)) | ((with_reducible first | refine awp_reg ?_ | refine awp_exit ?_ | refine awp_skip ?_ | refine likeK_i ?_ | refine otWR_i ?_ | refine rP Ty_ok mixed 16 [] [.mid [pe 0, ⟨1, 0, true, false, false, [], []⟩, ⟨2, 1, false, false, false, [0], []⟩, ⟨3, 1, true, false, false, [], []⟩, ⟨4, 2, false, false, false, [], []⟩, ⟨5, 2, false, false, false, [], []⟩, ⟨6, 2, false, true, false, [], []⟩, ⟨7, 2, true, false, false, [1, 0], []⟩] 3, .one 8, .one 9] ?_ | refine rP Ty_ok mixed 17 [] [.mid [pe 0, pe 1, ⟨2, 0, true, false, false, [], []⟩, ⟨3, 1, true, false, false, [], []⟩, ⟨4, 2, false, false, false, [], []⟩, ⟨5, 2, false, false, false, [], []⟩, ⟨6, 2, false, true, false, [], []⟩, ⟨7, 2, true, false, false, [1, 0], []⟩] 3, .one 8, .one 9] ?_); simp only [h0', go_sem]) | (with_reducible refine awp_ret ?_; simp only [retF, retM, retL, resV, resW, retO, resAV, AV.bor, D.bor, D.bor1, D.bor0, AV.flatOwn, D.flatOwn, D.flat, AV.tagged, D.tagged, AObj.plain, h0', go_sem]) | ((with_reducible refine awp_cond' ?_ ?_ (fun hb => ?_) (fun hb => ?_)); (simp only [h0', go_sem]); (simp only [h0', go_sem]); all_goals (simp only [h0', go_sem] at hb; try simp only [bls] at hb)) | ((iterate 6 try ((fail_if_success with_reducible refine hK _ ?_ ?_ ?_); clear hK K)); with_reducible refine hK _ ?_ ?_ ?_; rotate_left; (focus (simp only [h0', go_sem]; exact rfl)); clear hK K) | ((first | (with_reducible first | refine cA k ?_ | refine cA f1 ?_ | refine cA c1 ?_ | refine cA c2 ?_ | refine cA c3 ?_ | refine cA c4 ?_ | refine cA c5 ?_ | refine cA c6 ?_ | refine cA c7 ?_ | refine cA c8 ?_ | refine cA c9 ?_ | refine cA c10 ?_ | refine cA c11 ?_ | refine cA c12 ?_ | refine cA c13 ?_ | refine cA c14 ?_ | refine cA m0 ?_ | refine cD k ?_ | refine cD f1 ?_ | refine cD c1 ?_ | refine cD c2 ?_ | refine cD c3 ?_ | refine cD c4 ?_ | refine cD c5 ?_ | refine cD c6 ?_ | refine cD c7 ?_ | refine cD c8 ?_ | refine cD c9 ?_ | refine cD c10 ?_ | refine cD c11 ?_ | refine cD c12 ?_ | refine cD c13 ?_ | refine cD c14 ?_ | refine cD m0 ?_ | refine cO k ?_ | refine cO f1 ?_ | refine cO c1 ?_ | refine cO c2 ?_ | refine cO c3 ?_ | refine cO c4 ?_ | refine cO c5 ?_ | refine cO c6 ?_ | refine cO c7 ?_ | refine cO c8 ?_ | refine cO c9 ?_ | refine cO c10 ?_ | refine cO c11 ?_ | refine cO c12 ?_ | refine cO c13 ?_ | refine cO c14 ?_ | refine cO m0 ?_ | refine cR k ?_ | refine cR f1 ?_ | refine cR c1 ?_ | refine cR c2 ?_ | refine cR c3 ?_ | refine cR c4 ?_ | refine cR c5 ?_ | refine cR c6 ?_ | refine cR c7 ?_ | refine cR c8 ?_ | refine cR c9 ?_ | refine cR c10 ?_ | refine cR c11 ?_ | refine cR c12 ?_ | refine cR c13 ?_ | refine cR c14 ?_ | refine cR m0 ?_ | refine cG (fun hg => k) ?_ | refine cG (fun hg => f1) ?_ | refine cG (fun hg => c1) ?_ | refine cG (fun hg => c2) ?_ | refine cG (fun hg => c3) ?_ | refine cG (fun hg => c4) ?_ | refine cG (fun hg => c5) ?_ | refine cG (fun hg => c6) ?_ | refine cG (fun hg => c7) ?_ | refine cG (fun hg => c8) ?_ | refine cG (fun hg => c9) ?_ | refine cG (fun hg => c10) ?_ | refine cG (fun hg => c11) ?_ | refine cG (fun hg => c12) ?_ | refine cG (fun hg => c13) ?_ | refine cG (fun hg => c14) ?_ | refine cG (fun hg => m0) ?_ | refine cH (fun hg => k) ?_ | refine cH (fun hg => f1) ?_ | refine cH (fun hg => c1) ?_ | refine cH (fun hg => c2) ?_ | refine cH (fun hg => c3) ?_ | refine cH (fun hg => c4) ?_ | refine cH (fun hg => c5) ?_ | refine cH (fun hg => c6) ?_ | refine cH (fun hg => c7) ?_ | refine cH (fun hg => c8) ?_ | refine cH (fun hg => c9) ?_ | refine cH (fun hg => c10) ?_ | refine cH (fun hg => c11) ?_ | refine cH (fun hg => c12) ?_ | refine cH (fun hg => c13) ?_ | refine cH (fun hg => c14) ?_ | refine cH (fun hg => m0) ?_ | refine cM (fun hg => k) ?_ | refine cM (fun hg => f1) ?_ | refine cM (fun hg => c1) ?_ | refine cM (fun hg => c2) ?_ | refine cM (fun hg => c3) ?_ | refine cM (fun hg => c4) ?_ | refine cM (fun hg => c5) ?_ | refine cM (fun hg => c6) ?_ | refine cM (fun hg => c7) ?_ | refine cM (fun hg => c8) ?_ | refine cM (fun hg => c9) ?_ | refine cM (fun hg => c10) ?_ | refine cM (fun hg => c11) ?_ | refine cM (fun hg => c12) ?_ | refine cM (fun hg => c13) ?_ | refine cM (fun hg => c14) ?_ | refine cM (fun hg => m0) ?_) | (guard_target = CallAt _ _ _ _ _ _ _ _ _ _; first | refine cA k ?_ | refine cA f1 ?_ | refine cA c1 ?_ | refine cA c2 ?_ | refine cA c3 ?_ | refine cA c4 ?_ | refine cA c5 ?_ | refine cA c6 ?_ | refine cA c7 ?_ | refine cA c8 ?_ | refine cA c9 ?_ | refine cA c10 ?_ | refine cA c11 ?_ | refine cA c12 ?_ | refine cA c13 ?_ | refine cA c14 ?_ | refine cA m0 ?_) | (guard_target = DCallAt _ _ _ _ _ _ _ _; first | refine cD k ?_ | refine cD f1 ?_ | refine cD c1 ?_ | refine cD c2 ?_ | refine cD c3 ?_ | refine cD c4 ?_ | refine cD c5 ?_ | refine cD c6 ?_ | refine cD c7 ?_ | refine cD c8 ?_ | refine cD c9 ?_ | refine cD c10 ?_ | refine cD c11 ?_ | refine cD c12 ?_ | refine cD c13 ?_ | refine cD c14 ?_ | refine cD m0 ?_) | (guard_target = GCallAt _ _ _ _ _ _ _ _ _ _ _; first | refine cG (fun hg => k) ?_ | refine cG (fun hg => f1) ?_ | refine cG (fun hg => c1) ?_ | refine cG (fun hg => c2) ?_ | refine cG (fun hg => c3) ?_ | refine cG (fun hg => c4) ?_ | refine cG (fun hg => c5) ?_ | refine cG (fun hg => c6) ?_ | refine cG (fun hg => c7) ?_ | refine cG (fun hg => c8) ?_ | refine cG (fun hg => c9) ?_ | refine cG (fun hg => c10) ?_ | refine cG (fun hg => c11) ?_ | refine cG (fun hg => c12) ?_ | refine cG (fun hg => c13) ?_ | refine cG (fun hg => c14) ?_ | refine cG (fun hg => m0) ?_)); simp only [h0', go_sem]) | (with_reducible refine gsplit_i (fun hg0 => ?_) (fun hg0 => ?_) <;> first | (with_reducible first | exact absurd hg0 Bool.false_ne_true | exact absurd hg0.symm Bool.false_ne_true) | (simp only [hg0, h0', go_sem])) | (with_reducible refine nilK_i ?_; intro bnil hnil; try simp only []) | (omega; done) | (intro hv; (try simp only [bls] at hv); (try simp only [bls]); omega) | (intro hg; (simp only [hg, Bool.true_and, true_and, implies_true]; try (intro hg2; simp only [hg2, Bool.not_false, Bool.not_true])); done)))
   all_goals first | omega | skip
 ·have h1' : fewB a = false := by simpa using h1
  rw [h1'] at f1
  simp only [NA.d] at f1
  (refine ACalls.of_body Ty_ok mixed Tryd.func11 rfl (by kernel_rfl) Tryd.ntmps11 (by simp) (congrArg Array.toList Tryd.results11) ?_)
  simp only [slotsOf, NA.d]
  (repeat' (first | (with_reducible first | exact True.intro | refine And.intro ?_ ?_ | refine awp_block ?_ | ((first | refine awp_seq1 26 [] ?_ | refine awp_seq2 26 [] ?_ | refine awp_seq3 26 [] ?_ | refine awp_seq4 26 [] ?_ | refine awp_seq 26 [] ?_); intro K hK)) | ((with_reducible first | refine awp_reg ?_ | refine awp_exit ?_ | refine awp_skip ?_ | refine likeK_i ?_ | refine otWR_i ?_ | refine rP Ty_ok mixed 16 [] [.mid [pe 0, ⟨1, 0, true, false, false, [], []⟩, ⟨2, 1, false, false, false, [0], []⟩, ⟨3, 1, true, false, false, [], []⟩, ⟨4, 2, false, false, false, [], []⟩, ⟨5, 2, false, false, false, [], []⟩, ⟨6, 2, false, true, false, [], []⟩, ⟨7, 2, true, false, false, [1, 0], []⟩] 3, .one 8, .one 9] ?_ | refine rP Ty_ok mixed 17 [] [.mid [pe 0, pe 1, ⟨2, 0, true, false, false, [], []⟩, ⟨3, 1, true, false, false, [], []⟩, ⟨4, 2, false, false, false, [], []⟩, ⟨5, 2, false, false, false, [], []⟩, ⟨6, 2, false, true, false, [], []⟩, ⟨7, 2, true, false, false, [1, 0], []⟩] 3, .one 8, .one 9] ?_); simp only [go_sem]) | (with_reducible refine awp_ret ?_; simp only [retF, retM, retL, resV, resW, retO, resAV, AV.bor, D.bor, D.bor1, D.bor0, AV.flatOwn, D.flatOwn, D.flat, AV.tagged, D.tagged, AObj.plain, go_sem]) | ((with_reducible refine awp_cond' ?_ ?_ (fun hb => ?_) (fun hb => ?_)); (simp only [go_sem]); (simp only [go_sem]); all_goals (simp only [go_sem] at hb; try simp only [bls] at hb)) | ((iterate 6 try ((fail_if_success with_reducible refine hK _ ?_ ?_ ?_); clear hK K)); with_reducible refine hK _ ?_ ?_ ?_; rotate_left; (focus (simp only [go_sem]; exact rfl)); clear hK K) | ((first | (with_reducible first | refine cA k ?_ | refine cA f1 ?_ | refine cD k ?_ | refine cD f1 ?_ | refine cO k ?_ | refine cO f1 ?_ | refine cR k ?_ | refine cR f1 ?_ | refine cG (fun hg => k) ?_ | refine cG (fun hg => f1) ?_ | refine cH (fun hg => k) ?_ | refine cH (fun hg => f1) ?_ | refine cM (fun hg => k) ?_ | refine cM (fun hg => f1) ?_) | (guard_target = CallAt _ _ _ _ _ _ _ _ _ _; first | refine cA k ?_ | refine cA f1 ?_) | (guard_target = DCallAt _ _ _ _ _ _ _ _; first | refine cD k ?_ | refine cD f1 ?_) | (guard_target = GCallAt _ _ _ _ _ _ _ _ _ _ _; first | refine cG (fun hg => k) ?_ | refine cG (fun hg => f1) ?_)); simp only [go_sem]) | (with_reducible refine gsplit_i (fun hg0 => ?_) (fun hg0 => ?_) <;> first | (with_reducible first | exact absurd hg0 Bool.false_ne_true | exact absurd hg0.symm Bool.false_ne_true) | (simp only [hg0, go_sem])) | (with_reducible refine nilK_i ?_; intro bnil hnil; try simp only []) | (omega; done) | (intro hv; (try simp only [bls] at hv); (try simp only [bls]); omega) | (intro hg; (simp only [hg, Bool.true_and, true_and, implies_true]; try (intro hg2; simp only [hg2, Bool.not_false, Bool.not_true])); done)))
  all_goals first | omega | skip
end Go.Proofs.YtgagpbbnbonnlaaDoor
