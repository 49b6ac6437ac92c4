/-
 Chapter 05: the law's known, few, none, same.
-/
import Derived.Test.YtgagpbbnbonnlaaDoorZP
import Derived.Test.YtgagpbbnbonnlaaDoorZE
import Derived.Test.YtgagpbbnbonnlaaDoorZD
set_option linter.unusedSimpArgs false
set_option linter.unusedVariables false
namespace Go.Proofs.YtgagpbbnbonnlaaDoor
open Go.Eng Go.RowKit
theorem Mof_none (M0 : Nat → Prop) : Mof M0 [] = M0 := funext fun g => propext ⟨fun h => h.resolve_right owned_nil, .inl⟩
theorem ACalls.toM {P : Program} {f : FuncId} {args : List AV} {r : AV} (h : ACalls P f args r []) : MCalls P f 0 [] args r [] := by
 refine ⟨h.ok, rfl, fun w M0 F vs hM hp hv => ?_⟩
 have hF : F = [] := List.eq_nil_of_length_eq_zero hp.len
 subst hF
 rw [Mof_none] at hv
 refine (h.run w M0 vs hM hv).mono ?_
 rintro e w' ⟨v, β, rfl, hR⟩
 have hβ : β = [] := List.eq_nil_of_length_eq_zero hR.len
 subst hβ
 exact ⟨v, [], rfl, .of hR.below, rfl, fun t ht => by omega, fun t o x ho => by simp at ho, fun g hg => (owned_nil hg).elim, fun t t' x x' g h1 => by simp at h1, hR.val⟩
theorem Example_c : ACalls Tryd.prog 46 [] (.agg exNA.d) [] := by
 (refine ACalls.of_body Ty_ok mixed Tryd.func46 rfl (by kernel_rfl) Tryd.ntmps46 (by simp) (congrArg Array.toList Tryd.results46) ?_)
 simp only [slotsOf]
 (repeat' (first | (with_reducible first | exact True.intro | refine And.intro ?_ ?_ | refine awp_block ?_ | ((first | refine awp_seq1 1 [] ?_ | refine awp_seq2 1 [] ?_ | refine awp_seq3 1 [] ?_ | refine awp_seq4 1 [] ?_ | refine awp_seq 1 [] ?_); intro K hK)) | ((with_reducible first | refine awp_reg ?_ | refine awp_exit ?_ | refine awp_skip ?_ | refine likeK_i ?_ | refine otWR_i ?_); simp only [go_sem]) | (with_reducible refine awp_ret ?_; simp only [retF, retM, retL, resV, resW, retO, resAV, AV.bor, D.bor, D.bor1, D.bor0, AV.flatOwn, D.flatOwn, D.flat, AV.tagged, D.tagged, AObj.plain, go_sem]) | ((with_reducible refine awp_cond' ?_ ?_ (fun hb => ?_) (fun hb => ?_)); (simp only [go_sem]); (simp only [go_sem]); all_goals (simp only [go_sem] at hb; try simp only [bls] at hb)) | ((iterate 6 try ((fail_if_success with_reducible refine hK _ ?_ ?_ ?_); clear hK K)); with_reducible refine hK _ ?_ ?_ ?_; rotate_left; (focus (simp only [go_sem]; exact rfl)); clear hK K) | (with_reducible refine gsplit_i (fun hg0 => ?_) (fun hg0 => ?_) <;> first | (with_reducible first | exact absurd hg0 Bool.false_ne_true | exact absurd hg0.symm Bool.false_ne_true) | (simp only [hg0, go_sem])) | (with_reducible refine nilK_i ?_; intro bnil hnil; try simp only []) | (omega; done) | (intro hv; (try simp only [bls] at hv); (try simp only [bls]); omega) | (intro hg; (simp only [hg, Bool.true_and, true_and, implies_true]; try (intro hg2; simp only [hg2, Bool.not_false, Bool.not_true])); done)))
 all_goals rfl
theorem ex_fits : exNA.Fits := ⟨by decide, by decide, by decide, by decide⟩
theorem ex_cloE : cloE exNA [0] = 0 := by decide
theorem ex_cloV : cloV exNA [0] = [0, 1] := by
 rw [cloV, if_pos ex_cloE]; exact ex_clo
theorem ex_cloC : ACalls Tryd.prog 19 [.agg exNA.d, .one (.list [[.int .i64 0]])] (.tup [.one (.list [[.int .i64 0], [.int .i64 1]]), .one (.int .i64 0)]) [] := by
 have h := Closure_c exNA [0] ex_fits (by decide)
 rw [ex_cloE, ex_cloV] at h
 exact h
theorem ex_detC : ACalls Tryd.prog 15 [.agg exNA.d] (.tup [.agg [.list [[.int .i64 0]], .int .i64 2, .list [[.int .i64 1]], .list [[.int .i64 0, .int .i64 0, .int .i64 1], [.int .i64 1, .int .i64 0, .int .i64 1]]], .one (.list [[.list [[.int .i64 0], [.int .i64 1]]], [.list [[.int .i64 2]]]]), .one (.int .i64 0)]) [] := by
 have h := Determinize_c exNA _ (dgood_of ex_fits ex_chk) ex_chk
 rw [ex_det] at h
 exact h
set_option maxHeartbeats 8000000 in
theorem known_c : ACalls Tryd.prog 13 [] (.one (.bool true)) [] := by
 have c0 := Example_c
 have c1 := ex_cloC
 have c2 := ex_detC
 have c3 := Same_c [0, 1] [0, 1] (by decide)
 have c4 := Same_c [1] [1] (by decide)
 simp only [ints, List.map_cons, List.map_nil, decide_true] at c3 c4
 have e0 : exNA.d = [.list [[.int .i64 0]], .int .i64 3, .list [[.int .i64 0]], .list [[.int .i64 2]], .list [[.int .i64 0, .int .i64 (-1), .int .i64 1], [.int .i64 1, .int .i64 0, .int .i64 2], [.int .i64 2, .int .i64 0, .int .i64 2]]] := rfl
 rw [e0] at c0 c1 c2
 (refine ACalls.of_body Ty_ok mixed Tryd.func13 rfl (by kernel_rfl) Tryd.ntmps13 (by simp) (congrArg Array.toList Tryd.results13) ?_)
 simp only [slotsOf]
 (repeat' (first | (with_reducible first | exact True.intro | refine And.intro ?_ ?_ | refine awp_block ?_ | ((first | refine awp_seq1 6 [] ?_ | refine awp_seq2 6 [] ?_ | refine awp_seq3 6 [] ?_ | refine awp_seq4 6 [] ?_ | refine awp_seq 6 [] ?_); intro K hK)) | ((with_reducible first | refine awp_reg ?_ | refine awp_exit ?_ | refine awp_skip ?_ | refine likeK_i ?_ | refine otWR_i ?_); simp only [go_sem]) | (with_reducible refine awp_ret ?_; simp only [retF, retM, retL, resV, resW, retO, resAV, AV.bor, D.bor, D.bor1, D.bor0, AV.flatOwn, D.flatOwn, D.flat, AV.tagged, D.tagged, AObj.plain, go_sem]) | ((with_reducible refine awp_cond' ?_ ?_ (fun hb => ?_) (fun hb => ?_)); (simp only [go_sem]); (simp only [go_sem]); all_goals (simp only [go_sem] at hb; try simp only [bls] at hb)) | ((iterate 6 try ((fail_if_success with_reducible refine hK _ ?_ ?_ ?_); clear hK K)); with_reducible refine hK _ ?_ ?_ ?_; rotate_left; (focus (simp only [go_sem]; exact rfl)); clear hK K) | ((first | (with_reducible first | refine cA c0 ?_ | refine cA c1 ?_ | refine cA c2 ?_ | refine cA c3 ?_ | refine cA c4 ?_ | refine cD c0 ?_ | refine cD c1 ?_ | refine cD c2 ?_ | refine cD c3 ?_ | refine cD c4 ?_ | refine cO c0 ?_ | refine cO c1 ?_ | refine cO c2 ?_ | refine cO c3 ?_ | refine cO c4 ?_ | refine cR c0 ?_ | refine cR c1 ?_ | refine cR c2 ?_ | refine cR c3 ?_ | refine cR c4 ?_ | refine cG (fun hg => c0) ?_ | refine cG (fun hg => c1) ?_ | refine cG (fun hg => c2) ?_ | refine cG (fun hg => c3) ?_ | refine cG (fun hg => c4) ?_ | refine cH (fun hg => c0) ?_ | refine cH (fun hg => c1) ?_ | refine cH (fun hg => c2) ?_ | refine cH (fun hg => c3) ?_ | refine cH (fun hg => c4) ?_ | refine cM (fun hg => c0) ?_ | refine cM (fun hg => c1) ?_ | refine cM (fun hg => c2) ?_ | refine cM (fun hg => c3) ?_ | refine cM (fun hg => c4) ?_) | (guard_target = CallAt _ _ _ _ _ _ _ _ _ _; first | refine cA c0 ?_ | refine cA c1 ?_ | refine cA c2 ?_ | refine cA c3 ?_ | refine cA c4 ?_) | (guard_target = DCallAt _ _ _ _ _ _ _ _; first | refine cD c0 ?_ | refine cD c1 ?_ | refine cD c2 ?_ | refine cD c3 ?_ | refine cD c4 ?_) | (guard_target = GCallAt _ _ _ _ _ _ _ _ _ _ _; first | refine cG (fun hg => c0) ?_ | refine cG (fun hg => c1) ?_ | refine cG (fun hg => c2) ?_ | refine cG (fun hg => c3) ?_ | refine cG (fun hg => c4) ?_)); simp only [go_sem]) | (with_reducible refine gsplit_i (fun hg0 => ?_) (fun hg0 => ?_) <;> first | (with_reducible first | exact absurd hg0 Bool.false_ne_true | exact absurd hg0.symm Bool.false_ne_true) | (simp only [hg0, go_sem])) | (with_reducible refine nilK_i ?_; intro bnil hnil; try simp only []) | (omega; done) | (intro hv; (try simp only [bls] at hv); (try simp only [bls]); omega) | (intro hg; (simp only [hg, Bool.true_and, true_and, implies_true]; try (intro hg2; simp only [hg2, Bool.not_false, Bool.not_true])); done)))
 (refine MCallAt_i [0] [] (ACalls.toM c1) ?_ ?_; (focus (simp only [mside, handOk, go_sem]; (first | done | exact (by decide) | exact ⟨by decide, fun t ht => ht.elim⟩ | (refine ⟨by decide, ?_⟩; simp; done)))); simp only [go_sem])
 (repeat' (first | (with_reducible first | exact True.intro | refine And.intro ?_ ?_ | refine awp_block ?_ | ((first | refine awp_seq1 6 [] ?_ | refine awp_seq2 6 [] ?_ | refine awp_seq3 6 [] ?_ | refine awp_seq4 6 [] ?_ | refine awp_seq 6 [] ?_); intro K hK)) | ((with_reducible first | refine awp_reg ?_ | refine awp_exit ?_ | refine awp_skip ?_ | refine likeK_i ?_ | refine otWR_i ?_); simp only [go_sem]) | (with_reducible refine awp_ret ?_; simp only [retF, retM, retL, resV, resW, retO, resAV, AV.bor, D.bor, D.bor1, D.bor0, AV.flatOwn, D.flatOwn, D.flat, AV.tagged, D.tagged, AObj.plain, go_sem]) | ((with_reducible refine awp_cond' ?_ ?_ (fun hb => ?_) (fun hb => ?_)); (simp only [go_sem]); (simp only [go_sem]); all_goals (simp only [go_sem] at hb; try simp only [bls] at hb)) | ((iterate 6 try ((fail_if_success with_reducible refine hK _ ?_ ?_ ?_); clear hK K)); with_reducible refine hK _ ?_ ?_ ?_; rotate_left; (focus (simp only [go_sem]; exact rfl)); clear hK K) | ((first | (with_reducible first | refine cA c0 ?_ | refine cA c1 ?_ | refine cA c2 ?_ | refine cA c3 ?_ | refine cA c4 ?_ | refine cD c0 ?_ | refine cD c1 ?_ | refine cD c2 ?_ | refine cD c3 ?_ | refine cD c4 ?_ | refine cO c0 ?_ | refine cO c1 ?_ | refine cO c2 ?_ | refine cO c3 ?_ | refine cO c4 ?_ | refine cR c0 ?_ | refine cR c1 ?_ | refine cR c2 ?_ | refine cR c3 ?_ | refine cR c4 ?_ | refine cG (fun hg => c0) ?_ | refine cG (fun hg => c1) ?_ | refine cG (fun hg => c2) ?_ | refine cG (fun hg => c3) ?_ | refine cG (fun hg => c4) ?_ | refine cH (fun hg => c0) ?_ | refine cH (fun hg => c1) ?_ | refine cH (fun hg => c2) ?_ | refine cH (fun hg => c3) ?_ | refine cH (fun hg => c4) ?_ | refine cM (fun hg => c0) ?_ | refine cM (fun hg => c1) ?_ | refine cM (fun hg => c2) ?_ | refine cM (fun hg => c3) ?_ | refine cM (fun hg => c4) ?_) | (guard_target = CallAt _ _ _ _ _ _ _ _ _ _; first | refine cA c0 ?_ | refine cA c1 ?_ | refine cA c2 ?_ | refine cA c3 ?_ | refine cA c4 ?_) | (guard_target = DCallAt _ _ _ _ _ _ _ _; first | refine cD c0 ?_ | refine cD c1 ?_ | refine cD c2 ?_ | refine cD c3 ?_ | refine cD c4 ?_) | (guard_target = GCallAt _ _ _ _ _ _ _ _ _ _ _; first | refine cG (fun hg => c0) ?_ | refine cG (fun hg => c1) ?_ | refine cG (fun hg => c2) ?_ | refine cG (fun hg => c3) ?_ | refine cG (fun hg => c4) ?_)); simp only [go_sem]) | (with_reducible refine gsplit_i (fun hg0 => ?_) (fun hg0 => ?_) <;> first | (with_reducible first | exact absurd hg0 Bool.false_ne_true | exact absurd hg0.symm Bool.false_ne_true) | (simp only [hg0, go_sem])) | (with_reducible refine nilK_i ?_; intro bnil hnil; try simp only []) | (omega; done) | (intro hv; (try simp only [bls] at hv); (try simp only [bls]); omega) | (intro hg; (simp only [hg, Bool.true_and, true_and, implies_true]; try (intro hg2; simp only [hg2, Bool.not_false, Bool.not_true])); done)))
 all_goals first | omega | skip
theorem none_c (a : NA) (hf : a.Fits) : ACalls Tryd.prog 36 [.agg a.d] (.one (.bool (decide (a = NA.no)))) [] := by
 have c := refEqual_c a NA.no hf
 have e : NA.no.d = [.list [], .int .i64 0, .list [], .list [], .list []] := rfl
 rw [e] at c
 simp only [NA.d] at c
 (refine ACalls.of_body Ty_ok mixed Tryd.func36 rfl (by kernel_rfl) Tryd.ntmps36 (by simp) (congrArg Array.toList Tryd.results36) ?_)
 simp only [slotsOf, NA.d]
 (repeat' (first | (with_reducible first | exact True.intro | refine And.intro ?_ ?_ | refine awp_block ?_ | ((first | refine awp_seq1 3 [] ?_ | refine awp_seq2 3 [] ?_ | refine awp_seq3 3 [] ?_ | refine awp_seq4 3 [] ?_ | refine awp_seq 3 [] ?_); intro K hK)) | ((with_reducible first | refine awp_reg ?_ | refine awp_exit ?_ | refine awp_skip ?_ | refine likeK_i ?_ | refine otWR_i ?_); simp only [go_sem]) | (with_reducible refine awp_ret ?_; simp only [retF, retM, retL, resV, resW, retO, resAV, AV.bor, D.bor, D.bor1, D.bor0, AV.flatOwn, D.flatOwn, D.flat, AV.tagged, D.tagged, AObj.plain, go_sem]) | ((with_reducible refine awp_cond' ?_ ?_ (fun hb => ?_) (fun hb => ?_)); (simp only [go_sem]); (simp only [go_sem]); all_goals (simp only [go_sem] at hb; try simp only [bls] at hb)) | ((iterate 6 try ((fail_if_success with_reducible refine hK _ ?_ ?_ ?_); clear hK K)); with_reducible refine hK _ ?_ ?_ ?_; rotate_left; (focus (simp only [go_sem]; exact rfl)); clear hK K) | ((first | (with_reducible first | refine cA c ?_ | refine cD c ?_ | refine cO c ?_ | refine cR c ?_ | refine cG (fun hg => c) ?_ | refine cH (fun hg => c) ?_ | refine cM (fun hg => c) ?_) | (guard_target = CallAt _ _ _ _ _ _ _ _ _ _; refine cA c ?_) | (guard_target = DCallAt _ _ _ _ _ _ _ _; refine cD c ?_) | (guard_target = GCallAt _ _ _ _ _ _ _ _ _ _ _; refine cG (fun hg => c) ?_)); simp only [go_sem]) | (with_reducible refine gsplit_i (fun hg0 => ?_) (fun hg0 => ?_) <;> first | (with_reducible first | exact absurd hg0 Bool.false_ne_true | exact absurd hg0.symm Bool.false_ne_true) | (simp only [hg0, go_sem])) | (with_reducible refine nilK_i ?_; intro bnil hnil; try simp only []) | (omega; done) | (intro hv; (try simp only [bls] at hv); (try simp only [bls]); omega) | (intro hg; (simp only [hg, Bool.true_and, true_and, implies_true]; try (intro hg2; simp only [hg2, Bool.not_false, Bool.not_true])); done)))
 all_goals first | omega | skip
def AU.na (a : AU) : NA := ⟨a.alpha, a.states, if 0 < a.states then [0] else [], a.marked, a.edges⟩
end Go.Proofs.YtgagpbbnbonnlaaDoor
