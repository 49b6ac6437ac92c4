/-
 Chapter 05: the reference: by, Closure, Step, After, Word, find.
-/
import Derived.Test.YtgagpbbnbonnlaaDoorZE
import Derived.Test.YtgagpbbnbonnlaaDoorZD
set_option linter.unusedSimpArgs false
set_option linter.unusedVariables false
namespace Go.Proofs.YtgagpbbnbonnlaaDoor
open Go.Eng Go.RowKit
theorem met_filter (a b : List Int) : decide (0 < ((a.filter fun x => decide (x ∈ b)).length : Int)) = metL a b := by
 rw [Bool.eq_iff_iff, decide_eq_true_eq, met_iff]
 constructor
 ·intro h
  have h1 : 0 < (a.filter fun x => decide (x ∈ b)).length := by omega
  obtain ⟨x, hx⟩ := List.exists_mem_of_ne_nil _ (List.ne_nil_of_length_pos h1)
  rw [List.mem_filter, decide_eq_true_eq] at hx
  exact ⟨x, hx⟩
 ·rintro ⟨x, h1, h2⟩
  have h3 : x ∈ a.filter fun x => decide (x ∈ b) := List.mem_filter.2 ⟨h1, decide_eq_true h2⟩
  have := List.length_pos_of_mem h3
  omega
theorem byS_length (l : List Int) (e : Int) : ∀ (es : List Ed) (out : List Int), (byS unionB l e es out).length ≤ out.length + es.length
 | [], out => by simp [byS]
 | x :: es, out => by
  have h2 := unionB_length out [x.dst]
  simp only [List.length_cons, List.length_nil] at h2 ⊢
  rw [byS]
  split
  ·have h := byS_length l e es (unionB out [x.dst]); omega
  ·have h := byS_length l e es out; omega
set_option maxHeartbeats 8000000 in
theorem by_c (a : NA) (l : List Int) (e : Int) (hf : a.Fits) (hl : l.length ≤ 100000) : ACalls Tryd.prog 58 [.agg a.d, .one (.list (ints l)), .one (.int .i64 e)] (.one (.list (ints (byS unionB l e a.edges [])))) [] := by
 obtain ⟨f1, f2, f3, f4⟩ := hf
 have hR : byS unionB l e a.edges [] = byS unionB l e a.edges [] := rfl
 generalize hRR : byS unionB l e a.edges [] = R at *
 clear hR
 (refine ACalls.of_body Ty_ok mixed Tryd.func58 rfl (by kernel_rfl) Tryd.ntmps58 (by simp) (congrArg Array.toList Tryd.results58) ?_)
 simp only [slotsOf, NA.d]
 (repeat' (first | (with_reducible first | exact True.intro | refine And.intro ?_ ?_ | refine awp_block ?_ | ((first | refine awp_seq1 10 [] ?_ | refine awp_seq2 10 [] ?_ | refine awp_seq3 10 [] ?_ | refine awp_seq4 10 [] ?_ | refine awp_seq 10 [] ?_); intro K hK)) | ((with_reducible first | refine awp_reg ?_ | refine awp_exit ?_ | refine awp_skip ?_ | refine likeK_i ?_ | refine otWR_i ?_); simp only [go_sem]) | (with_reducible refine awp_ret ?_; simp only [retF, retM, retL, resV, resW, retO, resAV, AV.bor, D.bor, D.bor1, D.bor0, AV.flatOwn, D.flatOwn, D.flat, AV.tagged, D.tagged, AObj.plain, go_sem]) | ((with_reducible refine awp_cond' ?_ ?_ (fun hb => ?_) (fun hb => ?_)); (simp only [go_sem]); (simp only [go_sem]); all_goals (simp only [go_sem] at hb; try simp only [bls] at hb)) | ((iterate 6 try ((fail_if_success with_reducible refine hK _ ?_ ?_ ?_); clear hK K)); with_reducible refine hK _ ?_ ?_ ?_; rotate_left; (focus (simp only [go_sem]; exact rfl)); clear hK K) | (with_reducible refine gsplit_i (fun hg0 => ?_) (fun hg0 => ?_) <;> first | (with_reducible first | exact absurd hg0 Bool.false_ne_true | exact absurd hg0.symm Bool.false_ne_true) | (simp only [hg0, go_sem])) | (with_reducible refine nilK_i ?_; intro bnil hnil; try simp only []) | (omega; done) | (intro hv; (try simp only [bls] at hv); (try simp only [bls]); omega) | (intro hg; (simp only [hg, Bool.true_and, true_and, implies_true]; try (intro hg2; simp only [hg2, Bool.not_false, Bool.not_true])); done)))
 refine awp_loop _ (by simp only [go_sem]; rfl) (Nat × List Int) (fun q => q.1 ≤ a.edges.length ∧ byS unionB l e (a.edges.drop q.1) q.2 = R ∧ q.2.length ≤ q.1) (fun q => [(7, .one (.list (ints q.2))), (8, .one (.int .i64 q.1))])
  (fun _ _ => [.var 29 [.list (ints a.alpha), .int .i64 a.states, .list (ints a.init), .list (ints a.marked), .list (edD a.edges)], .row 3 1 []]) (fun q => a.edges.length - q.1) (0, []) ⟨by simp only; omega, hRR, by simp⟩ ?_ ?_
 ·rw [show ints [] = [] from rfl]
  (simp only [SubF, go_sem]; (try simp only [go_sem]); repeat' (first | exact True.intro | with_reducible refine And.intro ?_ ?_ | rfl | omega))
 rintro ⟨k, out⟩ ⟨hk, hres, hlen⟩ L hL
 simp only at hk hres hlen
 have hq : ((k : Nat) : Int).toNat = k := by omega
 by_cases hlt : k < a.edges.length
 ·rw [drop_getD a.edges k Ed.no hlt, byS] at hres
  generalize hxx : a.edges.getD k Ed.no = x at *
  have c1 := refContains_c l x.src (by omega)
  have c2 := refUnion_c out [x.dst] (by simp; omega)
  have hul := unionB_length out [x.dst]
  simp only [List.length_cons, List.length_nil] at hul
  change ACalls _ _ [_, .one (.list [[.int .i64 x.dst]])] _ _ at c2
  (simp only [go_sem] at hL ⊢)
  (repeat' (first | (with_reducible first | exact True.intro | refine And.intro ?_ ?_ | refine awp_block ?_ | ((first | refine awp_seq1 10 [] ?_ | refine awp_seq2 10 [] ?_ | refine awp_seq3 10 [] ?_ | refine awp_seq4 10 [] ?_ | refine awp_seq 10 [] ?_); intro K hK)) | ((with_reducible first | refine awp_reg ?_ | refine awp_exit ?_ | refine awp_skip ?_ | refine likeK_i ?_ | refine otWR_i ?_); simp only [hq, hxx, go_sem]) | (with_reducible refine awp_ret ?_; simp only [retF, retM, retL, resV, resW, retO, resAV, AV.bor, D.bor, D.bor1, D.bor0, AV.flatOwn, D.flatOwn, D.flat, AV.tagged, D.tagged, AObj.plain, hq, hxx, go_sem]) | ((with_reducible refine awp_cond' ?_ ?_ (fun hb => ?_) (fun hb => ?_)); (simp only [hq, hxx, go_sem]); (simp only [hq, hxx, go_sem]); all_goals (simp only [hq, hxx, go_sem] at hb; try simp only [bls] at hb)) | ((iterate 6 try ((fail_if_success with_reducible refine hK _ ?_ ?_ ?_); clear hK K)); with_reducible refine hK _ ?_ ?_ ?_; rotate_left; (focus (simp only [hq, hxx, go_sem]; exact rfl)); clear hK K) | ((first | (with_reducible first | refine cA c1 ?_ | refine cD c1 ?_ | refine cO c1 ?_ | refine cR c1 ?_ | refine cG (fun hg => c1) ?_ | refine cH (fun hg => c1) ?_ | refine cM (fun hg => c1) ?_) | (guard_target = CallAt _ _ _ _ _ _ _ _ _ _; refine cA c1 ?_) | (guard_target = DCallAt _ _ _ _ _ _ _ _; refine cD c1 ?_) | (guard_target = GCallAt _ _ _ _ _ _ _ _ _ _ _; refine cG (fun hg => c1) ?_)); simp only [hq, hxx, go_sem]) | (with_reducible refine gsplit_i (fun hg0 => ?_) (fun hg0 => ?_) <;> first | (with_reducible first | exact absurd hg0 Bool.false_ne_true | exact absurd hg0.symm Bool.false_ne_true) | (simp only [hg0, hq, hxx, go_sem])) | (with_reducible refine nilK_i ?_; intro bnil hnil; try simp only []) | (omega; done) | (intro hv; (try simp only [bls] at hv); (try simp only [bls]); omega) | (intro hg; (simp only [hg, Bool.true_and, true_and, implies_true]; try (intro hg2; simp only [hg2, Bool.not_false, Bool.not_true])); done)))
  all_goals first | omega | skip
  ·(refine MCallAt_i [3] [] (calls_toM c2) ?_ ?_; (focus (simp only [mside, handOk, go_sem]; (first | done | exact (by decide) | exact ⟨by decide, fun t ht => ht.elim⟩ | (refine ⟨by decide, ?_⟩; simp; done)))); simp only [go_sem])
   (repeat' (first | (with_reducible first | exact True.intro | refine And.intro ?_ ?_ | refine awp_block ?_ | ((first | refine awp_seq1 10 [] ?_ | refine awp_seq2 10 [] ?_ | refine awp_seq3 10 [] ?_ | refine awp_seq4 10 [] ?_ | refine awp_seq 10 [] ?_); intro K hK)) | ((with_reducible first | refine awp_reg ?_ | refine awp_exit ?_ | refine awp_skip ?_ | refine likeK_i ?_ | refine otWR_i ?_); simp only [go_sem]) | (with_reducible refine awp_ret ?_; simp only [retF, retM, retL, resV, resW, retO, resAV, AV.bor, D.bor, D.bor1, D.bor0, AV.flatOwn, D.flatOwn, D.flat, AV.tagged, D.tagged, AObj.plain, go_sem]) | ((with_reducible refine awp_cond' ?_ ?_ (fun hb => ?_) (fun hb => ?_)); (simp only [go_sem]); (simp only [go_sem]); all_goals (simp only [go_sem] at hb; try simp only [bls] at hb)) | ((iterate 6 try ((fail_if_success with_reducible refine hK _ ?_ ?_ ?_); clear hK K)); with_reducible refine hK _ ?_ ?_ ?_; rotate_left; (focus (simp only [go_sem]; exact rfl)); clear hK K) | (with_reducible refine gsplit_i (fun hg0 => ?_) (fun hg0 => ?_) <;> first | (with_reducible first | exact absurd hg0 Bool.false_ne_true | exact absurd hg0.symm Bool.false_ne_true) | (simp only [hg0, go_sem])) | (with_reducible refine nilK_i ?_; intro bnil hnil; try simp only []) | (omega; done) | (intro hv; (try simp only [bls] at hv); (try simp only [bls]); omega) | (intro hg; (simp only [hg, Bool.true_and, true_and, implies_true]; try (intro hg2; simp only [hg2, Bool.not_false, Bool.not_true])); done)))
   all_goals first | omega | skip
   rw [if_pos hb] at hres
   exact hL _ (k + 1, unionB out [x.dst]) ⟨by simp only; omega, hres, by simp only; omega⟩ (by (simp only [SubF, go_sem]; (try simp only [go_sem]); repeat' (first | exact True.intro | with_reducible refine And.intro ?_ ?_ | rfl | omega))) (by simp only; omega)
  ·rw [if_neg (fun h => hb.elim (fun h1 => h1 h.1) fun h1 => h1 h.2)] at hres
   exact hL _ (k + 1, out) ⟨by simp only; omega, hres, by simp only; omega⟩ (by (simp only [SubF, go_sem]; (try simp only [go_sem]); repeat' (first | exact True.intro | with_reducible refine And.intro ?_ ?_ | rfl | omega))) (by simp only; omega)
 ·rw [drop_end a.edges k (by omega), byS] at hres
  (simp only [go_sem] at hL ⊢)
  (repeat' (first | (with_reducible first | exact True.intro | refine And.intro ?_ ?_ | refine awp_block ?_ | ((first | refine awp_seq1 10 [] ?_ | refine awp_seq2 10 [] ?_ | refine awp_seq3 10 [] ?_ | refine awp_seq4 10 [] ?_ | refine awp_seq 10 [] ?_); intro K hK)) | ((with_reducible first | refine awp_reg ?_ | refine awp_exit ?_ | refine awp_skip ?_ | refine likeK_i ?_ | refine otWR_i ?_); simp only [hq, go_sem]) | (with_reducible refine awp_ret ?_; simp only [retF, retM, retL, resV, resW, retO, resAV, AV.bor, D.bor, D.bor1, D.bor0, AV.flatOwn, D.flatOwn, D.flat, AV.tagged, D.tagged, AObj.plain, hq, go_sem]) | ((with_reducible refine awp_cond' ?_ ?_ (fun hb => ?_) (fun hb => ?_)); (simp only [hq, go_sem]); (simp only [hq, go_sem]); all_goals (simp only [hq, go_sem] at hb; try simp only [bls] at hb)) | ((iterate 6 try ((fail_if_success with_reducible refine hK _ ?_ ?_ ?_); clear hK K)); with_reducible refine hK _ ?_ ?_ ?_; rotate_left; (focus (simp only [hq, go_sem]; exact rfl)); clear hK K) | (with_reducible refine gsplit_i (fun hg0 => ?_) (fun hg0 => ?_) <;> first | (with_reducible first | exact absurd hg0 Bool.false_ne_true | exact absurd hg0.symm Bool.false_ne_true) | (simp only [hg0, hq, go_sem])) | (with_reducible refine nilK_i ?_; intro bnil hnil; try simp only []) | (omega; done) | (intro hv; (try simp only [bls] at hv); (try simp only [bls]); omega) | (intro hg; (simp only [hg, Bool.true_and, true_and, implies_true]; try (intro hg2; simp only [hg2, Bool.not_false, Bool.not_true])); done)))
  all_goals first | omega | skip
  rw [hres]
set_option maxHeartbeats 8000000 in
theorem refClosure_c (a : NA) (n : Nat) (s : List Int) (h : Good a n) (hs : IncI s) (hr : ∀ x ∈ s, 0 ≤ x ∧ x < n) : ACalls Tryd.prog 22 [.agg a.d, .one (.list (ints s))] (.one (.list (ints (closN n (leadE a.edges (-1)) s)))) [] := by
 have hle := h.le
 have hsl := inc_len hs hr
 have e0 := iterR_first uniOk_B hs hr (leadE a.edges (-1))
 have c0 : ACalls Tryd.prog 54 [.one (.list (ints s)), .one (.list [])] (.one (.list (ints (iterR n (leadE a.edges (-1)) s 0)))) [] := by
  have h := refUnion_c s [] (by simp; omega)
  rw [e0] at h
  exact h
 have hfit := h.fits
 have hst : ∀ k, iterR n (leadE a.edges (-1)) s (k + 1) = iterR n (leadE a.edges (-1)) s k → closN n (leadE a.edges (-1)) s = iterR n (leadE a.edges (-1)) s k := fun k hk => closN_of hk
 have hsub := fun k => iterR_sub (n := n) (lead := leadE a.edges (-1)) (s := s) k
 have hil := fun k => iterR_le (n := n) (lead := leadE a.edges (-1)) (s := s) k
 have hrd := fun k => by_round uniOk_B h.ed (-1) s k
 have cb := fun l hl => by_c a l (-1) hfit hl
 have hbl := fun l => byS_length l (-1) a.edges []
 have f4 := hfit.edges
 generalize closN n (leadE a.edges (-1)) s = R at *
 generalize iterR n (leadE a.edges (-1)) s = it at *
 simp only [NA.d] at cb
 (refine ACalls.of_body Ty_ok mixed Tryd.func22 rfl (by kernel_rfl) Tryd.ntmps22 (by simp) (congrArg Array.toList Tryd.results22) ?_)
 simp only [slotsOf, NA.d]
 (repeat' (first | (with_reducible first | exact True.intro | refine And.intro ?_ ?_ | refine awp_block ?_ | ((first | refine awp_seq1 7 [] ?_ | refine awp_seq2 7 [] ?_ | refine awp_seq3 7 [] ?_ | refine awp_seq4 7 [] ?_ | refine awp_seq 7 [] ?_); intro K hK)) | ((with_reducible first | refine awp_reg ?_ | refine awp_exit ?_ | refine awp_skip ?_ | refine likeK_i ?_ | refine otWR_i ?_); simp only [go_sem]) | (with_reducible refine awp_ret ?_; simp only [retF, retM, retL, resV, resW, retO, resAV, AV.bor, D.bor, D.bor1, D.bor0, AV.flatOwn, D.flatOwn, D.flat, AV.tagged, D.tagged, AObj.plain, go_sem]) | ((with_reducible refine awp_cond' ?_ ?_ (fun hb => ?_) (fun hb => ?_)); (simp only [go_sem]); (simp only [go_sem]); all_goals (simp only [go_sem] at hb; try simp only [bls] at hb)) | ((iterate 6 try ((fail_if_success with_reducible refine hK _ ?_ ?_ ?_); clear hK K)); with_reducible refine hK _ ?_ ?_ ?_; rotate_left; (focus (simp only [go_sem]; exact rfl)); clear hK K) | ((first | (with_reducible first | refine cA c0 ?_ | refine cD c0 ?_ | refine cO c0 ?_ | refine cR c0 ?_ | refine cG (fun hg => c0) ?_ | refine cH (fun hg => c0) ?_ | refine cM (fun hg => c0) ?_) | (guard_target = CallAt _ _ _ _ _ _ _ _ _ _; refine cA c0 ?_) | (guard_target = DCallAt _ _ _ _ _ _ _ _; refine cD c0 ?_) | (guard_target = GCallAt _ _ _ _ _ _ _ _ _ _ _; refine cG (fun hg => c0) ?_)); simp only [go_sem]) | (with_reducible refine gsplit_i (fun hg0 => ?_) (fun hg0 => ?_) <;> first | (with_reducible first | exact absurd hg0 Bool.false_ne_true | exact absurd hg0.symm Bool.false_ne_true) | (simp only [hg0, go_sem])) | (with_reducible refine nilK_i ?_; intro bnil hnil; try simp only []) | (omega; done) | (intro hv; (try simp only [bls] at hv); (try simp only [bls]); omega) | (intro hg; (simp only [hg, Bool.true_and, true_and, implies_true]; try (intro hg2; simp only [hg2, Bool.not_false, Bool.not_true])); done)))
 all_goals first | omega | skip
 refine awp_loop _ (by simp only [go_sem]; rfl) Nat (fun _ => True) (fun k => [(5, .one (.list (ints (it k))))]) (fun _ H => H) (fun k => n - (it k).length) 0 trivial ?_ ?_
 ·(simp only [SubF, go_sem]; (try simp only [go_sem]); repeat' (first | exact True.intro | with_reducible refine And.intro ?_ ?_ | rfl | omega))
 rintro k _ L hL
 have h1 := hil k
 have h2 := hil (k + 1)
 have h3 := hbl (it k)
 simp only [List.length_nil] at h3
 have c1 := cb (it k) (by omega)
 have c2 := refUnion_c (it k) (byS unionB (it k) (-1) a.edges []) (by omega)
 rw [hrd k] at c2
 have hsb := hsub k
 have hls := hsb.length_le
 generalize byS unionB (it k) (-1) a.edges [] = B at *
 (simp only [go_sem] at hL ⊢)
 (repeat' (first | (with_reducible first | exact True.intro | refine And.intro ?_ ?_ | refine awp_block ?_ | ((first | refine awp_seq1 7 [] ?_ | refine awp_seq2 7 [] ?_ | refine awp_seq3 7 [] ?_ | refine awp_seq4 7 [] ?_ | refine awp_seq 7 [] ?_); intro K hK)) | ((with_reducible first | refine awp_reg ?_ | refine awp_exit ?_ | refine awp_skip ?_ | refine likeK_i ?_ | refine otWR_i ?_); simp only [go_sem]) | (with_reducible refine awp_ret ?_; simp only [retF, retM, retL, resV, resW, retO, resAV, AV.bor, D.bor, D.bor1, D.bor0, AV.flatOwn, D.flatOwn, D.flat, AV.tagged, D.tagged, AObj.plain, go_sem]) | ((with_reducible refine awp_cond' ?_ ?_ (fun hb => ?_) (fun hb => ?_)); (simp only [go_sem]); (simp only [go_sem]); all_goals (simp only [go_sem] at hb; try simp only [bls] at hb)) | ((iterate 6 try ((fail_if_success with_reducible refine hK _ ?_ ?_ ?_); clear hK K)); with_reducible refine hK _ ?_ ?_ ?_; rotate_left; (focus (simp only [go_sem]; exact rfl)); clear hK K) | ((first | (with_reducible first | refine cA c1 ?_ | refine cA c2 ?_ | refine cD c1 ?_ | refine cD c2 ?_ | refine cO c1 ?_ | refine cO c2 ?_ | refine cR c1 ?_ | refine cR c2 ?_ | refine cG (fun hg => c1) ?_ | refine cG (fun hg => c2) ?_ | refine cH (fun hg => c1) ?_ | refine cH (fun hg => c2) ?_ | refine cM (fun hg => c1) ?_ | refine cM (fun hg => c2) ?_) | (guard_target = CallAt _ _ _ _ _ _ _ _ _ _; first | refine cA c1 ?_ | refine cA c2 ?_) | (guard_target = DCallAt _ _ _ _ _ _ _ _; first | refine cD c1 ?_ | refine cD c2 ?_) | (guard_target = GCallAt _ _ _ _ _ _ _ _ _ _ _; first | refine cG (fun hg => c1) ?_ | refine cG (fun hg => c2) ?_)); simp only [go_sem]) | (with_reducible refine gsplit_i (fun hg0 => ?_) (fun hg0 => ?_) <;> first | (with_reducible first | exact absurd hg0 Bool.false_ne_true | exact absurd hg0.symm Bool.false_ne_true) | (simp only [hg0, go_sem])) | (with_reducible refine nilK_i ?_; intro bnil hnil; try simp only []) | (omega; done) | (intro hv; (try simp only [bls] at hv); (try simp only [bls]); omega) | (intro hg; (simp only [hg, Bool.true_and, true_and, implies_true]; try (intro hg2; simp only [hg2, Bool.not_false, Bool.not_true])); done)))
 all_goals first | omega | skip
 ·rw [hst k (hsb.eq_of_length (by omega)).symm]
 ·exact hL _ (k + 1) (by (simp only [SubF, go_sem]; (try simp only [go_sem]); repeat' (first | exact True.intro | with_reducible refine And.intro ?_ ?_ | rfl | omega))) (by omega)
set_option maxHeartbeats 4000000 in
theorem refStep_c (a : NA) (n : Nat) (s : List Int) (e : Int) (h : Good a n) (hs : IncI s) (hr : ∀ x ∈ s, 0 ≤ x ∧ x < n) : ACalls Tryd.prog 24 [.agg a.d, .one (.list (ints s)), .one (.int .i64 e)] (.one (.list (ints (stepN n a.edges (-1) s e)))) [] := by
 have hle := h.le
 have c1 := refClosure_c a n s h hs hr
 have hcl : (closN n (leadE a.edges (-1)) s).length ≤ n := closN_le
 have c2 := by_c a (closN n (leadE a.edges (-1)) s) e h.fits (by omega)
 have c3 := refClosure_c a n (byS unionB (closN n (leadE a.edges (-1)) s) e a.edges []) h (by_inc uniOk_B _ _) (by_rng uniOk_B h.ed _ _)
 rw [step_by uniOk_B h.ed] at c3
 generalize byS unionB (closN n (leadE a.edges (-1)) s) e a.edges [] = B at *
 generalize closN n (leadE a.edges (-1)) s = C at *
 generalize stepN n a.edges (-1) s e = R at *
 simp only [NA.d] at c1 c2 c3
 (refine ACalls.of_body Ty_ok mixed Tryd.func24 rfl (by kernel_rfl) Tryd.ntmps24 (by simp) (congrArg Array.toList Tryd.results24) ?_)
 simp only [slotsOf, NA.d]
 (repeat' (first | (with_reducible first | exact True.intro | refine And.intro ?_ ?_ | refine awp_block ?_ | ((first | refine awp_seq1 7 [] ?_ | refine awp_seq2 7 [] ?_ | refine awp_seq3 7 [] ?_ | refine awp_seq4 7 [] ?_ | refine awp_seq 7 [] ?_); intro K hK)) | ((with_reducible first | refine awp_reg ?_ | refine awp_exit ?_ | refine awp_skip ?_ | refine likeK_i ?_ | refine otWR_i ?_ | refine rP Ty_ok mixed 1 [3, 5] [.mid [pe 0, pe 1, pe 2, ⟨4, 0, true, false, false, [], []⟩, ⟨6, 1, true, false, false, [], []⟩] 2, .one 7, .one 8] ?_); simp only [go_sem]) | (with_reducible refine awp_ret ?_; simp only [retF, retM, retL, resV, resW, retO, resAV, AV.bor, D.bor, D.bor1, D.bor0, AV.flatOwn, D.flatOwn, D.flat, AV.tagged, D.tagged, AObj.plain, go_sem]) | ((with_reducible refine awp_cond' ?_ ?_ (fun hb => ?_) (fun hb => ?_)); (simp only [go_sem]); (simp only [go_sem]); all_goals (simp only [go_sem] at hb; try simp only [bls] at hb)) | ((iterate 6 try ((fail_if_success with_reducible refine hK _ ?_ ?_ ?_); clear hK K)); with_reducible refine hK _ ?_ ?_ ?_; rotate_left; (focus (simp only [go_sem]; exact rfl)); clear hK K) | ((first | (with_reducible first | refine cA c1 ?_ | refine cA c2 ?_ | refine cA c3 ?_ | refine cD c1 ?_ | refine cD c2 ?_ | refine cD c3 ?_ | refine cO c1 ?_ | refine cO c2 ?_ | refine cO c3 ?_ | refine cR c1 ?_ | refine cR c2 ?_ | refine cR c3 ?_ | refine cG (fun hg => c1) ?_ | refine cG (fun hg => c2) ?_ | refine cG (fun hg => c3) ?_ | refine cH (fun hg => c1) ?_ | refine cH (fun hg => c2) ?_ | refine cH (fun hg => c3) ?_ | refine cM (fun hg => c1) ?_ | refine cM (fun hg => c2) ?_ | refine cM (fun hg => c3) ?_) | (guard_target = CallAt _ _ _ _ _ _ _ _ _ _; first | refine cA c1 ?_ | refine cA c2 ?_ | refine cA c3 ?_) | (guard_target = DCallAt _ _ _ _ _ _ _ _; first | refine cD c1 ?_ | refine cD c2 ?_ | refine cD c3 ?_) | (guard_target = GCallAt _ _ _ _ _ _ _ _ _ _ _; first | refine cG (fun hg => c1) ?_ | refine cG (fun hg => c2) ?_ | refine cG (fun hg => c3) ?_)); simp only [go_sem]) | (with_reducible refine gsplit_i (fun hg0 => ?_) (fun hg0 => ?_) <;> first | (with_reducible first | exact absurd hg0 Bool.false_ne_true | exact absurd hg0.symm Bool.false_ne_true) | (simp only [hg0, go_sem])) | (with_reducible refine nilK_i ?_; intro bnil hnil; try simp only []) | (omega; done) | (intro hv; (try simp only [bls] at hv); (try simp only [bls]); omega) | (intro hg; (simp only [hg, Bool.true_and, true_and, implies_true]; try (intro hg2; simp only [hg2, Bool.not_false, Bool.not_true])); done)))
 all_goals first | omega | skip
set_option maxHeartbeats 4000000 in
theorem refAfter_c (a : NA) (n : Nat) (w : List Int) (h : DGood a n) (hw : w.length ≤ 1000000) : ACalls Tryd.prog 32 [.agg a.d, .one (.list (ints w))] (.one (.list (ints (aftA a (-1) w)))) [] := by
 have hV : aftA a (-1) w = aftN n a.edges (-1) w (closN n (leadE a.edges (-1)) a.init) := by rw [aftA, h.tn]
 have hst := h.st
 have c1 := refClosure_c a n a.init h.toGood h.ok.init.1 fun x hx => by have := h.ok.init.2 x hx; omega
 have hc0 : IncI (closN n (leadE a.edges (-1)) a.init) ∧ ∀ y ∈ closN n (leadE a.edges (-1)) a.init, 0 ≤ y ∧ y < (n : Int) := ⟨closN_inc, fun _ h => closN_rng h⟩
 have c2 := fun s x hi hr => refStep_c a n s x h.toGood hi hr
 rw [hV]
 generalize closN n (leadE a.edges (-1)) a.init = c0 at *
 simp only [NA.d] at c1 c2
 (refine ACalls.of_body Ty_ok mixed Tryd.func32 rfl (by kernel_rfl) Tryd.ntmps32 (by simp) (congrArg Array.toList Tryd.results32) ?_)
 simp only [slotsOf, NA.d]
 (repeat' (first | (with_reducible first | exact True.intro | refine And.intro ?_ ?_ | refine awp_block ?_ | ((first | refine awp_seq1 7 [] ?_ | refine awp_seq2 7 [] ?_ | refine awp_seq3 7 [] ?_ | refine awp_seq4 7 [] ?_ | refine awp_seq 7 [] ?_); intro K hK)) | ((with_reducible first | refine awp_reg ?_ | refine awp_exit ?_ | refine awp_skip ?_ | refine likeK_i ?_ | refine otWR_i ?_ | refine rP Ty_ok mixed 5 [1, 2, 3] [.mid [pe 0, pe 4, pe 5] 0, .one 6, .one 7] ?_); simp only [go_sem]) | (with_reducible refine awp_ret ?_; simp only [retF, retM, retL, resV, resW, retO, resAV, AV.bor, D.bor, D.bor1, D.bor0, AV.flatOwn, D.flatOwn, D.flat, AV.tagged, D.tagged, AObj.plain, go_sem]) | ((with_reducible refine awp_cond' ?_ ?_ (fun hb => ?_) (fun hb => ?_)); (simp only [go_sem]); (simp only [go_sem]); all_goals (simp only [go_sem] at hb; try simp only [bls] at hb)) | ((iterate 6 try ((fail_if_success with_reducible refine hK _ ?_ ?_ ?_); clear hK K)); with_reducible refine hK _ ?_ ?_ ?_; rotate_left; (focus (simp only [go_sem]; exact rfl)); clear hK K) | ((first | (with_reducible first | refine cA c1 ?_ | refine cD c1 ?_ | refine cO c1 ?_ | refine cR c1 ?_ | refine cG (fun hg => c1) ?_ | refine cH (fun hg => c1) ?_ | refine cM (fun hg => c1) ?_) | (guard_target = CallAt _ _ _ _ _ _ _ _ _ _; refine cA c1 ?_) | (guard_target = DCallAt _ _ _ _ _ _ _ _; refine cD c1 ?_) | (guard_target = GCallAt _ _ _ _ _ _ _ _ _ _ _; refine cG (fun hg => c1) ?_)); simp only [go_sem]) | (with_reducible refine gsplit_i (fun hg0 => ?_) (fun hg0 => ?_) <;> first | (with_reducible first | exact absurd hg0 Bool.false_ne_true | exact absurd hg0.symm Bool.false_ne_true) | (simp only [hg0, go_sem])) | (with_reducible refine nilK_i ?_; intro bnil hnil; try simp only []) | (omega; done) | (intro hv; (try simp only [bls] at hv); (try simp only [bls]); omega) | (intro hg; (simp only [hg, Bool.true_and, true_and, implies_true]; try (intro hg2; simp only [hg2, Bool.not_false, Bool.not_true])); done)))
 all_goals first | omega | skip
 refine awp_loop _ (by simp only [go_sem]; rfl) Nat (fun k => k ≤ w.length) (fun k => [(5, .one (.list (ints (aftN n a.edges (-1) (w.take k) c0)))), (6, .one (.int .i64 k))]) (fun _ H => H) (fun k => w.length - k) 0 (by omega) ?_ ?_
 ·rw [List.take_zero, aftN_nil0]
  (simp only [SubF, go_sem]; (try simp only [go_sem]); repeat' (first | exact True.intro | with_reducible refine And.intro ?_ ?_ | rfl | omega))
 rintro k hk L hL
 have hq : ((k : Nat) : Int).toNat = k := by omega
 obtain ⟨o1, o2⟩ := aft_ok (es := a.edges) (sil := -1) (w.take k) c0 hc0
 by_cases hlt : k < w.length
 ·have hs := aft_snoc n a.edges (-1) (w.take k) c0 (w.getD k 0)
  rw [← take_succ_getD w k 0 hlt] at hs
  (simp only [go_sem] at hL ⊢)
  (repeat' (first | (with_reducible first | exact True.intro | refine And.intro ?_ ?_ | refine awp_block ?_ | ((first | refine awp_seq1 7 [] ?_ | refine awp_seq2 7 [] ?_ | refine awp_seq3 7 [] ?_ | refine awp_seq4 7 [] ?_ | refine awp_seq 7 [] ?_); intro K hK)) | ((with_reducible first | refine awp_reg ?_ | refine awp_exit ?_ | refine awp_skip ?_ | refine likeK_i ?_ | refine otWR_i ?_ | refine rP Ty_ok mixed 5 [1, 2, 3] [.mid [pe 0, pe 4, pe 5] 0, .one 6, .one 7] ?_); simp only [hq, go_sem]) | (with_reducible refine awp_ret ?_; simp only [retF, retM, retL, resV, resW, retO, resAV, AV.bor, D.bor, D.bor1, D.bor0, AV.flatOwn, D.flatOwn, D.flat, AV.tagged, D.tagged, AObj.plain, hq, go_sem]) | ((with_reducible refine awp_cond' ?_ ?_ (fun hb => ?_) (fun hb => ?_)); (simp only [hq, go_sem]); (simp only [hq, go_sem]); all_goals (simp only [hq, go_sem] at hb; try simp only [bls] at hb)) | ((iterate 6 try ((fail_if_success with_reducible refine hK _ ?_ ?_ ?_); clear hK K)); with_reducible refine hK _ ?_ ?_ ?_; rotate_left; (focus (simp only [hq, go_sem]; exact rfl)); clear hK K) | ((first | (with_reducible first | refine cA (c2 _ (w.getD k 0) o1 o2) ?_ | refine cD (c2 _ (w.getD k 0) o1 o2) ?_ | refine cO (c2 _ (w.getD k 0) o1 o2) ?_ | refine cR (c2 _ (w.getD k 0) o1 o2) ?_ | refine cG (fun hg => (c2 _ (w.getD k 0) o1 o2)) ?_ | refine cH (fun hg => (c2 _ (w.getD k 0) o1 o2)) ?_ | refine cM (fun hg => (c2 _ (w.getD k 0) o1 o2)) ?_) | (guard_target = CallAt _ _ _ _ _ _ _ _ _ _; refine cA (c2 _ (w.getD k 0) o1 o2) ?_) | (guard_target = DCallAt _ _ _ _ _ _ _ _; refine cD (c2 _ (w.getD k 0) o1 o2) ?_) | (guard_target = GCallAt _ _ _ _ _ _ _ _ _ _ _; refine cG (fun hg => (c2 _ (w.getD k 0) o1 o2)) ?_)); simp only [hq, go_sem]) | (with_reducible refine gsplit_i (fun hg0 => ?_) (fun hg0 => ?_) <;> first | (with_reducible first | exact absurd hg0 Bool.false_ne_true | exact absurd hg0.symm Bool.false_ne_true) | (simp only [hg0, hq, go_sem])) | (with_reducible refine nilK_i ?_; intro bnil hnil; try simp only []) | (omega; done) | (intro hv; (try simp only [bls] at hv); (try simp only [bls]); omega) | (intro hg; (simp only [hg, Bool.true_and, true_and, implies_true]; try (intro hg2; simp only [hg2, Bool.not_false, Bool.not_true])); done)))
  all_goals first | omega | skip
  rw [← hs]
  exact hL _ (k + 1) (by omega) (by (simp only [SubF, go_sem]; (try simp only [go_sem]); repeat' (first | exact True.intro | with_reducible refine And.intro ?_ ?_ | rfl | omega))) (by omega)
 ·obtain rfl : k = w.length := by omega
  rw [List.take_length]
  (simp only [go_sem] at hL ⊢)
  (repeat' (first | (with_reducible first | exact True.intro | refine And.intro ?_ ?_ | refine awp_block ?_ | ((first | refine awp_seq1 7 [] ?_ | refine awp_seq2 7 [] ?_ | refine awp_seq3 7 [] ?_ | refine awp_seq4 7 [] ?_ | refine awp_seq 7 [] ?_); intro K hK)) | ((with_reducible first | refine awp_reg ?_ | refine awp_exit ?_ | refine awp_skip ?_ | refine likeK_i ?_ | refine otWR_i ?_ | refine rP Ty_ok mixed 5 [1, 2, 3] [.mid [pe 0, pe 4, pe 5] 0, .one 6, .one 7] ?_); simp only [hq, go_sem]) | (with_reducible refine awp_ret ?_; simp only [retF, retM, retL, resV, resW, retO, resAV, AV.bor, D.bor, D.bor1, D.bor0, AV.flatOwn, D.flatOwn, D.flat, AV.tagged, D.tagged, AObj.plain, hq, go_sem]) | ((with_reducible refine awp_cond' ?_ ?_ (fun hb => ?_) (fun hb => ?_)); (simp only [hq, go_sem]); (simp only [hq, go_sem]); all_goals (simp only [hq, go_sem] at hb; try simp only [bls] at hb)) | ((iterate 6 try ((fail_if_success with_reducible refine hK _ ?_ ?_ ?_); clear hK K)); with_reducible refine hK _ ?_ ?_ ?_; rotate_left; (focus (simp only [hq, go_sem]; exact rfl)); clear hK K) | (with_reducible refine gsplit_i (fun hg0 => ?_) (fun hg0 => ?_) <;> first | (with_reducible first | exact absurd hg0 Bool.false_ne_true | exact absurd hg0.symm Bool.false_ne_true) | (simp only [hg0, hq, go_sem])) | (with_reducible refine nilK_i ?_; intro bnil hnil; try simp only []) | (omega; done) | (intro hv; (try simp only [bls] at hv); (try simp only [bls]); omega) | (intro hg; (simp only [hg, Bool.true_and, true_and, implies_true]; try (intro hg2; simp only [hg2, Bool.not_false, Bool.not_true])); done)))
  all_goals first | omega | skip
theorem bad_step {al w : List Int} {b : Bool} {k : Nat} (hk : k < w.length) (h : b = badW al (w.drop k)) : b = (!decide (w.getD k 0 ∈ al) || badW al (w.drop (k + 1))) := by
 rw [drop_getD w k 0 hk] at h
 rw [h]; rfl
set_option maxHeartbeats 4000000 in
theorem refWord_c (a : NA) (w : List Int) (hf : a.Fits) (hw : w.length ≤ 1000000) : ACalls Tryd.prog 31 [.agg a.d, .one (.list (ints w))] (.one (.int .i64 (wrdE a w))) [] := by
 have f1 := hf.alpha
 have hE : wrdE a w = if 4096 < w.length then 15 else if badW a.alpha w = true then 9 else 0 := rfl
 (refine ACalls.of_body Ty_ok mixed Tryd.func31 rfl (by kernel_rfl) Tryd.ntmps31 (by simp) (congrArg Array.toList Tryd.results31) ?_)
 simp only [slotsOf, NA.d]
 (repeat' (first | (with_reducible first | exact True.intro | refine And.intro ?_ ?_ | refine awp_block ?_ | ((first | refine awp_seq1 6 [] ?_ | refine awp_seq2 6 [] ?_ | refine awp_seq3 6 [] ?_ | refine awp_seq4 6 [] ?_ | refine awp_seq 6 [] ?_); intro K hK)) | ((with_reducible first | refine awp_reg ?_ | refine awp_exit ?_ | refine awp_skip ?_ | refine likeK_i ?_ | refine otWR_i ?_ | refine rP Ty_ok mixed 6 [0, 2, 3] [.mid [pe 1, pe 4, pe 5] 0, .one 6, .one 7] ?_); simp only [go_sem]) | (with_reducible refine awp_ret ?_; simp only [retF, retM, retL, resV, resW, retO, resAV, AV.bor, D.bor, D.bor1, D.bor0, AV.flatOwn, D.flatOwn, D.flat, AV.tagged, D.tagged, AObj.plain, go_sem]) | ((with_reducible refine awp_cond' ?_ ?_ (fun hb => ?_) (fun hb => ?_)); (simp only [go_sem]); (simp only [go_sem]); all_goals (simp only [go_sem] at hb; try simp only [bls] at hb)) | ((iterate 6 try ((fail_if_success with_reducible refine hK _ ?_ ?_ ?_); clear hK K)); with_reducible refine hK _ ?_ ?_ ?_; rotate_left; (focus (simp only [go_sem]; exact rfl)); clear hK K) | (with_reducible refine gsplit_i (fun hg0 => ?_) (fun hg0 => ?_) <;> first | (with_reducible first | exact absurd hg0 Bool.false_ne_true | exact absurd hg0.symm Bool.false_ne_true) | (simp only [hg0, go_sem])) | (with_reducible refine nilK_i ?_; intro bnil hnil; try simp only []) | (omega; done) | (intro hv; (try simp only [bls] at hv); (try simp only [bls]); omega) | (intro hg; (simp only [hg, Bool.true_and, true_and, implies_true]; try (intro hg2; simp only [hg2, Bool.not_false, Bool.not_true])); done)))
 all_goals first | omega | skip
 rw [if_neg (by omega)] at hE
 refine awp_loop _ (by simp only [go_sem]; rfl) Nat (fun k => k ≤ w.length ∧ badW a.alpha w = badW a.alpha (w.drop k)) (fun k => [(5, .one (.int .i64 k))]) (fun _ H => H) (fun k => w.length - k) 0 ⟨by omega, rfl⟩ ?_ ?_
 ·(simp only [SubF, go_sem]; (try simp only [go_sem]); repeat' (first | exact True.intro | with_reducible refine And.intro ?_ ?_ | rfl | omega))
 rintro k ⟨hk, hres⟩ L hL
 have hq : ((k : Nat) : Int).toNat = k := by omega
 by_cases hlt : k < w.length
 ·have hs := bad_step hlt hres
  have c := refContains_c a.alpha (w.getD k 0) (by omega)
  (simp only [go_sem] at hL ⊢)
  (repeat' (first | (with_reducible first | exact True.intro | refine And.intro ?_ ?_ | refine awp_block ?_ | ((first | refine awp_seq1 6 [] ?_ | refine awp_seq2 6 [] ?_ | refine awp_seq3 6 [] ?_ | refine awp_seq4 6 [] ?_ | refine awp_seq 6 [] ?_); intro K hK)) | ((with_reducible first | refine awp_reg ?_ | refine awp_exit ?_ | refine awp_skip ?_ | refine likeK_i ?_ | refine otWR_i ?_ | refine rP Ty_ok mixed 6 [0, 2, 3] [.mid [pe 1, pe 4, pe 5] 0, .one 6, .one 7] ?_); simp only [hq, go_sem]) | (with_reducible refine awp_ret ?_; simp only [retF, retM, retL, resV, resW, retO, resAV, AV.bor, D.bor, D.bor1, D.bor0, AV.flatOwn, D.flatOwn, D.flat, AV.tagged, D.tagged, AObj.plain, hq, go_sem]) | ((with_reducible refine awp_cond' ?_ ?_ (fun hb => ?_) (fun hb => ?_)); (simp only [hq, go_sem]); (simp only [hq, go_sem]); all_goals (simp only [hq, go_sem] at hb; try simp only [bls] at hb)) | ((iterate 6 try ((fail_if_success with_reducible refine hK _ ?_ ?_ ?_); clear hK K)); with_reducible refine hK _ ?_ ?_ ?_; rotate_left; (focus (simp only [hq, go_sem]; exact rfl)); clear hK K) | ((first | (with_reducible first | refine cA c ?_ | refine cD c ?_ | refine cO c ?_ | refine cR c ?_ | refine cG (fun hg => c) ?_ | refine cH (fun hg => c) ?_ | refine cM (fun hg => c) ?_) | (guard_target = CallAt _ _ _ _ _ _ _ _ _ _; refine cA c ?_) | (guard_target = DCallAt _ _ _ _ _ _ _ _; refine cD c ?_) | (guard_target = GCallAt _ _ _ _ _ _ _ _ _ _ _; refine cG (fun hg => c) ?_)); simp only [hq, go_sem]) | (with_reducible refine gsplit_i (fun hg0 => ?_) (fun hg0 => ?_) <;> first | (with_reducible first | exact absurd hg0 Bool.false_ne_true | exact absurd hg0.symm Bool.false_ne_true) | (simp only [hg0, hq, go_sem])) | (with_reducible refine nilK_i ?_; intro bnil hnil; try simp only []) | (omega; done) | (intro hv; (try simp only [bls] at hv); (try simp only [bls]); omega) | (intro hg; (simp only [hg, Bool.true_and, true_and, implies_true]; try (intro hg2; simp only [hg2, Bool.not_false, Bool.not_true])); done)))
  all_goals first | omega | skip
  ·rw [decide_eq_false hb, Bool.not_false, Bool.true_or] at hs
   rw [hE, hs]; rfl
  ·rw [decide_eq_true hb, Bool.not_true, Bool.false_or] at hs
   exact hL _ (k + 1) ⟨by omega, hs⟩ (by (simp only [SubF, go_sem]; (try simp only [go_sem]); repeat' (first | exact True.intro | with_reducible refine And.intro ?_ ?_ | rfl | omega))) (by omega)
 ·rw [drop_end w k (by omega)] at hres
  (simp only [go_sem] at hL ⊢)
  (repeat' (first | (with_reducible first | exact True.intro | refine And.intro ?_ ?_ | refine awp_block ?_ | ((first | refine awp_seq1 6 [] ?_ | refine awp_seq2 6 [] ?_ | refine awp_seq3 6 [] ?_ | refine awp_seq4 6 [] ?_ | refine awp_seq 6 [] ?_); intro K hK)) | ((with_reducible first | refine awp_reg ?_ | refine awp_exit ?_ | refine awp_skip ?_ | refine likeK_i ?_ | refine otWR_i ?_ | refine rP Ty_ok mixed 6 [0, 2, 3] [.mid [pe 1, pe 4, pe 5] 0, .one 6, .one 7] ?_); simp only [hq, go_sem]) | (with_reducible refine awp_ret ?_; simp only [retF, retM, retL, resV, resW, retO, resAV, AV.bor, D.bor, D.bor1, D.bor0, AV.flatOwn, D.flatOwn, D.flat, AV.tagged, D.tagged, AObj.plain, hq, go_sem]) | ((with_reducible refine awp_cond' ?_ ?_ (fun hb => ?_) (fun hb => ?_)); (simp only [hq, go_sem]); (simp only [hq, go_sem]); all_goals (simp only [hq, go_sem] at hb; try simp only [bls] at hb)) | ((iterate 6 try ((fail_if_success with_reducible refine hK _ ?_ ?_ ?_); clear hK K)); with_reducible refine hK _ ?_ ?_ ?_; rotate_left; (focus (simp only [hq, go_sem]; exact rfl)); clear hK K) | (with_reducible refine gsplit_i (fun hg0 => ?_) (fun hg0 => ?_) <;> first | (with_reducible first | exact absurd hg0 Bool.false_ne_true | exact absurd hg0.symm Bool.false_ne_true) | (simp only [hg0, hq, go_sem])) | (with_reducible refine nilK_i ?_; intro bnil hnil; try simp only []) | (omega; done) | (intro hv; (try simp only [bls] at hv); (try simp only [bls]); omega) | (intro hg; (simp only [hg, Bool.true_and, true_and, implies_true]; try (intro hg2; simp only [hg2, Bool.not_false, Bool.not_true])); done)))
  all_goals first | omega | skip
  rw [hE, hres]; rfl
end Go.Proofs.YtgagpbbnbonnlaaDoor
