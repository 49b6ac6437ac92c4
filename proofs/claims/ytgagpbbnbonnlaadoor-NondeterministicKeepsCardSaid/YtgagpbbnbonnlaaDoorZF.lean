/-
 Chapter 05: automaton.Check, From.
-/
import Derived.Test.YtgagpbbnbonnlaaDoorZK
set_option linter.unusedSimpArgs false
set_option linter.unusedVariables false
namespace Go.Proofs.YtgagpbbnbonnlaaDoor
open Go.Eng Go.RowKit
theorem Index_c (l : List Int) (x : Int) (hn : l.length ≤ 1000000) : ACalls Tryd.prog 97 [.one (.list (ints l)), .one (.int .i64 x)] (.one (.int .i64 (ixFrom (fun z => decide (x = z)) 0 l))) [] := by
 (refine ACalls.of_body Ty_ok mixed Tryd.func97 rfl (by kernel_rfl) Tryd.ntmps97 (by simp) (congrArg Array.toList Tryd.results97) ?_)
 simp only [slotsOf]
 (repeat' (first | (with_reducible first | exact True.intro | refine And.intro ?_ ?_ | refine awp_block ?_ | ((first | refine awp_seq1 6 [7, 8] ?_ | refine awp_seq2 6 [7, 8] ?_ | refine awp_seq3 6 [7, 8] ?_ | refine awp_seq4 6 [7, 8] ?_ | refine awp_seq 6 [7, 8] ?_); intro K hK)) | ((with_reducible first | refine awp_reg ?_ | refine awp_exit ?_ | refine awp_skip ?_ | refine likeK_i ?_ | refine otWR_i ?_); simp only [go_sem]) | (with_reducible refine awp_ret ?_; simp only [retF, retM, retL, resV, resW, retO, resAV, AV.bor, D.bor, D.bor1, D.bor0, AV.flatOwn, D.flatOwn, D.flat, AV.tagged, D.tagged, AObj.plain, go_sem]) | ((with_reducible refine awp_cond' ?_ ?_ (fun hb => ?_) (fun hb => ?_)); (simp only [go_sem]); (simp only [go_sem]); all_goals (simp only [go_sem] at hb; try simp only [bls] at hb)) | ((iterate 6 try ((fail_if_success with_reducible refine hK _ ?_ ?_ ?_); clear hK K)); with_reducible refine hK _ ?_ ?_ ?_; rotate_left; (focus (simp only [go_sem]; exact rfl)); clear hK K) | (with_reducible refine gsplit_i (fun hg0 => ?_) (fun hg0 => ?_) <;> first | (with_reducible first | exact absurd hg0 Bool.false_ne_true | exact absurd hg0.symm Bool.false_ne_true) | (simp only [hg0, go_sem])) | (with_reducible refine nilK_i ?_; intro bnil hnil; try simp only []) | (omega; done) | (intro hv; (try simp only [bls] at hv); (try simp only [bls]); omega) | (intro hg; (simp only [hg, Bool.true_and, true_and, implies_true]; try (intro hg2; simp only [hg2, Bool.not_false, Bool.not_true])); done)))
 refine awp_loop _ (by simp only [go_sem]; rfl) Nat (fun k => k ≤ l.length ∧ ixFrom (fun z => decide (x = z)) 0 l = ixFrom (fun z => decide (x = z)) k (l.drop k)) (fun k => [(8, .one (.int .i64 k))]) (fun _ H => H) (fun k => l.length - k) 0 ⟨by omega, by simp⟩ ?_ ?_
 ·(simp only [SubF, go_sem]; (try simp only [go_sem]); repeat' (first | exact True.intro | with_reducible refine And.intro ?_ ?_ | rfl | omega))
 ·rintro k ⟨hk, hres⟩ L hL
  (simp only [go_sem] at hL ⊢)
  (repeat' (first | (with_reducible first | exact True.intro | refine And.intro ?_ ?_ | refine awp_block ?_ | ((first | refine awp_seq1 6 [7, 8] ?_ | refine awp_seq2 6 [7, 8] ?_ | refine awp_seq3 6 [7, 8] ?_ | refine awp_seq4 6 [7, 8] ?_ | refine awp_seq 6 [7, 8] ?_); intro K hK)) | ((with_reducible first | refine awp_reg ?_ | refine awp_exit ?_ | refine awp_skip ?_ | refine likeK_i ?_ | refine otWR_i ?_); simp only [go_sem]) | (with_reducible refine awp_ret ?_; simp only [retF, retM, retL, resV, resW, retO, resAV, AV.bor, D.bor, D.bor1, D.bor0, AV.flatOwn, D.flatOwn, D.flat, AV.tagged, D.tagged, AObj.plain, go_sem]) | ((with_reducible refine awp_cond' ?_ ?_ (fun hb => ?_) (fun hb => ?_)); (simp only [go_sem]); (simp only [go_sem]); all_goals (simp only [go_sem] at hb; try simp only [bls] at hb)) | ((iterate 6 try ((fail_if_success with_reducible refine hK _ ?_ ?_ ?_); clear hK K)); with_reducible refine hK _ ?_ ?_ ?_; rotate_left; (focus (simp only [go_sem]; exact rfl)); clear hK K) | (with_reducible refine gsplit_i (fun hg0 => ?_) (fun hg0 => ?_) <;> first | (with_reducible first | exact absurd hg0 Bool.false_ne_true | exact absurd hg0.symm Bool.false_ne_true) | (simp only [hg0, go_sem])) | (with_reducible refine nilK_i ?_; intro bnil hnil; try simp only []) | (omega; done) | (intro hv; (try simp only [bls] at hv); (try simp only [bls]); omega) | (intro hg; (simp only [hg, Bool.true_and, true_and, implies_true]; try (intro hg2; simp only [hg2, Bool.not_false, Bool.not_true])); done)))
  ·rw [ix_step (d := 0) (by omega) hres, if_pos (by simpa using hb)]
  ·have h1 := ix_step (d := 0) (by omega) hres
   rw [if_neg (by simpa using hb)] at h1
   exact hL _ (k + 1) ⟨by omega, h1⟩ (by (simp only [SubF, go_sem]; (try simp only [go_sem]); repeat' (first | exact True.intro | with_reducible refine And.intro ?_ ?_ | rfl | omega))) (by omega)
  ·rw [hres, drop_end l k (by omega)]; rfl
theorem sContains_c (l : List Int) (x : Int) (hn : l.length ≤ 1000000) : ACalls Tryd.prog 83 [.one (.list (ints l)), .one (.int .i64 x)] (.one (.bool (decide (x ∈ l)))) [] := by
 have e : decide (x ∈ l) = decide (0 ≤ ixFrom (fun z => decide (x = z)) 0 l) := by
  rw [ix_any, Bool.eq_iff_iff]
  simp
 rw [e]
 (refine ACalls.of_body Ty_ok mixed Tryd.func83 rfl (by kernel_rfl) Tryd.ntmps83 (by simp) (congrArg Array.toList Tryd.results83) ?_)
 simp only [slotsOf]
 (repeat' (first | (with_reducible first | exact True.intro | refine And.intro ?_ ?_ | refine awp_block ?_ | ((first | refine awp_seq1 5 [] ?_ | refine awp_seq2 5 [] ?_ | refine awp_seq3 5 [] ?_ | refine awp_seq4 5 [] ?_ | refine awp_seq 5 [] ?_); intro K hK)) | ((with_reducible first | refine awp_reg ?_ | refine awp_exit ?_ | refine awp_skip ?_ | refine likeK_i ?_ | refine otWR_i ?_); simp only [go_sem]) | (with_reducible refine awp_ret ?_; simp only [retF, retM, retL, resV, resW, retO, resAV, AV.bor, D.bor, D.bor1, D.bor0, AV.flatOwn, D.flatOwn, D.flat, AV.tagged, D.tagged, AObj.plain, go_sem]) | ((with_reducible refine awp_cond' ?_ ?_ (fun hb => ?_) (fun hb => ?_)); (simp only [go_sem]); (simp only [go_sem]); all_goals (simp only [go_sem] at hb; try simp only [bls] at hb)) | ((iterate 6 try ((fail_if_success with_reducible refine hK _ ?_ ?_ ?_); clear hK K)); with_reducible refine hK _ ?_ ?_ ?_; rotate_left; (focus (simp only [go_sem]; exact rfl)); clear hK K) | ((first | (with_reducible first | refine cA (Index_c l x hn) ?_ | refine cD (Index_c l x hn) ?_ | refine cO (Index_c l x hn) ?_ | refine cR (Index_c l x hn) ?_ | refine cG (fun hg => (Index_c l x hn)) ?_ | refine cH (fun hg => (Index_c l x hn)) ?_ | refine cM (fun hg => (Index_c l x hn)) ?_) | (guard_target = CallAt _ _ _ _ _ _ _ _ _ _; refine cA (Index_c l x hn) ?_) | (guard_target = DCallAt _ _ _ _ _ _ _ _; refine cD (Index_c l x hn) ?_) | (guard_target = GCallAt _ _ _ _ _ _ _ _ _ _ _; refine cG (fun hg => (Index_c l x hn)) ?_)); simp only [go_sem]) | (with_reducible refine gsplit_i (fun hg0 => ?_) (fun hg0 => ?_) <;> first | (with_reducible first | exact absurd hg0 Bool.false_ne_true | exact absurd hg0.symm Bool.false_ne_true) | (simp only [hg0, go_sem])) | (with_reducible refine nilK_i ?_; intro bnil hnil; try simp only []) | (omega; done) | (intro hv; (try simp only [bls] at hv); (try simp only [bls]); omega) | (intro hg; (simp only [hg, Bool.true_and, true_and, implies_true]; try (intro hg2; simp only [hg2, Bool.not_false, Bool.not_true])); done)))
set_option maxHeartbeats 1000000 in
theorem auSet_c (xs : List Int) (m : Int) (hn : xs.length ≤ 9223372036854775807) : ACalls Tryd.prog 64 [.one (.list (ints xs)), .one (.int .i64 m)] (.one (.int .i64 (checkSet xs m))) [] := by
 (refine ACalls.of_body Ty_ok mixed Tryd.func64 rfl (by kernel_rfl) Tryd.ntmps64 (by simp) (congrArg Array.toList Tryd.results64) ?_)
 simp only [slotsOf]
 (repeat' (first | (with_reducible first | exact True.intro | refine And.intro ?_ ?_ | refine awp_block ?_ | ((first | refine awp_seq1 10 [] ?_ | refine awp_seq2 10 [] ?_ | refine awp_seq3 10 [] ?_ | refine awp_seq4 10 [] ?_ | refine awp_seq 10 [] ?_); intro K hK)) | ((with_reducible first | refine awp_reg ?_ | refine awp_exit ?_ | refine awp_skip ?_ | refine likeK_i ?_ | refine otWR_i ?_); simp only [go_sem]) | (with_reducible refine awp_ret ?_; simp only [retF, retM, retL, resV, resW, retO, resAV, AV.bor, D.bor, D.bor1, D.bor0, AV.flatOwn, D.flatOwn, D.flat, AV.tagged, D.tagged, AObj.plain, go_sem]) | ((with_reducible refine awp_cond' ?_ ?_ (fun hb => ?_) (fun hb => ?_)); (simp only [go_sem]); (simp only [go_sem]); all_goals (simp only [go_sem] at hb; try simp only [bls] at hb)) | ((iterate 6 try ((fail_if_success with_reducible refine hK _ ?_ ?_ ?_); clear hK K)); with_reducible refine hK _ ?_ ?_ ?_; rotate_left; (focus (simp only [go_sem]; exact rfl)); clear hK K) | (with_reducible refine gsplit_i (fun hg0 => ?_) (fun hg0 => ?_) <;> first | (with_reducible first | exact absurd hg0 Bool.false_ne_true | exact absurd hg0.symm Bool.false_ne_true) | (simp only [hg0, go_sem])) | (with_reducible refine nilK_i ?_; intro bnil hnil; try simp only []) | (omega; done) | (intro hv; (try simp only [bls] at hv); (try simp only [bls]); omega) | (intro hg; (simp only [hg, Bool.true_and, true_and, implies_true]; try (intro hg2; simp only [hg2, Bool.not_false, Bool.not_true])); done)))
 refine awp_loop _ (by simp only [go_sem]; rfl) Nat (fun k => k ≤ xs.length ∧ checkSet xs m = csFrom m (xs.drop k) (prevOf xs k)) (fun k => [(9, .one (.int .i64 k))]) (fun _ H => H) (fun k => xs.length - k) 0 ⟨by omega, by simp [checkSet, prevOf]⟩ ?_ ?_
 ·(simp only [SubF, go_sem]; (try simp only [go_sem]); repeat' (first | exact True.intro | with_reducible refine And.intro ?_ ?_ | rfl | omega))
 ·rintro k ⟨hk, hres⟩ L hL
  (simp only [go_sem] at hL ⊢)
  (repeat' (first | (with_reducible first | exact True.intro | refine And.intro ?_ ?_ | refine awp_block ?_ | ((first | refine awp_seq1 10 [] ?_ | refine awp_seq2 10 [] ?_ | refine awp_seq3 10 [] ?_ | refine awp_seq4 10 [] ?_ | refine awp_seq 10 [] ?_); intro K hK)) | ((with_reducible first | refine awp_reg ?_ | refine awp_exit ?_ | refine awp_skip ?_ | refine likeK_i ?_ | refine otWR_i ?_); simp only [go_sem]) | (with_reducible refine awp_ret ?_; simp only [retF, retM, retL, resV, resW, retO, resAV, AV.bor, D.bor, D.bor1, D.bor0, AV.flatOwn, D.flatOwn, D.flat, AV.tagged, D.tagged, AObj.plain, go_sem]) | ((with_reducible refine awp_cond' ?_ ?_ (fun hb => ?_) (fun hb => ?_)); (simp only [go_sem]); (simp only [go_sem]); all_goals (simp only [go_sem] at hb; try simp only [bls] at hb)) | ((iterate 6 try ((fail_if_success with_reducible refine hK _ ?_ ?_ ?_); clear hK K)); with_reducible refine hK _ ?_ ?_ ?_; rotate_left; (focus (simp only [go_sem]; exact rfl)); clear hK K) | (with_reducible refine gsplit_i (fun hg0 => ?_) (fun hg0 => ?_) <;> first | (with_reducible first | exact absurd hg0 Bool.false_ne_true | exact absurd hg0.symm Bool.false_ne_true) | (simp only [hg0, go_sem])) | (with_reducible refine nilK_i ?_; intro bnil hnil; try simp only []) | (omega; done) | (intro hv; (try simp only [bls] at hv); (try simp only [bls]); omega) | (intro hg; (simp only [hg, Bool.true_and, true_and, implies_true]; try (intro hg2; simp only [hg2, Bool.not_false, Bool.not_true])); done)))
  ·rw [cs_step (by omega) hres, if_pos (by assumption)]
  ·rw [toNat_pred] at hb
   rw [cs_step (by omega) hres, if_neg (by omega), if_pos (by omega)]
  ·rw [toNat_pred] at hb
   have h1 := cs_step (by omega) hres
   rw [if_neg (by omega), if_neg (by omega)] at h1
   exact hL _ (k + 1) ⟨by omega, h1⟩ (by (simp only [SubF, go_sem]; (try simp only [go_sem]); repeat' (first | exact True.intro | with_reducible refine And.intro ?_ ?_ | rfl | omega))) (by omega)
  ·rw [hres, drop_end xs k (by omega)]; rfl
def deFrom (n : Int) (al : List Int) : Option Ed → List Ed → Int
 | _, [] => 0
 | p, x :: l => if x.src < 0 ∨ n ≤ x.src ∨ x.dst < 0 ∨ n ≤ x.dst then 2 else if x.ev ∉ al then 9 else if (p.any fun q => decide (x.src < q.src ∨ x.src = q.src ∧ x.ev ≤ q.ev)) = true then 5 else deFrom n al (some x) l
theorem de_step {es : List Ed} {n : Int} {al : List Int} {b : Int} {k : Nat} (hk : k < es.length) (h : b = deFrom n al (prevE es k) (es.drop k)) :
  b = if (es.getD k Ed.no).src < 0 ∨ n ≤ (es.getD k Ed.no).src ∨ (es.getD k Ed.no).dst < 0 ∨ n ≤ (es.getD k Ed.no).dst then 2 else if (es.getD k Ed.no).ev ∉ al then 9 else if 0 < k ∧ ((es.getD k Ed.no).src < (es.getD (k - 1) Ed.no).src ∨ (es.getD k Ed.no).src = (es.getD (k - 1) Ed.no).src ∧ (es.getD k Ed.no).ev ≤ (es.getD (k - 1) Ed.no).ev) then 5 else deFrom n al (prevE es (k + 1)) (es.drop (k + 1)) := by
 rw [drop_getD es k Ed.no hk] at h
 rw [h, deFrom]
 unfold prevE
 by_cases h0 : k = 0
 ·subst h0; simp
 ·have hp : 0 < k := by omega
  simp [h0, hp]
theorem deFrom_zero {n : Int} {al : List Int} : ∀ {l : List Ed} {p : Option Ed}, (∀ x ∈ l, ((0 ≤ x.src ∧ x.src < n) ∧ 0 ≤ x.dst ∧ x.dst < n) ∧ x.ev ∈ al) → (∀ q, p = some q → ∀ x ∈ l, dLt q x) → l.Pairwise dLt → deFrom n al p l = 0
 | [], p, _, _, _ => rfl
 | x :: l, p, h1, h2, h3 => by
  have h3' := List.pairwise_cons.1 h3
  have hx := h1 x (by simp)
  rw [deFrom, if_neg (by omega), if_neg (fun h => h hx.2), if_neg ?_]
  ·exact deFrom_zero (fun y hy => h1 y (by simp [hy])) (fun q hq y hy => by cases hq; exact h3'.1 y hy) h3'.2
  ·cases p with
   | none => simp
   | some q =>
    have := h2 q rfl x (by simp)
    unfold dLt at this
    simp only [Option.any_some, decide_eq_true_eq]
    omega
def chkAU (a : AU) : Int := if checkSet a.alpha 32 ≠ 0 then checkSet a.alpha 32 else if a.states < 0 then 2 else if 4096 < a.states then 3 else if checkSet a.marked a.states ≠ 0 then checkSet a.marked a.states else deFrom a.states a.alpha none a.edges
structure AU.Fits (a : AU) : Prop where
 alpha : a.alpha.length ≤ 1000
 marked : a.marked.length ≤ 1000
 edges : a.edges.length ≤ 1000
set_option maxHeartbeats 8000000 in
theorem auEdges_c (a : AU) (hf : a.Fits) : ACalls Tryd.prog 65 [.agg a.d] (.one (.int .i64 (deFrom a.states a.alpha none a.edges))) [] := by
 obtain ⟨f1, f2, f3⟩ := hf
 (refine ACalls.of_body Ty_ok mixed Tryd.func65 rfl (by kernel_rfl) Tryd.ntmps65 (by simp) (congrArg Array.toList Tryd.results65) ?_)
 simp only [slotsOf, AU.d]
 (repeat' (first | (with_reducible first | exact True.intro | refine And.intro ?_ ?_ | refine awp_block ?_ | ((first | refine awp_seq1 6 [8, 7, 9] ?_ | refine awp_seq2 6 [8, 7, 9] ?_ | refine awp_seq3 6 [8, 7, 9] ?_ | refine awp_seq4 6 [8, 7, 9] ?_ | refine awp_seq 6 [8, 7, 9] ?_); intro K hK)) | ((with_reducible first | refine awp_reg ?_ | refine awp_exit ?_ | refine awp_skip ?_ | refine likeK_i ?_ | refine otWR_i ?_); simp only [go_sem]) | (with_reducible refine awp_ret ?_; simp only [retF, retM, retL, resV, resW, retO, resAV, AV.bor, D.bor, D.bor1, D.bor0, AV.flatOwn, D.flatOwn, D.flat, AV.tagged, D.tagged, AObj.plain, go_sem]) | ((with_reducible refine awp_cond' ?_ ?_ (fun hb => ?_) (fun hb => ?_)); (simp only [go_sem]); (simp only [go_sem]); all_goals (simp only [go_sem] at hb; try simp only [bls] at hb)) | ((iterate 6 try ((fail_if_success with_reducible refine hK _ ?_ ?_ ?_); clear hK K)); with_reducible refine hK _ ?_ ?_ ?_; rotate_left; (focus (simp only [go_sem]; exact rfl)); clear hK K) | (with_reducible refine gsplit_i (fun hg0 => ?_) (fun hg0 => ?_) <;> first | (with_reducible first | exact absurd hg0 Bool.false_ne_true | exact absurd hg0.symm Bool.false_ne_true) | (simp only [hg0, go_sem])) | (with_reducible refine nilK_i ?_; intro bnil hnil; try simp only []) | (omega; done) | (intro hv; (try simp only [bls] at hv); (try simp only [bls]); omega) | (intro hg; (simp only [hg, Bool.true_and, true_and, implies_true]; try (intro hg2; simp only [hg2, Bool.not_false, Bool.not_true])); done)))
 all_goals first | omega | skip
 refine awp_loop _ (by simp only [go_sem]; rfl) Nat (fun k => k ≤ a.edges.length ∧ deFrom a.states a.alpha none a.edges = deFrom a.states a.alpha (prevE a.edges k) (a.edges.drop k)) (fun k => [(9, .one (.int .i64 k))]) (fun _ H => H) (fun k => a.edges.length - k) 0 ⟨by omega, by simp [prevE]⟩ ?_ ?_
 ·(simp only [SubF, go_sem]; (try simp only [go_sem]); repeat' (first | exact True.intro | with_reducible refine And.intro ?_ ?_ | rfl | omega))
 rintro k ⟨hk, hres⟩ L hL
 by_cases hlt : k < a.edges.length
 ·have hs := de_step hlt hres
  have c4 := sContains_c a.alpha (a.edges.getD k Ed.no).ev (by omega)
  have e1 := toNat_pred k
  (simp only [go_sem] at hL ⊢)
  (repeat' (first | (with_reducible first | exact True.intro | refine And.intro ?_ ?_ | refine awp_block ?_ | ((first | refine awp_seq1 6 [8, 7, 9] ?_ | refine awp_seq2 6 [8, 7, 9] ?_ | refine awp_seq3 6 [8, 7, 9] ?_ | refine awp_seq4 6 [8, 7, 9] ?_ | refine awp_seq 6 [8, 7, 9] ?_); intro K hK)) | ((with_reducible first | refine awp_reg ?_ | refine awp_exit ?_ | refine awp_skip ?_ | refine likeK_i ?_ | refine otWR_i ?_); simp only [e1, go_sem]) | (with_reducible refine awp_ret ?_; simp only [retF, retM, retL, resV, resW, retO, resAV, AV.bor, D.bor, D.bor1, D.bor0, AV.flatOwn, D.flatOwn, D.flat, AV.tagged, D.tagged, AObj.plain, e1, go_sem]) | ((with_reducible refine awp_cond' ?_ ?_ (fun hb => ?_) (fun hb => ?_)); (simp only [e1, go_sem]); (simp only [e1, go_sem]); all_goals (simp only [e1, go_sem] at hb; try simp only [bls] at hb)) | ((iterate 6 try ((fail_if_success with_reducible refine hK _ ?_ ?_ ?_); clear hK K)); with_reducible refine hK _ ?_ ?_ ?_; rotate_left; (focus (simp only [e1, go_sem]; exact rfl)); clear hK K) | ((first | (with_reducible first | refine cA c4 ?_ | refine cD c4 ?_ | refine cO c4 ?_ | refine cR c4 ?_ | refine cG (fun hg => c4) ?_ | refine cH (fun hg => c4) ?_ | refine cM (fun hg => c4) ?_) | (guard_target = CallAt _ _ _ _ _ _ _ _ _ _; refine cA c4 ?_) | (guard_target = DCallAt _ _ _ _ _ _ _ _; refine cD c4 ?_) | (guard_target = GCallAt _ _ _ _ _ _ _ _ _ _ _; refine cG (fun hg => c4) ?_)); simp only [e1, go_sem]) | (with_reducible refine gsplit_i (fun hg0 => ?_) (fun hg0 => ?_) <;> first | (with_reducible first | exact absurd hg0 Bool.false_ne_true | exact absurd hg0.symm Bool.false_ne_true) | (simp only [hg0, e1, go_sem])) | (with_reducible refine nilK_i ?_; intro bnil hnil; try simp only []) | (omega; done) | (intro hv; (try simp only [bls] at hv); (try simp only [bls]); omega) | (intro hg; (simp only [hg, Bool.true_and, true_and, implies_true]; try (intro hg2; simp only [hg2, Bool.not_false, Bool.not_true])); done)))
  all_goals first | omega | skip
  ·rw [hs, if_neg (by omega), if_pos hb]
  ·rename_i q1 q2
   rw [if_neg (by omega), if_neg (fun h => h q2), if_neg (fun h => by omega)] at hs
   exact hL _ (k + 1) ⟨by omega, hs⟩ (by (simp only [SubF, go_sem]; (try simp only [go_sem]); repeat' (first | exact True.intro | with_reducible refine And.intro ?_ ?_ | rfl | omega))) (by omega)
  ·rename_i q1 q2 q3
   rw [hs, if_neg (by omega), if_neg (fun h => h q2), if_pos ⟨by omega, hb⟩]
  ·rename_i q1 q2 q3
   rw [if_neg (by omega), if_neg (fun h => h q2), if_neg (fun h => by omega)] at hs
   exact hL _ (k + 1) ⟨by omega, hs⟩ (by (simp only [SubF, go_sem]; (try simp only [go_sem]); repeat' (first | exact True.intro | with_reducible refine And.intro ?_ ?_ | rfl | omega))) (by omega)
 ·(simp only [go_sem] at hL ⊢)
  (repeat' (first | (with_reducible first | exact True.intro | refine And.intro ?_ ?_ | refine awp_block ?_ | ((first | refine awp_seq1 6 [8, 7, 9] ?_ | refine awp_seq2 6 [8, 7, 9] ?_ | refine awp_seq3 6 [8, 7, 9] ?_ | refine awp_seq4 6 [8, 7, 9] ?_ | refine awp_seq 6 [8, 7, 9] ?_); intro K hK)) | ((with_reducible first | refine awp_reg ?_ | refine awp_exit ?_ | refine awp_skip ?_ | refine likeK_i ?_ | refine otWR_i ?_); simp only [go_sem]) | (with_reducible refine awp_ret ?_; simp only [retF, retM, retL, resV, resW, retO, resAV, AV.bor, D.bor, D.bor1, D.bor0, AV.flatOwn, D.flatOwn, D.flat, AV.tagged, D.tagged, AObj.plain, go_sem]) | ((with_reducible refine awp_cond' ?_ ?_ (fun hb => ?_) (fun hb => ?_)); (simp only [go_sem]); (simp only [go_sem]); all_goals (simp only [go_sem] at hb; try simp only [bls] at hb)) | ((iterate 6 try ((fail_if_success with_reducible refine hK _ ?_ ?_ ?_); clear hK K)); with_reducible refine hK _ ?_ ?_ ?_; rotate_left; (focus (simp only [go_sem]; exact rfl)); clear hK K) | (with_reducible refine gsplit_i (fun hg0 => ?_) (fun hg0 => ?_) <;> first | (with_reducible first | exact absurd hg0 Bool.false_ne_true | exact absurd hg0.symm Bool.false_ne_true) | (simp only [hg0, go_sem])) | (with_reducible refine nilK_i ?_; intro bnil hnil; try simp only []) | (omega; done) | (intro hv; (try simp only [bls] at hv); (try simp only [bls]); omega) | (intro hg; (simp only [hg, Bool.true_and, true_and, implies_true]; try (intro hg2; simp only [hg2, Bool.not_false, Bool.not_true])); done)))
  all_goals first | omega | skip
  rw [hres, drop_end a.edges k (by omega)]; rfl
set_option maxHeartbeats 8000000 in
theorem auCheck_c (a : AU) (hf : a.Fits) : ACalls Tryd.prog 35 [.agg a.d] (.one (.int .i64 (chkAU a))) [] := by
 have c3 := auEdges_c a hf
 obtain ⟨f1, f2, f3⟩ := hf
 have c1 := auSet_c a.alpha 32 (by omega)
 have c2 := auSet_c a.marked a.states (by omega)
 have hE : chkAU a = if checkSet a.alpha 32 ≠ 0 then checkSet a.alpha 32 else if a.states < 0 then 2 else if 4096 < a.states then 3 else if checkSet a.marked a.states ≠ 0 then checkSet a.marked a.states else deFrom a.states a.alpha none a.edges := rfl
 generalize chkAU a = R at *
 generalize checkSet a.alpha 32 = e1 at *
 generalize checkSet a.marked a.states = e2 at *
 generalize deFrom a.states a.alpha none a.edges = e3 at *
 simp only [AU.d] at c3
 (refine ACalls.of_body Ty_ok mixed Tryd.func35 rfl (by kernel_rfl) Tryd.ntmps35 (by simp) (congrArg Array.toList Tryd.results35) ?_)
 simp only [slotsOf, AU.d]
 (repeat' (first | (with_reducible first | exact True.intro | refine And.intro ?_ ?_ | refine awp_block ?_ | ((first | refine awp_seq1 5 [] ?_ | refine awp_seq2 5 [] ?_ | refine awp_seq3 5 [] ?_ | refine awp_seq4 5 [] ?_ | refine awp_seq 5 [] ?_); intro K hK)) | ((with_reducible first | refine awp_reg ?_ | refine awp_exit ?_ | refine awp_skip ?_ | refine likeK_i ?_ | refine otWR_i ?_); simp only [go_sem]) | (with_reducible refine awp_ret ?_; simp only [retF, retM, retL, resV, resW, retO, resAV, AV.bor, D.bor, D.bor1, D.bor0, AV.flatOwn, D.flatOwn, D.flat, AV.tagged, D.tagged, AObj.plain, go_sem]) | ((with_reducible refine awp_cond' ?_ ?_ (fun hb => ?_) (fun hb => ?_)); (simp only [go_sem]); (simp only [go_sem]); all_goals (simp only [go_sem] at hb; try simp only [bls] at hb)) | ((iterate 6 try ((fail_if_success with_reducible refine hK _ ?_ ?_ ?_); clear hK K)); with_reducible refine hK _ ?_ ?_ ?_; rotate_left; (focus (simp only [go_sem]; exact rfl)); clear hK K) | ((first | (with_reducible first | refine cA c1 ?_ | refine cA c2 ?_ | refine cA c3 ?_ | refine cD c1 ?_ | refine cD c2 ?_ | refine cD c3 ?_ | refine cO c1 ?_ | refine cO c2 ?_ | refine cO c3 ?_ | refine cR c1 ?_ | refine cR c2 ?_ | refine cR c3 ?_ | refine cG (fun hg => c1) ?_ | refine cG (fun hg => c2) ?_ | refine cG (fun hg => c3) ?_ | refine cH (fun hg => c1) ?_ | refine cH (fun hg => c2) ?_ | refine cH (fun hg => c3) ?_ | refine cM (fun hg => c1) ?_ | refine cM (fun hg => c2) ?_ | refine cM (fun hg => c3) ?_) | (guard_target = CallAt _ _ _ _ _ _ _ _ _ _; first | refine cA c1 ?_ | refine cA c2 ?_ | refine cA c3 ?_) | (guard_target = DCallAt _ _ _ _ _ _ _ _; first | refine cD c1 ?_ | refine cD c2 ?_ | refine cD c3 ?_) | (guard_target = GCallAt _ _ _ _ _ _ _ _ _ _ _; first | refine cG (fun hg => c1) ?_ | refine cG (fun hg => c2) ?_ | refine cG (fun hg => c3) ?_)); simp only [go_sem]) | (with_reducible refine gsplit_i (fun hg0 => ?_) (fun hg0 => ?_) <;> first | (with_reducible first | exact absurd hg0 Bool.false_ne_true | exact absurd hg0.symm Bool.false_ne_true) | (simp only [hg0, go_sem])) | (with_reducible refine nilK_i ?_; intro bnil hnil; try simp only []) | (omega; done) | (intro hv; (try simp only [bls] at hv); (try simp only [bls]); omega) | (intro hg; (simp only [hg, Bool.true_and, true_and, implies_true]; try (intro hg2; simp only [hg2, Bool.not_false, Bool.not_true])); done)))
 all_goals first | omega | skip
set_option maxHeartbeats 8000000 in
theorem From_c (a : AU) (hf : a.Fits) (h : chkAU a = 0) : ACalls Tryd.prog 34 [.agg a.d] (.tup [.agg a.na.d, .one (.int .i64 0)]) [] := by
 have c1 := auCheck_c a hf
 obtain ⟨f1, f2, f3⟩ := hf
 rw [h] at c1
 have c2 := CloneInts_c a.alpha (by omega)
 have c3 := CloneInts_c a.marked (by omega)
 have c4 := CloneEds_c a.edges (by omega)
 have fl := eds_flat a.edges
 have hR : a.na = ⟨a.alpha, a.states, if 0 < a.states then [0] else [], a.marked, a.edges⟩ := rfl
 generalize a.na = R at *
 simp only [AU.d] at c1
 (refine ACalls.of_body Ty_ok mixed Tryd.func34 rfl (by kernel_rfl) Tryd.ntmps34 (by simp) (congrArg Array.toList Tryd.results34) ?_)
 simp only [slotsOf, AU.d]
 (repeat' (first | (with_reducible first | exact True.intro | refine And.intro ?_ ?_ | refine awp_block ?_ | ((first | refine awp_seq1 6 [] ?_ | refine awp_seq2 6 [] ?_ | refine awp_seq3 6 [] ?_ | refine awp_seq4 6 [] ?_ | refine awp_seq 6 [] ?_); intro K hK)) | ((with_reducible first | refine awp_reg ?_ | refine awp_exit ?_ | refine awp_skip ?_ | refine likeK_i ?_ | refine otWR_i ?_ | refine rP Ty_ok mixed 4 [0, 3, 5, 8] [.mid [pe 1, ⟨2, 0, true, false, false, [], []⟩, ⟨4, 1, false, false, false, [0], []⟩, ⟨6, 1, false, false, false, [0], []⟩, ⟨7, 1, true, false, false, [], []⟩, ⟨9, 2, false, false, false, [1, 0], []⟩, ⟨10, 2, true, false, false, [], []⟩, ⟨11, 3, false, false, false, [], []⟩, ⟨12, 3, true, false, false, [2, 1, 0], []⟩] 4, .one 13] ?_); simp only [go_sem]) | (with_reducible refine awp_ret ?_; simp only [retF, retM, retL, resV, resW, retO, resAV, AV.bor, D.bor, D.bor1, D.bor0, AV.flatOwn, D.flatOwn, D.flat, AV.tagged, D.tagged, AObj.plain, go_sem]) | ((with_reducible refine awp_cond' ?_ ?_ (fun hb => ?_) (fun hb => ?_)); (simp only [go_sem]); (simp only [go_sem]); all_goals (simp only [go_sem] at hb; try simp only [bls] at hb)) | ((iterate 6 try ((fail_if_success with_reducible refine hK _ ?_ ?_ ?_); clear hK K)); with_reducible refine hK _ ?_ ?_ ?_; rotate_left; (focus (simp only [go_sem]; exact rfl)); clear hK K) | ((first | (with_reducible first | refine cA c1 ?_ | refine cA c2 ?_ | refine cA c3 ?_ | refine cA c4 ?_ | refine cD c1 ?_ | refine cD c2 ?_ | refine cD c3 ?_ | refine cD c4 ?_ | refine cO c1 ?_ | refine cO c2 ?_ | refine cO c3 ?_ | refine cO c4 ?_ | refine cR c1 ?_ | refine cR c2 ?_ | refine cR c3 ?_ | refine cR c4 ?_ | refine cG (fun hg => c1) ?_ | refine cG (fun hg => c2) ?_ | refine cG (fun hg => c3) ?_ | refine cG (fun hg => c4) ?_ | refine cH (fun hg => c1) ?_ | refine cH (fun hg => c2) ?_ | refine cH (fun hg => c3) ?_ | refine cH (fun hg => c4) ?_ | refine cM (fun hg => c1) ?_ | refine cM (fun hg => c2) ?_ | refine cM (fun hg => c3) ?_ | refine cM (fun hg => c4) ?_) | (guard_target = CallAt _ _ _ _ _ _ _ _ _ _; first | refine cA c1 ?_ | refine cA c2 ?_ | refine cA c3 ?_ | refine cA c4 ?_) | (guard_target = DCallAt _ _ _ _ _ _ _ _; first | refine cD c1 ?_ | refine cD c2 ?_ | refine cD c3 ?_ | refine cD c4 ?_) | (guard_target = GCallAt _ _ _ _ _ _ _ _ _ _ _; first | refine cG (fun hg => c1) ?_ | refine cG (fun hg => c2) ?_ | refine cG (fun hg => c3) ?_ | refine cG (fun hg => c4) ?_)); simp only [go_sem]) | (with_reducible refine gsplit_i (fun hg0 => ?_) (fun hg0 => ?_) <;> first | (with_reducible first | exact absurd hg0 Bool.false_ne_true | exact absurd hg0.symm Bool.false_ne_true) | (simp only [hg0, go_sem])) | (with_reducible refine nilK_i ?_; intro bnil hnil; try simp only []) | (omega; done) | (intro hv; (try simp only [bls] at hv); (try simp only [bls]); omega) | (intro hg; (simp only [hg, Bool.true_and, true_and, implies_true]; try (intro hg2; simp only [hg2, Bool.not_false, Bool.not_true])); done)))
 all_goals first | omega | skip
 ·rw [hR, if_pos hb]; rfl
 ·rw [hR, if_neg (by omega)]; rfl
end Go.Proofs.YtgagpbbnbonnlaaDoor
