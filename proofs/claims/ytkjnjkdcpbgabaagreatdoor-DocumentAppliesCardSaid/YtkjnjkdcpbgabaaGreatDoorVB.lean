/-
 Chapter 23: the laws DocumentApplies, DocumentKeeps.
-/
import Derived.Test.YtkjnjkdcpbgabaaGreatDoorVA
import Derived.Test.YtkjnjkdcpbgabaaGreatDoorLift4
set_option linter.unusedSimpArgs false
set_option linter.unusedVariables false
namespace Go.Proofs.YtkjnjkdcpbgabaaGreatDoor
open Go.Eng Go.RowKit
theorem lawGo_err : ∀ (es : List Edt) (l : List It), (lawGo l es).2 ≠ 0 → (lawGo l es).1 = [] := by
 intro es
 induction es with
 | nil => intro l h; exact absurd rfl h
 | cons x r ih =>
  intro l
  rw [lawGo]
  split
  ·split
   ·exact fun _ => rfl
   ·exact ih _
  ·split
   ·exact fun _ => rfl
   ·split
    ·exact fun _ => rfl
    ·exact ih _
theorem lawGo_fits : ∀ (es : List Edt) (l : List It), LFits l → (∀ e ∈ es, e.it.Fits) → LFits (lawGo l es).1 := by
 intro es
 induction es with
 | nil => intro l h _; exact h
 | cons x r ih =>
  intro l h hx
  have he : LFits [] := ⟨by decide, fun y hy => by simp at hy⟩
  rw [lawGo]
  split
  ·split
   ·exact he
   ·exact ih _ (dropL_fits h _ _) fun e he => hx e (List.mem_cons_of_mem _ he)
  ·split
   ·exact he
   ·split
    ·exact he
    ·exact ih _ (lawPut_fits h (hx x (List.mem_cons_self ..)) (by omega)) fun e he => hx e (List.mem_cons_of_mem _ he)
set_option maxHeartbeats 16000000 in
set_option maxRecDepth 100000 in
theorem Applies_law (l : List It) (es : List Edt) (hl0 : es.length ≤ maxLen) : ACalls Tryz.prog 9 [.one (.list (itD l)), .one (.list (edtD es))] (.one (.bool true)) [] := by
 have k := known_c
 have f1 := few_c l
 rw [maxLen_eq] at hl0
 by_cases h1 : fewB l = true
 ·rw [h1] at f1
  have hf := fewB_fits h1
  have hl := hf.len
  have c1 := lawcheck_c l hf
  by_cases h2 : es.length ≤ 6
  ·by_cases h3 : chkL l = 0
   ·have g := (good_iff l).1 h3
    rw [h3] at c1
    (refine ACalls.of_body Ty_ok mixed Tryz.func9 rfl (by kernel_rfl) Tryz.ntmps9 (by simp) (congrArg Array.toList Tryz.results9) ?_)
    simp only [slotsOf]
    (repeat' (first | (with_reducible first | exact True.intro | refine And.intro ?_ ?_ | refine awp_block ?_ | ((first | refine awp_seq1 10 [] ?_ | refine awp_seq2 10 [] ?_ | refine awp_seq3 10 [] ?_ | refine awp_seq4 10 [] ?_ | refine awp_seq 10 [] ?_); intro K hK)) | ((with_reducible first | refine awp_reg ?_ | refine awp_exit ?_ | refine awp_skip ?_ | refine likeK_i ?_ | refine otWR_i ?_); simp only [go_sem]) | (with_reducible refine awp_ret ?_; simp only [retF, retM, retL, resV, resW, retO, resAV, AV.bor, D.bor, D.bor1, D.bor0, AV.flatOwn, D.flatOwn, D.flat, AV.tagged, D.tagged, AObj.plain, go_sem]) | ((with_reducible refine awp_cond' ?_ ?_ (fun hb => ?_) (fun hb => ?_)); (simp only [go_sem]); (simp only [go_sem]); all_goals (simp only [go_sem] at hb; try simp only [bls] at hb)) | ((iterate 6 try ((fail_if_success with_reducible refine hK _ ?_ ?_ ?_); clear hK K)); with_reducible refine hK _ ?_ ?_ ?_; rotate_left; (focus (simp only [go_sem]; exact rfl)); clear hK K) | ((first | (with_reducible first | refine cA k ?_ | refine cA f1 ?_ | refine cA c1 ?_ | refine cD k ?_ | refine cD f1 ?_ | refine cD c1 ?_ | refine cO k ?_ | refine cO f1 ?_ | refine cO c1 ?_ | refine cR k ?_ | refine cR f1 ?_ | refine cR c1 ?_ | refine cG (fun hg => k) ?_ | refine cG (fun hg => f1) ?_ | refine cG (fun hg => c1) ?_ | refine cH (fun hg => k) ?_ | refine cH (fun hg => f1) ?_ | refine cH (fun hg => c1) ?_ | refine cM (fun hg => k) ?_ | refine cM (fun hg => f1) ?_ | refine cM (fun hg => c1) ?_) | (guard_target = CallAt _ _ _ _ _ _ _ _ _ _; first | refine cA k ?_ | refine cA f1 ?_ | refine cA c1 ?_) | (guard_target = DCallAt _ _ _ _ _ _ _ _; first | refine cD k ?_ | refine cD f1 ?_ | refine cD c1 ?_) | (guard_target = GCallAt _ _ _ _ _ _ _ _ _ _ _; first | refine cG (fun hg => k) ?_ | refine cG (fun hg => f1) ?_ | refine cG (fun hg => c1) ?_)); simp only [go_sem]) | (with_reducible refine gsplit_i (fun hg0 => ?_) (fun hg0 => ?_) <;> first | (with_reducible first | exact absurd hg0 Bool.false_ne_true | exact absurd hg0.symm Bool.false_ne_true) | (simp only [hg0, go_sem])) | (with_reducible refine nilK_i ?_; intro bnil hnil; try simp only []) | (omega; done) | (intro hv; (try simp only [bls] at hv); (try simp only [bls]); omega) | (intro hg; (simp only [hg, Bool.true_and, true_and, implies_true]; try (intro hg2; simp only [hg2, Bool.not_false, Bool.not_true])); done)))
    all_goals first | omega | skip
    refine awp_loop _ (by simp only [go_sem]; rfl) Nat (fun k => k ≤ es.length ∧ ∀ e ∈ es.take k, fewI e.it = true) (fun k => [(5, .one (.int .i64 k))]) (fun _ H => H) (fun k => es.length - k) 0 ⟨by omega, by simp⟩ ?_ ?_
    ·(simp only [SubF, go_sem]; (try simp only [go_sem]); repeat' (first | exact True.intro | with_reducible refine And.intro ?_ ?_ | rfl | omega))
    rintro i ⟨hi, hres⟩ L hL
    have hq : ((i : Nat) : Int).toNat = i := by omega
    rcases (Decidable.em (i < es.length)) with hlt | hlt
    ·have hge := edtD_get hlt [.bool false, .int .i64 0, .str [], .nil, .int .i64 0, .nil, .nil, .nil, .nil, .int .i64 0]
     have f2 := few_c [(es.getD i Edt.no).it]
     have hstep : es.take (i + 1) = es.take i ++ [es.getD i Edt.no] := take_succ_getD es i Edt.no hlt
     rw [fewB_one, show itD [(es.getD i Edt.no).it] = [(es.getD i Edt.no).it.d] from rfl] at f2
     generalize es.getD i Edt.no = y at *
     have hres' : fewI y.it = true → ∀ e ∈ es.take (i + 1), fewI e.it = true := fun h e he => by
      rw [hstep] at he
      rcases List.mem_append.1 he with he | he
      ·exact hres e he
      ·rw [List.mem_singleton.1 he]; exact h
     generalize fewI y.it = fy at *
     simp only [Edt.d, It.d] at hge f2
     (simp only [go_sem] at hL ⊢)
     (repeat' (first | (with_reducible first | exact True.intro | refine And.intro ?_ ?_ | refine awp_block ?_ | ((first | refine awp_seq1 10 [] ?_ | refine awp_seq2 10 [] ?_ | refine awp_seq3 10 [] ?_ | refine awp_seq4 10 [] ?_ | refine awp_seq 10 [] ?_); intro K hK)) | ((with_reducible first | refine awp_reg ?_ | refine awp_exit ?_ | refine awp_skip ?_ | refine likeK_i ?_ | refine otWR_i ?_); simp only [hge, hq, go_sem]) | (with_reducible refine awp_ret ?_; simp only [retF, retM, retL, resV, resW, retO, resAV, AV.bor, D.bor, D.bor1, D.bor0, AV.flatOwn, D.flatOwn, D.flat, AV.tagged, D.tagged, AObj.plain, hge, hq, go_sem]) | ((with_reducible refine awp_cond' ?_ ?_ (fun hb => ?_) (fun hb => ?_)); (simp only [hge, hq, go_sem]); (simp only [hge, hq, go_sem]); all_goals (simp only [hge, hq, go_sem] at hb; try simp only [bls] at hb)) | ((iterate 6 try ((fail_if_success with_reducible refine hK _ ?_ ?_ ?_); clear hK K)); with_reducible refine hK _ ?_ ?_ ?_; rotate_left; (focus (simp only [hge, hq, go_sem]; exact rfl)); clear hK K) | ((first | (with_reducible first | refine cA f2 ?_ | refine cD f2 ?_ | refine cO f2 ?_ | refine cR f2 ?_ | refine cG (fun hg => f2) ?_ | refine cH (fun hg => f2) ?_ | refine cM (fun hg => f2) ?_) | (guard_target = CallAt _ _ _ _ _ _ _ _ _ _; refine cA f2 ?_) | (guard_target = DCallAt _ _ _ _ _ _ _ _; refine cD f2 ?_) | (guard_target = GCallAt _ _ _ _ _ _ _ _ _ _ _; refine cG (fun hg => f2) ?_)); simp only [hge, hq, go_sem]) | (with_reducible refine gsplit_i (fun hg0 => ?_) (fun hg0 => ?_) <;> first | (with_reducible first | exact absurd hg0 Bool.false_ne_true | exact absurd hg0.symm Bool.false_ne_true) | (simp only [hg0, hge, hq, go_sem])) | (with_reducible refine nilK_i ?_; intro bnil hnil; try simp only []) | (omega; done) | (intro hv; (try simp only [bls] at hv); (try simp only [bls]); omega) | (intro hg; (simp only [hg, Bool.true_and, true_and, implies_true]; try (intro hg2; simp only [hg2, Bool.not_false, Bool.not_true])); done)))
     all_goals first | omega | skip
     exact hL _ (i + 1) ⟨by omega, hres' (by assumption)⟩ (by (simp only [SubF, go_sem]; (try simp only [go_sem]); repeat' (first | exact True.intro | with_reducible refine And.intro ?_ ?_ | rfl | omega))) (by omega)
    have hik : i = es.length := by omega
    subst hik
    rw [List.take_length] at hres
    have hfe : ∀ e ∈ es, e.it.Fits := fun e he => fewI_fits (hres e he)
    have c2 := Apply_c l es hf (by omega) hfe
    have c3 := lawapply_c l es hf (by omega) hfe
    rw [show applyR l es = lawGo l es by rw [applyR, if_neg (by rw [h3]; decide), apply_law es l g]] at c2
    have hgf := lawGo_fits es l hf hfe
    have c4 := sameAll_c (lawGo l es).1 (lawGo l es).1 hgf
    have hge := lawGo_err es l
    rw [decide_eq_true rfl] at c4
    generalize lawGo l es = r at *
    by_cases h5 : r.2 = 0
    ·rw [h5] at c2 c3
     (simp only [go_sem] at hL ⊢)
     (repeat' (first | (with_reducible first | exact True.intro | refine And.intro ?_ ?_ | refine awp_block ?_ | ((first | refine awp_seq1 10 [] ?_ | refine awp_seq2 10 [] ?_ | refine awp_seq3 10 [] ?_ | refine awp_seq4 10 [] ?_ | refine awp_seq 10 [] ?_); intro K hK)) | ((with_reducible first | refine awp_reg ?_ | refine awp_exit ?_ | refine awp_skip ?_ | refine likeK_i ?_ | refine otWR_i ?_); simp only [go_sem]) | (with_reducible refine awp_ret ?_; simp only [retF, retM, retL, resV, resW, retO, resAV, AV.bor, D.bor, D.bor1, D.bor0, AV.flatOwn, D.flatOwn, D.flat, AV.tagged, D.tagged, AObj.plain, go_sem]) | ((with_reducible refine awp_cond' ?_ ?_ (fun hb => ?_) (fun hb => ?_)); (simp only [go_sem]); (simp only [go_sem]); all_goals (simp only [go_sem] at hb; try simp only [bls] at hb)) | ((iterate 6 try ((fail_if_success with_reducible refine hK _ ?_ ?_ ?_); clear hK K)); with_reducible refine hK _ ?_ ?_ ?_; rotate_left; (focus (simp only [go_sem]; exact rfl)); clear hK K) | ((first | (with_reducible first | refine cA c2 ?_ | refine cA c3 ?_ | refine cA c4 ?_ | refine cD c2 ?_ | refine cD c3 ?_ | refine cD c4 ?_ | refine cO c2 ?_ | refine cO c3 ?_ | refine cO c4 ?_ | refine cR c2 ?_ | refine cR c3 ?_ | refine cR c4 ?_ | refine cG (fun hg => c2) ?_ | refine cG (fun hg => c3) ?_ | refine cG (fun hg => c4) ?_ | refine cH (fun hg => c2) ?_ | refine cH (fun hg => c3) ?_ | refine cH (fun hg => c4) ?_ | refine cM (fun hg => c2) ?_ | refine cM (fun hg => c3) ?_ | refine cM (fun hg => c4) ?_) | (guard_target = CallAt _ _ _ _ _ _ _ _ _ _; first | refine cA c2 ?_ | refine cA c3 ?_ | refine cA c4 ?_) | (guard_target = DCallAt _ _ _ _ _ _ _ _; first | refine cD c2 ?_ | refine cD c3 ?_ | refine cD c4 ?_) | (guard_target = GCallAt _ _ _ _ _ _ _ _ _ _ _; first | refine cG (fun hg => c2) ?_ | refine cG (fun hg => c3) ?_ | refine cG (fun hg => c4) ?_)); simp only [go_sem]) | (with_reducible refine gsplit_i (fun hg0 => ?_) (fun hg0 => ?_) <;> first | (with_reducible first | exact absurd hg0 Bool.false_ne_true | exact absurd hg0.symm Bool.false_ne_true) | (simp only [hg0, go_sem])) | (with_reducible refine nilK_i ?_; intro bnil hnil; try simp only []) | (omega; done) | (intro hv; (try simp only [bls] at hv); (try simp only [bls]); omega) | (intro hg; (simp only [hg, Bool.true_and, true_and, implies_true]; try (intro hg2; simp only [hg2, Bool.not_false, Bool.not_true])); done)))
     all_goals first | omega | skip
    ·have h5' : (r.2 == 0) = false := by simpa using h5
     rw [hge h5, show itD [] = [] from rfl] at c2 c3
     generalize r.2 = e at *
     (simp only [go_sem] at hL ⊢)
     (repeat' (first | (with_reducible first | exact True.intro | refine And.intro ?_ ?_ | refine awp_block ?_ | ((first | refine awp_seq1 10 [] ?_ | refine awp_seq2 10 [] ?_ | refine awp_seq3 10 [] ?_ | refine awp_seq4 10 [] ?_ | refine awp_seq 10 [] ?_); intro K hK)) | ((with_reducible first | refine awp_reg ?_ | refine awp_exit ?_ | refine awp_skip ?_ | refine likeK_i ?_ | refine otWR_i ?_); simp only [h5', go_sem]) | (with_reducible refine awp_ret ?_; simp only [retF, retM, retL, resV, resW, retO, resAV, AV.bor, D.bor, D.bor1, D.bor0, AV.flatOwn, D.flatOwn, D.flat, AV.tagged, D.tagged, AObj.plain, h5', go_sem]) | ((with_reducible refine awp_cond' ?_ ?_ (fun hb => ?_) (fun hb => ?_)); (simp only [h5', go_sem]); (simp only [h5', go_sem]); all_goals (simp only [h5', go_sem] at hb; try simp only [bls] at hb)) | ((iterate 6 try ((fail_if_success with_reducible refine hK _ ?_ ?_ ?_); clear hK K)); with_reducible refine hK _ ?_ ?_ ?_; rotate_left; (focus (simp only [h5', go_sem]; exact rfl)); clear hK K) | ((first | (with_reducible first | refine cA c2 ?_ | refine cA c3 ?_ | refine cD c2 ?_ | refine cD c3 ?_ | refine cO c2 ?_ | refine cO c3 ?_ | refine cR c2 ?_ | refine cR c3 ?_ | refine cG (fun hg => c2) ?_ | refine cG (fun hg => c3) ?_ | refine cH (fun hg => c2) ?_ | refine cH (fun hg => c3) ?_ | refine cM (fun hg => c2) ?_ | refine cM (fun hg => c3) ?_) | (guard_target = CallAt _ _ _ _ _ _ _ _ _ _; first | refine cA c2 ?_ | refine cA c3 ?_) | (guard_target = DCallAt _ _ _ _ _ _ _ _; first | refine cD c2 ?_ | refine cD c3 ?_) | (guard_target = GCallAt _ _ _ _ _ _ _ _ _ _ _; first | refine cG (fun hg => c2) ?_ | refine cG (fun hg => c3) ?_)); simp only [h5', go_sem]) | (with_reducible refine gsplit_i (fun hg0 => ?_) (fun hg0 => ?_) <;> first | (with_reducible first | exact absurd hg0 Bool.false_ne_true | exact absurd hg0.symm Bool.false_ne_true) | (simp only [hg0, h5', go_sem])) | (with_reducible refine nilK_i ?_; intro bnil hnil; try simp only []) | (omega; done) | (intro hv; (try simp only [bls] at hv); (try simp only [bls]); omega) | (intro hg; (simp only [hg, Bool.true_and, true_and, implies_true]; try (intro hg2; simp only [hg2, Bool.not_false, Bool.not_true])); done)))
     all_goals first | omega | skip
   ·have h3' : (chkL l == 0) = false := by simpa using h3
    generalize chkL l = e at *
    (refine ACalls.of_body Ty_ok mixed Tryz.func9 rfl (by kernel_rfl) Tryz.ntmps9 (by simp) (congrArg Array.toList Tryz.results9) ?_)
    simp only [slotsOf]
    (repeat' (first | (with_reducible first | exact True.intro | refine And.intro ?_ ?_ | refine awp_block ?_ | ((first | refine awp_seq1 10 [] ?_ | refine awp_seq2 10 [] ?_ | refine awp_seq3 10 [] ?_ | refine awp_seq4 10 [] ?_ | refine awp_seq 10 [] ?_); intro K hK)) | ((with_reducible first | refine awp_reg ?_ | refine awp_exit ?_ | refine awp_skip ?_ | refine likeK_i ?_ | refine otWR_i ?_); simp only [h3', go_sem]) | (with_reducible refine awp_ret ?_; simp only [retF, retM, retL, resV, resW, retO, resAV, AV.bor, D.bor, D.bor1, D.bor0, AV.flatOwn, D.flatOwn, D.flat, AV.tagged, D.tagged, AObj.plain, h3', go_sem]) | ((with_reducible refine awp_cond' ?_ ?_ (fun hb => ?_) (fun hb => ?_)); (simp only [h3', go_sem]); (simp only [h3', go_sem]); all_goals (simp only [h3', go_sem] at hb; try simp only [bls] at hb)) | ((iterate 6 try ((fail_if_success with_reducible refine hK _ ?_ ?_ ?_); clear hK K)); with_reducible refine hK _ ?_ ?_ ?_; rotate_left; (focus (simp only [h3', go_sem]; exact rfl)); clear hK K) | ((first | (with_reducible first | refine cA k ?_ | refine cA f1 ?_ | refine cA c1 ?_ | refine cD k ?_ | refine cD f1 ?_ | refine cD c1 ?_ | refine cO k ?_ | refine cO f1 ?_ | refine cO c1 ?_ | refine cR k ?_ | refine cR f1 ?_ | refine cR c1 ?_ | refine cG (fun hg => k) ?_ | refine cG (fun hg => f1) ?_ | refine cG (fun hg => c1) ?_ | refine cH (fun hg => k) ?_ | refine cH (fun hg => f1) ?_ | refine cH (fun hg => c1) ?_ | refine cM (fun hg => k) ?_ | refine cM (fun hg => f1) ?_ | refine cM (fun hg => c1) ?_) | (guard_target = CallAt _ _ _ _ _ _ _ _ _ _; first | refine cA k ?_ | refine cA f1 ?_ | refine cA c1 ?_) | (guard_target = DCallAt _ _ _ _ _ _ _ _; first | refine cD k ?_ | refine cD f1 ?_ | refine cD c1 ?_) | (guard_target = GCallAt _ _ _ _ _ _ _ _ _ _ _; first | refine cG (fun hg => k) ?_ | refine cG (fun hg => f1) ?_ | refine cG (fun hg => c1) ?_)); simp only [h3', go_sem]) | (with_reducible refine gsplit_i (fun hg0 => ?_) (fun hg0 => ?_) <;> first | (with_reducible first | exact absurd hg0 Bool.false_ne_true | exact absurd hg0.symm Bool.false_ne_true) | (simp only [hg0, h3', go_sem])) | (with_reducible refine nilK_i ?_; intro bnil hnil; try simp only []) | (omega; done) | (intro hv; (try simp only [bls] at hv); (try simp only [bls]); omega) | (intro hg; (simp only [hg, Bool.true_and, true_and, implies_true]; try (intro hg2; simp only [hg2, Bool.not_false, Bool.not_true])); done)))
    all_goals first | omega | skip
  ·have h2' : decide ((6 : Int) < (es.length : Int)) = true := decide_eq_true (by omega)
   (refine ACalls.of_body Ty_ok mixed Tryz.func9 rfl (by kernel_rfl) Tryz.ntmps9 (by simp) (congrArg Array.toList Tryz.results9) ?_)
   simp only [slotsOf]
   (repeat' (first | (with_reducible first | exact True.intro | refine And.intro ?_ ?_ | refine awp_block ?_ | ((first | refine awp_seq1 10 [] ?_ | refine awp_seq2 10 [] ?_ | refine awp_seq3 10 [] ?_ | refine awp_seq4 10 [] ?_ | refine awp_seq 10 [] ?_); intro K hK)) | ((with_reducible first | refine awp_reg ?_ | refine awp_exit ?_ | refine awp_skip ?_ | refine likeK_i ?_ | refine otWR_i ?_); simp only [h2', go_sem]) | (with_reducible refine awp_ret ?_; simp only [retF, retM, retL, resV, resW, retO, resAV, AV.bor, D.bor, D.bor1, D.bor0, AV.flatOwn, D.flatOwn, D.flat, AV.tagged, D.tagged, AObj.plain, h2', go_sem]) | ((with_reducible refine awp_cond' ?_ ?_ (fun hb => ?_) (fun hb => ?_)); (simp only [h2', go_sem]); (simp only [h2', go_sem]); all_goals (simp only [h2', go_sem] at hb; try simp only [bls] at hb)) | ((iterate 6 try ((fail_if_success with_reducible refine hK _ ?_ ?_ ?_); clear hK K)); with_reducible refine hK _ ?_ ?_ ?_; rotate_left; (focus (simp only [h2', go_sem]; exact rfl)); clear hK K) | ((first | (with_reducible first | refine cA k ?_ | refine cA f1 ?_ | refine cA c1 ?_ | refine cD k ?_ | refine cD f1 ?_ | refine cD c1 ?_ | refine cO k ?_ | refine cO f1 ?_ | refine cO c1 ?_ | refine cR k ?_ | refine cR f1 ?_ | refine cR c1 ?_ | refine cG (fun hg => k) ?_ | refine cG (fun hg => f1) ?_ | refine cG (fun hg => c1) ?_ | refine cH (fun hg => k) ?_ | refine cH (fun hg => f1) ?_ | refine cH (fun hg => c1) ?_ | refine cM (fun hg => k) ?_ | refine cM (fun hg => f1) ?_ | refine cM (fun hg => c1) ?_) | (guard_target = CallAt _ _ _ _ _ _ _ _ _ _; first | refine cA k ?_ | refine cA f1 ?_ | refine cA c1 ?_) | (guard_target = DCallAt _ _ _ _ _ _ _ _; first | refine cD k ?_ | refine cD f1 ?_ | refine cD c1 ?_) | (guard_target = GCallAt _ _ _ _ _ _ _ _ _ _ _; first | refine cG (fun hg => k) ?_ | refine cG (fun hg => f1) ?_ | refine cG (fun hg => c1) ?_)); simp only [h2', go_sem]) | (with_reducible refine gsplit_i (fun hg0 => ?_) (fun hg0 => ?_) <;> first | (with_reducible first | exact absurd hg0 Bool.false_ne_true | exact absurd hg0.symm Bool.false_ne_true) | (simp only [hg0, h2', go_sem])) | (with_reducible refine nilK_i ?_; intro bnil hnil; try simp only []) | (omega; done) | (intro hv; (try simp only [bls] at hv); (try simp only [bls]); omega) | (intro hg; (simp only [hg, Bool.true_and, true_and, implies_true]; try (intro hg2; simp only [hg2, Bool.not_false, Bool.not_true])); done)))
   all_goals first | omega | skip
 ·rw [Bool.eq_false_iff.2 h1] at f1
  have hE0 : False → ACalls Tryz.prog 14 [.one (.list (itD l))] (.one (.int .i64 0)) [] := fun h => h.elim
  (refine ACalls.of_body Ty_ok mixed Tryz.func9 rfl (by kernel_rfl) Tryz.ntmps9 (by simp) (congrArg Array.toList Tryz.results9) ?_)
  simp only [slotsOf]
  (repeat' (first | (with_reducible first | exact True.intro | refine And.intro ?_ ?_ | refine awp_block ?_ | ((first | refine awp_seq1 10 [] ?_ | refine awp_seq2 10 [] ?_ | refine awp_seq3 10 [] ?_ | refine awp_seq4 10 [] ?_ | refine awp_seq 10 [] ?_); intro K hK)) | ((with_reducible first | refine awp_reg ?_ | refine awp_exit ?_ | refine awp_skip ?_ | refine likeK_i ?_ | refine otWR_i ?_); simp only [go_sem]) | (with_reducible refine awp_ret ?_; simp only [retF, retM, retL, resV, resW, retO, resAV, AV.bor, D.bor, D.bor1, D.bor0, AV.flatOwn, D.flatOwn, D.flat, AV.tagged, D.tagged, AObj.plain, go_sem]) | ((with_reducible refine awp_cond' ?_ ?_ (fun hb => ?_) (fun hb => ?_)); (simp only [go_sem]); (simp only [go_sem]); all_goals (simp only [go_sem] at hb; try simp only [bls] at hb)) | ((iterate 6 try ((fail_if_success with_reducible refine hK _ ?_ ?_ ?_); clear hK K)); with_reducible refine hK _ ?_ ?_ ?_; rotate_left; (focus (simp only [go_sem]; exact rfl)); clear hK K) | ((first | (with_reducible first | refine cA k ?_ | refine cA f1 ?_ | refine cA (hE0 (by simp at hg)) ?_ | refine cD k ?_ | refine cD f1 ?_ | refine cD (hE0 (by simp at hg)) ?_ | refine cO k ?_ | refine cO f1 ?_ | refine cO (hE0 (by simp at hg)) ?_ | refine cR k ?_ | refine cR f1 ?_ | refine cR (hE0 (by simp at hg)) ?_ | refine cG (fun hg => k) ?_ | refine cG (fun hg => f1) ?_ | refine cG (fun hg => (hE0 (by simp at hg))) ?_ | refine cH (fun hg => k) ?_ | refine cH (fun hg => f1) ?_ | refine cH (fun hg => (hE0 (by simp at hg))) ?_ | refine cM (fun hg => k) ?_ | refine cM (fun hg => f1) ?_ | refine cM (fun hg => (hE0 (by simp at hg))) ?_) | (guard_target = CallAt _ _ _ _ _ _ _ _ _ _; first | refine cA k ?_ | refine cA f1 ?_ | refine cA (hE0 (by simp at hg)) ?_) | (guard_target = DCallAt _ _ _ _ _ _ _ _; first | refine cD k ?_ | refine cD f1 ?_ | refine cD (hE0 (by simp at hg)) ?_) | (guard_target = GCallAt _ _ _ _ _ _ _ _ _ _ _; first | refine cG (fun hg => k) ?_ | refine cG (fun hg => f1) ?_ | refine cG (fun hg => (hE0 (by simp at hg))) ?_)); simp only [go_sem]) | (with_reducible refine gsplit_i (fun hg0 => ?_) (fun hg0 => ?_) <;> first | (with_reducible first | exact absurd hg0 Bool.false_ne_true | exact absurd hg0.symm Bool.false_ne_true) | (simp only [hg0, go_sem])) | (with_reducible refine nilK_i ?_; intro bnil hnil; try simp only []) | (omega; done) | (intro hv; (try simp only [bls] at hv); (try simp only [bls]); omega) | (intro hg; (simp only [hg, Bool.true_and, true_and, implies_true]; try (intro hg2; simp only [hg2, Bool.not_false, Bool.not_true])); done)))
  all_goals first | omega | skip
end Go.Proofs.YtkjnjkdcpbgabaaGreatDoor
