/-
 Contracts: Run.
-/
import Derived.Test.YtjldfifepbdlmaaDoorSB
set_option linter.unusedSimpArgs false
set_option linter.unusedVariables false
namespace Go.Proofs.YtjldfifepbdlmaaDoor
open Go.Eng Go.RowKit
def outB (n : Net) (t : Int) : Bool := decide (t < 0) || decide ((n.trs.length : Int) ≤ t)
set_option maxHeartbeats 8000000 in
theorem run1_c (n : Net) (t : Int) : ACalls Tryd.prog 45 [.one (.int .i64 t), .one (.ref n.d)] (.one (.bool (outB n t))) [] := by
 (refine ACalls.of_body Ty_ok mixed Tryd.func45 rfl (by kernel_rfl) Tryd.ntmps45 (by simp) (congrArg Array.toList Tryd.results45) ?_)
 simp only [slotsOf, Net.d]
 (repeat' (first | (with_reducible first | exact True.intro | refine And.intro ?_ ?_ | refine awp_block ?_ | ((first | refine awp_seq1 4 [] ?_ | refine awp_seq2 4 [] ?_ | refine awp_seq3 4 [] ?_ | refine awp_seq4 4 [] ?_ | refine awp_seq 4 [] ?_); intro K hK)) | ((with_reducible first | refine awp_reg ?_ | refine awp_exit ?_ | refine awp_skip ?_ | refine likeK_i ?_ | refine otWR_i ?_); simp only [go_sem]) | (with_reducible refine awp_ret ?_; simp only [retF, retM, retL, resV, resW, retO, resAV, AV.bor, D.bor, D.bor1, D.bor0, AV.flatOwn, D.flatOwn, D.flat, AV.tagged, D.tagged, AObj.plain, go_sem]) | ((with_reducible refine awp_cond' ?_ ?_ (fun hb => ?_) (fun hb => ?_)); (simp only [go_sem]); (simp only [go_sem]); all_goals (simp only [go_sem] at hb; try simp only [bls] at hb)) | ((iterate 6 try ((fail_if_success with_reducible refine hK _ ?_ ?_ ?_); clear hK K)); with_reducible refine hK _ ?_ ?_ ?_; rotate_left; (focus (simp only [go_sem]; exact rfl)); clear hK K) | (with_reducible refine gsplit_i (fun hg0 => ?_) (fun hg0 => ?_) <;> first | (with_reducible first | exact absurd hg0 Bool.false_ne_true | exact absurd hg0.symm Bool.false_ne_true) | (simp only [hg0, go_sem])) | (with_reducible refine nilK_i ?_; intro bnil hnil; try simp only []) | (omega; done) | (intro hv; (try simp only [bls] at hv); (try simp only [bls]); omega) | (intro hg; (simp only [hg, Bool.true_and, true_and, implies_true]; try (intro hg2; simp only [hg2, Bool.not_false, Bool.not_true])); done)))
 all_goals first | omega | skip
 all_goals simp [outB]
def runF (n : Net) : List Int → List Int → Int → List Int × Int × Int
 | [], m, i => (m, i, 0)
 | t :: ts, m, i => if enB m (n.trs.getD t.toNat Tr.no) = false then (m, i, 0) else if firedE (n.trs.getD t.toNat Tr.no) m ≠ 0 then ([], 0, firedE (n.trs.getD t.toNat Tr.no) m) else runF n ts (firedL (n.trs.getD t.toNat Tr.no) m) (i + 1)
def runX (n : Net) (l : List Int) : List Int × Int × Int := if netE n ≠ 0 then ([], 0, netE n) else if l.any (outB n) = true then ([], 0, 2) else runF n l n.init 0
theorem any_tokF {l : List Int} (h : l.any tokB = false) : ∀ x ∈ l, 0 ≤ x ∧ x ≤ 65536 := fun x hx => by
 rw [List.any_eq_false] at h
 have := h x hx
 simp only [tokB, Bool.or_eq_true, decide_eq_true_eq] at this
 omega
set_option maxHeartbeats 8000000 in
theorem Run_c (n : Net) (l : List Int) (hf : n.Fits) (hl : l.length ≤ 1000000) :
  ACalls Tryd.prog 23 [.agg n.d, .one (.list (ints l))] (.tup [.one (.list (ints (runX n l).1)), .one (.int .i64 (runX n l).2.1), .one (.int .i64 (runX n l).2.2)]) [] := by
 have h1 := netCheck_c n hf
 by_cases hE : netE n = 0
 ·have hno := netOk_of hE
  have hi10 := hno.init
  have hC := ACalls.frozen (CloneInts_c n.init hf.init)
  have h2 := ContainsFuncInts_c l 45 [.ref n.d] (outB n) hl (capsOk_ref1 _) (fun e _ => run1_c n e)
  rw [hE] at h1
  by_cases ho : l.any (outB n) = true
  ·have e : runX n l = ([], 0, 2) := by rw [runX, if_neg (by omega), if_pos ho]
   rw [e]
   rw [ho] at h2
   simp only [Net.d] at h1 h2
   (refine ACalls.of_body Ty_ok mixed Tryd.func23 rfl (by kernel_rfl) Tryd.ntmps23 (by simp) (congrArg Array.toList Tryd.results23) ?_)
   simp only [slotsOf, Net.d]
   (repeat' (first | (with_reducible first | exact True.intro | refine And.intro ?_ ?_ | refine awp_block ?_ | ((first | refine awp_seq1 9 [21, 20, 22] ?_ | refine awp_seq2 9 [21, 20, 22] ?_ | refine awp_seq3 9 [21, 20, 22] ?_ | refine awp_seq4 9 [21, 20, 22] ?_ | refine awp_seq 9 [21, 20, 22] ?_); intro K hK)) | ((with_reducible first | refine awp_reg ?_ | refine awp_exit ?_ | refine awp_skip ?_ | refine likeK_i ?_ | refine otWR_i ?_); simp only [go_sem]) | (with_reducible refine awp_ret ?_; simp only [retF, retM, retL, resV, resW, retO, resAV, AV.bor, D.bor, D.bor1, D.bor0, AV.flatOwn, D.flatOwn, D.flat, AV.tagged, D.tagged, AObj.plain, go_sem]) | ((with_reducible refine awp_cond' ?_ ?_ (fun hb => ?_) (fun hb => ?_)); (simp only [go_sem]); (simp only [go_sem]); all_goals (simp only [go_sem] at hb; try simp only [bls] at hb)) | ((iterate 6 try ((fail_if_success with_reducible refine hK _ ?_ ?_ ?_); clear hK K)); with_reducible refine hK _ ?_ ?_ ?_; rotate_left; (focus (simp only [go_sem]; exact rfl)); clear hK K) | ((first | (with_reducible first | refine cA h1 ?_ | refine cA h2 ?_ | refine cD h1 ?_ | refine cD h2 ?_ | refine cO h1 ?_ | refine cO h2 ?_ | refine cR h1 ?_ | refine cR h2 ?_ | refine cG (fun hg => h1) ?_ | refine cG (fun hg => h2) ?_ | refine cH (fun hg => h1) ?_ | refine cH (fun hg => h2) ?_ | refine cM (fun hg => h1) ?_ | refine cM (fun hg => h2) ?_) | (guard_target = CallAt _ _ _ _ _ _ _ _ _ _; first | refine cA h1 ?_ | refine cA h2 ?_) | (guard_target = DCallAt _ _ _ _ _ _ _ _; first | refine cD h1 ?_ | refine cD h2 ?_) | (guard_target = GCallAt _ _ _ _ _ _ _ _ _ _ _; first | refine cG (fun hg => h1) ?_ | refine cG (fun hg => h2) ?_)); simp only [go_sem]) | (with_reducible refine gsplit_i (fun hg0 => ?_) (fun hg0 => ?_) <;> first | (with_reducible first | exact absurd hg0 Bool.false_ne_true | exact absurd hg0.symm Bool.false_ne_true) | (simp only [hg0, go_sem])) | (with_reducible refine nilK_i ?_; intro bnil hnil; try simp only []) | (omega; done) | (intro hv; (try simp only [bls] at hv); (try simp only [bls]); omega) | (intro hg; (simp only [hg, Bool.true_and, true_and, implies_true]; try (intro hg2; simp only [hg2, Bool.not_false, Bool.not_true])); done)))
   all_goals first | omega | rfl | skip
  ·have e : runX n l = runF n l n.init 0 := by rw [runX, if_neg (by omega), if_neg ho]
   have ho2 : l.any (outB n) = false := by simpa using ho
   have hin : ∀ t ∈ l, 0 ≤ t ∧ t < n.trs.length := fun t ht => by
    rw [List.any_eq_false] at ho2
    have := ho2 t ht
    simp only [outB, Bool.or_eq_true, decide_eq_true_eq] at this
    omega
   rw [e]
   rw [ho2] at h2
   generalize hR : runF n l n.init 0 = R
   simp only [Net.d] at h1 h2
   (refine ACalls.of_body Ty_ok mixed Tryd.func23 rfl (by kernel_rfl) Tryd.ntmps23 (by simp) (congrArg Array.toList Tryd.results23) ?_)
   simp only [slotsOf, Net.d]
   (repeat' (first | (with_reducible first | exact True.intro | refine And.intro ?_ ?_ | refine awp_block ?_ | ((first | refine awp_seq1 9 [21, 20, 22] ?_ | refine awp_seq2 9 [21, 20, 22] ?_ | refine awp_seq3 9 [21, 20, 22] ?_ | refine awp_seq4 9 [21, 20, 22] ?_ | refine awp_seq 9 [21, 20, 22] ?_); intro K hK)) | ((with_reducible first | refine awp_reg ?_ | refine awp_exit ?_ | refine awp_skip ?_ | refine likeK_i ?_ | refine otWR_i ?_); simp only [go_sem]) | (with_reducible refine awp_ret ?_; simp only [retF, retM, retL, resV, resW, retO, resAV, AV.bor, D.bor, D.bor1, D.bor0, AV.flatOwn, D.flatOwn, D.flat, AV.tagged, D.tagged, AObj.plain, go_sem]) | ((with_reducible refine awp_cond' ?_ ?_ (fun hb => ?_) (fun hb => ?_)); (simp only [go_sem]); (simp only [go_sem]); all_goals (simp only [go_sem] at hb; try simp only [bls] at hb)) | ((iterate 6 try ((fail_if_success with_reducible refine hK _ ?_ ?_ ?_); clear hK K)); with_reducible refine hK _ ?_ ?_ ?_; rotate_left; (focus (simp only [go_sem]; exact rfl)); clear hK K) | ((first | (with_reducible first | refine cA h1 ?_ | refine cA h2 ?_ | refine cA hC ?_ | refine cD h1 ?_ | refine cD h2 ?_ | refine cD hC ?_ | refine cO h1 ?_ | refine cO h2 ?_ | refine cO hC ?_ | refine cR h1 ?_ | refine cR h2 ?_ | refine cR hC ?_ | refine cG (fun hg => h1) ?_ | refine cG (fun hg => h2) ?_ | refine cG (fun hg => hC) ?_ | refine cH (fun hg => h1) ?_ | refine cH (fun hg => h2) ?_ | refine cH (fun hg => hC) ?_ | refine cM (fun hg => h1) ?_ | refine cM (fun hg => h2) ?_ | refine cM (fun hg => hC) ?_) | (guard_target = CallAt _ _ _ _ _ _ _ _ _ _; first | refine cA h1 ?_ | refine cA h2 ?_ | refine cA hC ?_) | (guard_target = DCallAt _ _ _ _ _ _ _ _; first | refine cD h1 ?_ | refine cD h2 ?_ | refine cD hC ?_) | (guard_target = GCallAt _ _ _ _ _ _ _ _ _ _ _; first | refine cG (fun hg => h1) ?_ | refine cG (fun hg => h2) ?_ | refine cG (fun hg => hC) ?_)); simp only [go_sem]) | (with_reducible refine gsplit_i (fun hg0 => ?_) (fun hg0 => ?_) <;> first | (with_reducible first | exact absurd hg0 Bool.false_ne_true | exact absurd hg0.symm Bool.false_ne_true) | (simp only [hg0, go_sem])) | (with_reducible refine nilK_i ?_; intro bnil hnil; try simp only []) | (omega; done) | (intro hv; (try simp only [bls] at hv); (try simp only [bls]); omega) | (intro hg; (simp only [hg, Bool.true_and, true_and, implies_true]; try (intro hg2; simp only [hg2, Bool.not_false, Bool.not_true])); done)))
   all_goals first | omega | skip
   refine awp_loop _ (by simp only [go_sem]; rfl) (Nat × List Int) (fun s => s.1 ≤ l.length ∧ s.2.length = n.init.length ∧ (∀ x ∈ s.2, 0 ≤ x ∧ x ≤ 65536) ∧ R = runF n (l.drop s.1) s.2 s.1) (fun s => [(4, .one (.list (ints s.2))), (22, .one (.int .i64 s.1))]) (fun _ H => H) (fun s => l.length - s.1) (0, n.init) ⟨by omega, rfl, hno.tok, by rw [← hR]; rfl⟩ ?_ ?_
   ·(simp only [SubF, go_sem]; (try simp only [go_sem]); repeat' (first | exact True.intro | with_reducible refine And.intro ?_ ?_ | rfl | omega))
   rintro ⟨k, m⟩ ⟨hk, hml, hmt, hres⟩ L hL
   simp only at hk hml hmt hres
   have hq : ((k : Nat) : Int).toNat = k := by omega
   by_cases hkl : k < l.length
   ·have ht := hin _ (getD_mem l k 0 hkl)
    rw [drop_getD l k 0 hkl, runF] at hres
    have a1 := ints_at (l := l) (k := k) hkl
    generalize htd : l.getD k 0 = t at *
    have hlt : t.toNat < n.trs.length := by omega
    have hg := trs_get hlt [.int .i64 0, .nil, .nil]
    have hg2 := trs_get hlt []
    have hi1 := hno.inn _ (getD_mem n.trs t.toNat Tr.no hlt)
    have hi2 := hno.out _ (getD_mem n.trs t.toNat Tr.no hlt)
    generalize n.trs.getD t.toNat Tr.no = x at *
    have hen := enabled_c m x (by rw [hml]; exact hi1) (by omega)
    have hfi := fired_c m x (by rw [hml]; exact hi1) (by rw [hml]; exact hi2) (by omega) ⟨fun y hy => by have := hmt y hy; omega⟩
    have hfl := firedL_length x m
    simp only [Tr.d] at hen hfi
    cases hE1 : enB m x
    ·rw [hE1, if_pos rfl] at hres
     rw [hE1] at hen
     subst hres
     (simp only [go_sem] at hL ⊢)
     (repeat' (first | (with_reducible first | exact True.intro | refine And.intro ?_ ?_ | refine awp_block ?_ | ((first | refine awp_seq1 9 [21, 20, 22] ?_ | refine awp_seq2 9 [21, 20, 22] ?_ | refine awp_seq3 9 [21, 20, 22] ?_ | refine awp_seq4 9 [21, 20, 22] ?_ | refine awp_seq 9 [21, 20, 22] ?_); intro K hK)) | ((with_reducible first | refine awp_reg ?_ | refine awp_exit ?_ | refine awp_skip ?_ | refine likeK_i ?_ | refine otWR_i ?_); simp only [hq, htd, a1, hg, hg2, go_sem]) | (with_reducible refine awp_ret ?_; simp only [retF, retM, retL, resV, resW, retO, resAV, AV.bor, D.bor, D.bor1, D.bor0, AV.flatOwn, D.flatOwn, D.flat, AV.tagged, D.tagged, AObj.plain, hq, htd, a1, hg, hg2, go_sem]) | ((with_reducible refine awp_cond' ?_ ?_ (fun hb => ?_) (fun hb => ?_)); (simp only [hq, htd, a1, hg, hg2, go_sem]); (simp only [hq, htd, a1, hg, hg2, go_sem]); all_goals (simp only [hq, htd, a1, hg, hg2, go_sem] at hb; try simp only [bls] at hb)) | ((iterate 6 try ((fail_if_success with_reducible refine hK _ ?_ ?_ ?_); clear hK K)); with_reducible refine hK _ ?_ ?_ ?_; rotate_left; (focus (simp only [hq, htd, a1, hg, hg2, go_sem]; exact rfl)); clear hK K) | ((first | (with_reducible first | refine cA hen ?_ | refine cA hfi ?_ | refine cD hen ?_ | refine cD hfi ?_ | refine cO hen ?_ | refine cO hfi ?_ | refine cR hen ?_ | refine cR hfi ?_ | refine cG (fun hg => hen) ?_ | refine cG (fun hg => hfi) ?_ | refine cH (fun hg => hen) ?_ | refine cH (fun hg => hfi) ?_ | refine cM (fun hg => hen) ?_ | refine cM (fun hg => hfi) ?_) | (guard_target = CallAt _ _ _ _ _ _ _ _ _ _; first | refine cA hen ?_ | refine cA hfi ?_) | (guard_target = DCallAt _ _ _ _ _ _ _ _; first | refine cD hen ?_ | refine cD hfi ?_) | (guard_target = GCallAt _ _ _ _ _ _ _ _ _ _ _; first | refine cG (fun hg => hen) ?_ | refine cG (fun hg => hfi) ?_)); simp only [hq, htd, a1, hg, hg2, go_sem]) | (with_reducible refine gsplit_i (fun hg0 => ?_) (fun hg0 => ?_) <;> first | (with_reducible first | exact absurd hg0 Bool.false_ne_true | exact absurd hg0.symm Bool.false_ne_true) | (simp only [hg0, hq, htd, a1, hg, hg2, go_sem])) | (with_reducible refine nilK_i ?_; intro bnil hnil; try simp only []) | (omega; done) | (intro hv; (try simp only [bls] at hv); (try simp only [bls]); omega) | (intro hg; (simp only [hg, Bool.true_and, true_and, implies_true]; try (intro hg2; simp only [hg2, Bool.not_false, Bool.not_true])); done)))
     all_goals first | omega | skip
    ·rw [hE1, if_neg (by decide)] at hres
     rw [hE1] at hen
     by_cases ha : (firedL x m).any tokB = true
     ·rw [firedE, if_pos ha, if_pos (by decide)] at hres
      rw [firedE, if_pos ha, firedR, if_pos ha] at hfi
      subst hres
      (simp only [go_sem] at hL ⊢)
      (repeat' (first | (with_reducible first | exact True.intro | refine And.intro ?_ ?_ | refine awp_block ?_ | ((first | refine awp_seq1 9 [21, 20, 22] ?_ | refine awp_seq2 9 [21, 20, 22] ?_ | refine awp_seq3 9 [21, 20, 22] ?_ | refine awp_seq4 9 [21, 20, 22] ?_ | refine awp_seq 9 [21, 20, 22] ?_); intro K hK)) | ((with_reducible first | refine awp_reg ?_ | refine awp_exit ?_ | refine awp_skip ?_ | refine likeK_i ?_ | refine otWR_i ?_); simp only [hq, htd, a1, hg, hg2, go_sem]) | (with_reducible refine awp_ret ?_; simp only [retF, retM, retL, resV, resW, retO, resAV, AV.bor, D.bor, D.bor1, D.bor0, AV.flatOwn, D.flatOwn, D.flat, AV.tagged, D.tagged, AObj.plain, hq, htd, a1, hg, hg2, go_sem]) | ((with_reducible refine awp_cond' ?_ ?_ (fun hb => ?_) (fun hb => ?_)); (simp only [hq, htd, a1, hg, hg2, go_sem]); (simp only [hq, htd, a1, hg, hg2, go_sem]); all_goals (simp only [hq, htd, a1, hg, hg2, go_sem] at hb; try simp only [bls] at hb)) | ((iterate 6 try ((fail_if_success with_reducible refine hK _ ?_ ?_ ?_); clear hK K)); with_reducible refine hK _ ?_ ?_ ?_; rotate_left; (focus (simp only [hq, htd, a1, hg, hg2, go_sem]; exact rfl)); clear hK K) | ((first | (with_reducible first | refine cA hen ?_ | refine cA hfi ?_ | refine cD hen ?_ | refine cD hfi ?_ | refine cO hen ?_ | refine cO hfi ?_ | refine cR hen ?_ | refine cR hfi ?_ | refine cG (fun hg => hen) ?_ | refine cG (fun hg => hfi) ?_ | refine cH (fun hg => hen) ?_ | refine cH (fun hg => hfi) ?_ | refine cM (fun hg => hen) ?_ | refine cM (fun hg => hfi) ?_) | (guard_target = CallAt _ _ _ _ _ _ _ _ _ _; first | refine cA hen ?_ | refine cA hfi ?_) | (guard_target = DCallAt _ _ _ _ _ _ _ _; first | refine cD hen ?_ | refine cD hfi ?_) | (guard_target = GCallAt _ _ _ _ _ _ _ _ _ _ _; first | refine cG (fun hg => hen) ?_ | refine cG (fun hg => hfi) ?_)); simp only [hq, htd, a1, hg, hg2, go_sem]) | (with_reducible refine gsplit_i (fun hg0 => ?_) (fun hg0 => ?_) <;> first | (with_reducible first | exact absurd hg0 Bool.false_ne_true | exact absurd hg0.symm Bool.false_ne_true) | (simp only [hg0, hq, htd, a1, hg, hg2, go_sem])) | (with_reducible refine nilK_i ?_; intro bnil hnil; try simp only []) | (omega; done) | (intro hv; (try simp only [bls] at hv); (try simp only [bls]); omega) | (intro hg; (simp only [hg, Bool.true_and, true_and, implies_true]; try (intro hg2; simp only [hg2, Bool.not_false, Bool.not_true])); done)))
      all_goals first | omega | rfl | skip
     ·rw [firedE, if_neg ha, if_neg (by decide)] at hres
      rw [firedE, if_neg ha, firedR, if_neg ha] at hfi
      (simp only [go_sem] at hL ⊢)
      (repeat' (first | (with_reducible first | exact True.intro | refine And.intro ?_ ?_ | refine awp_block ?_ | ((first | refine awp_seq1 9 [21, 20, 22] ?_ | refine awp_seq2 9 [21, 20, 22] ?_ | refine awp_seq3 9 [21, 20, 22] ?_ | refine awp_seq4 9 [21, 20, 22] ?_ | refine awp_seq 9 [21, 20, 22] ?_); intro K hK)) | ((with_reducible first | refine awp_reg ?_ | refine awp_exit ?_ | refine awp_skip ?_ | refine likeK_i ?_ | refine otWR_i ?_); simp only [hq, htd, a1, hg, hg2, go_sem]) | (with_reducible refine awp_ret ?_; simp only [retF, retM, retL, resV, resW, retO, resAV, AV.bor, D.bor, D.bor1, D.bor0, AV.flatOwn, D.flatOwn, D.flat, AV.tagged, D.tagged, AObj.plain, hq, htd, a1, hg, hg2, go_sem]) | ((with_reducible refine awp_cond' ?_ ?_ (fun hb => ?_) (fun hb => ?_)); (simp only [hq, htd, a1, hg, hg2, go_sem]); (simp only [hq, htd, a1, hg, hg2, go_sem]); all_goals (simp only [hq, htd, a1, hg, hg2, go_sem] at hb; try simp only [bls] at hb)) | ((iterate 6 try ((fail_if_success with_reducible refine hK _ ?_ ?_ ?_); clear hK K)); with_reducible refine hK _ ?_ ?_ ?_; rotate_left; (focus (simp only [hq, htd, a1, hg, hg2, go_sem]; exact rfl)); clear hK K) | ((first | (with_reducible first | refine cA hen ?_ | refine cA hfi ?_ | refine cD hen ?_ | refine cD hfi ?_ | refine cO hen ?_ | refine cO hfi ?_ | refine cR hen ?_ | refine cR hfi ?_ | refine cG (fun hg => hen) ?_ | refine cG (fun hg => hfi) ?_ | refine cH (fun hg => hen) ?_ | refine cH (fun hg => hfi) ?_ | refine cM (fun hg => hen) ?_ | refine cM (fun hg => hfi) ?_) | (guard_target = CallAt _ _ _ _ _ _ _ _ _ _; first | refine cA hen ?_ | refine cA hfi ?_) | (guard_target = DCallAt _ _ _ _ _ _ _ _; first | refine cD hen ?_ | refine cD hfi ?_) | (guard_target = GCallAt _ _ _ _ _ _ _ _ _ _ _; first | refine cG (fun hg => hen) ?_ | refine cG (fun hg => hfi) ?_)); simp only [hq, htd, a1, hg, hg2, go_sem]) | (with_reducible refine gsplit_i (fun hg0 => ?_) (fun hg0 => ?_) <;> first | (with_reducible first | exact absurd hg0 Bool.false_ne_true | exact absurd hg0.symm Bool.false_ne_true) | (simp only [hg0, hq, htd, a1, hg, hg2, go_sem])) | (with_reducible refine nilK_i ?_; intro bnil hnil; try simp only []) | (omega; done) | (intro hv; (try simp only [bls] at hv); (try simp only [bls]); omega) | (intro hg; (simp only [hg, Bool.true_and, true_and, implies_true]; try (intro hg2; simp only [hg2, Bool.not_false, Bool.not_true])); done)))
      all_goals first | omega | skip
      refine hL _ (k + 1, firedL x m) ⟨by simp only; omega, by simp only; omega, any_tokF (by simpa using ha), by simp only; rw [hres]; rfl⟩ ?_ (by simp only; omega)
      (simp only [SubF, go_sem]; (try simp only [go_sem]); repeat' (first | exact True.intro | with_reducible refine And.intro ?_ ?_ | rfl | omega))
   ·have hkl : k = l.length := by omega
    subst hkl
    rw [List.drop_length, runF] at hres
    subst hres
    (simp only [go_sem] at hL ⊢)
    (repeat' (first | (with_reducible first | exact True.intro | refine And.intro ?_ ?_ | refine awp_block ?_ | ((first | refine awp_seq1 9 [21, 20, 22] ?_ | refine awp_seq2 9 [21, 20, 22] ?_ | refine awp_seq3 9 [21, 20, 22] ?_ | refine awp_seq4 9 [21, 20, 22] ?_ | refine awp_seq 9 [21, 20, 22] ?_); intro K hK)) | ((with_reducible first | refine awp_reg ?_ | refine awp_exit ?_ | refine awp_skip ?_ | refine likeK_i ?_ | refine otWR_i ?_); simp only [go_sem]) | (with_reducible refine awp_ret ?_; simp only [retF, retM, retL, resV, resW, retO, resAV, AV.bor, D.bor, D.bor1, D.bor0, AV.flatOwn, D.flatOwn, D.flat, AV.tagged, D.tagged, AObj.plain, go_sem]) | ((with_reducible refine awp_cond' ?_ ?_ (fun hb => ?_) (fun hb => ?_)); (simp only [go_sem]); (simp only [go_sem]); all_goals (simp only [go_sem] at hb; try simp only [bls] at hb)) | ((iterate 6 try ((fail_if_success with_reducible refine hK _ ?_ ?_ ?_); clear hK K)); with_reducible refine hK _ ?_ ?_ ?_; rotate_left; (focus (simp only [go_sem]; exact rfl)); clear hK K) | (with_reducible refine gsplit_i (fun hg0 => ?_) (fun hg0 => ?_) <;> first | (with_reducible first | exact absurd hg0 Bool.false_ne_true | exact absurd hg0.symm Bool.false_ne_true) | (simp only [hg0, go_sem])) | (with_reducible refine nilK_i ?_; intro bnil hnil; try simp only []) | (omega; done) | (intro hv; (try simp only [bls] at hv); (try simp only [bls]); omega) | (intro hg; (simp only [hg, Bool.true_and, true_and, implies_true]; try (intro hg2; simp only [hg2, Bool.not_false, Bool.not_true])); done)))
    all_goals first | omega | skip
 ·have e : runX n l = ([], 0, netE n) := by rw [runX, if_pos hE]
  rw [e]
  simp only [Net.d] at h1
  (refine ACalls.of_body Ty_ok mixed Tryd.func23 rfl (by kernel_rfl) Tryd.ntmps23 (by simp) (congrArg Array.toList Tryd.results23) ?_)
  simp only [slotsOf, Net.d]
  (repeat' (first | (with_reducible first | exact True.intro | refine And.intro ?_ ?_ | refine awp_block ?_ | ((first | refine awp_seq1 9 [21, 20, 22] ?_ | refine awp_seq2 9 [21, 20, 22] ?_ | refine awp_seq3 9 [21, 20, 22] ?_ | refine awp_seq4 9 [21, 20, 22] ?_ | refine awp_seq 9 [21, 20, 22] ?_); intro K hK)) | ((with_reducible first | refine awp_reg ?_ | refine awp_exit ?_ | refine awp_skip ?_ | refine likeK_i ?_ | refine otWR_i ?_); simp only [go_sem]) | (with_reducible refine awp_ret ?_; simp only [retF, retM, retL, resV, resW, retO, resAV, AV.bor, D.bor, D.bor1, D.bor0, AV.flatOwn, D.flatOwn, D.flat, AV.tagged, D.tagged, AObj.plain, go_sem]) | ((with_reducible refine awp_cond' ?_ ?_ (fun hb => ?_) (fun hb => ?_)); (simp only [go_sem]); (simp only [go_sem]); all_goals (simp only [go_sem] at hb; try simp only [bls] at hb)) | ((iterate 6 try ((fail_if_success with_reducible refine hK _ ?_ ?_ ?_); clear hK K)); with_reducible refine hK _ ?_ ?_ ?_; rotate_left; (focus (simp only [go_sem]; exact rfl)); clear hK K) | ((first | (with_reducible first | refine cA h1 ?_ | refine cD h1 ?_ | refine cO h1 ?_ | refine cR h1 ?_ | refine cG (fun hg => h1) ?_ | refine cH (fun hg => h1) ?_ | refine cM (fun hg => h1) ?_) | (guard_target = CallAt _ _ _ _ _ _ _ _ _ _; refine cA h1 ?_) | (guard_target = DCallAt _ _ _ _ _ _ _ _; refine cD h1 ?_) | (guard_target = GCallAt _ _ _ _ _ _ _ _ _ _ _; refine cG (fun hg => h1) ?_)); simp only [go_sem]) | (with_reducible refine gsplit_i (fun hg0 => ?_) (fun hg0 => ?_) <;> first | (with_reducible first | exact absurd hg0 Bool.false_ne_true | exact absurd hg0.symm Bool.false_ne_true) | (simp only [hg0, go_sem])) | (with_reducible refine nilK_i ?_; intro bnil hnil; try simp only []) | (omega; done) | (intro hv; (try simp only [bls] at hv); (try simp only [bls]); omega) | (intro hg; (simp only [hg, Bool.true_and, true_and, implies_true]; try (intro hg2; simp only [hg2, Bool.not_false, Bool.not_true])); done)))
  all_goals first | omega | rfl | skip
end Go.Proofs.YtjldfifepbdlmaaDoor
