/-
 The law NetFires, given what Incidence answers.
-/
import Derived.Test.YtjldfifepbdlmaaDoorS8
import Derived.Test.YtjldfifepbdlmaaDoorWE
import Derived.Test.YtjldfifepbdlmaaDoorS9
import Derived.Test.YtjldfifepbdlmaaDoorE7
import Derived.Test.YtjldfifepbdlmaaDoorSM
import Derived.Test.YtjldfifepbdlmaaDoorSB
import Derived.Test.YtjldfifepbdlmaaDoorSY
set_option linter.unusedSimpArgs false
set_option linter.unusedVariables false
namespace Go.Proofs.YtjldfifepbdlmaaDoor
open Go.Eng Go.RowKit
theorem fine_fired {m : List Int} {t : Tr} (h1 : ArcsIn m.length t.inn) (h2 : ArcsIn m.length t.out) (hm : ∀ x ∈ m, 0 ≤ x) (he : enB m t = true) : fineB (firedL t m) = decide (firedE t m = 0) := by
 have hnn : ∀ x ∈ firedL t m, 0 ≤ x := fun x hx => by
  obtain ⟨p, hp, rfl⟩ := mem_getD hx
  rw [firedL_length] at hp
  have a1 := hm _ (getD_mem m p 0 hp)
  have a2 := enB_wsum h1 he p a1
  have a3 : 0 ≤ wsum t.out p := by
   rcases wsum_arc t.out _ p h2 with h | ⟨a, ha, _, h⟩
   ·omega
   ·have := h2.weight a ha; omega
  rw [firedL_getD h1 h2]; omega
 rw [Bool.eq_iff_iff, fineB, List.all_eq_true, decide_eq_true_eq, firedE]
 constructor
 ·intro h
  rw [if_neg]
  rw [List.any_eq_true]
  rintro ⟨x, hx, h3⟩
  have := hnn x hx
  have := h x hx
  simp only [tokB, Bool.or_eq_true, decide_eq_true_eq] at h3 this
  omega
 ·intro h x hx
  by_cases ht : (firedL t m).any tokB = true
  ·rw [if_pos ht] at h; cases h
  ·rw [List.any_eq_true] at ht
   rw [decide_eq_true_eq]
   by_cases hx2 : x ≤ 65536
   ·exact hx2
   ·exact absurd ⟨x, hx, by simp only [tokB, Bool.or_eq_true, decide_eq_true_eq]; omega⟩ ht
set_option maxRecDepth 20000 in
set_option maxHeartbeats 64000000 in
theorem Fires_of (hI : ∀ n : Net, n.Fits → netE n = 0 → ACalls Tryd.prog 29 [.agg n.d] (.tup [.one (.list (matD (incM n))), .one (.int .i64 0)]) []) (s : Nat → Int) (hs : Bytes s) (mk : List Int) (t : Int) (hln : mk.length ≤ 9223372036854775807) :
  ACalls Tryd.prog 7 [.agg (bytesD 37 s), .one (.list (ints mk)), .one (.int .i64 t)] (.one (.bool true)) [] := by
 have hk := known_c
 by_cases h8 : 6 < mk.length
 ·(refine ACalls.of_body Ty_ok mixed Tryd.func7 rfl (by kernel_rfl) Tryd.ntmps7 (by simp) (congrArg Array.toList Tryd.results7) ?_)
  simp only [slotsOf]
  (repeat' (first | (with_reducible first | exact True.intro | refine And.intro ?_ ?_ | refine awp_block ?_ | ((first | refine awp_seq1 21 [] ?_ | refine awp_seq2 21 [] ?_ | refine awp_seq3 21 [] ?_ | refine awp_seq4 21 [] ?_ | refine awp_seq 21 [] ?_); intro K hK)) | ((with_reducible first | refine awp_reg ?_ | refine awp_exit ?_ | refine awp_skip ?_ | refine likeK_i ?_ | refine otWR_i ?_ | refine rD (id := 30) ?_); simp only [go_sem]) | (with_reducible refine awp_ret ?_; simp only [retF, retM, retL, resV, resW, retO, resAV, AV.bor, D.bor, D.bor1, D.bor0, AV.flatOwn, D.flatOwn, D.flat, AV.tagged, D.tagged, AObj.plain, go_sem]) | ((with_reducible refine awp_cond' ?_ ?_ (fun hb => ?_) (fun hb => ?_)); (simp only [go_sem]); (simp only [go_sem]); all_goals (simp only [go_sem] at hb; try simp only [bls] at hb)) | ((iterate 6 try ((fail_if_success with_reducible refine hK _ ?_ ?_ ?_); clear hK K)); with_reducible refine hK _ ?_ ?_ ?_; rotate_left; (focus (simp only [go_sem]; exact rfl)); clear hK K) | ((first | (with_reducible first | refine cA hk ?_ | refine cD hk ?_ | refine cO hk ?_ | refine cR hk ?_ | refine cG (fun hg => hk) ?_ | refine cH (fun hg => hk) ?_ | refine cM (fun hg => hk) ?_) | (guard_target = CallAt _ _ _ _ _ _ _ _ _ _; refine cA hk ?_) | (guard_target = DCallAt _ _ _ _ _ _ _ _; refine cD hk ?_) | (guard_target = GCallAt _ _ _ _ _ _ _ _ _ _ _; refine cG (fun hg => hk) ?_)); simp only [go_sem]) | (with_reducible refine gsplit_i (fun hg0 => ?_) (fun hg0 => ?_) <;> first | (with_reducible first | exact absurd hg0 Bool.false_ne_true | exact absurd hg0.symm Bool.false_ne_true) | (simp only [hg0, go_sem])) | (with_reducible refine nilK_i ?_; intro bnil hnil; try simp only []) | (omega; done) | (intro hv; (try simp only [bls] at hv); (try simp only [bls]); omega) | (intro hg; (simp only [hg, Bool.true_and, true_and, implies_true]; try (intro hg2; simp only [hg2, Bool.not_false, Bool.not_true])); done)))
  all_goals first | omega | skip
 have hM := Make_c s hs
 have hN := netOk_of (makeNet_ok s hs)
 generalize makeNet s = n at hM hN
 have hi10 := hN.init
 have ht10 := hN.trs
 have hfit := hN.fits
 have hE := netE_of hN
 have hEn := Enabled_c n mk hfit (by omega)
 have hFi := Fire_c n mk t hfit (by omega)
 have hCM := CheckMarking_c n mk hfit (by omega)
 have hIn := hI n hfit hE
 by_cases hm0 : markE n mk = 0
 ·obtain ⟨q1, q2, q3⟩ := mark_ok hm0
  rw [enabledL, if_pos hm0, hm0] at hEn
  rw [hm0] at hCM
  have hFX : fireX n mk t = if t < 0 ∨ (n.trs.length : Int) ≤ t then ([], false, 2) else if enB mk (n.trs.getD t.toNat Tr.no) = false then ([], false, 0)
   else (firedR (n.trs.getD t.toNat Tr.no) mk, decide (firedE (n.trs.getD t.toNat Tr.no) mk = 0), firedE (n.trs.getD t.toNat Tr.no) mk) := by rw [fireX, if_neg (by omega)]
  generalize fireX n mk t = R at *
  simp only [Net.d] at hM hEn hFi hCM hIn
  (refine ACalls.of_body Ty_ok mixed Tryd.func7 rfl (by kernel_rfl) Tryd.ntmps7 (by simp) (congrArg Array.toList Tryd.results7) ?_)
  simp only [slotsOf]
  (repeat' (first | (with_reducible first | exact True.intro | refine And.intro ?_ ?_ | refine awp_block ?_ | ((first | refine awp_seq1 21 [] ?_ | refine awp_seq2 21 [] ?_ | refine awp_seq3 21 [] ?_ | refine awp_seq4 21 [] ?_ | refine awp_seq 21 [] ?_); intro K hK)) | ((with_reducible first | refine awp_reg ?_ | refine awp_exit ?_ | refine awp_skip ?_ | refine likeK_i ?_ | refine otWR_i ?_ | refine rD (id := 30) ?_); simp only [go_sem]) | (with_reducible refine awp_ret ?_; simp only [retF, retM, retL, resV, resW, retO, resAV, AV.bor, D.bor, D.bor1, D.bor0, AV.flatOwn, D.flatOwn, D.flat, AV.tagged, D.tagged, AObj.plain, go_sem]) | ((with_reducible refine awp_cond' ?_ ?_ (fun hb => ?_) (fun hb => ?_)); (simp only [go_sem]); (simp only [go_sem]); all_goals (simp only [go_sem] at hb; try simp only [bls] at hb)) | ((iterate 6 try ((fail_if_success with_reducible refine hK _ ?_ ?_ ?_); clear hK K)); with_reducible refine hK _ ?_ ?_ ?_; rotate_left; (focus (simp only [go_sem]; exact rfl)); clear hK K) | ((first | (with_reducible first | refine cA hk ?_ | refine cA hM ?_ | refine cA hEn ?_ | refine cA hFi ?_ | refine cA hCM ?_ | refine cD hk ?_ | refine cD hM ?_ | refine cD hEn ?_ | refine cD hFi ?_ | refine cD hCM ?_ | refine cO hk ?_ | refine cO hM ?_ | refine cO hEn ?_ | refine cO hFi ?_ | refine cO hCM ?_ | refine cR hk ?_ | refine cR hM ?_ | refine cR hEn ?_ | refine cR hFi ?_ | refine cR hCM ?_ | refine cG (fun hg => hk) ?_ | refine cG (fun hg => hM) ?_ | refine cG (fun hg => hEn) ?_ | refine cG (fun hg => hFi) ?_ | refine cG (fun hg => hCM) ?_ | refine cH (fun hg => hk) ?_ | refine cH (fun hg => hM) ?_ | refine cH (fun hg => hEn) ?_ | refine cH (fun hg => hFi) ?_ | refine cH (fun hg => hCM) ?_ | refine cM (fun hg => hk) ?_ | refine cM (fun hg => hM) ?_ | refine cM (fun hg => hEn) ?_ | refine cM (fun hg => hFi) ?_ | refine cM (fun hg => hCM) ?_) | (guard_target = CallAt _ _ _ _ _ _ _ _ _ _; first | refine cA hk ?_ | refine cA hM ?_ | refine cA hEn ?_ | refine cA hFi ?_ | refine cA hCM ?_) | (guard_target = DCallAt _ _ _ _ _ _ _ _; first | refine cD hk ?_ | refine cD hM ?_ | refine cD hEn ?_ | refine cD hFi ?_ | refine cD hCM ?_) | (guard_target = GCallAt _ _ _ _ _ _ _ _ _ _ _; first | refine cG (fun hg => hk) ?_ | refine cG (fun hg => hM) ?_ | refine cG (fun hg => hEn) ?_ | refine cG (fun hg => hFi) ?_ | refine cG (fun hg => hCM) ?_)); simp only [go_sem]) | (with_reducible refine gsplit_i (fun hg0 => ?_) (fun hg0 => ?_) <;> first | (with_reducible first | exact absurd hg0 Bool.false_ne_true | exact absurd hg0.symm Bool.false_ne_true) | (simp only [hg0, go_sem])) | (with_reducible refine nilK_i ?_; intro bnil hnil; try simp only []) | (omega; done) | (intro hv; (try simp only [bls] at hv); (try simp only [bls]); omega) | (intro hg; (simp only [hg, Bool.true_and, true_and, implies_true]; try (intro hg2; simp only [hg2, Bool.not_false, Bool.not_true])); done)))
  all_goals first | omega | skip
  refine awp_loop _ (by simp only [go_sem]; rfl) Nat (fun k => k ≤ n.trs.length) (fun k => [(14, .one (.own 2)), (15, .one (.int .i64 k))]) (fun k H => H.set 2 (.row 3 1 (ints (ableL n mk k)))) (fun k => n.trs.length - k) 0 (by omega) ?_ ?_
  ·have e0 : ints (ableL n mk 0) = [] := rfl
   rw [e0]
   (simp only [SubF, List.set_cons_succ, List.set_cons_zero, go_sem]; (try simp only [List.set_cons_succ, List.set_cons_zero, go_sem]); repeat' (first | exact True.intro | with_reducible refine And.intro ?_ ?_ | rfl | omega))
  rintro k hkn L hL
  have hq : ((k : Nat) : Int).toNat = k := by omega
  have hal := ableL_length n mk k
  by_cases hlt : k < n.trs.length
  ·have hmem := getD_mem n.trs k Tr.no hlt
   have hai := hN.inn _ hmem
   rw [← q2] at hai
   have hE1 := lawEn_c n mk k hfit (by omega) ⟨by omega, by omega⟩
   rw [hq, enW_enB hai fun x hx => (q3 x hx).1] at hE1
   have hsu := ableL_succ n mk k
   simp only [Net.d] at hE1
   cases he : enB mk (n.trs.getD k Tr.no)
   ·rw [he] at hE1
    rw [he, if_neg (by decide), List.append_nil] at hsu
    (simp only [List.set_cons_succ, List.set_cons_zero, go_sem] at hL ⊢)
    (repeat' (first | (with_reducible first | exact True.intro | refine And.intro ?_ ?_ | refine awp_block ?_ | ((first | refine awp_seq1 21 [] ?_ | refine awp_seq2 21 [] ?_ | refine awp_seq3 21 [] ?_ | refine awp_seq4 21 [] ?_ | refine awp_seq 21 [] ?_); intro K hK)) | ((with_reducible first | refine awp_reg ?_ | refine awp_exit ?_ | refine awp_skip ?_ | refine likeK_i ?_ | refine otWR_i ?_ | refine rD (id := 30) ?_); simp only [hq, go_sem]) | (with_reducible refine awp_ret ?_; simp only [retF, retM, retL, resV, resW, retO, resAV, AV.bor, D.bor, D.bor1, D.bor0, AV.flatOwn, D.flatOwn, D.flat, AV.tagged, D.tagged, AObj.plain, hq, go_sem]) | ((with_reducible refine awp_cond' ?_ ?_ (fun hb => ?_) (fun hb => ?_)); (simp only [hq, go_sem]); (simp only [hq, go_sem]); all_goals (simp only [hq, go_sem] at hb; try simp only [bls] at hb)) | ((iterate 6 try ((fail_if_success with_reducible refine hK _ ?_ ?_ ?_); clear hK K)); with_reducible refine hK _ ?_ ?_ ?_; rotate_left; (focus (simp only [hq, go_sem]; exact rfl)); clear hK K) | ((first | (with_reducible first | refine cA hE1 ?_ | refine cD hE1 ?_ | refine cO hE1 ?_ | refine cR hE1 ?_ | refine cG (fun hg => hE1) ?_ | refine cH (fun hg => hE1) ?_ | refine cM (fun hg => hE1) ?_) | (guard_target = CallAt _ _ _ _ _ _ _ _ _ _; refine cA hE1 ?_) | (guard_target = DCallAt _ _ _ _ _ _ _ _; refine cD hE1 ?_) | (guard_target = GCallAt _ _ _ _ _ _ _ _ _ _ _; refine cG (fun hg => hE1) ?_)); simp only [hq, go_sem]) | (with_reducible refine gsplit_i (fun hg0 => ?_) (fun hg0 => ?_) <;> first | (with_reducible first | exact absurd hg0 Bool.false_ne_true | exact absurd hg0.symm Bool.false_ne_true) | (simp only [hg0, hq, go_sem])) | (with_reducible refine nilK_i ?_; intro bnil hnil; try simp only []) | (omega; done) | (intro hv; (try simp only [bls] at hv); (try simp only [bls]); omega) | (intro hg; (simp only [hg, Bool.true_and, true_and, implies_true]; try (intro hg2; simp only [hg2, Bool.not_false, Bool.not_true])); done)))
    all_goals first | omega | skip
    rw [← hsu] at *
    refine hL _ (k + 1) (by omega) ?_ (by omega)
    (simp only [SubF, List.set_cons_succ, List.set_cons_zero, go_sem]; (try simp only [List.set_cons_succ, List.set_cons_zero, go_sem]); repeat' (first | exact True.intro | with_reducible refine And.intro ?_ ?_ | rfl | omega))
   ·rw [he] at hE1
    rw [he, if_pos rfl] at hsu
    (simp only [List.set_cons_succ, List.set_cons_zero, go_sem] at hL ⊢)
    (repeat' (first | (with_reducible first | exact True.intro | refine And.intro ?_ ?_ | refine awp_block ?_ | ((first | refine awp_seq1 21 [] ?_ | refine awp_seq2 21 [] ?_ | refine awp_seq3 21 [] ?_ | refine awp_seq4 21 [] ?_ | refine awp_seq 21 [] ?_); intro K hK)) | ((with_reducible first | refine awp_reg ?_ | refine awp_exit ?_ | refine awp_skip ?_ | refine likeK_i ?_ | refine otWR_i ?_ | refine rD (id := 30) ?_); simp only [hq, go_sem]) | (with_reducible refine awp_ret ?_; simp only [retF, retM, retL, resV, resW, retO, resAV, AV.bor, D.bor, D.bor1, D.bor0, AV.flatOwn, D.flatOwn, D.flat, AV.tagged, D.tagged, AObj.plain, hq, go_sem]) | ((with_reducible refine awp_cond' ?_ ?_ (fun hb => ?_) (fun hb => ?_)); (simp only [hq, go_sem]); (simp only [hq, go_sem]); all_goals (simp only [hq, go_sem] at hb; try simp only [bls] at hb)) | ((iterate 6 try ((fail_if_success with_reducible refine hK _ ?_ ?_ ?_); clear hK K)); with_reducible refine hK _ ?_ ?_ ?_; rotate_left; (focus (simp only [hq, go_sem]; exact rfl)); clear hK K) | ((first | (with_reducible first | refine cA hE1 ?_ | refine cD hE1 ?_ | refine cO hE1 ?_ | refine cR hE1 ?_ | refine cG (fun hg => hE1) ?_ | refine cH (fun hg => hE1) ?_ | refine cM (fun hg => hE1) ?_) | (guard_target = CallAt _ _ _ _ _ _ _ _ _ _; refine cA hE1 ?_) | (guard_target = DCallAt _ _ _ _ _ _ _ _; refine cD hE1 ?_) | (guard_target = GCallAt _ _ _ _ _ _ _ _ _ _ _; refine cG (fun hg => hE1) ?_)); simp only [hq, go_sem]) | (with_reducible refine gsplit_i (fun hg0 => ?_) (fun hg0 => ?_) <;> first | (with_reducible first | exact absurd hg0 Bool.false_ne_true | exact absurd hg0.symm Bool.false_ne_true) | (simp only [hg0, hq, go_sem])) | (with_reducible refine nilK_i ?_; intro bnil hnil; try simp only []) | (omega; done) | (intro hv; (try simp only [bls] at hv); (try simp only [bls]); omega) | (intro hg; (simp only [hg, Bool.true_and, true_and, implies_true]; try (intro hg2; simp only [hg2, Bool.not_false, Bool.not_true])); done)))
    all_goals first | omega | skip
    refine hL _ (k + 1) (by omega) ?_ (by omega)
    rw [hsu, ← ints_append, ← ints_one]
    (simp only [SubF, List.set_cons_succ, List.set_cons_zero, go_sem]; (try simp only [List.set_cons_succ, List.set_cons_zero, go_sem]); repeat' (first | exact True.intro | with_reducible refine And.intro ?_ ?_ | rfl | omega))
  have hkl : k = n.trs.length := by omega
  subst hkl
  have hSI := SameInts_c (ableL n mk n.trs.length) (ableL n mk n.trs.length) (by omega)
  rw [decide_eq_true rfl] at hSI
  by_cases hr : t < 0 ∨ (n.trs.length : Int) ≤ t
  ·rw [if_pos hr] at hFX
   subst hFX
   (simp only [List.set_cons_succ, List.set_cons_zero, go_sem] at hL ⊢)
   (repeat' (first | (with_reducible first | exact True.intro | refine And.intro ?_ ?_ | refine awp_block ?_ | ((first | refine awp_seq1 21 [] ?_ | refine awp_seq2 21 [] ?_ | refine awp_seq3 21 [] ?_ | refine awp_seq4 21 [] ?_ | refine awp_seq 21 [] ?_); intro K hK)) | ((with_reducible first | refine awp_reg ?_ | refine awp_exit ?_ | refine awp_skip ?_ | refine likeK_i ?_ | refine otWR_i ?_ | refine rD (id := 30) ?_); simp only [hq, go_sem]) | (with_reducible refine awp_ret ?_; simp only [retF, retM, retL, resV, resW, retO, resAV, AV.bor, D.bor, D.bor1, D.bor0, AV.flatOwn, D.flatOwn, D.flat, AV.tagged, D.tagged, AObj.plain, hq, go_sem]) | ((with_reducible refine awp_cond' ?_ ?_ (fun hb => ?_) (fun hb => ?_)); (simp only [hq, go_sem]); (simp only [hq, go_sem]); all_goals (simp only [hq, go_sem] at hb; try simp only [bls] at hb)) | ((iterate 6 try ((fail_if_success with_reducible refine hK _ ?_ ?_ ?_); clear hK K)); with_reducible refine hK _ ?_ ?_ ?_; rotate_left; (focus (simp only [hq, go_sem]; exact rfl)); clear hK K) | ((first | (with_reducible first | refine cA hSI ?_ | refine cD hSI ?_ | refine cO hSI ?_ | refine cR hSI ?_ | refine cG (fun hg => hSI) ?_ | refine cH (fun hg => hSI) ?_ | refine cM (fun hg => hSI) ?_) | (guard_target = CallAt _ _ _ _ _ _ _ _ _ _; refine cA hSI ?_) | (guard_target = DCallAt _ _ _ _ _ _ _ _; refine cD hSI ?_) | (guard_target = GCallAt _ _ _ _ _ _ _ _ _ _ _; refine cG (fun hg => hSI) ?_)); simp only [hq, go_sem]) | (with_reducible refine gsplit_i (fun hg0 => ?_) (fun hg0 => ?_) <;> first | (with_reducible first | exact absurd hg0 Bool.false_ne_true | exact absurd hg0.symm Bool.false_ne_true) | (simp only [hg0, hq, go_sem])) | (with_reducible refine nilK_i ?_; intro bnil hnil; try simp only []) | (omega; done) | (intro hv; (try simp only [bls] at hv); (try simp only [bls]); omega) | (intro hg; (simp only [hg, Bool.true_and, true_and, implies_true]; try (intro hg2; simp only [hg2, Bool.not_false, Bool.not_true])); done)))
   all_goals first | omega | rfl | (simp; done) | skip
  rw [if_neg hr] at hFX
  have ht : 0 ≤ t ∧ t < n.trs.length := by omega
  have hmem := getD_mem n.trs t.toNat Tr.no (by omega)
  have hai := hN.inn _ hmem
  have hao := hN.out _ hmem
  rw [← q2] at hai hao
  have hEt := lawEn_c n mk t hfit (by omega) ht
  rw [enW_enB hai fun x hx => (q3 x hx).1] at hEt
  cases he : enB mk (n.trs.getD t.toNat Tr.no)
  ·rw [if_pos he] at hFX
   subst hFX
   rw [he] at hEt
   simp only [Net.d] at hEt
   (simp only [List.set_cons_succ, List.set_cons_zero, go_sem] at hL ⊢)
   (repeat' (first | (with_reducible first | exact True.intro | refine And.intro ?_ ?_ | refine awp_block ?_ | ((first | refine awp_seq1 21 [] ?_ | refine awp_seq2 21 [] ?_ | refine awp_seq3 21 [] ?_ | refine awp_seq4 21 [] ?_ | refine awp_seq 21 [] ?_); intro K hK)) | ((with_reducible first | refine awp_reg ?_ | refine awp_exit ?_ | refine awp_skip ?_ | refine likeK_i ?_ | refine otWR_i ?_ | refine rD (id := 30) ?_); simp only [hq, go_sem]) | (with_reducible refine awp_ret ?_; simp only [retF, retM, retL, resV, resW, retO, resAV, AV.bor, D.bor, D.bor1, D.bor0, AV.flatOwn, D.flatOwn, D.flat, AV.tagged, D.tagged, AObj.plain, hq, go_sem]) | ((with_reducible refine awp_cond' ?_ ?_ (fun hb => ?_) (fun hb => ?_)); (simp only [hq, go_sem]); (simp only [hq, go_sem]); all_goals (simp only [hq, go_sem] at hb; try simp only [bls] at hb)) | ((iterate 6 try ((fail_if_success with_reducible refine hK _ ?_ ?_ ?_); clear hK K)); with_reducible refine hK _ ?_ ?_ ?_; rotate_left; (focus (simp only [hq, go_sem]; exact rfl)); clear hK K) | ((first | (with_reducible first | refine cA hSI ?_ | refine cA hEt ?_ | refine cD hSI ?_ | refine cD hEt ?_ | refine cO hSI ?_ | refine cO hEt ?_ | refine cR hSI ?_ | refine cR hEt ?_ | refine cG (fun hg => hSI) ?_ | refine cG (fun hg => hEt) ?_ | refine cH (fun hg => hSI) ?_ | refine cH (fun hg => hEt) ?_ | refine cM (fun hg => hSI) ?_ | refine cM (fun hg => hEt) ?_) | (guard_target = CallAt _ _ _ _ _ _ _ _ _ _; first | refine cA hSI ?_ | refine cA hEt ?_) | (guard_target = DCallAt _ _ _ _ _ _ _ _; first | refine cD hSI ?_ | refine cD hEt ?_) | (guard_target = GCallAt _ _ _ _ _ _ _ _ _ _ _; first | refine cG (fun hg => hSI) ?_ | refine cG (fun hg => hEt) ?_)); simp only [hq, go_sem]) | (with_reducible refine gsplit_i (fun hg0 => ?_) (fun hg0 => ?_) <;> first | (with_reducible first | exact absurd hg0 Bool.false_ne_true | exact absurd hg0.symm Bool.false_ne_true) | (simp only [hg0, hq, go_sem])) | (with_reducible refine nilK_i ?_; intro bnil hnil; try simp only []) | (omega; done) | (intro hv; (try simp only [bls] at hv); (try simp only [bls]); omega) | (intro hg; (simp only [hg, Bool.true_and, true_and, implies_true]; try (intro hg2; simp only [hg2, Bool.not_false, Bool.not_true])); done)))
   all_goals first | omega | rfl | (simp; done) | skip
  rw [if_neg (by rw [he]; decide)] at hFX
  rw [he] at hEt
  have hFi2 := lawFire_c n mk t hfit (by omega) ⟨fun x hx => by have := q3 x hx; omega⟩ ht (fun a ha => hai.weight a ha) (fun a ha => hao.weight a ha)
  rw [fireW_fired hai hao, fine_fired hai hao (fun x hx => (q3 x hx).1) he] at hFi2
  have hfl := firedL_length (n.trs.getD t.toNat Tr.no) mk
  have hfR : firedR (n.trs.getD t.toNat Tr.no) mk = if firedE (n.trs.getD t.toNat Tr.no) mk = 0 then firedL (n.trs.getD t.toNat Tr.no) mk else [] := by
   unfold firedR firedE
   by_cases h : (firedL (n.trs.getD t.toNat Tr.no) mk).any tokB = true
   ·rw [if_pos h, if_pos h, if_neg (by decide)]
   ·rw [if_neg h, if_neg h, if_pos rfl]
  have hfE : firedE (n.trs.getD t.toNat Tr.no) mk = 0 ∨ firedE (n.trs.getD t.toNat Tr.no) mk = 3 := by
   unfold firedE
   by_cases h : (firedL (n.trs.getD t.toNat Tr.no) mk).any tokB = true
   ·rw [if_pos h]; exact .inr rfl
   ·rw [if_neg h]; exact .inl rfl
  simp only [Net.d] at hEt hFi2
  by_cases h0 : firedE (n.trs.getD t.toNat Tr.no) mk = 0
  ·rw [if_pos h0] at hfR
   rw [hfR, h0, decide_eq_true rfl] at hFX
   rw [decide_eq_true h0] at hFi2
   subst hFX
   have hS2 := SameInts_c (firedL (n.trs.getD t.toNat Tr.no) mk) (firedL (n.trs.getD t.toNat Tr.no) mk) (by omega)
   rw [decide_eq_true rfl] at hS2
   have hget := fun p => firedL_getD (m := mk) (t := n.trs.getD t.toNat Tr.no) hai hao p
   have hiL : (incM n).length = n.init.length := by simp [incM]
   generalize hgm : firedL (n.trs.getD t.toNat Tr.no) mk = m2 at *
   (simp only [List.set_cons_succ, List.set_cons_zero, go_sem] at hL ⊢)
   (repeat' (first | (with_reducible first | exact True.intro | refine And.intro ?_ ?_ | refine awp_block ?_ | ((first | refine awp_seq1 21 [] ?_ | refine awp_seq2 21 [] ?_ | refine awp_seq3 21 [] ?_ | refine awp_seq4 21 [] ?_ | refine awp_seq 21 [] ?_); intro K hK)) | ((with_reducible first | refine awp_reg ?_ | refine awp_exit ?_ | refine awp_skip ?_ | refine likeK_i ?_ | refine otWR_i ?_ | refine rD (id := 30) ?_); simp only [hq, go_sem]) | (with_reducible refine awp_ret ?_; simp only [retF, retM, retL, resV, resW, retO, resAV, AV.bor, D.bor, D.bor1, D.bor0, AV.flatOwn, D.flatOwn, D.flat, AV.tagged, D.tagged, AObj.plain, hq, go_sem]) | ((with_reducible refine awp_cond' ?_ ?_ (fun hb => ?_) (fun hb => ?_)); (simp only [hq, go_sem]); (simp only [hq, go_sem]); all_goals (simp only [hq, go_sem] at hb; try simp only [bls] at hb)) | ((iterate 6 try ((fail_if_success with_reducible refine hK _ ?_ ?_ ?_); clear hK K)); with_reducible refine hK _ ?_ ?_ ?_; rotate_left; (focus (simp only [hq, go_sem]; exact rfl)); clear hK K) | ((first | (with_reducible first | refine cA hSI ?_ | refine cA hEt ?_ | refine cA hFi2 ?_ | refine cA hIn ?_ | refine cA hS2 ?_ | refine cD hSI ?_ | refine cD hEt ?_ | refine cD hFi2 ?_ | refine cD hIn ?_ | refine cD hS2 ?_ | refine cO hSI ?_ | refine cO hEt ?_ | refine cO hFi2 ?_ | refine cO hIn ?_ | refine cO hS2 ?_ | refine cR hSI ?_ | refine cR hEt ?_ | refine cR hFi2 ?_ | refine cR hIn ?_ | refine cR hS2 ?_ | refine cG (fun hg => hSI) ?_ | refine cG (fun hg => hEt) ?_ | refine cG (fun hg => hFi2) ?_ | refine cG (fun hg => hIn) ?_ | refine cG (fun hg => hS2) ?_ | refine cH (fun hg => hSI) ?_ | refine cH (fun hg => hEt) ?_ | refine cH (fun hg => hFi2) ?_ | refine cH (fun hg => hIn) ?_ | refine cH (fun hg => hS2) ?_ | refine cM (fun hg => hSI) ?_ | refine cM (fun hg => hEt) ?_ | refine cM (fun hg => hFi2) ?_ | refine cM (fun hg => hIn) ?_ | refine cM (fun hg => hS2) ?_) | (guard_target = CallAt _ _ _ _ _ _ _ _ _ _; first | refine cA hSI ?_ | refine cA hEt ?_ | refine cA hFi2 ?_ | refine cA hIn ?_ | refine cA hS2 ?_) | (guard_target = DCallAt _ _ _ _ _ _ _ _; first | refine cD hSI ?_ | refine cD hEt ?_ | refine cD hFi2 ?_ | refine cD hIn ?_ | refine cD hS2 ?_) | (guard_target = GCallAt _ _ _ _ _ _ _ _ _ _ _; first | refine cG (fun hg => hSI) ?_ | refine cG (fun hg => hEt) ?_ | refine cG (fun hg => hFi2) ?_ | refine cG (fun hg => hIn) ?_ | refine cG (fun hg => hS2) ?_)); simp only [hq, go_sem]) | (with_reducible refine gsplit_i (fun hg0 => ?_) (fun hg0 => ?_) <;> first | (with_reducible first | exact absurd hg0 Bool.false_ne_true | exact absurd hg0.symm Bool.false_ne_true) | (simp only [hg0, hq, go_sem])) | (with_reducible refine nilK_i ?_; intro bnil hnil; try simp only []) | (omega; done) | (intro hv; (try simp only [bls] at hv); (try simp only [bls]); omega) | (intro hg; (simp only [hg, Bool.true_and, true_and, implies_true]; try (intro hg2; simp only [hg2, Bool.not_false, Bool.not_true])); done)))
   all_goals first | omega | skip
   clear hL hSI hEt hFi2 hIn hS2 hEn hFi hCM
   refine awp_loop _ (by simp only [go_sem]; rfl) Nat (fun p => p ≤ mk.length) (fun p => [(20, .one (.int .i64 p))]) (fun _ H => H) (fun p => mk.length - p) 0 (by omega) ?_ ?_
   ·(simp only [SubF, go_sem]; (try simp only [go_sem]); repeat' (first | exact True.intro | with_reducible refine And.intro ?_ ?_ | rfl | omega))
   rintro p hp L hL
   have hqp : ((p : Nat) : Int).toNat = p := by omega
   by_cases hlp : p < mk.length
   ·have a0 := incM_at (n := n) (p := p) (by omega)
    have a1 := matD_at (l := incM n) (k := p) (by omega) [.nil]
    have a2 := matD_at (l := incM n) (k := p) (by omega) []
    rw [a0] at a1 a2
    have a3 := incL_at (n := n) (p := p) (t := t.toNat) (by omega)
    have a4 : (incL n p).length = n.trs.length := by simp [incL]
    have e2 := wsum_bound (p := p) hai
    have e3 := wsum_bound (p := p) hao
    have e4 := hget p
    have e5 := q3 _ (getD_mem mk p 0 hlp)
    (simp only [go_sem] at hL ⊢)
    (repeat' (first | (with_reducible first | exact True.intro | refine And.intro ?_ ?_ | refine awp_block ?_ | ((first | refine awp_seq1 21 [] ?_ | refine awp_seq2 21 [] ?_ | refine awp_seq3 21 [] ?_ | refine awp_seq4 21 [] ?_ | refine awp_seq 21 [] ?_); intro K hK)) | ((with_reducible first | refine awp_reg ?_ | refine awp_exit ?_ | refine awp_skip ?_ | refine likeK_i ?_ | refine otWR_i ?_ | refine rD (id := 30) ?_); simp only [hqp, a1, a2, a3, a4, go_sem]) | (with_reducible refine awp_ret ?_; simp only [retF, retM, retL, resV, resW, retO, resAV, AV.bor, D.bor, D.bor1, D.bor0, AV.flatOwn, D.flatOwn, D.flat, AV.tagged, D.tagged, AObj.plain, hqp, a1, a2, a3, a4, go_sem]) | ((with_reducible refine awp_cond' ?_ ?_ (fun hb => ?_) (fun hb => ?_)); (simp only [hqp, a1, a2, a3, a4, go_sem]); (simp only [hqp, a1, a2, a3, a4, go_sem]); all_goals (simp only [hqp, a1, a2, a3, a4, go_sem] at hb; try simp only [bls] at hb)) | ((iterate 6 try ((fail_if_success with_reducible refine hK _ ?_ ?_ ?_); clear hK K)); with_reducible refine hK _ ?_ ?_ ?_; rotate_left; (focus (simp only [hqp, a1, a2, a3, a4, go_sem]; exact rfl)); clear hK K) | (with_reducible refine gsplit_i (fun hg0 => ?_) (fun hg0 => ?_) <;> first | (with_reducible first | exact absurd hg0 Bool.false_ne_true | exact absurd hg0.symm Bool.false_ne_true) | (simp only [hg0, hqp, a1, a2, a3, a4, go_sem])) | (with_reducible refine nilK_i ?_; intro bnil hnil; try simp only []) | (omega; done) | (intro hv; (try simp only [bls] at hv); (try simp only [bls]); omega) | (intro hg; (simp only [hg, Bool.true_and, true_and, implies_true]; try (intro hg2; simp only [hg2, Bool.not_false, Bool.not_true])); done)))
    all_goals first | omega | skip
    all_goals first | (intro h; refine ⟨h, ?_⟩; omega) | skip
    all_goals first | (exact hL _ (p + 1) (by omega) (by (simp only [SubF, go_sem]; (try simp only [go_sem]); repeat' (first | exact True.intro | with_reducible refine And.intro ?_ ?_ | rfl | omega))) (by omega)) | trace_state
   ·(simp only [go_sem] at hL ⊢)
    (repeat' (first | (with_reducible first | exact True.intro | refine And.intro ?_ ?_ | refine awp_block ?_ | ((first | refine awp_seq1 21 [] ?_ | refine awp_seq2 21 [] ?_ | refine awp_seq3 21 [] ?_ | refine awp_seq4 21 [] ?_ | refine awp_seq 21 [] ?_); intro K hK)) | ((with_reducible first | refine awp_reg ?_ | refine awp_exit ?_ | refine awp_skip ?_ | refine likeK_i ?_ | refine otWR_i ?_ | refine rD (id := 30) ?_); simp only [go_sem]) | (with_reducible refine awp_ret ?_; simp only [retF, retM, retL, resV, resW, retO, resAV, AV.bor, D.bor, D.bor1, D.bor0, AV.flatOwn, D.flatOwn, D.flat, AV.tagged, D.tagged, AObj.plain, go_sem]) | ((with_reducible refine awp_cond' ?_ ?_ (fun hb => ?_) (fun hb => ?_)); (simp only [go_sem]); (simp only [go_sem]); all_goals (simp only [go_sem] at hb; try simp only [bls] at hb)) | ((iterate 6 try ((fail_if_success with_reducible refine hK _ ?_ ?_ ?_); clear hK K)); with_reducible refine hK _ ?_ ?_ ?_; rotate_left; (focus (simp only [go_sem]; exact rfl)); clear hK K) | (with_reducible refine gsplit_i (fun hg0 => ?_) (fun hg0 => ?_) <;> first | (with_reducible first | exact absurd hg0 Bool.false_ne_true | exact absurd hg0.symm Bool.false_ne_true) | (simp only [hg0, go_sem])) | (with_reducible refine nilK_i ?_; intro bnil hnil; try simp only []) | (omega; done) | (intro hv; (try simp only [bls] at hv); (try simp only [bls]); omega) | (intro hg; (simp only [hg, Bool.true_and, true_and, implies_true]; try (intro hg2; simp only [hg2, Bool.not_false, Bool.not_true])); done)))
    all_goals first | omega | rfl | skip
  ·have h3 := hfE.resolve_left h0
   rw [if_neg h0] at hfR
   rw [hfR, h3] at hFX
   rw [decide_eq_false h0] at hFi2
   subst hFX
   (simp only [List.set_cons_succ, List.set_cons_zero, go_sem] at hL ⊢)
   (repeat' (first | (with_reducible first | exact True.intro | refine And.intro ?_ ?_ | refine awp_block ?_ | ((first | refine awp_seq1 21 [] ?_ | refine awp_seq2 21 [] ?_ | refine awp_seq3 21 [] ?_ | refine awp_seq4 21 [] ?_ | refine awp_seq 21 [] ?_); intro K hK)) | ((with_reducible first | refine awp_reg ?_ | refine awp_exit ?_ | refine awp_skip ?_ | refine likeK_i ?_ | refine otWR_i ?_ | refine rD (id := 30) ?_); simp only [hq, go_sem]) | (with_reducible refine awp_ret ?_; simp only [retF, retM, retL, resV, resW, retO, resAV, AV.bor, D.bor, D.bor1, D.bor0, AV.flatOwn, D.flatOwn, D.flat, AV.tagged, D.tagged, AObj.plain, hq, go_sem]) | ((with_reducible refine awp_cond' ?_ ?_ (fun hb => ?_) (fun hb => ?_)); (simp only [hq, go_sem]); (simp only [hq, go_sem]); all_goals (simp only [hq, go_sem] at hb; try simp only [bls] at hb)) | ((iterate 6 try ((fail_if_success with_reducible refine hK _ ?_ ?_ ?_); clear hK K)); with_reducible refine hK _ ?_ ?_ ?_; rotate_left; (focus (simp only [hq, go_sem]; exact rfl)); clear hK K) | ((first | (with_reducible first | refine cA hSI ?_ | refine cA hEt ?_ | refine cA hFi2 ?_ | refine cD hSI ?_ | refine cD hEt ?_ | refine cD hFi2 ?_ | refine cO hSI ?_ | refine cO hEt ?_ | refine cO hFi2 ?_ | refine cR hSI ?_ | refine cR hEt ?_ | refine cR hFi2 ?_ | refine cG (fun hg => hSI) ?_ | refine cG (fun hg => hEt) ?_ | refine cG (fun hg => hFi2) ?_ | refine cH (fun hg => hSI) ?_ | refine cH (fun hg => hEt) ?_ | refine cH (fun hg => hFi2) ?_ | refine cM (fun hg => hSI) ?_ | refine cM (fun hg => hEt) ?_ | refine cM (fun hg => hFi2) ?_) | (guard_target = CallAt _ _ _ _ _ _ _ _ _ _; first | refine cA hSI ?_ | refine cA hEt ?_ | refine cA hFi2 ?_) | (guard_target = DCallAt _ _ _ _ _ _ _ _; first | refine cD hSI ?_ | refine cD hEt ?_ | refine cD hFi2 ?_) | (guard_target = GCallAt _ _ _ _ _ _ _ _ _ _ _; first | refine cG (fun hg => hSI) ?_ | refine cG (fun hg => hEt) ?_ | refine cG (fun hg => hFi2) ?_)); simp only [hq, go_sem]) | (with_reducible refine gsplit_i (fun hg0 => ?_) (fun hg0 => ?_) <;> first | (with_reducible first | exact absurd hg0 Bool.false_ne_true | exact absurd hg0.symm Bool.false_ne_true) | (simp only [hg0, hq, go_sem])) | (with_reducible refine nilK_i ?_; intro bnil hnil; try simp only []) | (omega; done) | (intro hv; (try simp only [bls] at hv); (try simp only [bls]); omega) | (intro hg; (simp only [hg, Bool.true_and, true_and, implies_true]; try (intro hg2; simp only [hg2, Bool.not_false, Bool.not_true])); done)))
   all_goals first | omega | rfl | (simp; done) | skip
 ·have hFX : fireX n mk t = ([], false, markE n mk) := by rw [fireX, if_pos hm0]
  rw [enabledL, if_neg hm0] at hEn
  rw [hFX] at hFi
  generalize markE n mk = e at *
  simp only [Net.d] at hM hEn hFi hCM
  (refine ACalls.of_body Ty_ok mixed Tryd.func7 rfl (by kernel_rfl) Tryd.ntmps7 (by simp) (congrArg Array.toList Tryd.results7) ?_)
  simp only [slotsOf]
  (repeat' (first | (with_reducible first | exact True.intro | refine And.intro ?_ ?_ | refine awp_block ?_ | ((first | refine awp_seq1 21 [] ?_ | refine awp_seq2 21 [] ?_ | refine awp_seq3 21 [] ?_ | refine awp_seq4 21 [] ?_ | refine awp_seq 21 [] ?_); intro K hK)) | ((with_reducible first | refine awp_reg ?_ | refine awp_exit ?_ | refine awp_skip ?_ | refine likeK_i ?_ | refine otWR_i ?_ | refine rD (id := 30) ?_); simp only [go_sem]) | (with_reducible refine awp_ret ?_; simp only [retF, retM, retL, resV, resW, retO, resAV, AV.bor, D.bor, D.bor1, D.bor0, AV.flatOwn, D.flatOwn, D.flat, AV.tagged, D.tagged, AObj.plain, go_sem]) | ((with_reducible refine awp_cond' ?_ ?_ (fun hb => ?_) (fun hb => ?_)); (simp only [go_sem]); (simp only [go_sem]); all_goals (simp only [go_sem] at hb; try simp only [bls] at hb)) | ((iterate 6 try ((fail_if_success with_reducible refine hK _ ?_ ?_ ?_); clear hK K)); with_reducible refine hK _ ?_ ?_ ?_; rotate_left; (focus (simp only [go_sem]; exact rfl)); clear hK K) | ((first | (with_reducible first | refine cA hk ?_ | refine cA hM ?_ | refine cA hEn ?_ | refine cA hFi ?_ | refine cA hCM ?_ | refine cD hk ?_ | refine cD hM ?_ | refine cD hEn ?_ | refine cD hFi ?_ | refine cD hCM ?_ | refine cO hk ?_ | refine cO hM ?_ | refine cO hEn ?_ | refine cO hFi ?_ | refine cO hCM ?_ | refine cR hk ?_ | refine cR hM ?_ | refine cR hEn ?_ | refine cR hFi ?_ | refine cR hCM ?_ | refine cG (fun hg => hk) ?_ | refine cG (fun hg => hM) ?_ | refine cG (fun hg => hEn) ?_ | refine cG (fun hg => hFi) ?_ | refine cG (fun hg => hCM) ?_ | refine cH (fun hg => hk) ?_ | refine cH (fun hg => hM) ?_ | refine cH (fun hg => hEn) ?_ | refine cH (fun hg => hFi) ?_ | refine cH (fun hg => hCM) ?_ | refine cM (fun hg => hk) ?_ | refine cM (fun hg => hM) ?_ | refine cM (fun hg => hEn) ?_ | refine cM (fun hg => hFi) ?_ | refine cM (fun hg => hCM) ?_) | (guard_target = CallAt _ _ _ _ _ _ _ _ _ _; first | refine cA hk ?_ | refine cA hM ?_ | refine cA hEn ?_ | refine cA hFi ?_ | refine cA hCM ?_) | (guard_target = DCallAt _ _ _ _ _ _ _ _; first | refine cD hk ?_ | refine cD hM ?_ | refine cD hEn ?_ | refine cD hFi ?_ | refine cD hCM ?_) | (guard_target = GCallAt _ _ _ _ _ _ _ _ _ _ _; first | refine cG (fun hg => hk) ?_ | refine cG (fun hg => hM) ?_ | refine cG (fun hg => hEn) ?_ | refine cG (fun hg => hFi) ?_ | refine cG (fun hg => hCM) ?_)); simp only [go_sem]) | (with_reducible refine gsplit_i (fun hg0 => ?_) (fun hg0 => ?_) <;> first | (with_reducible first | exact absurd hg0 Bool.false_ne_true | exact absurd hg0.symm Bool.false_ne_true) | (simp only [hg0, go_sem])) | (with_reducible refine nilK_i ?_; intro bnil hnil; try simp only []) | (omega; done) | (intro hv; (try simp only [bls] at hv); (try simp only [bls]); omega) | (intro hg; (simp only [hg, Bool.true_and, true_and, implies_true]; try (intro hg2; simp only [hg2, Bool.not_false, Bool.not_true])); done)))
  all_goals first | omega | rfl | (simp; done) | skip
theorem Fires_c (s : Nat → Int) (hs : Bytes s) (mk : List Int) (t : Int) (hln : mk.length ≤ 9223372036854775807) :
  ACalls Tryd.prog 7 [.agg (bytesD 37 s), .one (.list (ints mk)), .one (.int .i64 t)] (.one (.bool true)) [] := Fires_of Incidence_c s hs mk t hln
end Go.Proofs.YtjldfifepbdlmaaDoor
