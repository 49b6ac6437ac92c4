/-
 The law NetRuns.
-/
import Derived.Test.YtjldfifepbdlmaaDoorSU
import Derived.Test.YtjldfifepbdlmaaDoorSP
import Derived.Test.YtjldfifepbdlmaaDoorSI
import Derived.Test.YtjldfifepbdlmaaDoorSM
set_option linter.unusedSimpArgs false
set_option linter.unusedVariables false
namespace Go.Proofs.YtjldfifepbdlmaaDoor
open Go.Eng Go.RowKit
theorem runs_step {n : Net} (hn : NetOk n) (hw : Light n) {m l : List Int} {k : Nat} (hk : k < l.length) (hr : 0 ≤ l.getD k 0 ∧ l.getD k 0 < n.trs.length) (hm : m.length = n.init.length) (hb : ∀ x ∈ m, 0 ≤ x ∧ x ≤ 3 + 2 * (k : Int)) (hl : l.length ≤ 10)
  (he : enB m (n.trs.getD (l.getD k 0).toNat Tr.no) = true) :
  runF n (l.drop k) m k = runF n (l.drop (k + 1)) (firedL (n.trs.getD (l.getD k 0).toNat Tr.no) m) ((k + 1 : Nat) : Int) ∧ ∀ x ∈ firedL (n.trs.getD (l.getD k 0).toNat Tr.no) m, 0 ≤ x ∧ x ≤ 3 + 2 * ((k + 1 : Nat) : Int) := by
 have h1 := firedL_light hn hw hm ⟨hr.1, hr.2, he⟩ hb
 have h2 : firedE (n.trs.getD (l.getD k 0).toNat Tr.no) m = 0 := by
  rw [firedE, any_tok fun x hx => by have := h1 x hx; omega]; rfl
 refine ⟨?_, fun x hx => by have := h1 x hx; omega⟩
 rw [drop_getD l k 0 hk, runF, if_neg (by rw [he]; decide), if_neg (by omega)]
 rfl
theorem runs_stop {n : Net} {m l : List Int} {k : Nat} (hk : k < l.length) (he : enB m (n.trs.getD (l.getD k 0).toNat Tr.no) = false) : runF n (l.drop k) m k = (m, (k : Int), 0) := by
 rw [drop_getD l k 0 hk, runF, if_pos he]
theorem rev_fits {n : Net} (h : n.Fits) : (revN n).Fits := by
 refine ⟨h.init, by simp only [revN, List.length_map]; exact h.trs, fun t ht => ?_, fun t ht => ?_⟩
 all_goals (simp only [revN, List.mem_map] at ht; obtain ⟨u, hu, rfl⟩ := ht)
 ·exact h.out _ hu
 ·exact h.inn _ hu
theorem make_evs (s : Nat → Int) (hs : Bytes s) : ∀ x ∈ evL (makeNet s), 0 ≤ x ∧ x < ((5 : Nat) : Int) := by
 intro x hx
 simp only [evL, makeNet, trsL, List.mem_map] at hx
 obtain ⟨t, ⟨i, _, rfl⟩, rfl⟩ := hx
 simp only [trL]
 omega
set_option maxRecDepth 20000 in
set_option maxHeartbeats 64000000 in
theorem Runs_c (s : Nat → Int) (hs : Bytes s) (l : List Int) (hln : l.length ≤ 9223372036854775807) :
  ACalls Tryd.prog 8 [.agg (bytesD 37 s), .one (.list (ints l))] (.one (.bool true)) [] := by
 have hk := known_c
 by_cases h8 : 10 < l.length
 ·(refine ACalls.of_body Ty_ok mixed Tryd.func8 rfl (by kernel_rfl) Tryd.ntmps8 (by simp) (congrArg Array.toList Tryd.results8) ?_)
  simp only [slotsOf]
  (repeat' (first | (with_reducible first | exact True.intro | refine And.intro ?_ ?_ | refine awp_block ?_ | ((first | refine awp_seq1 22 [] ?_ | refine awp_seq2 22 [] ?_ | refine awp_seq3 22 [] ?_ | refine awp_seq4 22 [] ?_ | refine awp_seq 22 [] ?_); intro K hK)) | ((with_reducible first | refine awp_reg ?_ | refine awp_exit ?_ | refine awp_skip ?_ | refine likeK_i ?_ | refine otWR_i ?_ | refine rD (id := 28) ?_ | refine rP Ty_ok mixed 30 [0, 1] [.mid [pe 2, pe 3, pe 4, pe 5, pe 6, pe 7, pe 8, pe 9, pe 10] 0, .one 11, .one 12] ?_ | refine rP Ty_ok mixed 31 [1, 2, 3] [.mid [pe 0, pe 4, pe 5] 0, .one 6, .mid [pe 7, pe 8, pe 9, pe 10] 0] ?_); simp only [go_sem]) | (with_reducible refine awp_ret ?_; simp only [retF, retM, retL, resV, resW, retO, resAV, AV.bor, D.bor, D.bor1, D.bor0, AV.flatOwn, D.flatOwn, D.flat, AV.tagged, D.tagged, AObj.plain, go_sem]) | ((with_reducible refine awp_cond' ?_ ?_ (fun hb => ?_) (fun hb => ?_)); (simp only [go_sem]); (simp only [go_sem]); all_goals (simp only [go_sem] at hb; try simp only [bls] at hb)) | ((iterate 6 try ((fail_if_success with_reducible refine hK _ ?_ ?_ ?_); clear hK K)); with_reducible refine hK _ ?_ ?_ ?_; rotate_left; (focus (simp only [go_sem]; exact rfl)); clear hK K) | ((first | (with_reducible first | refine cA hk ?_ | refine cD hk ?_ | refine cO hk ?_ | refine cR hk ?_ | refine cG (fun hg => hk) ?_ | refine cH (fun hg => hk) ?_ | refine cM (fun hg => hk) ?_) | (guard_target = CallAt _ _ _ _ _ _ _ _ _ _; refine cA hk ?_) | (guard_target = DCallAt _ _ _ _ _ _ _ _; refine cD hk ?_) | (guard_target = GCallAt _ _ _ _ _ _ _ _ _ _ _; refine cG (fun hg => hk) ?_)); simp only [go_sem]) | (with_reducible refine gsplit_i (fun hg0 => ?_) (fun hg0 => ?_) <;> first | (with_reducible first | exact absurd hg0 Bool.false_ne_true | exact absurd hg0.symm Bool.false_ne_true) | (simp only [hg0, go_sem])) | (with_reducible refine nilK_i ?_; intro bnil hnil; try simp only []) | (omega; done) | (intro hv; (try simp only [bls] at hv); (try simp only [bls]); omega) | (intro hg; (simp only [hg, Bool.true_and, true_and, implies_true]; try (intro hg2; simp only [hg2, Bool.not_false, Bool.not_true])); done)))
  all_goals first | omega | skip
 have hM := Make_c s hs
 have hN := netOk_of (makeNet_ok s hs)
 have hw := make_light s
 have hin := init_small s
 have hev := make_evs s hs
 generalize makeNet s = n at hM hN hw hin hev
 have hi10 := hN.init
 have ht10 := hN.trs
 have hfit := hN.fits
 have hE := netE_of hN
 have hRun := Run_c n l hfit (by omega)
 have hEv := Events_c n hfit
 have hRv := RevNet_c n hfit
 have hS := lawSame_c (revN n) (revN n) (rev_fits hfit)
 have hwant := wantL_all hev
 rw [decide_eq_true rfl] at hS
 rw [evR, if_neg (by omega)] at hEv
 rw [rvR, if_neg (by omega)] at hRv
 have hRX : runX n l = if l.any (outB n) = true then ([], 0, 2) else runF n l n.init 0 := by rw [runX, if_neg (by omega)]
 generalize hRR : runX n l = R at *
 have er : (revN n).d = [.list (ints n.init), .list (trsD (n.trs.map revT))] := rfl
 simp only [er] at hRv hS
 simp only [Net.d] at hM hRun hEv hRv
 (refine ACalls.of_body Ty_ok mixed Tryd.func8 rfl (by kernel_rfl) Tryd.ntmps8 (by simp) (congrArg Array.toList Tryd.results8) ?_)
 simp only [slotsOf]
 (repeat' (first | (with_reducible first | exact True.intro | refine And.intro ?_ ?_ | refine awp_block ?_ | ((first | refine awp_seq1 22 [] ?_ | refine awp_seq2 22 [] ?_ | refine awp_seq3 22 [] ?_ | refine awp_seq4 22 [] ?_ | refine awp_seq 22 [] ?_); intro K hK)) | ((with_reducible first | refine awp_reg ?_ | refine awp_exit ?_ | refine awp_skip ?_ | refine likeK_i ?_ | refine otWR_i ?_ | refine rD (id := 28) ?_ | refine rP Ty_ok mixed 30 [0, 1] [.mid [pe 2, pe 3, pe 4, pe 5, pe 6, pe 7, pe 8, pe 9, pe 10] 0, .one 11, .one 12] ?_ | refine rP Ty_ok mixed 31 [1, 2, 3] [.mid [pe 0, pe 4, pe 5] 0, .one 6, .mid [pe 7, pe 8, pe 9, pe 10] 0] ?_); simp only [go_sem]) | (with_reducible refine awp_ret ?_; simp only [retF, retM, retL, resV, resW, retO, resAV, AV.bor, D.bor, D.bor1, D.bor0, AV.flatOwn, D.flatOwn, D.flat, AV.tagged, D.tagged, AObj.plain, go_sem]) | ((with_reducible refine awp_cond' ?_ ?_ (fun hb => ?_) (fun hb => ?_)); (simp only [go_sem]); (simp only [go_sem]); all_goals (simp only [go_sem] at hb; try simp only [bls] at hb)) | ((iterate 6 try ((fail_if_success with_reducible refine hK _ ?_ ?_ ?_); clear hK K)); with_reducible refine hK _ ?_ ?_ ?_; rotate_left; (focus (simp only [go_sem]; exact rfl)); clear hK K) | ((first | (with_reducible first | refine cA hk ?_ | refine cA hM ?_ | refine cA hRun ?_ | refine cA hEv ?_ | refine cA hRv ?_ | refine cD hk ?_ | refine cD hM ?_ | refine cD hRun ?_ | refine cD hEv ?_ | refine cD hRv ?_ | refine cO hk ?_ | refine cO hM ?_ | refine cO hRun ?_ | refine cO hEv ?_ | refine cO hRv ?_ | refine cR hk ?_ | refine cR hM ?_ | refine cR hRun ?_ | refine cR hEv ?_ | refine cR hRv ?_ | refine cG (fun hg => hk) ?_ | refine cG (fun hg => hM) ?_ | refine cG (fun hg => hRun) ?_ | refine cG (fun hg => hEv) ?_ | refine cG (fun hg => hRv) ?_ | refine cH (fun hg => hk) ?_ | refine cH (fun hg => hM) ?_ | refine cH (fun hg => hRun) ?_ | refine cH (fun hg => hEv) ?_ | refine cH (fun hg => hRv) ?_ | refine cM (fun hg => hk) ?_ | refine cM (fun hg => hM) ?_ | refine cM (fun hg => hRun) ?_ | refine cM (fun hg => hEv) ?_ | refine cM (fun hg => hRv) ?_) | (guard_target = CallAt _ _ _ _ _ _ _ _ _ _; first | refine cA hk ?_ | refine cA hM ?_ | refine cA hRun ?_ | refine cA hEv ?_ | refine cA hRv ?_) | (guard_target = DCallAt _ _ _ _ _ _ _ _; first | refine cD hk ?_ | refine cD hM ?_ | refine cD hRun ?_ | refine cD hEv ?_ | refine cD hRv ?_) | (guard_target = GCallAt _ _ _ _ _ _ _ _ _ _ _; first | refine cG (fun hg => hk) ?_ | refine cG (fun hg => hM) ?_ | refine cG (fun hg => hRun) ?_ | refine cG (fun hg => hEv) ?_ | refine cG (fun hg => hRv) ?_)); simp only [go_sem]) | (with_reducible refine gsplit_i (fun hg0 => ?_) (fun hg0 => ?_) <;> first | (with_reducible first | exact absurd hg0 Bool.false_ne_true | exact absurd hg0.symm Bool.false_ne_true) | (simp only [hg0, go_sem])) | (with_reducible refine nilK_i ?_; intro bnil hnil; try simp only []) | (omega; done) | (intro hv; (try simp only [bls] at hv); (try simp only [bls]); omega) | (intro hg; (simp only [hg, Bool.true_and, true_and, implies_true]; try (intro hg2; simp only [hg2, Bool.not_false, Bool.not_true])); done)))
 all_goals first | omega | skip
 refine awp_loop _ (by simp only [go_sem]; rfl) Nat (fun k => k ≤ 5) (fun k => [(13, .one (.own 3)), (14, .one (.int .i64 k))]) (fun k H => H.set 3 (.row 3 1 (ints (wantL n k)))) (fun k => 5 - k) 0 (by omega) ?_ ?_
 ·have e0 : ints (wantL n 0) = [] := rfl
  rw [e0]
  (simp only [SubF, List.set_cons_succ, List.set_cons_zero, go_sem]; (try simp only [List.set_cons_succ, List.set_cons_zero, go_sem]); repeat' (first | exact True.intro | with_reducible refine And.intro ?_ ?_ | rfl | omega))
 rintro k hk5 L hL
 have hq : ((k : Nat) : Int).toNat = k := by omega
 have hwl := wantL_length n k
 by_cases hlt5 : k < 5
 ·have hsu := wantL_succ n k
  (simp only [List.set_cons_succ, List.set_cons_zero, go_sem] at hL ⊢)
  (repeat' (first | (with_reducible first | exact True.intro | refine And.intro ?_ ?_ | refine awp_block ?_ | ((first | refine awp_seq1 22 [] ?_ | refine awp_seq2 22 [] ?_ | refine awp_seq3 22 [] ?_ | refine awp_seq4 22 [] ?_ | refine awp_seq 22 [] ?_); intro K hK)) | ((with_reducible first | refine awp_reg ?_ | refine awp_exit ?_ | refine awp_skip ?_ | refine likeK_i ?_ | refine otWR_i ?_ | refine rD (id := 28) ?_ | refine rP Ty_ok mixed 30 [0, 1] [.mid [pe 2, pe 3, pe 4, pe 5, pe 6, pe 7, pe 8, pe 9, pe 10] 0, .one 11, .one 12] ?_ | refine rP Ty_ok mixed 31 [1, 2, 3] [.mid [pe 0, pe 4, pe 5] 0, .one 6, .mid [pe 7, pe 8, pe 9, pe 10] 0] ?_); simp only [go_sem]) | (with_reducible refine awp_ret ?_; simp only [retF, retM, retL, resV, resW, retO, resAV, AV.bor, D.bor, D.bor1, D.bor0, AV.flatOwn, D.flatOwn, D.flat, AV.tagged, D.tagged, AObj.plain, go_sem]) | ((with_reducible refine awp_cond' ?_ ?_ (fun hb => ?_) (fun hb => ?_)); (simp only [go_sem]); (simp only [go_sem]); all_goals (simp only [go_sem] at hb; try simp only [bls] at hb)) | ((iterate 6 try ((fail_if_success with_reducible refine hK _ ?_ ?_ ?_); clear hK K)); with_reducible refine hK _ ?_ ?_ ?_; rotate_left; (focus (simp only [go_sem]; exact rfl)); clear hK K) | (with_reducible refine gsplit_i (fun hg0 => ?_) (fun hg0 => ?_) <;> first | (with_reducible first | exact absurd hg0 Bool.false_ne_true | exact absurd hg0.symm Bool.false_ne_true) | (simp only [hg0, go_sem])) | (with_reducible refine nilK_i ?_; intro bnil hnil; try simp only []) | (omega; done) | (intro hv; (try simp only [bls] at hv); (try simp only [bls]); omega) | (intro hg; (simp only [hg, Bool.true_and, true_and, implies_true]; try (intro hg2; simp only [hg2, Bool.not_false, Bool.not_true])); done)))
  all_goals first | omega | skip
  refine awp_loop _ (by simp only [go_sem]; rfl) Nat (fun i => i ≤ n.trs.length ∧ (k : Int) ∉ (n.trs.take i).map Tr.event) (fun i => [(13, .one (.own 3)), (15, .one (.int .i64 i))]) (fun _ H => H.set 3 (.row 3 1 (ints (wantL n k)))) (fun i => n.trs.length - i) 0 ⟨by omega, by simp⟩ ?_ ?_
  ·(simp only [SubF, List.set_cons_succ, List.set_cons_zero, go_sem]; (try simp only [List.set_cons_succ, List.set_cons_zero, go_sem]); repeat' (first | exact True.intro | with_reducible refine And.intro ?_ ?_ | rfl | omega))
  rintro i ⟨hi, hno⟩ L2 hL2
  have hqi : ((i : Nat) : Int).toNat = i := by omega
  by_cases hlt : i < n.trs.length
  ·have hg := trs_get hlt [.int .i64 0, .nil, .nil]
   have hg2 := trs_get hlt []
   have hs1 := evL_succ n.trs i hlt
   have hmem : (n.trs.getD i Tr.no).event ∈ evL n := List.mem_map.2 ⟨_, getD_mem n.trs i Tr.no hlt, rfl⟩
   generalize n.trs.getD i Tr.no = t at *
   by_cases e : t.event = k
   ·rw [e] at hmem
    rw [if_pos hmem] at hsu
    (simp only [List.set_cons_succ, List.set_cons_zero, go_sem] at hL2 ⊢)
    (repeat' (first | (with_reducible first | exact True.intro | refine And.intro ?_ ?_ | refine awp_block ?_ | ((first | refine awp_seq1 22 [] ?_ | refine awp_seq2 22 [] ?_ | refine awp_seq3 22 [] ?_ | refine awp_seq4 22 [] ?_ | refine awp_seq 22 [] ?_); intro K hK)) | ((with_reducible first | refine awp_reg ?_ | refine awp_exit ?_ | refine awp_skip ?_ | refine likeK_i ?_ | refine otWR_i ?_ | refine rD (id := 28) ?_ | refine rP Ty_ok mixed 30 [0, 1] [.mid [pe 2, pe 3, pe 4, pe 5, pe 6, pe 7, pe 8, pe 9, pe 10] 0, .one 11, .one 12] ?_ | refine rP Ty_ok mixed 31 [1, 2, 3] [.mid [pe 0, pe 4, pe 5] 0, .one 6, .mid [pe 7, pe 8, pe 9, pe 10] 0] ?_); simp only [hg, hg2, hqi, e, go_sem]) | (with_reducible refine awp_ret ?_; simp only [retF, retM, retL, resV, resW, retO, resAV, AV.bor, D.bor, D.bor1, D.bor0, AV.flatOwn, D.flatOwn, D.flat, AV.tagged, D.tagged, AObj.plain, hg, hg2, hqi, e, go_sem]) | ((with_reducible refine awp_cond' ?_ ?_ (fun hb => ?_) (fun hb => ?_)); (simp only [hg, hg2, hqi, e, go_sem]); (simp only [hg, hg2, hqi, e, go_sem]); all_goals (simp only [hg, hg2, hqi, e, go_sem] at hb; try simp only [bls] at hb)) | ((iterate 6 try ((fail_if_success with_reducible refine hK _ ?_ ?_ ?_); clear hK K)); with_reducible refine hK _ ?_ ?_ ?_; rotate_left; (focus (simp only [hg, hg2, hqi, e, go_sem]; exact rfl)); clear hK K) | (with_reducible refine gsplit_i (fun hg0 => ?_) (fun hg0 => ?_) <;> first | (with_reducible first | exact absurd hg0 Bool.false_ne_true | exact absurd hg0.symm Bool.false_ne_true) | (simp only [hg0, hg, hg2, hqi, e, go_sem])) | (with_reducible refine nilK_i ?_; intro bnil hnil; try simp only []) | (omega; done) | (intro hv; (try simp only [bls] at hv); (try simp only [bls]); omega) | (intro hg; (simp only [hg, Bool.true_and, true_and, implies_true]; try (intro hg2; simp only [hg2, Bool.not_false, Bool.not_true])); done)))
    all_goals first | omega | skip
    refine hL _ (k + 1) (by omega) ?_ (by omega)
    rw [hsu, ← ints_append, ← ints_one]
    (simp only [SubF, List.set_cons_succ, List.set_cons_zero, go_sem]; (try simp only [List.set_cons_succ, List.set_cons_zero, go_sem]); repeat' (first | exact True.intro | with_reducible refine And.intro ?_ ?_ | rfl | omega))
   ·(simp only [List.set_cons_succ, List.set_cons_zero, go_sem] at hL2 ⊢)
    (repeat' (first | (with_reducible first | exact True.intro | refine And.intro ?_ ?_ | refine awp_block ?_ | ((first | refine awp_seq1 22 [] ?_ | refine awp_seq2 22 [] ?_ | refine awp_seq3 22 [] ?_ | refine awp_seq4 22 [] ?_ | refine awp_seq 22 [] ?_); intro K hK)) | ((with_reducible first | refine awp_reg ?_ | refine awp_exit ?_ | refine awp_skip ?_ | refine likeK_i ?_ | refine otWR_i ?_ | refine rD (id := 28) ?_ | refine rP Ty_ok mixed 30 [0, 1] [.mid [pe 2, pe 3, pe 4, pe 5, pe 6, pe 7, pe 8, pe 9, pe 10] 0, .one 11, .one 12] ?_ | refine rP Ty_ok mixed 31 [1, 2, 3] [.mid [pe 0, pe 4, pe 5] 0, .one 6, .mid [pe 7, pe 8, pe 9, pe 10] 0] ?_); simp only [hg, hg2, hqi, go_sem]) | (with_reducible refine awp_ret ?_; simp only [retF, retM, retL, resV, resW, retO, resAV, AV.bor, D.bor, D.bor1, D.bor0, AV.flatOwn, D.flatOwn, D.flat, AV.tagged, D.tagged, AObj.plain, hg, hg2, hqi, go_sem]) | ((with_reducible refine awp_cond' ?_ ?_ (fun hb => ?_) (fun hb => ?_)); (simp only [hg, hg2, hqi, go_sem]); (simp only [hg, hg2, hqi, go_sem]); all_goals (simp only [hg, hg2, hqi, go_sem] at hb; try simp only [bls] at hb)) | ((iterate 6 try ((fail_if_success with_reducible refine hK _ ?_ ?_ ?_); clear hK K)); with_reducible refine hK _ ?_ ?_ ?_; rotate_left; (focus (simp only [hg, hg2, hqi, go_sem]; exact rfl)); clear hK K) | (with_reducible refine gsplit_i (fun hg0 => ?_) (fun hg0 => ?_) <;> first | (with_reducible first | exact absurd hg0 Bool.false_ne_true | exact absurd hg0.symm Bool.false_ne_true) | (simp only [hg0, hg, hg2, hqi, go_sem])) | (with_reducible refine nilK_i ?_; intro bnil hnil; try simp only []) | (omega; done) | (intro hv; (try simp only [bls] at hv); (try simp only [bls]); omega) | (intro hg; (simp only [hg, Bool.true_and, true_and, implies_true]; try (intro hg2; simp only [hg2, Bool.not_false, Bool.not_true])); done)))
    all_goals first | omega | skip
    exact hL2 _ (i + 1) ⟨by omega, by rw [hs1, List.mem_append, List.mem_singleton]; exact fun h => h.elim hno fun h => e h.symm⟩ (by (simp only [SubF, List.set_cons_succ, List.set_cons_zero, go_sem]; (try simp only [List.set_cons_succ, List.set_cons_zero, go_sem]); repeat' (first | exact True.intro | with_reducible refine And.intro ?_ ?_ | rfl | omega))) (by omega)
  ·rw [List.take_of_length_le (by omega)] at hno
   have hno' : (k : Int) ∉ evL n := hno
   rw [if_neg hno', List.append_nil] at hsu
   (simp only [List.set_cons_succ, List.set_cons_zero, go_sem] at hL2 ⊢)
   (repeat' (first | (with_reducible first | exact True.intro | refine And.intro ?_ ?_ | refine awp_block ?_ | ((first | refine awp_seq1 22 [] ?_ | refine awp_seq2 22 [] ?_ | refine awp_seq3 22 [] ?_ | refine awp_seq4 22 [] ?_ | refine awp_seq 22 [] ?_); intro K hK)) | ((with_reducible first | refine awp_reg ?_ | refine awp_exit ?_ | refine awp_skip ?_ | refine likeK_i ?_ | refine otWR_i ?_ | refine rD (id := 28) ?_ | refine rP Ty_ok mixed 30 [0, 1] [.mid [pe 2, pe 3, pe 4, pe 5, pe 6, pe 7, pe 8, pe 9, pe 10] 0, .one 11, .one 12] ?_ | refine rP Ty_ok mixed 31 [1, 2, 3] [.mid [pe 0, pe 4, pe 5] 0, .one 6, .mid [pe 7, pe 8, pe 9, pe 10] 0] ?_); simp only [go_sem]) | (with_reducible refine awp_ret ?_; simp only [retF, retM, retL, resV, resW, retO, resAV, AV.bor, D.bor, D.bor1, D.bor0, AV.flatOwn, D.flatOwn, D.flat, AV.tagged, D.tagged, AObj.plain, go_sem]) | ((with_reducible refine awp_cond' ?_ ?_ (fun hb => ?_) (fun hb => ?_)); (simp only [go_sem]); (simp only [go_sem]); all_goals (simp only [go_sem] at hb; try simp only [bls] at hb)) | ((iterate 6 try ((fail_if_success with_reducible refine hK _ ?_ ?_ ?_); clear hK K)); with_reducible refine hK _ ?_ ?_ ?_; rotate_left; (focus (simp only [go_sem]; exact rfl)); clear hK K) | (with_reducible refine gsplit_i (fun hg0 => ?_) (fun hg0 => ?_) <;> first | (with_reducible first | exact absurd hg0 Bool.false_ne_true | exact absurd hg0.symm Bool.false_ne_true) | (simp only [hg0, go_sem])) | (with_reducible refine nilK_i ?_; intro bnil hnil; try simp only []) | (omega; done) | (intro hv; (try simp only [bls] at hv); (try simp only [bls]); omega) | (intro hg; (simp only [hg, Bool.true_and, true_and, implies_true]; try (intro hg2; simp only [hg2, Bool.not_false, Bool.not_true])); done)))
   all_goals first | omega | skip
   rw [← hsu] at *
   refine hL _ (k + 1) (by omega) ?_ (by omega)
   (simp only [SubF, List.set_cons_succ, List.set_cons_zero, go_sem]; (try simp only [List.set_cons_succ, List.set_cons_zero, go_sem]); repeat' (first | exact True.intro | with_reducible refine And.intro ?_ ?_ | rfl | omega))
 ·have : k = 5 := by omega
  subst this
  rw [hwant]
  (simp only [List.set_cons_succ, List.set_cons_zero, go_sem] at hL ⊢)
  (repeat' (first | (with_reducible first | exact True.intro | refine And.intro ?_ ?_ | refine awp_block ?_ | ((first | refine awp_seq1 22 [] ?_ | refine awp_seq2 22 [] ?_ | refine awp_seq3 22 [] ?_ | refine awp_seq4 22 [] ?_ | refine awp_seq 22 [] ?_); intro K hK)) | ((with_reducible first | refine awp_reg ?_ | refine awp_exit ?_ | refine awp_skip ?_ | refine likeK_i ?_ | refine otWR_i ?_ | refine rD (id := 28) ?_ | refine rP Ty_ok mixed 30 [0, 1] [.mid [pe 2, pe 3, pe 4, pe 5, pe 6, pe 7, pe 8, pe 9, pe 10] 0, .one 11, .one 12] ?_ | refine rP Ty_ok mixed 31 [1, 2, 3] [.mid [pe 0, pe 4, pe 5] 0, .one 6, .mid [pe 7, pe 8, pe 9, pe 10] 0] ?_); simp only [go_sem]) | (with_reducible refine awp_ret ?_; simp only [retF, retM, retL, resV, resW, retO, resAV, AV.bor, D.bor, D.bor1, D.bor0, AV.flatOwn, D.flatOwn, D.flat, AV.tagged, D.tagged, AObj.plain, go_sem]) | ((with_reducible refine awp_cond' ?_ ?_ (fun hb => ?_) (fun hb => ?_)); (simp only [go_sem]); (simp only [go_sem]); all_goals (simp only [go_sem] at hb; try simp only [bls] at hb)) | ((iterate 6 try ((fail_if_success with_reducible refine hK _ ?_ ?_ ?_); clear hK K)); with_reducible refine hK _ ?_ ?_ ?_; rotate_left; (focus (simp only [go_sem]; exact rfl)); clear hK K) | (with_reducible refine gsplit_i (fun hg0 => ?_) (fun hg0 => ?_) <;> first | (with_reducible first | exact absurd hg0 Bool.false_ne_true | exact absurd hg0.symm Bool.false_ne_true) | (simp only [hg0, go_sem])) | (with_reducible refine nilK_i ?_; intro bnil hnil; try simp only []) | (omega; done) | (intro hv; (try simp only [bls] at hv); (try simp only [bls]); omega) | (intro hg; (simp only [hg, Bool.true_and, true_and, implies_true]; try (intro hg2; simp only [hg2, Bool.not_false, Bool.not_true])); done)))
  all_goals first | omega | skip
  have hred : ∀ j, ((n.trs.take j).map revT).length ≤ 10 := fun j => by rw [List.length_map, List.length_take]; omega
  clear hL hwl
  refine awp_loopT [.cell 4 1 72 3] _ (by simp only [go_sem]; rfl) Nat (fun k => k ≤ n.trs.length) (fun k => [(17, .one (.int .i64 k))]) (fun k => [.var 25 (bytesD 37 s), .var 30 [.list (ints n.init), .list (trsD n.trs)], .var 30 [.list (ints n.init), .list (trsD (n.trs.map revT))], .row 3 1 (ints (evsN n)), .var 30 [.list (ints n.init), .own 5], .row 72 3 (trsD ((n.trs.take k).map revT))]) (fun k => n.trs.length - k) 0 (by omega) ?_ ?_
  ·have e0 : trsD ((n.trs.take 0).map revT) = [] := rfl
   rw [e0]
   (simp only [SubF, go_sem]; (try simp only [go_sem]); repeat' (first | exact True.intro | with_reducible refine And.intro ?_ ?_ | rfl | omega))
  rintro k hk L hL
  have hp : ((k : Nat) : Int).toNat = k := by omega
  have hml : ((n.trs.take k).map revT).length = k := by rw [List.length_map, List.length_take]; omega
  by_cases hlt : k < n.trs.length
  ·have hg := trs_get hlt [.int .i64 0, .nil, .nil]
   have hg2 := trs_get hlt []
   have e1 : trsD ((n.trs.take (k + 1)).map revT) = trsD ((n.trs.take k).map revT) ++ [[.int .i64 (n.trs.getD k Tr.no).event, .list (arcsD (n.trs.getD k Tr.no).out), .list (arcsD (n.trs.getD k Tr.no).inn)]] := by
    rw [take_succ_getD n.trs k Tr.no hlt, List.map_append, ← trs_append]; rfl
   generalize n.trs.getD k Tr.no = t at *
   (simp only [go_sem] at hL ⊢)
   (repeat' (first | (with_reducible first | exact True.intro | refine And.intro ?_ ?_ | refine awp_block ?_ | ((first | refine awp_seq1 22 [] ?_ | refine awp_seq2 22 [] ?_ | refine awp_seq3 22 [] ?_ | refine awp_seq4 22 [] ?_ | refine awp_seq 22 [] ?_); intro K hK)) | ((with_reducible first | refine awp_reg ?_ | refine awp_exit ?_ | refine awp_skip ?_ | refine likeK_i ?_ | refine otWR_i ?_ | refine rD (id := 28) ?_ | refine rP Ty_ok mixed 30 [0, 1] [.mid [pe 2, pe 3, pe 4, pe 5, pe 6, pe 7, pe 8, pe 9, pe 10] 0, .one 11, .one 12] ?_ | refine rP Ty_ok mixed 31 [1, 2, 3] [.mid [pe 0, pe 4, pe 5] 0, .one 6, .mid [pe 7, pe 8, pe 9, pe 10] 0] ?_); simp only [hg, hg2, hp, go_sem]) | (with_reducible refine awp_ret ?_; simp only [retF, retM, retL, resV, resW, retO, resAV, AV.bor, D.bor, D.bor1, D.bor0, AV.flatOwn, D.flatOwn, D.flat, AV.tagged, D.tagged, AObj.plain, hg, hg2, hp, go_sem]) | ((with_reducible refine awp_cond' ?_ ?_ (fun hb => ?_) (fun hb => ?_)); (simp only [hg, hg2, hp, go_sem]); (simp only [hg, hg2, hp, go_sem]); all_goals (simp only [hg, hg2, hp, go_sem] at hb; try simp only [bls] at hb)) | ((iterate 6 try ((fail_if_success with_reducible refine hK _ ?_ ?_ ?_); clear hK K)); with_reducible refine hK _ ?_ ?_ ?_; rotate_left; (focus (simp only [hg, hg2, hp, go_sem]; exact rfl)); clear hK K) | (with_reducible refine gsplit_i (fun hg0 => ?_) (fun hg0 => ?_) <;> first | (with_reducible first | exact absurd hg0 Bool.false_ne_true | exact absurd hg0.symm Bool.false_ne_true) | (simp only [hg0, hg, hg2, hp, go_sem])) | (with_reducible refine nilK_i ?_; intro bnil hnil; try simp only []) | (omega; done) | (intro hv; (try simp only [bls] at hv); (try simp only [bls]); omega) | (intro hg; (simp only [hg, Bool.true_and, true_and, implies_true]; try (intro hg2; simp only [hg2, Bool.not_false, Bool.not_true])); done)))
   all_goals first | omega | skip
   refine hL _ (k + 1) (by omega) ?_ (by omega)
   rw [e1]
   (simp only [SubF, go_sem]; (try simp only [go_sem]); repeat' (first | exact True.intro | with_reducible refine And.intro ?_ ?_ | rfl | omega))
  ·have hkl : k = n.trs.length := by omega
   subst hkl
   rw [List.take_length] at *
   have hSI := SameInts_c (evsN n) (evsN n) (by have := evsN_length n; omega)
   rw [decide_eq_true rfl] at hSI
   clear hred
   (simp only [go_sem] at hL ⊢)
   (repeat' (first | (with_reducible first | exact True.intro | refine And.intro ?_ ?_ | refine awp_block ?_ | ((first | refine awp_seq1 22 [] ?_ | refine awp_seq2 22 [] ?_ | refine awp_seq3 22 [] ?_ | refine awp_seq4 22 [] ?_ | refine awp_seq 22 [] ?_); intro K hK)) | ((with_reducible first | refine awp_reg ?_ | refine awp_exit ?_ | refine awp_skip ?_ | refine likeK_i ?_ | refine otWR_i ?_ | refine rD (id := 28) ?_ | refine rP Ty_ok mixed 30 [0, 1] [.mid [pe 2, pe 3, pe 4, pe 5, pe 6, pe 7, pe 8, pe 9, pe 10] 0, .one 11, .one 12] ?_ | refine rP Ty_ok mixed 31 [1, 2, 3] [.mid [pe 0, pe 4, pe 5] 0, .one 6, .mid [pe 7, pe 8, pe 9, pe 10] 0] ?_); simp only [go_sem]) | (with_reducible refine awp_ret ?_; simp only [retF, retM, retL, resV, resW, retO, resAV, AV.bor, D.bor, D.bor1, D.bor0, AV.flatOwn, D.flatOwn, D.flat, AV.tagged, D.tagged, AObj.plain, go_sem]) | ((with_reducible refine awp_cond' ?_ ?_ (fun hb => ?_) (fun hb => ?_)); (simp only [go_sem]); (simp only [go_sem]); all_goals (simp only [go_sem] at hb; try simp only [bls] at hb)) | ((iterate 6 try ((fail_if_success with_reducible refine hK _ ?_ ?_ ?_); clear hK K)); with_reducible refine hK _ ?_ ?_ ?_; rotate_left; (focus (simp only [go_sem]; exact rfl)); clear hK K) | ((first | (with_reducible first | refine cA hSI ?_ | refine cA hS ?_ | refine cD hSI ?_ | refine cD hS ?_ | refine cO hSI ?_ | refine cO hS ?_ | refine cR hSI ?_ | refine cR hS ?_ | refine cG (fun hg => hSI) ?_ | refine cG (fun hg => hS) ?_ | refine cH (fun hg => hSI) ?_ | refine cH (fun hg => hS) ?_ | refine cM (fun hg => hSI) ?_ | refine cM (fun hg => hS) ?_) | (guard_target = CallAt _ _ _ _ _ _ _ _ _ _; first | refine cA hSI ?_ | refine cA hS ?_) | (guard_target = DCallAt _ _ _ _ _ _ _ _; first | refine cD hSI ?_ | refine cD hS ?_) | (guard_target = GCallAt _ _ _ _ _ _ _ _ _ _ _; first | refine cG (fun hg => hSI) ?_ | refine cG (fun hg => hS) ?_)); simp only [go_sem]) | (with_reducible refine gsplit_i (fun hg0 => ?_) (fun hg0 => ?_) <;> first | (with_reducible first | exact absurd hg0 Bool.false_ne_true | exact absurd hg0.symm Bool.false_ne_true) | (simp only [hg0, go_sem])) | (with_reducible refine nilK_i ?_; intro bnil hnil; try simp only []) | (omega; done) | (intro hv; (try simp only [bls] at hv); (try simp only [bls]); omega) | (intro hg; (simp only [hg, Bool.true_and, true_and, implies_true]; try (intro hg2; simp only [hg2, Bool.not_false, Bool.not_true])); done)))
   all_goals first | omega | skip
   clear hEv hRv hS hSI hL hM hRun hev hwant hlt hml
   generalize hA : l.any (outB n) = A at *
   refine awp_loop _ (by simp only [go_sem]; rfl) Nat (fun i => i ≤ l.length ∧ A = (l.drop i).any (outB n)) (fun i => [(21, .one (.int .i64 i))]) (fun _ H => H) (fun i => l.length - i) 0 ⟨by omega, hA.symm⟩ ?_ ?_
   ·(simp only [SubF, go_sem]; (try simp only [go_sem]); repeat' (first | exact True.intro | with_reducible refine And.intro ?_ ?_ | rfl | omega))
   rintro i ⟨hi, hres⟩ L hL
   have hq : ((i : Nat) : Int).toNat = i := by omega
   by_cases hlt : i < l.length
   ·have a1 := ints_at (l := l) (k := i) hlt
    rw [drop_getD l i 0 hlt, List.any_cons] at hres
    by_cases ho : outB n (l.getD i 0) = true
    ·rw [ho, Bool.true_or] at hres
     rw [if_pos hres] at hRX
     subst hRX
     simp only [outB, Bool.or_eq_true, decide_eq_true_eq] at ho
     (simp only [go_sem] at hL ⊢)
     (repeat' (first | (with_reducible first | exact True.intro | refine And.intro ?_ ?_ | refine awp_block ?_ | ((first | refine awp_seq1 22 [] ?_ | refine awp_seq2 22 [] ?_ | refine awp_seq3 22 [] ?_ | refine awp_seq4 22 [] ?_ | refine awp_seq 22 [] ?_); intro K hK)) | ((with_reducible first | refine awp_reg ?_ | refine awp_exit ?_ | refine awp_skip ?_ | refine likeK_i ?_ | refine otWR_i ?_ | refine rD (id := 28) ?_ | refine rP Ty_ok mixed 30 [0, 1] [.mid [pe 2, pe 3, pe 4, pe 5, pe 6, pe 7, pe 8, pe 9, pe 10] 0, .one 11, .one 12] ?_ | refine rP Ty_ok mixed 31 [1, 2, 3] [.mid [pe 0, pe 4, pe 5] 0, .one 6, .mid [pe 7, pe 8, pe 9, pe 10] 0] ?_); simp only [hq, a1, go_sem]) | (with_reducible refine awp_ret ?_; simp only [retF, retM, retL, resV, resW, retO, resAV, AV.bor, D.bor, D.bor1, D.bor0, AV.flatOwn, D.flatOwn, D.flat, AV.tagged, D.tagged, AObj.plain, hq, a1, go_sem]) | ((with_reducible refine awp_cond' ?_ ?_ (fun hb => ?_) (fun hb => ?_)); (simp only [hq, a1, go_sem]); (simp only [hq, a1, go_sem]); all_goals (simp only [hq, a1, go_sem] at hb; try simp only [bls] at hb)) | ((iterate 6 try ((fail_if_success with_reducible refine hK _ ?_ ?_ ?_); clear hK K)); with_reducible refine hK _ ?_ ?_ ?_; rotate_left; (focus (simp only [hq, a1, go_sem]; exact rfl)); clear hK K) | (with_reducible refine gsplit_i (fun hg0 => ?_) (fun hg0 => ?_) <;> first | (with_reducible first | exact absurd hg0 Bool.false_ne_true | exact absurd hg0.symm Bool.false_ne_true) | (simp only [hg0, hq, a1, go_sem])) | (with_reducible refine nilK_i ?_; intro bnil hnil; try simp only []) | (omega; done) | (intro hv; (try simp only [bls] at hv); (try simp only [bls]); omega) | (intro hg; (simp only [hg, Bool.true_and, true_and, implies_true]; try (intro hg2; simp only [hg2, Bool.not_false, Bool.not_true])); done)))
     all_goals first | omega | rfl | (simp; done) | skip
    ·have ho2 : outB n (l.getD i 0) = false := by simpa using ho
     rw [ho2, Bool.false_or] at hres
     simp only [outB, Bool.or_eq_true, decide_eq_true_eq] at ho
     (simp only [go_sem] at hL ⊢)
     (repeat' (first | (with_reducible first | exact True.intro | refine And.intro ?_ ?_ | refine awp_block ?_ | ((first | refine awp_seq1 22 [] ?_ | refine awp_seq2 22 [] ?_ | refine awp_seq3 22 [] ?_ | refine awp_seq4 22 [] ?_ | refine awp_seq 22 [] ?_); intro K hK)) | ((with_reducible first | refine awp_reg ?_ | refine awp_exit ?_ | refine awp_skip ?_ | refine likeK_i ?_ | refine otWR_i ?_ | refine rD (id := 28) ?_ | refine rP Ty_ok mixed 30 [0, 1] [.mid [pe 2, pe 3, pe 4, pe 5, pe 6, pe 7, pe 8, pe 9, pe 10] 0, .one 11, .one 12] ?_ | refine rP Ty_ok mixed 31 [1, 2, 3] [.mid [pe 0, pe 4, pe 5] 0, .one 6, .mid [pe 7, pe 8, pe 9, pe 10] 0] ?_); simp only [hq, a1, go_sem]) | (with_reducible refine awp_ret ?_; simp only [retF, retM, retL, resV, resW, retO, resAV, AV.bor, D.bor, D.bor1, D.bor0, AV.flatOwn, D.flatOwn, D.flat, AV.tagged, D.tagged, AObj.plain, hq, a1, go_sem]) | ((with_reducible refine awp_cond' ?_ ?_ (fun hb => ?_) (fun hb => ?_)); (simp only [hq, a1, go_sem]); (simp only [hq, a1, go_sem]); all_goals (simp only [hq, a1, go_sem] at hb; try simp only [bls] at hb)) | ((iterate 6 try ((fail_if_success with_reducible refine hK _ ?_ ?_ ?_); clear hK K)); with_reducible refine hK _ ?_ ?_ ?_; rotate_left; (focus (simp only [hq, a1, go_sem]; exact rfl)); clear hK K) | (with_reducible refine gsplit_i (fun hg0 => ?_) (fun hg0 => ?_) <;> first | (with_reducible first | exact absurd hg0 Bool.false_ne_true | exact absurd hg0.symm Bool.false_ne_true) | (simp only [hg0, hq, a1, go_sem])) | (with_reducible refine nilK_i ?_; intro bnil hnil; try simp only []) | (omega; done) | (intro hv; (try simp only [bls] at hv); (try simp only [bls]); omega) | (intro hg; (simp only [hg, Bool.true_and, true_and, implies_true]; try (intro hg2; simp only [hg2, Bool.not_false, Bool.not_true])); done)))
     all_goals first | omega | skip
     exact hL _ (i + 1) ⟨by omega, hres⟩ (by (simp only [SubF, go_sem]; (try simp only [go_sem]); repeat' (first | exact True.intro | with_reducible refine And.intro ?_ ?_ | rfl | omega))) (by omega)
   have hil : i = l.length := by omega
   subst hil
   rw [List.drop_length] at hres
   have hA0 : A = false := hres
   rw [if_neg (by rw [hA0]; decide)] at hRX
   have hrg : ∀ t ∈ l, 0 ≤ t ∧ t < n.trs.length := fun t ht => by
    rw [hA0, List.any_eq_false] at hA
    have := hA t ht
    simp only [outB, Bool.or_eq_true, decide_eq_true_eq] at this
    omega
   clear hres hA0 hA
   (simp only [go_sem] at hL ⊢)
   (repeat' (first | (with_reducible first | exact True.intro | refine And.intro ?_ ?_ | refine awp_block ?_ | ((first | refine awp_seq1 22 [] ?_ | refine awp_seq2 22 [] ?_ | refine awp_seq3 22 [] ?_ | refine awp_seq4 22 [] ?_ | refine awp_seq 22 [] ?_); intro K hK)) | ((with_reducible first | refine awp_reg ?_ | refine awp_exit ?_ | refine awp_skip ?_ | refine likeK_i ?_ | refine otWR_i ?_ | refine rD (id := 28) ?_ | refine rP Ty_ok mixed 30 [0, 1] [.mid [pe 2, pe 3, pe 4, pe 5, pe 6, pe 7, pe 8, pe 9, pe 10] 0, .one 11, .one 12] ?_ | refine rP Ty_ok mixed 31 [1, 2, 3] [.mid [pe 0, pe 4, pe 5] 0, .one 6, .mid [pe 7, pe 8, pe 9, pe 10] 0] ?_); simp only [go_sem]) | (with_reducible refine awp_ret ?_; simp only [retF, retM, retL, resV, resW, retO, resAV, AV.bor, D.bor, D.bor1, D.bor0, AV.flatOwn, D.flatOwn, D.flat, AV.tagged, D.tagged, AObj.plain, go_sem]) | ((with_reducible refine awp_cond' ?_ ?_ (fun hb => ?_) (fun hb => ?_)); (simp only [go_sem]); (simp only [go_sem]); all_goals (simp only [go_sem] at hb; try simp only [bls] at hb)) | ((iterate 6 try ((fail_if_success with_reducible refine hK _ ?_ ?_ ?_); clear hK K)); with_reducible refine hK _ ?_ ?_ ?_; rotate_left; (focus (simp only [go_sem]; exact rfl)); clear hK K) | (with_reducible refine gsplit_i (fun hg0 => ?_) (fun hg0 => ?_) <;> first | (with_reducible first | exact absurd hg0 Bool.false_ne_true | exact absurd hg0.symm Bool.false_ne_true) | (simp only [hg0, go_sem])) | (with_reducible refine nilK_i ?_; intro bnil hnil; try simp only []) | (omega; done) | (intro hv; (try simp only [bls] at hv); (try simp only [bls]); omega) | (intro hg; (simp only [hg, Bool.true_and, true_and, implies_true]; try (intro hg2; simp only [hg2, Bool.not_false, Bool.not_true])); done)))
   all_goals first | omega | skip
   clear hL
   refine awp_loop _ (by simp only [go_sem]; rfl) (Nat × List Int) (fun s => s.1 ≤ l.length ∧ s.2.length = n.init.length ∧ (∀ x ∈ s.2, 0 ≤ x ∧ x ≤ 3 + 2 * (s.1 : Int)) ∧ R = runF n (l.drop s.1) s.2 s.1) (fun s => [(19, .one (.list (ints s.2))), (20, .one (.int .i64 s.1))]) (fun _ H => H) (fun s => l.length - s.1) (0, n.init) ⟨by simp only; omega, rfl, fun x hx => by have := hin x hx; simp only; omega, hRX⟩ ?_ ?_
   ·(simp only [SubF, go_sem]; (try simp only [go_sem]); repeat' (first | exact True.intro | with_reducible refine And.intro ?_ ?_ | rfl | omega))
   rintro ⟨k, m⟩ ⟨hk, hml, hmb, hres⟩ L hL
   simp only at hk hml hmb hres
   have hq : ((k : Nat) : Int).toNat = k := by omega
   have hSI := SameInts_c m m (by omega)
   rw [decide_eq_true rfl] at hSI
   by_cases hkl : k < l.length
   ·have ht := hrg _ (getD_mem l k 0 hkl)
    have a1 := ints_at (l := l) (k := k) hkl
    have hmem := getD_mem n.trs (l.getD k 0).toNat Tr.no (by omega)
    have hai := hN.inn _ hmem
    have hao := hN.out _ hmem
    rw [← hml] at hai hao
    have hEn := lawEn_c n m (l.getD k 0) hfit (by omega) ht
    rw [enW_enB hai fun x hx => (hmb x hx).1] at hEn
    cases he : enB m (n.trs.getD (l.getD k 0).toNat Tr.no)
    ·have hst := runs_stop (m := m) hkl he
     rw [hst] at hres
     subst hres
     rw [he] at hEn
     simp only [Net.d] at hEn
     (simp only [go_sem] at hL ⊢)
     (repeat' (first | (with_reducible first | exact True.intro | refine And.intro ?_ ?_ | refine awp_block ?_ | ((first | refine awp_seq1 22 [] ?_ | refine awp_seq2 22 [] ?_ | refine awp_seq3 22 [] ?_ | refine awp_seq4 22 [] ?_ | refine awp_seq 22 [] ?_); intro K hK)) | ((with_reducible first | refine awp_reg ?_ | refine awp_exit ?_ | refine awp_skip ?_ | refine likeK_i ?_ | refine otWR_i ?_ | refine rD (id := 28) ?_ | refine rP Ty_ok mixed 30 [0, 1] [.mid [pe 2, pe 3, pe 4, pe 5, pe 6, pe 7, pe 8, pe 9, pe 10] 0, .one 11, .one 12] ?_ | refine rP Ty_ok mixed 31 [1, 2, 3] [.mid [pe 0, pe 4, pe 5] 0, .one 6, .mid [pe 7, pe 8, pe 9, pe 10] 0] ?_); simp only [hq, a1, go_sem]) | (with_reducible refine awp_ret ?_; simp only [retF, retM, retL, resV, resW, retO, resAV, AV.bor, D.bor, D.bor1, D.bor0, AV.flatOwn, D.flatOwn, D.flat, AV.tagged, D.tagged, AObj.plain, hq, a1, go_sem]) | ((with_reducible refine awp_cond' ?_ ?_ (fun hb => ?_) (fun hb => ?_)); (simp only [hq, a1, go_sem]); (simp only [hq, a1, go_sem]); all_goals (simp only [hq, a1, go_sem] at hb; try simp only [bls] at hb)) | ((iterate 6 try ((fail_if_success with_reducible refine hK _ ?_ ?_ ?_); clear hK K)); with_reducible refine hK _ ?_ ?_ ?_; rotate_left; (focus (simp only [hq, a1, go_sem]; exact rfl)); clear hK K) | ((first | (with_reducible first | refine cA hEn ?_ | refine cA hSI ?_ | refine cD hEn ?_ | refine cD hSI ?_ | refine cO hEn ?_ | refine cO hSI ?_ | refine cR hEn ?_ | refine cR hSI ?_ | refine cG (fun hg => hEn) ?_ | refine cG (fun hg => hSI) ?_ | refine cH (fun hg => hEn) ?_ | refine cH (fun hg => hSI) ?_ | refine cM (fun hg => hEn) ?_ | refine cM (fun hg => hSI) ?_) | (guard_target = CallAt _ _ _ _ _ _ _ _ _ _; first | refine cA hEn ?_ | refine cA hSI ?_) | (guard_target = DCallAt _ _ _ _ _ _ _ _; first | refine cD hEn ?_ | refine cD hSI ?_) | (guard_target = GCallAt _ _ _ _ _ _ _ _ _ _ _; first | refine cG (fun hg => hEn) ?_ | refine cG (fun hg => hSI) ?_)); simp only [hq, a1, go_sem]) | (with_reducible refine gsplit_i (fun hg0 => ?_) (fun hg0 => ?_) <;> first | (with_reducible first | exact absurd hg0 Bool.false_ne_true | exact absurd hg0.symm Bool.false_ne_true) | (simp only [hg0, hq, a1, go_sem])) | (with_reducible refine nilK_i ?_; intro bnil hnil; try simp only []) | (omega; done) | (intro hv; (try simp only [bls] at hv); (try simp only [bls]); omega) | (intro hg; (simp only [hg, Bool.true_and, true_and, implies_true]; try (intro hg2; simp only [hg2, Bool.not_false, Bool.not_true])); done)))
     all_goals first | omega | rfl | (simp; done) | skip
    ·obtain ⟨hst, hbd⟩ := runs_step hN hw hkl ht hml hmb (by omega) he
     rw [hst] at hres
     rw [he] at hEn
     have hFi := lawFire_c n m (l.getD k 0) hfit (by omega) ⟨fun x hx => by have := hmb x hx; omega⟩ ht (fun a ha => hai.weight a ha) (fun a ha => hao.weight a ha)
     rw [fireW_fired hai hao] at hFi
     have hfl := firedL_length (n.trs.getD (l.getD k 0).toNat Tr.no) m
     simp only [Net.d] at hEn hFi
     generalize firedL (n.trs.getD (l.getD k 0).toNat Tr.no) m = m2 at *
     (simp only [go_sem] at hL ⊢)
     (repeat' (first | (with_reducible first | exact True.intro | refine And.intro ?_ ?_ | refine awp_block ?_ | ((first | refine awp_seq1 22 [] ?_ | refine awp_seq2 22 [] ?_ | refine awp_seq3 22 [] ?_ | refine awp_seq4 22 [] ?_ | refine awp_seq 22 [] ?_); intro K hK)) | ((with_reducible first | refine awp_reg ?_ | refine awp_exit ?_ | refine awp_skip ?_ | refine likeK_i ?_ | refine otWR_i ?_ | refine rD (id := 28) ?_ | refine rP Ty_ok mixed 30 [0, 1] [.mid [pe 2, pe 3, pe 4, pe 5, pe 6, pe 7, pe 8, pe 9, pe 10] 0, .one 11, .one 12] ?_ | refine rP Ty_ok mixed 31 [1, 2, 3] [.mid [pe 0, pe 4, pe 5] 0, .one 6, .mid [pe 7, pe 8, pe 9, pe 10] 0] ?_); simp only [hq, a1, go_sem]) | (with_reducible refine awp_ret ?_; simp only [retF, retM, retL, resV, resW, retO, resAV, AV.bor, D.bor, D.bor1, D.bor0, AV.flatOwn, D.flatOwn, D.flat, AV.tagged, D.tagged, AObj.plain, hq, a1, go_sem]) | ((with_reducible refine awp_cond' ?_ ?_ (fun hb => ?_) (fun hb => ?_)); (simp only [hq, a1, go_sem]); (simp only [hq, a1, go_sem]); all_goals (simp only [hq, a1, go_sem] at hb; try simp only [bls] at hb)) | ((iterate 6 try ((fail_if_success with_reducible refine hK _ ?_ ?_ ?_); clear hK K)); with_reducible refine hK _ ?_ ?_ ?_; rotate_left; (focus (simp only [hq, a1, go_sem]; exact rfl)); clear hK K) | ((first | (with_reducible first | refine cA hEn ?_ | refine cA hFi ?_ | refine cD hEn ?_ | refine cD hFi ?_ | refine cO hEn ?_ | refine cO hFi ?_ | refine cR hEn ?_ | refine cR hFi ?_ | refine cG (fun hg => hEn) ?_ | refine cG (fun hg => hFi) ?_ | refine cH (fun hg => hEn) ?_ | refine cH (fun hg => hFi) ?_ | refine cM (fun hg => hEn) ?_ | refine cM (fun hg => hFi) ?_) | (guard_target = CallAt _ _ _ _ _ _ _ _ _ _; first | refine cA hEn ?_ | refine cA hFi ?_) | (guard_target = DCallAt _ _ _ _ _ _ _ _; first | refine cD hEn ?_ | refine cD hFi ?_) | (guard_target = GCallAt _ _ _ _ _ _ _ _ _ _ _; first | refine cG (fun hg => hEn) ?_ | refine cG (fun hg => hFi) ?_)); simp only [hq, a1, go_sem]) | (with_reducible refine gsplit_i (fun hg0 => ?_) (fun hg0 => ?_) <;> first | (with_reducible first | exact absurd hg0 Bool.false_ne_true | exact absurd hg0.symm Bool.false_ne_true) | (simp only [hg0, hq, a1, go_sem])) | (with_reducible refine nilK_i ?_; intro bnil hnil; try simp only []) | (omega; done) | (intro hv; (try simp only [bls] at hv); (try simp only [bls]); omega) | (intro hg; (simp only [hg, Bool.true_and, true_and, implies_true]; try (intro hg2; simp only [hg2, Bool.not_false, Bool.not_true])); done)))
     all_goals first | omega | skip
     exact hL _ (k + 1, m2) ⟨by simp only; omega, by simp only; omega, hbd, hres⟩ (by (simp only [SubF, go_sem]; (try simp only [go_sem]); repeat' (first | exact True.intro | with_reducible refine And.intro ?_ ?_ | rfl | omega))) (by simp only; omega)
   ·have : k = l.length := by omega
    subst this
    rw [List.drop_length, runF] at hres
    subst hres
    have hEn0 : False → ACalls Tryd.prog 21 [.agg [.list (ints n.init), .list (trsD n.trs)], .one (.list (ints m)), .one (.int .i64 (l.getD l.length 0))] (.one (.bool false)) [] := fun h => h.elim
    (simp only [go_sem] at hL ⊢)
    (repeat' (first | (with_reducible first | exact True.intro | refine And.intro ?_ ?_ | refine awp_block ?_ | ((first | refine awp_seq1 22 [] ?_ | refine awp_seq2 22 [] ?_ | refine awp_seq3 22 [] ?_ | refine awp_seq4 22 [] ?_ | refine awp_seq 22 [] ?_); intro K hK)) | ((with_reducible first | refine awp_reg ?_ | refine awp_exit ?_ | refine awp_skip ?_ | refine likeK_i ?_ | refine otWR_i ?_ | refine rD (id := 28) ?_ | refine rP Ty_ok mixed 30 [0, 1] [.mid [pe 2, pe 3, pe 4, pe 5, pe 6, pe 7, pe 8, pe 9, pe 10] 0, .one 11, .one 12] ?_ | refine rP Ty_ok mixed 31 [1, 2, 3] [.mid [pe 0, pe 4, pe 5] 0, .one 6, .mid [pe 7, pe 8, pe 9, pe 10] 0] ?_); simp only [hq, go_sem]) | (with_reducible refine awp_ret ?_; simp only [retF, retM, retL, resV, resW, retO, resAV, AV.bor, D.bor, D.bor1, D.bor0, AV.flatOwn, D.flatOwn, D.flat, AV.tagged, D.tagged, AObj.plain, hq, go_sem]) | ((with_reducible refine awp_cond' ?_ ?_ (fun hb => ?_) (fun hb => ?_)); (simp only [hq, go_sem]); (simp only [hq, go_sem]); all_goals (simp only [hq, go_sem] at hb; try simp only [bls] at hb)) | ((iterate 6 try ((fail_if_success with_reducible refine hK _ ?_ ?_ ?_); clear hK K)); with_reducible refine hK _ ?_ ?_ ?_; rotate_left; (focus (simp only [hq, go_sem]; exact rfl)); clear hK K) | ((first | (with_reducible first | refine cA (hEn0 (by simp at hg)) ?_ | refine cA hSI ?_ | refine cD (hEn0 (by simp at hg)) ?_ | refine cD hSI ?_ | refine cO (hEn0 (by simp at hg)) ?_ | refine cO hSI ?_ | refine cR (hEn0 (by simp at hg)) ?_ | refine cR hSI ?_ | refine cG (fun hg => (hEn0 (by simp at hg))) ?_ | refine cG (fun hg => hSI) ?_ | refine cH (fun hg => (hEn0 (by simp at hg))) ?_ | refine cH (fun hg => hSI) ?_ | refine cM (fun hg => (hEn0 (by simp at hg))) ?_ | refine cM (fun hg => hSI) ?_) | (guard_target = CallAt _ _ _ _ _ _ _ _ _ _; first | refine cA (hEn0 (by simp at hg)) ?_ | refine cA hSI ?_) | (guard_target = DCallAt _ _ _ _ _ _ _ _; first | refine cD (hEn0 (by simp at hg)) ?_ | refine cD hSI ?_) | (guard_target = GCallAt _ _ _ _ _ _ _ _ _ _ _; first | refine cG (fun hg => (hEn0 (by simp at hg))) ?_ | refine cG (fun hg => hSI) ?_)); simp only [hq, go_sem]) | (with_reducible refine gsplit_i (fun hg0 => ?_) (fun hg0 => ?_) <;> first | (with_reducible first | exact absurd hg0 Bool.false_ne_true | exact absurd hg0.symm Bool.false_ne_true) | (simp only [hg0, hq, go_sem])) | (with_reducible refine nilK_i ?_; intro bnil hnil; try simp only []) | (omega; done) | (intro hv; (try simp only [bls] at hv); (try simp only [bls]); omega) | (intro hg; (simp only [hg, Bool.true_and, true_and, implies_true]; try (intro hg2; simp only [hg2, Bool.not_false, Bool.not_true])); done)))
    all_goals first | omega | rfl | (simp; done) | skip
end Go.Proofs.YtjldfifepbdlmaaDoor
