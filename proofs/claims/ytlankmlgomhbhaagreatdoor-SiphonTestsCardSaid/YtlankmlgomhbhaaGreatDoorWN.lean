/-
 Chapter 49: the law's statements SiphonMinimal, SiphonTests, SiphonTokens, SiphonCommoner.
-/
import Derived.Test.YtlankmlgomhbhaaGreatDoorWM
import Derived.Test.YtlankmlgomhbhaaGreatDoorSB
set_option linter.unusedSimpArgs false
set_option linter.unusedVariables false
namespace Go.Proofs.YtlankmlgomhbhaaGreatDoor
open Go.Eng Go.RowKit
theorem shape_net (s : Nat → Int) (hs : Bytes s) : (makeNet s).Fits ∧ NetOk (makeNet s) ∧ 1 ≤ (makeNet s).init.length ∧ (makeNet s).init.length ≤ 10 ∧ netE (makeNet s) = 0 ∧ (makeNet s).init ≠ [] := by
 have h := makeNet_ok s hs
 have hok := netOk_of h
 have hl : 1 ≤ (makeNet s).init.length := by
  rw [show (makeNet s).init.length = np s from initL_length s (np s)]
  unfold np
  omega
 exact ⟨hok.fits, hok, hl, hok.init, h, by intro e; rw [e] at hl; simp at hl⟩
set_option maxHeartbeats 16000000 in
theorem SiphonTests_c (s : Nat → Int) (hs : Bytes s) (set : List Int) (kind : Int) (hn : set.length ≤ 9223372036854775807) : ACalls Tryz.prog 6 [.agg (bytesD 37 s), .one (.list (ints set)), .one (.int .i64 kind)] (.one (.bool true)) [] := by
 obtain ⟨hf, hok, hp1, hp10, hE, hne⟩ := shape_net s hs
 have hmk := Make_c s hs
 have hKn := known_c
 generalize makeNet s = n at *
 simp only [Net.d] at hmk
 by_cases h6 : set.length ≤ 6
 ·have hI := Is_c n set kind hf (by omega)
  have hG := Greatest_c n set kind hf (by omega)
  have hC := CheckSet_c set n.init.length hn
  simp only [Net.d] at hI hG
  by_cases he : siE n set kind = 0
  ·obtain ⟨_, hcs, hk⟩ := siE_ok he
   have hpw := checkSet_pw hcs
   have hin := checkSet_in hcs
   have his := is_c n set kind hf (by omega) hk
   have hgr := lGreatest_c n set kind hf hk hp1 hp10 hpw hin (by omega)
   have heq := EqualInts_c (redL kind n.trs set) (redL kind n.trs set) (by have := (redL_sub kind n.trs set).length_le; omega)
   rw [decide_eq_true rfl] at heq
   rw [he, decide_eq_true rfl, Bool.true_and] at hI
   rw [if_pos he, he] at hG
   rw [hcs] at hC
   simp only [Net.d] at his hgr
   (refine ACalls.of_body Ty_ok mixed Tryz.func6 rfl (by kernel_rfl) Tryz.ntmps6 (by simp) (congrArg Array.toList Tryz.results6) ?_)
   simp only [slotsOf]
   (repeat' (first | (with_reducible first | exact True.intro | refine And.intro ?_ ?_ | refine awp_block ?_ | ((first | refine awp_seq1 13 [] ?_ | refine awp_seq2 13 [] ?_ | refine awp_seq3 13 [] ?_ | refine awp_seq4 13 [] ?_ | refine awp_seq 13 [] ?_); intro K hK)) | ((with_reducible first | refine awp_reg ?_ | refine awp_exit ?_ | refine awp_skip ?_ | refine likeK_i ?_); simp only [go_sem]) | (with_reducible refine awp_ret ?_; simp only [retF, retM, retL, resV, resW, retO, resAV, AV.bor, D.bor, D.bor1, D.bor0, AV.flatOwn, D.flatOwn, D.flat, AV.tagged, D.tagged, AObj.plain, go_sem]) | ((with_reducible refine awp_cond' ?_ ?_ (fun hb => ?_) (fun hb => ?_)); (simp only [go_sem]); (simp only [go_sem]); all_goals (simp only [go_sem] at hb; try simp only [bls] at hb)) | ((iterate 6 try ((fail_if_success with_reducible refine hK _ ?_ ?_ ?_); clear hK K)); with_reducible refine hK _ ?_ ?_ ?_; rotate_left; (focus (simp only [go_sem]; exact rfl)); clear hK K) | ((first | (with_reducible first | refine cA hKn ?_ | refine cA hmk ?_ | refine cA hI ?_ | refine cA hG ?_ | refine cA hC ?_ | refine cA his ?_ | refine cA hgr ?_ | refine cA heq ?_ | refine cD hKn ?_ | refine cD hmk ?_ | refine cD hI ?_ | refine cD hG ?_ | refine cD hC ?_ | refine cD his ?_ | refine cD hgr ?_ | refine cD heq ?_ | refine cO hKn ?_ | refine cO hmk ?_ | refine cO hI ?_ | refine cO hG ?_ | refine cO hC ?_ | refine cO his ?_ | refine cO hgr ?_ | refine cO heq ?_ | refine cR hKn ?_ | refine cR hmk ?_ | refine cR hI ?_ | refine cR hG ?_ | refine cR hC ?_ | refine cR his ?_ | refine cR hgr ?_ | refine cR heq ?_ | refine cG (fun hg => hKn) ?_ | refine cG (fun hg => hmk) ?_ | refine cG (fun hg => hI) ?_ | refine cG (fun hg => hG) ?_ | refine cG (fun hg => hC) ?_ | refine cG (fun hg => his) ?_ | refine cG (fun hg => hgr) ?_ | refine cG (fun hg => heq) ?_ | refine cH (fun hg => hKn) ?_ | refine cH (fun hg => hmk) ?_ | refine cH (fun hg => hI) ?_ | refine cH (fun hg => hG) ?_ | refine cH (fun hg => hC) ?_ | refine cH (fun hg => his) ?_ | refine cH (fun hg => hgr) ?_ | refine cH (fun hg => heq) ?_ | refine cM (fun hg => hKn) ?_ | refine cM (fun hg => hmk) ?_ | refine cM (fun hg => hI) ?_ | refine cM (fun hg => hG) ?_ | refine cM (fun hg => hC) ?_ | refine cM (fun hg => his) ?_ | refine cM (fun hg => hgr) ?_ | refine cM (fun hg => heq) ?_) | (guard_target = CallAt _ _ _ _ _ _ _ _ _ _; first | refine cA hKn ?_ | refine cA hmk ?_ | refine cA hI ?_ | refine cA hG ?_ | refine cA hC ?_ | refine cA his ?_ | refine cA hgr ?_ | refine cA heq ?_) | (guard_target = DCallAt _ _ _ _ _ _ _ _; first | refine cD hKn ?_ | refine cD hmk ?_ | refine cD hI ?_ | refine cD hG ?_ | refine cD hC ?_ | refine cD his ?_ | refine cD hgr ?_ | refine cD heq ?_) | (guard_target = GCallAt _ _ _ _ _ _ _ _ _ _ _; first | refine cG (fun hg => hKn) ?_ | refine cG (fun hg => hmk) ?_ | refine cG (fun hg => hI) ?_ | refine cG (fun hg => hG) ?_ | refine cG (fun hg => hC) ?_ | refine cG (fun hg => his) ?_ | refine cG (fun hg => hgr) ?_ | refine cG (fun hg => heq) ?_)); simp only [go_sem]) | (with_reducible refine gsplit_i (fun hg0 => ?_) (fun hg0 => ?_) <;> first | (with_reducible first | exact absurd hg0 Bool.false_ne_true | exact absurd hg0.symm Bool.false_ne_true) | (simp only [hg0, go_sem])) | (with_reducible refine nilK_i ?_; intro bnil hnil; try simp only []) | (omega; done) | (intro hv; (try simp only [bls] at hv); (try simp only [bls]); omega) | (intro hg; (simp only [hg, Bool.true_and, true_and, implies_true]; try (intro hg2; simp only [hg2, Bool.not_false, Bool.not_true])); done)))
   all_goals first | omega | skip
  ·rw [if_neg he] at hG
   rw [decide_eq_false he, Bool.false_and] at hI
   have hsi : siE n set kind = if checkSet set n.init.length ≠ 0 then checkSet set n.init.length else if kind ≠ 1 ∧ kind ≠ 2 then 11 else 0 := by rw [siE, if_neg (by omega)]
   (refine ACalls.of_body Ty_ok mixed Tryz.func6 rfl (by kernel_rfl) Tryz.ntmps6 (by simp) (congrArg Array.toList Tryz.results6) ?_)
   simp only [slotsOf]
   (repeat' (first | (with_reducible first | exact True.intro | refine And.intro ?_ ?_ | refine awp_block ?_ | ((first | refine awp_seq1 13 [] ?_ | refine awp_seq2 13 [] ?_ | refine awp_seq3 13 [] ?_ | refine awp_seq4 13 [] ?_ | refine awp_seq 13 [] ?_); intro K hK)) | ((with_reducible first | refine awp_reg ?_ | refine awp_exit ?_ | refine awp_skip ?_ | refine likeK_i ?_); simp only [go_sem]) | (with_reducible refine awp_ret ?_; simp only [retF, retM, retL, resV, resW, retO, resAV, AV.bor, D.bor, D.bor1, D.bor0, AV.flatOwn, D.flatOwn, D.flat, AV.tagged, D.tagged, AObj.plain, go_sem]) | ((with_reducible refine awp_cond' ?_ ?_ (fun hb => ?_) (fun hb => ?_)); (simp only [go_sem]); (simp only [go_sem]); all_goals (simp only [go_sem] at hb; try simp only [bls] at hb)) | ((iterate 6 try ((fail_if_success with_reducible refine hK _ ?_ ?_ ?_); clear hK K)); with_reducible refine hK _ ?_ ?_ ?_; rotate_left; (focus (simp only [go_sem]; exact rfl)); clear hK K) | ((first | (with_reducible first | refine cA hKn ?_ | refine cA hmk ?_ | refine cA hI ?_ | refine cA hG ?_ | refine cA hC ?_ | refine cD hKn ?_ | refine cD hmk ?_ | refine cD hI ?_ | refine cD hG ?_ | refine cD hC ?_ | refine cO hKn ?_ | refine cO hmk ?_ | refine cO hI ?_ | refine cO hG ?_ | refine cO hC ?_ | refine cR hKn ?_ | refine cR hmk ?_ | refine cR hI ?_ | refine cR hG ?_ | refine cR hC ?_ | refine cG (fun hg => hKn) ?_ | refine cG (fun hg => hmk) ?_ | refine cG (fun hg => hI) ?_ | refine cG (fun hg => hG) ?_ | refine cG (fun hg => hC) ?_ | refine cH (fun hg => hKn) ?_ | refine cH (fun hg => hmk) ?_ | refine cH (fun hg => hI) ?_ | refine cH (fun hg => hG) ?_ | refine cH (fun hg => hC) ?_ | refine cM (fun hg => hKn) ?_ | refine cM (fun hg => hmk) ?_ | refine cM (fun hg => hI) ?_ | refine cM (fun hg => hG) ?_ | refine cM (fun hg => hC) ?_) | (guard_target = CallAt _ _ _ _ _ _ _ _ _ _; first | refine cA hKn ?_ | refine cA hmk ?_ | refine cA hI ?_ | refine cA hG ?_ | refine cA hC ?_) | (guard_target = DCallAt _ _ _ _ _ _ _ _; first | refine cD hKn ?_ | refine cD hmk ?_ | refine cD hI ?_ | refine cD hG ?_ | refine cD hC ?_) | (guard_target = GCallAt _ _ _ _ _ _ _ _ _ _ _; first | refine cG (fun hg => hKn) ?_ | refine cG (fun hg => hmk) ?_ | refine cG (fun hg => hI) ?_ | refine cG (fun hg => hG) ?_ | refine cG (fun hg => hC) ?_)); simp only [go_sem]) | (with_reducible refine gsplit_i (fun hg0 => ?_) (fun hg0 => ?_) <;> first | (with_reducible first | exact absurd hg0 Bool.false_ne_true | exact absurd hg0.symm Bool.false_ne_true) | (simp only [hg0, go_sem])) | (with_reducible refine nilK_i ?_; intro bnil hnil; try simp only []) | (omega; done) | (intro hv; (try simp only [bls] at hv); (try simp only [bls]); omega) | (intro hg; (simp only [hg, Bool.true_and, true_and, implies_true]; try (intro hg2; simp only [hg2, Bool.not_false, Bool.not_true])); done)))
   all_goals first | omega | skip
   ·rw [hsi, if_neg (by omega), if_pos (by omega)]; rfl
   ·rename_i hb
    rw [hsi, if_pos hb]; simp
 ·(refine ACalls.of_body Ty_ok mixed Tryz.func6 rfl (by kernel_rfl) Tryz.ntmps6 (by simp) (congrArg Array.toList Tryz.results6) ?_)
  simp only [slotsOf]
  (repeat' (first | (with_reducible first | exact True.intro | refine And.intro ?_ ?_ | refine awp_block ?_ | ((first | refine awp_seq1 13 [] ?_ | refine awp_seq2 13 [] ?_ | refine awp_seq3 13 [] ?_ | refine awp_seq4 13 [] ?_ | refine awp_seq 13 [] ?_); intro K hK)) | ((with_reducible first | refine awp_reg ?_ | refine awp_exit ?_ | refine awp_skip ?_ | refine likeK_i ?_); simp only [go_sem]) | (with_reducible refine awp_ret ?_; simp only [retF, retM, retL, resV, resW, retO, resAV, AV.bor, D.bor, D.bor1, D.bor0, AV.flatOwn, D.flatOwn, D.flat, AV.tagged, D.tagged, AObj.plain, go_sem]) | ((with_reducible refine awp_cond' ?_ ?_ (fun hb => ?_) (fun hb => ?_)); (simp only [go_sem]); (simp only [go_sem]); all_goals (simp only [go_sem] at hb; try simp only [bls] at hb)) | ((iterate 6 try ((fail_if_success with_reducible refine hK _ ?_ ?_ ?_); clear hK K)); with_reducible refine hK _ ?_ ?_ ?_; rotate_left; (focus (simp only [go_sem]; exact rfl)); clear hK K) | ((first | (with_reducible first | refine cA hKn ?_ | refine cD hKn ?_ | refine cO hKn ?_ | refine cR hKn ?_ | refine cG (fun hg => hKn) ?_ | refine cH (fun hg => hKn) ?_ | refine cM (fun hg => hKn) ?_) | (guard_target = CallAt _ _ _ _ _ _ _ _ _ _; refine cA hKn ?_) | (guard_target = DCallAt _ _ _ _ _ _ _ _; refine cD hKn ?_) | (guard_target = GCallAt _ _ _ _ _ _ _ _ _ _ _; refine cG (fun hg => hKn) ?_)); simp only [go_sem]) | (with_reducible refine gsplit_i (fun hg0 => ?_) (fun hg0 => ?_) <;> first | (with_reducible first | exact absurd hg0 Bool.false_ne_true | exact absurd hg0.symm Bool.false_ne_true) | (simp only [hg0, go_sem])) | (with_reducible refine nilK_i ?_; intro bnil hnil; try simp only []) | (omega; done) | (intro hv; (try simp only [bls] at hv); (try simp only [bls]); omega) | (intro hg; (simp only [hg, Bool.true_and, true_and, implies_true]; try (intro hg2; simp only [hg2, Bool.not_false, Bool.not_true])); done)))
  all_goals first | omega | skip
end Go.Proofs.YtlankmlgomhbhaaGreatDoor
