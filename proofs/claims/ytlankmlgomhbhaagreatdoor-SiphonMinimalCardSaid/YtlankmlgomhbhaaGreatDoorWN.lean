/-
 Chapter 49: the law's statements SiphonMinimal, SiphonTests, SiphonTokens, SiphonCommoner.
-/
import Derived.Test.YtlankmlgomhbhaaGreatDoorWM
import Derived.Test.YtlankmlgomhbhaaGreatDoorSB
set_option linter.unusedSimpArgs false
set_option linter.unusedVariables false
namespace Go.Proofs.YtlankmlgomhbhaaGreatDoor
open Go.Eng Go.RowKit
theorem shape_net (s : Nat → Int) (hs : Bytes s) : (makeNet s).Fits ∧ NetOk (makeNet s) ∧ 1 ≤ (makeNet s).init.length ∧ (makeNet s).init.length ≤ 10 ∧ netE (makeNet s) = 0 ∧ (makeNet s).init ≠ [] := by
 have h := makeNet_ok s hs
 have hok := netOk_of h
 have hl : 1 ≤ (makeNet s).init.length := by
  rw [show (makeNet s).init.length = np s from initL_length s (np s)]
  unfold np
  omega
 exact ⟨hok.fits, hok, hl, hok.init, h, by intro e; rw [e] at hl; simp at hl⟩
theorem siE_nil {n : Net} {k : Int} (h : netE n = 0) : siE n [] k = if k ≠ 1 ∧ k ≠ 2 then 11 else 0 := by
 rw [siE, if_neg (by omega), if_neg (by simp [checkSet, csFrom])]
set_option maxHeartbeats 16000000 in
theorem SiphonMinimal_c (s : Nat → Int) (hs : Bytes s) (kind : Int) : ACalls Tryz.prog 3 [.agg (bytesD 37 s), .one (.int .i64 kind)] (.one (.bool true)) [] := by
 obtain ⟨hf, hok, hp1, hp10, hE, hne⟩ := shape_net s hs
 have hmk := Make_c s hs
 have hKn := known_c
 generalize makeNet s = n at *
 have hM := fun k => Minimal_c n k hf (fun _ => hne)
 have hLm := fun k hk => lMinimal_c n k hf hk hp1 hp10
 have hpow : 2 ^ n.init.length ≤ 1024 := Nat.le_trans (Nat.pow_le_pow_right (by omega) hp10) (by decide)
 have hse := fun k => siE_nil (k := k) hE
 (refine ACalls.of_body Ty_ok mixed Tryz.func3 rfl (by kernel_rfl) Tryz.ntmps3 (by simp) (congrArg Array.toList Tryz.results3) ?_)
 simp only [slotsOf, Net.d]
 simp only [Net.d] at hmk
 (repeat' (first | (with_reducible first | exact True.intro | refine And.intro ?_ ?_ | refine awp_block ?_ | ((first | refine awp_seq1 10 [16, 15, 17] ?_ | refine awp_seq2 10 [16, 15, 17] ?_ | refine awp_seq3 10 [16, 15, 17] ?_ | refine awp_seq4 10 [16, 15, 17] ?_ | refine awp_seq 10 [16, 15, 17] ?_); intro K hK)) | ((with_reducible first | refine awp_reg ?_ | refine awp_exit ?_ | refine awp_skip ?_ | refine likeK_i ?_); simp only [go_sem]) | (with_reducible refine awp_ret ?_; simp only [retF, retM, retL, resV, resW, retO, resAV, AV.bor, D.bor, D.bor1, D.bor0, AV.flatOwn, D.flatOwn, D.flat, AV.tagged, D.tagged, AObj.plain, go_sem]) | ((with_reducible refine awp_cond' ?_ ?_ (fun hb => ?_) (fun hb => ?_)); (simp only [go_sem]); (simp only [go_sem]); all_goals (simp only [go_sem] at hb; try simp only [bls] at hb)) | ((iterate 6 try ((fail_if_success with_reducible refine hK _ ?_ ?_ ?_); clear hK K)); with_reducible refine hK _ ?_ ?_ ?_; rotate_left; (focus (simp only [go_sem]; exact rfl)); clear hK K) | ((first | (with_reducible first | refine cA hKn ?_ | refine cA hmk ?_ | refine cD hKn ?_ | refine cD hmk ?_ | refine cO hKn ?_ | refine cO hmk ?_ | refine cR hKn ?_ | refine cR hmk ?_ | refine cG (fun hg => hKn) ?_ | refine cG (fun hg => hmk) ?_ | refine cH (fun hg => hKn) ?_ | refine cH (fun hg => hmk) ?_ | refine cM (fun hg => hKn) ?_ | refine cM (fun hg => hmk) ?_) | (guard_target = CallAt _ _ _ _ _ _ _ _ _ _; first | refine cA hKn ?_ | refine cA hmk ?_) | (guard_target = DCallAt _ _ _ _ _ _ _ _; first | refine cD hKn ?_ | refine cD hmk ?_) | (guard_target = GCallAt _ _ _ _ _ _ _ _ _ _ _; first | refine cG (fun hg => hKn) ?_ | refine cG (fun hg => hmk) ?_)); simp only [go_sem]) | (with_reducible refine gsplit_i (fun hg0 => ?_) (fun hg0 => ?_) <;> first | (with_reducible first | exact absurd hg0 Bool.false_ne_true | exact absurd hg0.symm Bool.false_ne_true) | (simp only [hg0, go_sem])) | (with_reducible refine nilK_i ?_; intro bnil hnil; try simp only []) | (omega; done) | (intro hv; (try simp only [bls] at hv); (try simp only [bls]); omega) | (intro hg; (simp only [hg, Bool.true_and, true_and, implies_true]; try (intro hg2; simp only [hg2, Bool.not_false, Bool.not_true])); done)))
 all_goals first | omega | skip
 refine awp_loop _ (by simp only [go_sem]; rfl) Nat (fun i => i ≤ 3) (fun i => [(17, .one (.int .i64 i))]) (fun _ H => H) (fun i => 3 - i) 0 (by omega) ?_ ?_
 ·(simp only [SubF, go_sem]; (try simp only [go_sem]); repeat' (first | exact True.intro | with_reducible refine And.intro ?_ ?_ | rfl | omega))
 rintro i hi L hL
 by_cases hlt : i < 3
 ·obtain ⟨k, hk⟩ : ∃ k, k = [1, 2, kind].getD i 0 := ⟨_, rfl⟩
  have hrow : ([[D.int .i64 1], [D.int .i64 2], [D.int .i64 kind]] : List (List D)).getD i [] = [.int .i64 k] := by
   have : i = 0 ∨ i = 1 ∨ i = 2 := by omega
   rcases this with rfl | rfl | rfl <;> rw [hk] <;> rfl
  have hq : ((i : Nat) : Int).toNat = i := by omega
  clear hk
  have hMk := hM k
  rw [hse k] at hMk
  simp only [Net.d] at hMk
  by_cases h12 : k = 1 ∨ k = 2
  ·have hc : ¬ (k ≠ 1 ∧ k ≠ 2) := by omega
   have hLk := hLm k h12
   simp only [Net.d] at hLk
   rw [if_neg hc, if_pos rfl] at hMk
   have hsm := lSame_c (minL k n) (minL k n) (by have := minL_length k n; omega) (fun a ha => by have := (setsY_el (minL_el ha).1).1; omega)
   rw [decide_eq_true rfl] at hsm
   (simp only [go_sem] at hL ⊢)
   (repeat' (first | (with_reducible first | exact True.intro | refine And.intro ?_ ?_ | refine awp_block ?_ | ((first | refine awp_seq1 10 [16, 15, 17] ?_ | refine awp_seq2 10 [16, 15, 17] ?_ | refine awp_seq3 10 [16, 15, 17] ?_ | refine awp_seq4 10 [16, 15, 17] ?_ | refine awp_seq 10 [16, 15, 17] ?_); intro K hK)) | ((with_reducible first | refine awp_reg ?_ | refine awp_exit ?_ | refine awp_skip ?_ | refine likeK_i ?_); simp only [hrow, hq, go_sem]) | (with_reducible refine awp_ret ?_; simp only [retF, retM, retL, resV, resW, retO, resAV, AV.bor, D.bor, D.bor1, D.bor0, AV.flatOwn, D.flatOwn, D.flat, AV.tagged, D.tagged, AObj.plain, hrow, hq, go_sem]) | ((with_reducible refine awp_cond' ?_ ?_ (fun hb => ?_) (fun hb => ?_)); (simp only [hrow, hq, go_sem]); (simp only [hrow, hq, go_sem]); all_goals (simp only [hrow, hq, go_sem] at hb; try simp only [bls] at hb)) | ((iterate 6 try ((fail_if_success with_reducible refine hK _ ?_ ?_ ?_); clear hK K)); with_reducible refine hK _ ?_ ?_ ?_; rotate_left; (focus (simp only [hrow, hq, go_sem]; exact rfl)); clear hK K) | ((first | (with_reducible first | refine cA hMk ?_ | refine cA hLk ?_ | refine cA hsm ?_ | refine cD hMk ?_ | refine cD hLk ?_ | refine cD hsm ?_ | refine cO hMk ?_ | refine cO hLk ?_ | refine cO hsm ?_ | refine cR hMk ?_ | refine cR hLk ?_ | refine cR hsm ?_ | refine cG (fun hg => hMk) ?_ | refine cG (fun hg => hLk) ?_ | refine cG (fun hg => hsm) ?_ | refine cH (fun hg => hMk) ?_ | refine cH (fun hg => hLk) ?_ | refine cH (fun hg => hsm) ?_ | refine cM (fun hg => hMk) ?_ | refine cM (fun hg => hLk) ?_ | refine cM (fun hg => hsm) ?_) | (guard_target = CallAt _ _ _ _ _ _ _ _ _ _; first | refine cA hMk ?_ | refine cA hLk ?_ | refine cA hsm ?_) | (guard_target = DCallAt _ _ _ _ _ _ _ _; first | refine cD hMk ?_ | refine cD hLk ?_ | refine cD hsm ?_) | (guard_target = GCallAt _ _ _ _ _ _ _ _ _ _ _; first | refine cG (fun hg => hMk) ?_ | refine cG (fun hg => hLk) ?_ | refine cG (fun hg => hsm) ?_)); simp only [hrow, hq, go_sem]) | (with_reducible refine gsplit_i (fun hg0 => ?_) (fun hg0 => ?_) <;> first | (with_reducible first | exact absurd hg0 Bool.false_ne_true | exact absurd hg0.symm Bool.false_ne_true) | (simp only [hg0, hrow, hq, go_sem])) | (with_reducible refine nilK_i ?_; intro bnil hnil; try simp only []) | (omega; done) | (intro hv; (try simp only [bls] at hv); (try simp only [bls]); omega) | (intro hg; (simp only [hg, Bool.true_and, true_and, implies_true]; try (intro hg2; simp only [hg2, Bool.not_false, Bool.not_true])); done)))
   all_goals first | omega | skip
   exact hL _ (i + 1) (by omega) (by (simp only [SubF, go_sem]; (try simp only [go_sem]); repeat' (first | exact True.intro | with_reducible refine And.intro ?_ ?_ | rfl | omega))) (by omega)
  ·have hc : k ≠ 1 ∧ k ≠ 2 := by omega
   rw [if_pos hc, if_neg (by decide)] at hMk
   (simp only [go_sem] at hL ⊢)
   (repeat' (first | (with_reducible first | exact True.intro | refine And.intro ?_ ?_ | refine awp_block ?_ | ((first | refine awp_seq1 10 [16, 15, 17] ?_ | refine awp_seq2 10 [16, 15, 17] ?_ | refine awp_seq3 10 [16, 15, 17] ?_ | refine awp_seq4 10 [16, 15, 17] ?_ | refine awp_seq 10 [16, 15, 17] ?_); intro K hK)) | ((with_reducible first | refine awp_reg ?_ | refine awp_exit ?_ | refine awp_skip ?_ | refine likeK_i ?_); simp only [hrow, hq, go_sem]) | (with_reducible refine awp_ret ?_; simp only [retF, retM, retL, resV, resW, retO, resAV, AV.bor, D.bor, D.bor1, D.bor0, AV.flatOwn, D.flatOwn, D.flat, AV.tagged, D.tagged, AObj.plain, hrow, hq, go_sem]) | ((with_reducible refine awp_cond' ?_ ?_ (fun hb => ?_) (fun hb => ?_)); (simp only [hrow, hq, go_sem]); (simp only [hrow, hq, go_sem]); all_goals (simp only [hrow, hq, go_sem] at hb; try simp only [bls] at hb)) | ((iterate 6 try ((fail_if_success with_reducible refine hK _ ?_ ?_ ?_); clear hK K)); with_reducible refine hK _ ?_ ?_ ?_; rotate_left; (focus (simp only [hrow, hq, go_sem]; exact rfl)); clear hK K) | ((first | (with_reducible first | refine cA hMk ?_ | refine cD hMk ?_ | refine cO hMk ?_ | refine cR hMk ?_ | refine cG (fun hg => hMk) ?_ | refine cH (fun hg => hMk) ?_ | refine cM (fun hg => hMk) ?_) | (guard_target = CallAt _ _ _ _ _ _ _ _ _ _; refine cA hMk ?_) | (guard_target = DCallAt _ _ _ _ _ _ _ _; refine cD hMk ?_) | (guard_target = GCallAt _ _ _ _ _ _ _ _ _ _ _; refine cG (fun hg => hMk) ?_)); simp only [hrow, hq, go_sem]) | (with_reducible refine gsplit_i (fun hg0 => ?_) (fun hg0 => ?_) <;> first | (with_reducible first | exact absurd hg0 Bool.false_ne_true | exact absurd hg0.symm Bool.false_ne_true) | (simp only [hg0, hrow, hq, go_sem])) | (with_reducible refine nilK_i ?_; intro bnil hnil; try simp only []) | (omega; done) | (intro hv; (try simp only [bls] at hv); (try simp only [bls]); omega) | (intro hg; (simp only [hg, Bool.true_and, true_and, implies_true]; try (intro hg2; simp only [hg2, Bool.not_false, Bool.not_true])); done)))
   all_goals first | omega | skip
   exact hL _ (i + 1) (by omega) (by (simp only [SubF, go_sem]; (try simp only [go_sem]); repeat' (first | exact True.intro | with_reducible refine And.intro ?_ ?_ | rfl | omega))) (by omega)
 ·(simp only [go_sem] at hL ⊢)
  (repeat' (first | (with_reducible first | exact True.intro | refine And.intro ?_ ?_ | refine awp_block ?_ | ((first | refine awp_seq1 10 [16, 15, 17] ?_ | refine awp_seq2 10 [16, 15, 17] ?_ | refine awp_seq3 10 [16, 15, 17] ?_ | refine awp_seq4 10 [16, 15, 17] ?_ | refine awp_seq 10 [16, 15, 17] ?_); intro K hK)) | ((with_reducible first | refine awp_reg ?_ | refine awp_exit ?_ | refine awp_skip ?_ | refine likeK_i ?_); simp only [go_sem]) | (with_reducible refine awp_ret ?_; simp only [retF, retM, retL, resV, resW, retO, resAV, AV.bor, D.bor, D.bor1, D.bor0, AV.flatOwn, D.flatOwn, D.flat, AV.tagged, D.tagged, AObj.plain, go_sem]) | ((with_reducible refine awp_cond' ?_ ?_ (fun hb => ?_) (fun hb => ?_)); (simp only [go_sem]); (simp only [go_sem]); all_goals (simp only [go_sem] at hb; try simp only [bls] at hb)) | ((iterate 6 try ((fail_if_success with_reducible refine hK _ ?_ ?_ ?_); clear hK K)); with_reducible refine hK _ ?_ ?_ ?_; rotate_left; (focus (simp only [go_sem]; exact rfl)); clear hK K) | (with_reducible refine gsplit_i (fun hg0 => ?_) (fun hg0 => ?_) <;> first | (with_reducible first | exact absurd hg0 Bool.false_ne_true | exact absurd hg0.symm Bool.false_ne_true) | (simp only [hg0, go_sem])) | (with_reducible refine nilK_i ?_; intro bnil hnil; try simp only []) | (omega; done) | (intro hv; (try simp only [bls] at hv); (try simp only [bls]); omega) | (intro hg; (simp only [hg, Bool.true_and, true_and, implies_true]; try (intro hg2; simp only [hg2, Bool.not_false, Bool.not_true])); done)))
  all_goals first | omega | skip
end Go.Proofs.YtlankmlgomhbhaaGreatDoor
