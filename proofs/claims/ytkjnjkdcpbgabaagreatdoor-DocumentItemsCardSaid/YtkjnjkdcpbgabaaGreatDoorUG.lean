/-
 Chapter 23: the law's sameAll, has, alike, difference.
-/
import Derived.Test.YtkjnjkdcpbgabaaGreatDoorUF
set_option linter.unusedSimpArgs false
set_option linter.unusedVariables false
namespace Go.Proofs.YtkjnjkdcpbgabaaGreatDoor
open Go.Eng Go.RowKit
set_option maxHeartbeats 8000000 in
theorem sameAll_c (a b : List It) (ha : LFits a) : ACalls Tryz.prog 20 [.one (.list (itD a)), .one (.list (itD b))] (.one (.bool (decide (a = b)))) [] := by
 have hal := ha.len
 generalize hE : decide (a = b) = E at *
 (refine ACalls.of_body Ty_ok mixed Tryz.func20 rfl (by kernel_rfl) Tryz.ntmps20 (by simp) (congrArg Array.toList Tryz.results20) ?_)
 simp only [slotsOf]
 (repeat' (first | (with_reducible first | exact True.intro | refine And.intro ?_ ?_ | refine aBl ?_ | ((first | refine aS1 6 [] ?_ | refine aS2 6 [] ?_ | refine aS3 6 [] ?_ | refine aS4 6 [] ?_ | refine aSq 6 [] ?_); intro K hK)) | ((with_reducible first | refine aRg ?_ | refine aEx ?_ | refine aSk ?_ | refine aRt ?_ | refine aLk ?_ | refine aOt ?_ | refine rP Ty_ok mixed 6 [0, 1, 4, 5] [.mid [pe 2, pe 3, pe 6, pe 7] 0, .one 8, .one 9] ?_); simp only [go_sem]) | ((with_reducible refine aCd ?_ ?_ (fun hb => ?_) (fun hb => ?_)); (simp only [go_sem]); (simp only [go_sem]); all_goals (simp only [go_sem] at hb; try simp only [bls] at hb)) | ((iterate 6 try ((fail_if_success with_reducible refine hK _ ?_ ?_ ?_); clear hK K)); with_reducible refine hK _ ?_ ?_ ?_; rotate_left; (focus (simp only [go_sem]; exact rfl)); clear hK K) | (with_reducible refine aGs (fun hg0 => ?_) (fun hg0 => ?_) <;> first | (with_reducible first | exact aF1 hg0 | exact aF2 hg0) | (simp only [hg0, go_sem])) | (with_reducible refine aNk ?_; intro bnil hnil; try simp only []) | (omega; done) | (intro hv; (try simp only [bls] at hv); (try simp only [bls]); omega) | (intro hg; (simp only [hg, Bool.true_and, true_and, implies_true]; try (intro hg2; simp only [hg2, Bool.not_false, Bool.not_true])); done)))
 all_goals first | omega | skip
 ·have : a ≠ b := by rintro rfl; omega
  rw [← hE, decide_eq_false this]
 have hlen : a.length = b.length := by omega
 refine awp_loop _ (by simp only [go_sem]; rfl) Nat (fun k => k ≤ a.length ∧ E = decide (a.drop k = b.drop k)) (fun k => [(5, .one (.int .i64 k))]) (fun _ H => H) (fun k => a.length - k) 0 ⟨by omega, by simpa using hE.symm⟩ ?_ ?_
 ·(simp only [SubF, go_sem]; (try simp only [go_sem]); repeat' (first | exact True.intro | with_reducible refine And.intro ?_ ?_ | rfl | omega))
 rintro k ⟨hk, hres⟩ L hL
 have hq : ((k : Nat) : Int).toNat = k := by omega
 rcases (Decidable.em (k < a.length)) with hlt | hlt
 ·have hlf : decide ((k : Int) < a.length) = true := decide_eq_true (by omega)
  have hs1 := eqq_step (d := It.no) (by omega) hlt hres
  have hga := itD_get hlt [.int .i64 0, .str [], .nil, .int .i64 0, .nil, .nil, .nil, .nil, .int .i64 0]
  have hgb := itD_get (show k < b.length by omega) [.int .i64 0, .str [], .nil, .int .i64 0, .nil, .nil, .nil, .nil, .int .i64 0]
  have hc := same_c (a.getD k It.no) (b.getD k It.no) (ha.it _ (getD_mem a k It.no hlt))
  generalize hu : decide (a.getD k It.no = b.getD k It.no) = u at *
  generalize a.getD k It.no = x at *
  generalize b.getD k It.no = y at *
  simp only [It.d] at hga hgb hc
  (simp only [go_sem] at hL ⊢)
  (repeat' (first | (with_reducible first | exact True.intro | refine And.intro ?_ ?_ | refine aBl ?_ | ((first | refine aS1 6 [] ?_ | refine aS2 6 [] ?_ | refine aS3 6 [] ?_ | refine aS4 6 [] ?_ | refine aSq 6 [] ?_); intro K hK)) | ((with_reducible first | refine aRg ?_ | refine aEx ?_ | refine aSk ?_ | refine aRt ?_ | refine aLk ?_ | refine aOt ?_ | refine rP Ty_ok mixed 6 [0, 1, 4, 5] [.mid [pe 2, pe 3, pe 6, pe 7] 0, .one 8, .one 9] ?_); simp only [hq, hlf, hga, hgb, go_sem]) | ((with_reducible refine aCd ?_ ?_ (fun hb => ?_) (fun hb => ?_)); (simp only [hq, hlf, hga, hgb, go_sem]); (simp only [hq, hlf, hga, hgb, go_sem]); all_goals (simp only [hq, hlf, hga, hgb, go_sem] at hb; try simp only [bls] at hb)) | ((iterate 6 try ((fail_if_success with_reducible refine hK _ ?_ ?_ ?_); clear hK K)); with_reducible refine hK _ ?_ ?_ ?_; rotate_left; (focus (simp only [hq, hlf, hga, hgb, go_sem]; exact rfl)); clear hK K) | ((first | (with_reducible first | refine cA hc ?_ | refine cD hc ?_ | refine cO hc ?_ | refine cR hc ?_ | refine cG (fun hg => hc) ?_ | refine cH (fun hg => hc) ?_ | refine cM (fun hg => hc) ?_) | (guard_target = CallAt _ _ _ _ _ _ _ _ _ _; refine cA hc ?_) | (guard_target = DCallAt _ _ _ _ _ _ _ _; refine cD hc ?_) | (guard_target = GCallAt _ _ _ _ _ _ _ _ _ _ _; refine cG (fun hg => hc) ?_)); simp only [hq, hlf, hga, hgb, go_sem]) | (with_reducible refine aGs (fun hg0 => ?_) (fun hg0 => ?_) <;> first | (with_reducible first | exact aF1 hg0 | exact aF2 hg0) | (simp only [hg0, hq, hlf, hga, hgb, go_sem])) | (with_reducible refine aNk ?_; intro bnil hnil; try simp only []) | (omega; done) | (intro hv; (try simp only [bls] at hv); (try simp only [bls]); omega) | (intro hg; (simp only [hg, Bool.true_and, true_and, implies_true]; try (intro hg2; simp only [hg2, Bool.not_false, Bool.not_true])); done)))
  all_goals first | omega | skip
  ·rw [hs1, hb, Bool.false_and]
  ·rw [hb, Bool.true_and] at hs1
   exact hL _ (k + 1) ⟨by omega, hs1⟩ (by (simp only [SubF, go_sem]; (try simp only [go_sem]); repeat' (first | exact True.intro | with_reducible refine And.intro ?_ ?_ | rfl | omega))) (by omega)
 have hkk : k = a.length := by omega
 subst hkk
 have hlf : decide ((a.length : Int) < a.length) = false := decide_eq_false (by omega)
 rw [drop_end a _ (Nat.le_refl _), drop_end b _ (by omega)] at hres
 (simp only [go_sem] at hL ⊢)
 (repeat' (first | (with_reducible first | exact True.intro | refine And.intro ?_ ?_ | refine aBl ?_ | ((first | refine aS1 6 [] ?_ | refine aS2 6 [] ?_ | refine aS3 6 [] ?_ | refine aS4 6 [] ?_ | refine aSq 6 [] ?_); intro K hK)) | ((with_reducible first | refine aRg ?_ | refine aEx ?_ | refine aSk ?_ | refine aRt ?_ | refine aLk ?_ | refine aOt ?_ | refine rP Ty_ok mixed 6 [0, 1, 4, 5] [.mid [pe 2, pe 3, pe 6, pe 7] 0, .one 8, .one 9] ?_); simp only [hlf, go_sem]) | ((with_reducible refine aCd ?_ ?_ (fun hb => ?_) (fun hb => ?_)); (simp only [hlf, go_sem]); (simp only [hlf, go_sem]); all_goals (simp only [hlf, go_sem] at hb; try simp only [bls] at hb)) | ((iterate 6 try ((fail_if_success with_reducible refine hK _ ?_ ?_ ?_); clear hK K)); with_reducible refine hK _ ?_ ?_ ?_; rotate_left; (focus (simp only [hlf, go_sem]; exact rfl)); clear hK K) | (with_reducible refine aGs (fun hg0 => ?_) (fun hg0 => ?_) <;> first | (with_reducible first | exact aF1 hg0 | exact aF2 hg0) | (simp only [hg0, hlf, go_sem])) | (with_reducible refine aNk ?_; intro bnil hnil; try simp only []) | (omega; done) | (intro hv; (try simp only [bls] at hv); (try simp only [bls]); omega) | (intro hg; (simp only [hg, Bool.true_and, true_and, implies_true]; try (intro hg2; simp only [hg2, Bool.not_false, Bool.not_true])); done)))
 all_goals first | omega | skip
 rw [hres]; rfl
end Go.Proofs.YtkjnjkdcpbgabaaGreatDoor
