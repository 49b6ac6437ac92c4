/-
 Chapter 23: the law's sameAll, has, alike, difference.
-/
import Derived.Test.YtkjnjkdcpbgabaaGreatDoorUF
set_option linter.unusedSimpArgs false
set_option linter.unusedVariables false
namespace Go.Proofs.YtkjnjkdcpbgabaaGreatDoor
open Go.Eng Go.RowKit
set_option maxHeartbeats 8000000 in
theorem has_c (l : List It) (x : It) (hl : LFits l) : ACalls Tryz.prog 76 [.one (.list (itD l)), .agg x.d] (.one (.bool (hasB l x))) [] := by
 have hll := hl.len
 generalize hE : hasB l x = E at *
 (refine ACalls.of_body Ty_ok mixed Tryz.func76 rfl (by kernel_rfl) Tryz.ntmps76 (by simp) (congrArg Array.toList Tryz.results76) ?_)
 simp only [slotsOf, It.d]
 (repeat' (first | (with_reducible first | exact True.intro | refine And.intro ?_ ?_ | refine aBl ?_ | ((first | refine aS1 6 [] ?_ | refine aS2 6 [] ?_ | refine aS3 6 [] ?_ | refine aS4 6 [] ?_ | refine aSq 6 [] ?_); intro K hK)) | ((with_reducible first | refine aRg ?_ | refine aEx ?_ | refine aSk ?_ | refine aRt ?_ | refine aLk ?_ | refine aOt ?_ | refine rP Ty_ok mixed 4 [0, 1] [.mid [pe 2, pe 3, pe 4] 0, .one 5] ?_); simp only [go_sem]) | ((with_reducible refine aCd ?_ ?_ (fun hb => ?_) (fun hb => ?_)); (simp only [go_sem]); (simp only [go_sem]); all_goals (simp only [go_sem] at hb; try simp only [bls] at hb)) | ((iterate 6 try ((fail_if_success with_reducible refine hK _ ?_ ?_ ?_); clear hK K)); with_reducible refine hK _ ?_ ?_ ?_; rotate_left; (focus (simp only [go_sem]; exact rfl)); clear hK K) | (with_reducible refine aGs (fun hg0 => ?_) (fun hg0 => ?_) <;> first | (with_reducible first | exact aF1 hg0 | exact aF2 hg0) | (simp only [hg0, go_sem])) | (with_reducible refine aNk ?_; intro bnil hnil; try simp only []) | (omega; done) | (intro hv; (try simp only [bls] at hv); (try simp only [bls]); omega) | (intro hg; (simp only [hg, Bool.true_and, true_and, implies_true]; try (intro hg2; simp only [hg2, Bool.not_false, Bool.not_true])); done)))
 all_goals first | omega | skip
 refine awp_loop _ (by simp only [go_sem]; rfl) Nat (fun k => k ≤ l.length ∧ E = hasB (l.drop k) x) (fun k => [(5, .one (.int .i64 k))]) (fun _ H => H) (fun k => l.length - k) 0 ⟨by omega, by simpa using hE.symm⟩ ?_ ?_
 ·(simp only [SubF, go_sem]; (try simp only [go_sem]); repeat' (first | exact True.intro | with_reducible refine And.intro ?_ ?_ | rfl | omega))
 rintro k ⟨hk, hres⟩ L hL
 have hq : ((k : Nat) : Int).toNat = k := by omega
 rcases (Decidable.em (k < l.length)) with hlt | hlt
 ·have hlf : decide ((k : Int) < l.length) = true := decide_eq_true (by omega)
  have hga := itD_get hlt [.int .i64 0, .str [], .nil, .int .i64 0, .nil, .nil, .nil, .nil, .int .i64 0]
  have hc := same_c (l.getD k It.no) x (hl.it _ (getD_mem l k It.no hlt))
  rw [hasB, drop_getD l k It.no hlt, List.any_cons] at hres
  have hcm : decide (x = l.getD k It.no) = decide (l.getD k It.no = x) := by rw [Bool.eq_iff_iff, decide_eq_true_eq, decide_eq_true_eq]; exact eq_comm
  rw [hcm] at hres
  generalize hu : decide (l.getD k It.no = x) = u at *
  generalize l.getD k It.no = y at *
  simp only [It.d] at hga hc
  (simp only [go_sem] at hL ⊢)
  (repeat' (first | (with_reducible first | exact True.intro | refine And.intro ?_ ?_ | refine aBl ?_ | ((first | refine aS1 6 [] ?_ | refine aS2 6 [] ?_ | refine aS3 6 [] ?_ | refine aS4 6 [] ?_ | refine aSq 6 [] ?_); intro K hK)) | ((with_reducible first | refine aRg ?_ | refine aEx ?_ | refine aSk ?_ | refine aRt ?_ | refine aLk ?_ | refine aOt ?_ | refine rP Ty_ok mixed 4 [0, 1] [.mid [pe 2, pe 3, pe 4] 0, .one 5] ?_); simp only [hq, hlf, hga, go_sem]) | ((with_reducible refine aCd ?_ ?_ (fun hb => ?_) (fun hb => ?_)); (simp only [hq, hlf, hga, go_sem]); (simp only [hq, hlf, hga, go_sem]); all_goals (simp only [hq, hlf, hga, go_sem] at hb; try simp only [bls] at hb)) | ((iterate 6 try ((fail_if_success with_reducible refine hK _ ?_ ?_ ?_); clear hK K)); with_reducible refine hK _ ?_ ?_ ?_; rotate_left; (focus (simp only [hq, hlf, hga, go_sem]; exact rfl)); clear hK K) | ((first | (with_reducible first | refine cA hc ?_ | refine cD hc ?_ | refine cO hc ?_ | refine cR hc ?_ | refine cG (fun hg => hc) ?_ | refine cH (fun hg => hc) ?_ | refine cM (fun hg => hc) ?_) | (guard_target = CallAt _ _ _ _ _ _ _ _ _ _; refine cA hc ?_) | (guard_target = DCallAt _ _ _ _ _ _ _ _; refine cD hc ?_) | (guard_target = GCallAt _ _ _ _ _ _ _ _ _ _ _; refine cG (fun hg => hc) ?_)); simp only [hq, hlf, hga, go_sem]) | (with_reducible refine aGs (fun hg0 => ?_) (fun hg0 => ?_) <;> first | (with_reducible first | exact aF1 hg0 | exact aF2 hg0) | (simp only [hg0, hq, hlf, hga, go_sem])) | (with_reducible refine aNk ?_; intro bnil hnil; try simp only []) | (omega; done) | (intro hv; (try simp only [bls] at hv); (try simp only [bls]); omega) | (intro hg; (simp only [hg, Bool.true_and, true_and, implies_true]; try (intro hg2; simp only [hg2, Bool.not_false, Bool.not_true])); done)))
  all_goals first | omega | skip
  ·rw [hres, hb, Bool.true_or]
  ·rw [hb, Bool.false_or] at hres
   exact hL _ (k + 1) ⟨by omega, hres⟩ (by (simp only [SubF, go_sem]; (try simp only [go_sem]); repeat' (first | exact True.intro | with_reducible refine And.intro ?_ ?_ | rfl | omega))) (by omega)
 have hkk : k = l.length := by omega
 subst hkk
 have hlf : decide ((l.length : Int) < l.length) = false := decide_eq_false (by omega)
 rw [drop_end l _ (Nat.le_refl _)] at hres
 (simp only [go_sem] at hL ⊢)
 (repeat' (first | (with_reducible first | exact True.intro | refine And.intro ?_ ?_ | refine aBl ?_ | ((first | refine aS1 6 [] ?_ | refine aS2 6 [] ?_ | refine aS3 6 [] ?_ | refine aS4 6 [] ?_ | refine aSq 6 [] ?_); intro K hK)) | ((with_reducible first | refine aRg ?_ | refine aEx ?_ | refine aSk ?_ | refine aRt ?_ | refine aLk ?_ | refine aOt ?_ | refine rP Ty_ok mixed 4 [0, 1] [.mid [pe 2, pe 3, pe 4] 0, .one 5] ?_); simp only [hlf, go_sem]) | ((with_reducible refine aCd ?_ ?_ (fun hb => ?_) (fun hb => ?_)); (simp only [hlf, go_sem]); (simp only [hlf, go_sem]); all_goals (simp only [hlf, go_sem] at hb; try simp only [bls] at hb)) | ((iterate 6 try ((fail_if_success with_reducible refine hK _ ?_ ?_ ?_); clear hK K)); with_reducible refine hK _ ?_ ?_ ?_; rotate_left; (focus (simp only [hlf, go_sem]; exact rfl)); clear hK K) | (with_reducible refine aGs (fun hg0 => ?_) (fun hg0 => ?_) <;> first | (with_reducible first | exact aF1 hg0 | exact aF2 hg0) | (simp only [hg0, hlf, go_sem])) | (with_reducible refine aNk ?_; intro bnil hnil; try simp only []) | (omega; done) | (intro hv; (try simp only [bls] at hv); (try simp only [bls]); omega) | (intro hg; (simp only [hg, Bool.true_and, true_and, implies_true]; try (intro hg2; simp only [hg2, Bool.not_false, Bool.not_true])); done)))
 all_goals first | omega | skip
 rw [hres]; rfl
set_option maxHeartbeats 8000000 in
theorem lawalike_c (a b : List It) (ha : LFits a) (hb0 : LFits b) : ACalls Tryz.prog 40 [.one (.list (itD a)), .one (.list (itD b))] (.one (.bool (alikeB a b))) [] := by
 have hal := ha.len
 have hbl := hb0.len
 have hE : alikeB a b = (decide (a.length = b.length) && (a.all (hasB b) && b.all (hasB a))) := rfl
 generalize alikeB a b = E at *
 (refine ACalls.of_body Ty_ok mixed Tryz.func40 rfl (by kernel_rfl) Tryz.ntmps40 (by simp) (congrArg Array.toList Tryz.results40) ?_)
 simp only [slotsOf]
 (repeat' (first | (with_reducible first | exact True.intro | refine And.intro ?_ ?_ | refine aBl ?_ | ((first | refine aS1 6 [] ?_ | refine aS2 6 [] ?_ | refine aS3 6 [] ?_ | refine aS4 6 [] ?_ | refine aSq 6 [] ?_); intro K hK)) | ((with_reducible first | refine aRg ?_ | refine aEx ?_ | refine aSk ?_ | refine aRt ?_ | refine aLk ?_ | refine aOt ?_); simp only [go_sem]) | ((with_reducible refine aCd ?_ ?_ (fun hb => ?_) (fun hb => ?_)); (simp only [go_sem]); (simp only [go_sem]); all_goals (simp only [go_sem] at hb; try simp only [bls] at hb)) | ((iterate 6 try ((fail_if_success with_reducible refine hK _ ?_ ?_ ?_); clear hK K)); with_reducible refine hK _ ?_ ?_ ?_; rotate_left; (focus (simp only [go_sem]; exact rfl)); clear hK K) | (with_reducible refine aGs (fun hg0 => ?_) (fun hg0 => ?_) <;> first | (with_reducible first | exact aF1 hg0 | exact aF2 hg0) | (simp only [hg0, go_sem])) | (with_reducible refine aNk ?_; intro bnil hnil; try simp only []) | (omega; done) | (intro hv; (try simp only [bls] at hv); (try simp only [bls]); omega) | (intro hg; (simp only [hg, Bool.true_and, true_and, implies_true]; try (intro hg2; simp only [hg2, Bool.not_false, Bool.not_true])); done)))
 all_goals first | omega | skip
 ·rw [hE, decide_eq_false (by omega)]; rfl
 have hlen : a.length = b.length := by omega
 rw [decide_eq_true hlen, Bool.true_and] at hE
 refine awp_loop _ (by simp only [go_sem]; rfl) Nat (fun k => k ≤ a.length ∧ E = ((a.drop k).all (hasB b) && (b.drop k).all (hasB a))) (fun k => [(5, .one (.int .i64 k))]) (fun _ H => H) (fun k => a.length - k) 0 ⟨by omega, by simpa using hE⟩ ?_ ?_
 ·(simp only [SubF, go_sem]; (try simp only [go_sem]); repeat' (first | exact True.intro | with_reducible refine And.intro ?_ ?_ | rfl | omega))
 rintro k ⟨hk, hres⟩ L hL
 have hq : ((k : Nat) : Int).toNat = k := by omega
 rcases (Decidable.em (k < a.length)) with hlt | hlt
 ·have hlf : decide ((k : Int) < a.length) = true := decide_eq_true (by omega)
  have hga := itD_get hlt [.int .i64 0, .str [], .nil, .int .i64 0, .nil, .nil, .nil, .nil, .int .i64 0]
  have hgb := itD_get (show k < b.length by omega) [.int .i64 0, .str [], .nil, .int .i64 0, .nil, .nil, .nil, .nil, .int .i64 0]
  have hc1 := has_c b (a.getD k It.no) hb0
  have hc2 := has_c a (b.getD k It.no) ha
  rw [all_step (d := It.no) hlt, all_step (d := It.no) (show k < b.length by omega)] at hres
  generalize hasB b (a.getD k It.no) = u at *
  generalize hasB a (b.getD k It.no) = v at *
  generalize a.getD k It.no = x at *
  generalize b.getD k It.no = y at *
  simp only [It.d] at hga hgb hc1 hc2
  (simp only [go_sem] at hL ⊢)
  (repeat' (first | (with_reducible first | exact True.intro | refine And.intro ?_ ?_ | refine aBl ?_ | ((first | refine aS1 6 [] ?_ | refine aS2 6 [] ?_ | refine aS3 6 [] ?_ | refine aS4 6 [] ?_ | refine aSq 6 [] ?_); intro K hK)) | ((with_reducible first | refine aRg ?_ | refine aEx ?_ | refine aSk ?_ | refine aRt ?_ | refine aLk ?_ | refine aOt ?_); simp only [hq, hlf, hga, hgb, go_sem]) | ((with_reducible refine aCd ?_ ?_ (fun hb => ?_) (fun hb => ?_)); (simp only [hq, hlf, hga, hgb, go_sem]); (simp only [hq, hlf, hga, hgb, go_sem]); all_goals (simp only [hq, hlf, hga, hgb, go_sem] at hb; try simp only [bls] at hb)) | ((iterate 6 try ((fail_if_success with_reducible refine hK _ ?_ ?_ ?_); clear hK K)); with_reducible refine hK _ ?_ ?_ ?_; rotate_left; (focus (simp only [hq, hlf, hga, hgb, go_sem]; exact rfl)); clear hK K) | ((first | (with_reducible first | refine cA (by assumption) ?_ | refine cD (by assumption) ?_ | refine cO (by assumption) ?_ | refine cR (by assumption) ?_ | refine cG (fun hg => (by assumption)) ?_ | refine cH (fun hg => (by assumption)) ?_ | refine cM (fun hg => (by assumption)) ?_) | (guard_target = CallAt _ _ _ _ _ _ _ _ _ _; refine cA (by assumption) ?_) | (guard_target = DCallAt _ _ _ _ _ _ _ _; refine cD (by assumption) ?_) | (guard_target = GCallAt _ _ _ _ _ _ _ _ _ _ _; refine cG (fun hg => (by assumption)) ?_)); simp only [hq, hlf, hga, hgb, go_sem]) | (with_reducible refine aGs (fun hg0 => ?_) (fun hg0 => ?_) <;> first | (with_reducible first | exact aF1 hg0 | exact aF2 hg0) | (simp only [hg0, hq, hlf, hga, hgb, go_sem])) | (with_reducible refine aNk ?_; intro bnil hnil; try simp only []) | (omega; done) | (intro hv; (try simp only [bls] at hv); (try simp only [bls]); omega) | (intro hg; (simp only [hg, Bool.true_and, true_and, implies_true]; try (intro hg2; simp only [hg2, Bool.not_false, Bool.not_true])); done)))
  all_goals first | omega | skip
  ·intro h; exact ⟨h, by omega, by omega⟩
  ·rcases hb with h | h
   ·rw [hres, h]; simp
   ·rw [hres, h]; simp
  ·rw [hb.1, hb.2, Bool.true_and, Bool.true_and] at hres
   exact hL _ (k + 1) ⟨by omega, hres⟩ (by (simp only [SubF, go_sem]; (try simp only [go_sem]); repeat' (first | exact True.intro | with_reducible refine And.intro ?_ ?_ | rfl | omega))) (by omega)
 have hkk : k = a.length := by omega
 subst hkk
 have hlf : decide ((a.length : Int) < a.length) = false := decide_eq_false (by omega)
 rw [drop_end a _ (Nat.le_refl _), drop_end b _ (by omega)] at hres
 (simp only [go_sem] at hL ⊢)
 (repeat' (first | (with_reducible first | exact True.intro | refine And.intro ?_ ?_ | refine aBl ?_ | ((first | refine aS1 6 [] ?_ | refine aS2 6 [] ?_ | refine aS3 6 [] ?_ | refine aS4 6 [] ?_ | refine aSq 6 [] ?_); intro K hK)) | ((with_reducible first | refine aRg ?_ | refine aEx ?_ | refine aSk ?_ | refine aRt ?_ | refine aLk ?_ | refine aOt ?_); simp only [hlf, go_sem]) | ((with_reducible refine aCd ?_ ?_ (fun hb => ?_) (fun hb => ?_)); (simp only [hlf, go_sem]); (simp only [hlf, go_sem]); all_goals (simp only [hlf, go_sem] at hb; try simp only [bls] at hb)) | ((iterate 6 try ((fail_if_success with_reducible refine hK _ ?_ ?_ ?_); clear hK K)); with_reducible refine hK _ ?_ ?_ ?_; rotate_left; (focus (simp only [hlf, go_sem]; exact rfl)); clear hK K) | (with_reducible refine aGs (fun hg0 => ?_) (fun hg0 => ?_) <;> first | (with_reducible first | exact aF1 hg0 | exact aF2 hg0) | (simp only [hg0, hlf, go_sem])) | (with_reducible refine aNk ?_; intro bnil hnil; try simp only []) | (omega; done) | (intro hv; (try simp only [bls] at hv); (try simp only [bls]); omega) | (intro hg; (simp only [hg, Bool.true_and, true_and, implies_true]; try (intro hg2; simp only [hg2, Bool.not_false, Bool.not_true])); done)))
 all_goals first | omega | skip
 rw [hres]; rfl
end Go.Proofs.YtkjnjkdcpbgabaaGreatDoor
