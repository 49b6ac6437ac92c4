/-
 Chapter 23: the reference's check of an automaton.
-/
import Derived.Test.YtkjnjkdcpbgabaaGreatDoorUR
set_option linter.unusedSimpArgs false
set_option linter.unusedVariables false
namespace Go.Proofs.YtkjnjkdcpbgabaaGreatDoor
open Go.Eng Go.RowKit
set_option maxHeartbeats 4000000 in
theorem refHas_c (l : List Int) (s : Int) (hl : l.length ≤ 1000000) : ACalls Tryz.prog 60 [.one (.list (ints l)), .one (.int .i64 s)] (.one (.bool (decide (s ∈ l)))) [] := by
 generalize hR : decide (s ∈ l) = R at *
 (refine ACalls.of_body Ty_ok mixed Tryz.func60 rfl (by kernel_rfl) Tryz.ntmps60 (by simp) (congrArg Array.toList Tryz.results60) ?_)
 simp only [slotsOf]
 (repeat' (first | (with_reducible first | exact True.intro | refine And.intro ?_ ?_ | refine aBl ?_ | ((first | refine aS1 6 [] ?_ | refine aS2 6 [] ?_ | refine aS3 6 [] ?_ | refine aS4 6 [] ?_ | refine aSq 6 [] ?_); intro K hK)) | ((with_reducible first | refine aRg ?_ | refine aEx ?_ | refine aSk ?_ | refine aRt ?_ | refine aLk ?_ | refine aOt ?_); simp only [go_sem]) | ((with_reducible refine aCd ?_ ?_ (fun hb => ?_) (fun hb => ?_)); (simp only [go_sem]); (simp only [go_sem]); all_goals (simp only [go_sem] at hb; try simp only [bls] at hb)) | ((iterate 6 try ((fail_if_success with_reducible refine hK _ ?_ ?_ ?_); clear hK K)); with_reducible refine hK _ ?_ ?_ ?_; rotate_left; (focus (simp only [go_sem]; exact rfl)); clear hK K) | (with_reducible refine aGs (fun hg0 => ?_) (fun hg0 => ?_) <;> first | (with_reducible first | exact aF1 hg0 | exact aF2 hg0) | (simp only [hg0, go_sem])) | (with_reducible refine aNk ?_; intro bnil hnil; try simp only []) | (omega; done) | (intro hv; (try simp only [bls] at hv); (try simp only [bls]); omega) | (intro hg; (simp only [hg, Bool.true_and, true_and, implies_true]; try (intro hg2; simp only [hg2, Bool.not_false, Bool.not_true])); done)))
 all_goals first | omega | skip
 refine awp_loop _ (by simp only [go_sem]; rfl) Nat (fun k => k ≤ l.length ∧ R = decide (s ∈ l.drop k)) (fun k => [(5, .one (.int .i64 k))]) (fun _ H => H) (fun k => l.length - k) 0 ⟨by omega, by simpa using hR.symm⟩ ?_ ?_
 ·(simp only [SubF, go_sem]; (try simp only [go_sem]); repeat' (first | exact True.intro | with_reducible refine And.intro ?_ ?_ | rfl | omega))
 rintro k ⟨hk, hres⟩ L hL
 have hq : ((k : Nat) : Int).toNat = k := by omega
 rcases (Decidable.em (k < l.length)) with hlt | hlt
 ·have hlf : decide ((k : Int) < l.length) = true := decide_eq_true (by omega)
  rw [drop_getD l k 0 hlt] at hres
  generalize hyd : l.getD k 0 = y at *
  (simp only [go_sem] at hL ⊢)
  (repeat' (first | (with_reducible first | exact True.intro | refine And.intro ?_ ?_ | refine aBl ?_ | ((first | refine aS1 6 [] ?_ | refine aS2 6 [] ?_ | refine aS3 6 [] ?_ | refine aS4 6 [] ?_ | refine aSq 6 [] ?_); intro K hK)) | ((with_reducible first | refine aRg ?_ | refine aEx ?_ | refine aSk ?_ | refine aRt ?_ | refine aLk ?_ | refine aOt ?_); simp only [hq, hlf, hyd, go_sem]) | ((with_reducible refine aCd ?_ ?_ (fun hb => ?_) (fun hb => ?_)); (simp only [hq, hlf, hyd, go_sem]); (simp only [hq, hlf, hyd, go_sem]); all_goals (simp only [hq, hlf, hyd, go_sem] at hb; try simp only [bls] at hb)) | ((iterate 6 try ((fail_if_success with_reducible refine hK _ ?_ ?_ ?_); clear hK K)); with_reducible refine hK _ ?_ ?_ ?_; rotate_left; (focus (simp only [hq, hlf, hyd, go_sem]; exact rfl)); clear hK K) | (with_reducible refine aGs (fun hg0 => ?_) (fun hg0 => ?_) <;> first | (with_reducible first | exact aF1 hg0 | exact aF2 hg0) | (simp only [hg0, hq, hlf, hyd, go_sem])) | (with_reducible refine aNk ?_; intro bnil hnil; try simp only []) | (omega; done) | (intro hv; (try simp only [bls] at hv); (try simp only [bls]); omega) | (intro hg; (simp only [hg, Bool.true_and, true_and, implies_true]; try (intro hg2; simp only [hg2, Bool.not_false, Bool.not_true])); done)))
  all_goals first | omega | skip
  ·rw [hres, decide_eq_true (List.mem_cons.2 (.inl (Eq.symm (by assumption))))]
  ·have hne : decide (s ∈ y :: l.drop (k + 1)) = decide (s ∈ l.drop (k + 1)) := by
    rw [Bool.eq_iff_iff, decide_eq_true_eq, decide_eq_true_eq, List.mem_cons]
    exact ⟨fun h => h.resolve_left fun e => absurd e.symm (by assumption), .inr⟩
   rw [hne] at hres
   exact hL _ (k + 1) ⟨by omega, hres⟩ (by (simp only [SubF, go_sem]; (try simp only [go_sem]); repeat' (first | exact True.intro | with_reducible refine And.intro ?_ ?_ | rfl | omega))) (by omega)
 have hkk : k = l.length := by omega
 subst hkk
 have hlf : decide ((l.length : Int) < l.length) = false := decide_eq_false (by omega)
 rw [drop_end l _ (Nat.le_refl _)] at hres
 (simp only [go_sem] at hL ⊢)
 (repeat' (first | (with_reducible first | exact True.intro | refine And.intro ?_ ?_ | refine aBl ?_ | ((first | refine aS1 6 [] ?_ | refine aS2 6 [] ?_ | refine aS3 6 [] ?_ | refine aS4 6 [] ?_ | refine aSq 6 [] ?_); intro K hK)) | ((with_reducible first | refine aRg ?_ | refine aEx ?_ | refine aSk ?_ | refine aRt ?_ | refine aLk ?_ | refine aOt ?_); simp only [hlf, go_sem]) | ((with_reducible refine aCd ?_ ?_ (fun hb => ?_) (fun hb => ?_)); (simp only [hlf, go_sem]); (simp only [hlf, go_sem]); all_goals (simp only [hlf, go_sem] at hb; try simp only [bls] at hb)) | ((iterate 6 try ((fail_if_success with_reducible refine hK _ ?_ ?_ ?_); clear hK K)); with_reducible refine hK _ ?_ ?_ ?_; rotate_left; (focus (simp only [hlf, go_sem]; exact rfl)); clear hK K) | (with_reducible refine aGs (fun hg0 => ?_) (fun hg0 => ?_) <;> first | (with_reducible first | exact aF1 hg0 | exact aF2 hg0) | (simp only [hg0, hlf, go_sem])) | (with_reducible refine aNk ?_; intro bnil hnil; try simp only []) | (omega; done) | (intro hv; (try simp only [bls] at hv); (try simp only [bls]); omega) | (intro hg; (simp only [hg, Bool.true_and, true_and, implies_true]; try (intro hg2; simp only [hg2, Bool.not_false, Bool.not_true])); done)))
 all_goals first | omega | skip
 rw [hres]; rfl
set_option maxHeartbeats 4000000 in
theorem refList_c (xs : List Int) (m : Int) (hn : xs.length ≤ 1000000) : ACalls Tryz.prog 59 [.one (.list (ints xs)), .one (.int .i64 m)] (.one (.int .i64 (checkSet xs m))) [] := by
 (refine ACalls.of_body Ty_ok mixed Tryz.func59 rfl (by kernel_rfl) Tryz.ntmps59 (by simp) (congrArg Array.toList Tryz.results59) ?_)
 simp only [slotsOf]
 (repeat' (first | (with_reducible first | exact True.intro | refine And.intro ?_ ?_ | refine aBl ?_ | ((first | refine aS1 6 [] ?_ | refine aS2 6 [] ?_ | refine aS3 6 [] ?_ | refine aS4 6 [] ?_ | refine aSq 6 [] ?_); intro K hK)) | ((with_reducible first | refine aRg ?_ | refine aEx ?_ | refine aSk ?_ | refine aRt ?_ | refine aLk ?_ | refine aOt ?_ | refine rD (id := 6) ?_); simp only [go_sem]) | ((with_reducible refine aCd ?_ ?_ (fun hb => ?_) (fun hb => ?_)); (simp only [go_sem]); (simp only [go_sem]); all_goals (simp only [go_sem] at hb; try simp only [bls] at hb)) | ((iterate 6 try ((fail_if_success with_reducible refine hK _ ?_ ?_ ?_); clear hK K)); with_reducible refine hK _ ?_ ?_ ?_; rotate_left; (focus (simp only [go_sem]; exact rfl)); clear hK K) | (with_reducible refine aGs (fun hg0 => ?_) (fun hg0 => ?_) <;> first | (with_reducible first | exact aF1 hg0 | exact aF2 hg0) | (simp only [hg0, go_sem])) | (with_reducible refine aNk ?_; intro bnil hnil; try simp only []) | (omega; done) | (intro hv; (try simp only [bls] at hv); (try simp only [bls]); omega) | (intro hg; (simp only [hg, Bool.true_and, true_and, implies_true]; try (intro hg2; simp only [hg2, Bool.not_false, Bool.not_true])); done)))
 all_goals first | omega | skip
 refine awp_loop _ (by simp only [go_sem]; rfl) Nat (fun k => k ≤ xs.length ∧ checkSet xs m = csFrom m (xs.drop k) (prevOf xs k)) (fun k => [(5, .one (.int .i64 k))]) (fun _ H => H) (fun k => xs.length - k) 0 ⟨by omega, by simp [checkSet, prevOf]⟩ ?_ ?_
 ·(simp only [SubF, go_sem]; (try simp only [go_sem]); repeat' (first | exact True.intro | with_reducible refine And.intro ?_ ?_ | rfl | omega))
 rintro k ⟨hk, hres⟩ L hL
 have e1 := toNat_pred k
 (simp only [go_sem] at hL ⊢)
 (repeat' (first | (with_reducible first | exact True.intro | refine And.intro ?_ ?_ | refine aBl ?_ | ((first | refine aS1 6 [] ?_ | refine aS2 6 [] ?_ | refine aS3 6 [] ?_ | refine aS4 6 [] ?_ | refine aSq 6 [] ?_); intro K hK)) | ((with_reducible first | refine aRg ?_ | refine aEx ?_ | refine aSk ?_ | refine aRt ?_ | refine aLk ?_ | refine aOt ?_ | refine rD (id := 6) ?_); simp only [e1, go_sem]) | ((with_reducible refine aCd ?_ ?_ (fun hb => ?_) (fun hb => ?_)); (simp only [e1, go_sem]); (simp only [e1, go_sem]); all_goals (simp only [e1, go_sem] at hb; try simp only [bls] at hb)) | ((iterate 6 try ((fail_if_success with_reducible refine hK _ ?_ ?_ ?_); clear hK K)); with_reducible refine hK _ ?_ ?_ ?_; rotate_left; (focus (simp only [e1, go_sem]; exact rfl)); clear hK K) | (with_reducible refine aGs (fun hg0 => ?_) (fun hg0 => ?_) <;> first | (with_reducible first | exact aF1 hg0 | exact aF2 hg0) | (simp only [hg0, e1, go_sem])) | (with_reducible refine aNk ?_; intro bnil hnil; try simp only []) | (omega; done) | (intro hv; (try simp only [bls] at hv); (try simp only [bls]); omega) | (intro hg; (simp only [hg, Bool.true_and, true_and, implies_true]; try (intro hg2; simp only [hg2, Bool.not_false, Bool.not_true])); done)))
 all_goals first | omega | skip
 ·rw [cs_step (by omega) hres, if_pos hb]
 ·rw [cs_step (by omega) hres, if_neg (by omega), if_pos ⟨by omega, hb.2⟩]
 ·have h1 := cs_step (by omega) hres
  rw [if_neg (by omega), if_neg (by omega)] at h1
  exact hL _ (k + 1) ⟨by omega, h1⟩ (by (simp only [SubF, go_sem]; (try simp only [go_sem]); repeat' (first | exact True.intro | with_reducible refine And.intro ?_ ?_ | rfl | omega))) (by omega)
 ·rw [hres, drop_end xs k (by omega)]; rfl
set_option maxHeartbeats 8000000 in
set_option maxRecDepth 100000 in
theorem refAuCheck_c (a : AU) (hf : a.Fits) : ACalls Tryz.prog 30 [.agg a.d] (.one (.int .i64 (chkAU a))) [] := by
 obtain ⟨f1, f2, f3⟩ := hf
 have c1 := refList_c a.alpha 32 (by omega)
 have c2 := refList_c a.marked a.states (by omega)
 have hE : chkAU a = if checkSet a.alpha 32 ≠ 0 then checkSet a.alpha 32 else if a.states < 0 then 2 else if 4096 < a.states then 3 else if checkSet a.marked a.states ≠ 0 then checkSet a.marked a.states else deFrom a.states a.alpha none a.edges := rfl
 generalize chkAU a = R at *
 generalize checkSet a.alpha 32 = e1 at *
 generalize checkSet a.marked a.states = e2 at *
 (refine ACalls.of_body Ty_ok mixed Tryz.func30 rfl (by kernel_rfl) Tryz.ntmps30 (by simp) (congrArg Array.toList Tryz.results30) ?_)
 simp only [slotsOf, AU.d]
 (repeat' (first | (with_reducible first | exact True.intro | refine And.intro ?_ ?_ | refine aBl ?_ | ((first | refine aS1 7 [] ?_ | refine aS2 7 [] ?_ | refine aS3 7 [] ?_ | refine aS4 7 [] ?_ | refine aSq 7 [] ?_); intro K hK)) | ((with_reducible first | refine aRg ?_ | refine aEx ?_ | refine aSk ?_ | refine aRt ?_ | refine aLk ?_ | refine aOt ?_ | refine rD (id := 19) ?_); simp only [go_sem]) | ((with_reducible refine aCd ?_ ?_ (fun hb => ?_) (fun hb => ?_)); (simp only [go_sem]); (simp only [go_sem]); all_goals (simp only [go_sem] at hb; try simp only [bls] at hb)) | ((iterate 6 try ((fail_if_success with_reducible refine hK _ ?_ ?_ ?_); clear hK K)); with_reducible refine hK _ ?_ ?_ ?_; rotate_left; (focus (simp only [go_sem]; exact rfl)); clear hK K) | ((first | (with_reducible first | refine cA (by assumption) ?_ | refine cD (by assumption) ?_ | refine cO (by assumption) ?_ | refine cR (by assumption) ?_ | refine cG (fun hg => (by assumption)) ?_ | refine cH (fun hg => (by assumption)) ?_ | refine cM (fun hg => (by assumption)) ?_) | (guard_target = CallAt _ _ _ _ _ _ _ _ _ _; refine cA (by assumption) ?_) | (guard_target = DCallAt _ _ _ _ _ _ _ _; refine cD (by assumption) ?_) | (guard_target = GCallAt _ _ _ _ _ _ _ _ _ _ _; refine cG (fun hg => (by assumption)) ?_)); simp only [go_sem]) | (with_reducible refine aGs (fun hg0 => ?_) (fun hg0 => ?_) <;> first | (with_reducible first | exact aF1 hg0 | exact aF2 hg0) | (simp only [hg0, go_sem])) | (with_reducible refine aNk ?_; intro bnil hnil; try simp only []) | (omega; done) | (intro hv; (try simp only [bls] at hv); (try simp only [bls]); omega) | (intro hg; (simp only [hg, Bool.true_and, true_and, implies_true]; try (intro hg2; simp only [hg2, Bool.not_false, Bool.not_true])); done)))
 all_goals first | omega | skip
 rw [if_neg (by omega), if_neg (by omega), if_neg (by omega), if_neg (by omega)] at hE
 subst hE
 refine awp_loop _ (by simp only [go_sem]; rfl) Nat (fun k => k ≤ a.edges.length ∧ deFrom a.states a.alpha none a.edges = deFrom a.states a.alpha (prevE a.edges k) (a.edges.drop k)) (fun k => [(5, .one (.int .i64 k))]) (fun _ H => H) (fun k => a.edges.length - k) 0 ⟨by omega, by simp [prevE]⟩ ?_ ?_
 ·(simp only [SubF, go_sem]; (try simp only [go_sem]); repeat' (first | exact True.intro | with_reducible refine And.intro ?_ ?_ | rfl | omega))
 rintro k ⟨hk, hres⟩ L hL
 have hq : ((k : Nat) : Int).toNat = k := by omega
 rcases (Decidable.em (k < a.edges.length)) with hlt | hlt
 ·have hs := de_step hlt hres
  have c4 := refHas_c a.alpha (a.edges.getD k Ed.no).ev (by omega)
  have e1 := toNat_pred k
  (simp only [go_sem] at hL ⊢)
  (repeat' (first | (with_reducible first | exact True.intro | refine And.intro ?_ ?_ | refine aBl ?_ | ((first | refine aS1 7 [] ?_ | refine aS2 7 [] ?_ | refine aS3 7 [] ?_ | refine aS4 7 [] ?_ | refine aSq 7 [] ?_); intro K hK)) | ((with_reducible first | refine aRg ?_ | refine aEx ?_ | refine aSk ?_ | refine aRt ?_ | refine aLk ?_ | refine aOt ?_ | refine rD (id := 19) ?_); simp only [e1, go_sem]) | ((with_reducible refine aCd ?_ ?_ (fun hb => ?_) (fun hb => ?_)); (simp only [e1, go_sem]); (simp only [e1, go_sem]); all_goals (simp only [e1, go_sem] at hb; try simp only [bls] at hb)) | ((iterate 6 try ((fail_if_success with_reducible refine hK _ ?_ ?_ ?_); clear hK K)); with_reducible refine hK _ ?_ ?_ ?_; rotate_left; (focus (simp only [e1, go_sem]; exact rfl)); clear hK K) | ((first | (with_reducible first | refine cA c4 ?_ | refine cD c4 ?_ | refine cO c4 ?_ | refine cR c4 ?_ | refine cG (fun hg => c4) ?_ | refine cH (fun hg => c4) ?_ | refine cM (fun hg => c4) ?_) | (guard_target = CallAt _ _ _ _ _ _ _ _ _ _; refine cA c4 ?_) | (guard_target = DCallAt _ _ _ _ _ _ _ _; refine cD c4 ?_) | (guard_target = GCallAt _ _ _ _ _ _ _ _ _ _ _; refine cG (fun hg => c4) ?_)); simp only [e1, go_sem]) | (with_reducible refine aGs (fun hg0 => ?_) (fun hg0 => ?_) <;> first | (with_reducible first | exact aF1 hg0 | exact aF2 hg0) | (simp only [hg0, e1, go_sem])) | (with_reducible refine aNk ?_; intro bnil hnil; try simp only []) | (omega; done) | (intro hv; (try simp only [bls] at hv); (try simp only [bls]); omega) | (intro hg; (simp only [hg, Bool.true_and, true_and, implies_true]; try (intro hg2; simp only [hg2, Bool.not_false, Bool.not_true])); done)))
  all_goals first | omega | skip
  ·rw [hs, if_neg (by omega), if_pos (by assumption)]
  ·rename_i q1 q2 q3
   rw [hs, if_neg (by omega), if_neg (fun h => h q3), if_pos ⟨by omega, hb.2⟩]
  ·rename_i q1 q2 q3
   rw [if_neg (by omega), if_neg (fun h => h q3), if_neg (fun h => by omega)] at hs
   exact hL _ (k + 1) ⟨by omega, hs⟩ (by (simp only [SubF, go_sem]; (try simp only [go_sem]); repeat' (first | exact True.intro | with_reducible refine And.intro ?_ ?_ | rfl | omega))) (by omega)
 ·(simp only [go_sem] at hL ⊢)
  (repeat' (first | (with_reducible first | exact True.intro | refine And.intro ?_ ?_ | refine aBl ?_ | ((first | refine aS1 7 [] ?_ | refine aS2 7 [] ?_ | refine aS3 7 [] ?_ | refine aS4 7 [] ?_ | refine aSq 7 [] ?_); intro K hK)) | ((with_reducible first | refine aRg ?_ | refine aEx ?_ | refine aSk ?_ | refine aRt ?_ | refine aLk ?_ | refine aOt ?_ | refine rD (id := 19) ?_); simp only [go_sem]) | ((with_reducible refine aCd ?_ ?_ (fun hb => ?_) (fun hb => ?_)); (simp only [go_sem]); (simp only [go_sem]); all_goals (simp only [go_sem] at hb; try simp only [bls] at hb)) | ((iterate 6 try ((fail_if_success with_reducible refine hK _ ?_ ?_ ?_); clear hK K)); with_reducible refine hK _ ?_ ?_ ?_; rotate_left; (focus (simp only [go_sem]; exact rfl)); clear hK K) | (with_reducible refine aGs (fun hg0 => ?_) (fun hg0 => ?_) <;> first | (with_reducible first | exact aF1 hg0 | exact aF2 hg0) | (simp only [hg0, go_sem])) | (with_reducible refine aNk ?_; intro bnil hnil; try simp only []) | (omega; done) | (intro hv; (try simp only [bls] at hv); (try simp only [bls]); omega) | (intro hg; (simp only [hg, Bool.true_and, true_and, implies_true]; try (intro hg2; simp only [hg2, Bool.not_false, Bool.not_true])); done)))
  all_goals first | omega | skip
  rw [hres, drop_end a.edges k (by omega)]; rfl
end Go.Proofs.YtkjnjkdcpbgabaaGreatDoor
