/-
 Chapter 23: the law's rising.
-/
import Derived.Test.YtkjnjkdcpbgabaaGreatDoorUF
import Derived.Test.YtkjnjkdcpbgabaaGreatDoorUD
set_option linter.unusedSimpArgs false
set_option linter.unusedVariables false
namespace Go.Proofs.YtkjnjkdcpbgabaaGreatDoor
open Go.Eng Go.RowKit
def upB : List Pr → Bool
 | x :: y :: r => decide (x.comp < y.comp) && upB (y :: r)
 | _ => true
theorem up_step {l : List Pr} {j : Nat} (h1 : 1 ≤ j) (h : j < l.length) : upB (l.drop (j - 1)) = (decide ((l.getD (j - 1) Pr.no).comp < (l.getD j Pr.no).comp) && upB (l.drop (j + 1 - 1))) := by
 rw [drop_getD l (j - 1) Pr.no (by omega), show j - 1 + 1 = j by omega, drop_getD l j Pr.no h, upB, Nat.add_sub_cancel, drop_getD l j Pr.no h]
theorem up_end {l : List Pr} {j : Nat} (h : l.length ≤ j) : upB (l.drop (j - 1)) = true := by
 have hl : (l.drop (j - 1)).length ≤ 1 := by rw [List.length_drop]; omega
 match l.drop (j - 1), hl with
 | [], _ => rfl
 | [x], _ => rfl
def risingB (c : CE) : Bool := c.excl.all (fun e => upB e.locs) && c.cons.all (fun e => upB e.terms)
set_option maxHeartbeats 16000000 in
theorem rising_c (E : List (List D)) (c : CE) (hf : c.Fits) : ACalls Tryz.prog 25 [.agg (cellD E c)] (.one (.bool (risingB c))) [] := by
 have hb1 := hf.excl.1
 have hb2 := hf.cons.1
 have hR : risingB c = (c.excl.all (fun e => upB e.locs) && c.cons.all (fun e => upB e.terms)) := rfl
 generalize risingB c = R at *
 (refine ACalls.of_body Ty_ok mixed Tryz.func25 rfl (by kernel_rfl) Tryz.ntmps25 (by simp) (congrArg Array.toList Tryz.results25) ?_)
 simp only [slotsOf, cellD]
 (repeat' (first | (with_reducible first | exact True.intro | refine And.intro ?_ ?_ | refine aBl ?_ | (refine aS 9 [] ?_; intro K hK)) | ((with_reducible first | refine aGo ?_ | refine rD (id := 8) ?_ | refine rD (id := 17) ?_); simp only [go_sem]) | ((with_reducible refine aCd ?_ ?_ (fun hb => ?_) (fun hb => ?_)); (iterate 2 simp only [go_sem]); all_goals (simp only [go_sem] at hb; try simp only [bls] at hb)) | ((iterate 6 try ((fail_if_success with_reducible refine hK _ ?_ ?_ ?_); clear hK K)); with_reducible refine hK _ ?_ ?_ ?_; rotate_left; (focus (simp only [go_sem]; exact rfl)); clear hK K) | (with_reducible refine aGs (fun hg0 => ?_) (fun hg0 => ?_) <;> first | (with_reducible first | exact aF1 hg0 | exact aF2 hg0) | (simp only [hg0, go_sem])) | (with_reducible refine aNk ?_; intro bnil hnil; try simp only []) | exact aZ | fail))
 all_goals first | omega | skip
 refine awp_loop _ (by simp only [go_sem]; rfl) Nat (fun k => k ≤ c.excl.length ∧ R = ((c.excl.drop k).all (fun e => upB e.locs) && c.cons.all (fun e => upB e.terms))) (fun k => [(3, .one (.int .i64 k))]) (fun _ H => H) (fun k => c.excl.length - k) 0 ⟨by omega, by simpa using hR⟩ ?_ ?_
 ·(simp only [SubF, go_sem]; (try simp only [go_sem]); repeat' (first | exact True.intro | with_reducible refine And.intro ?_ ?_ | rfl | omega))
 rintro k ⟨hk, hres⟩ Lo hLo
 have hq : ((k : Nat) : Int).toNat = k := by omega
 rcases (Decidable.em (k < c.excl.length)) with hlt | hlt
 ·have hlf : decide ((k : Int) < c.excl.length) = true := decide_eq_true (by omega)
  have hg := exD_get hlt [.str [], .nil]
  rw [all_step (d := Ex.no) hlt] at hres
  have hfe := (hf.excl.2 _ (getD_mem c.excl k Ex.no hlt)).2
  generalize c.excl.getD k Ex.no = y at *
  simp only [Ex.d] at hg
  rw [Bool.and_assoc] at hres
  simp only [go_sem] at hLo ⊢
  (repeat' (first | (with_reducible first | exact True.intro | refine And.intro ?_ ?_ | refine aBl ?_ | (refine aS 9 [] ?_; intro K hK)) | ((with_reducible first | refine aGo ?_ | refine rD (id := 8) ?_ | refine rD (id := 17) ?_); simp only [hg, hq, hlf, go_sem]) | ((with_reducible refine aCd ?_ ?_ (fun hb => ?_) (fun hb => ?_)); (iterate 2 simp only [hg, hq, hlf, go_sem]); all_goals (simp only [hg, hq, hlf, go_sem] at hb; try simp only [bls] at hb)) | ((iterate 6 try ((fail_if_success with_reducible refine hK _ ?_ ?_ ?_); clear hK K)); with_reducible refine hK _ ?_ ?_ ?_; rotate_left; (focus (simp only [hg, hq, hlf, go_sem]; exact rfl)); clear hK K) | (with_reducible refine aGs (fun hg0 => ?_) (fun hg0 => ?_) <;> first | (with_reducible first | exact aF1 hg0 | exact aF2 hg0) | (simp only [hg0, hg, hq, hlf, go_sem])) | (with_reducible refine aNk ?_; intro bnil hnil; try simp only []) | exact aZ | fail))
  all_goals first | omega | skip
  refine awp_loop _ (by simp only [go_sem]; rfl) Nat (fun j => 1 ≤ j ∧ j ≤ max 1 y.locs.length ∧ R = (upB (y.locs.drop (j - 1)) && ((c.excl.drop (k + 1)).all (fun e => upB e.locs) && c.cons.all (fun e => upB e.terms)))) (fun j => [(5, .one (.int .i64 j))]) (fun _ H => H) (fun j => y.locs.length - j) 1 ⟨by omega, by omega, by simpa using hres⟩ ?_ ?_
  ·(simp only [SubF, go_sem]; (try simp only [go_sem]); repeat' (first | exact True.intro | with_reducible refine And.intro ?_ ?_ | rfl | omega))
  clear hres
  rintro j ⟨hj1, hj, hres⟩ L hL
  have hqj : ((j : Nat) : Int).toNat = j := by omega
  have hqm : ((j : Int) - 1).toNat = j - 1 := by omega
  rcases (Decidable.em (j < y.locs.length)) with hjl | hjl
  ·have hjf : decide ((j : Int) < y.locs.length) = true := decide_eq_true (by omega)
   rw [up_step (by omega) hjl] at hres
   simp only [go_sem] at hL ⊢
   (repeat' (first | (with_reducible first | exact True.intro | refine And.intro ?_ ?_ | refine aBl ?_ | (refine aS 9 [] ?_; intro K hK)) | ((with_reducible first | refine aGo ?_ | refine rD (id := 8) ?_ | refine rD (id := 17) ?_); simp only [hqj, hqm, hjf, go_sem]) | ((with_reducible refine aCd ?_ ?_ (fun hb => ?_) (fun hb => ?_)); (iterate 2 simp only [hqj, hqm, hjf, go_sem]); all_goals (simp only [hqj, hqm, hjf, go_sem] at hb; try simp only [bls] at hb)) | ((iterate 6 try ((fail_if_success with_reducible refine hK _ ?_ ?_ ?_); clear hK K)); with_reducible refine hK _ ?_ ?_ ?_; rotate_left; (focus (simp only [hqj, hqm, hjf, go_sem]; exact rfl)); clear hK K) | (with_reducible refine aGs (fun hg0 => ?_) (fun hg0 => ?_) <;> first | (with_reducible first | exact aF1 hg0 | exact aF2 hg0) | (simp only [hg0, hqj, hqm, hjf, go_sem])) | (with_reducible refine aNk ?_; intro bnil hnil; try simp only []) | exact aZ | fail))
   all_goals first | omega | skip
   ·rw [hres, decide_eq_false (by omega)]; rfl
   ·rw [decide_eq_true (by omega), Bool.true_and] at hres
    exact hL _ (j + 1) ⟨by omega, by omega, hres⟩ (by (simp only [SubF, go_sem]; (try simp only [go_sem]); repeat' (first | exact True.intro | with_reducible refine And.intro ?_ ?_ | rfl | omega))) (by omega)
  have hjf : decide ((j : Int) < y.locs.length) = false := decide_eq_false (by omega)
  rw [up_end (by omega), Bool.true_and] at hres
  simp only [go_sem] at hL ⊢
  (repeat' (first | (with_reducible first | exact True.intro | refine And.intro ?_ ?_ | refine aBl ?_ | (refine aS 9 [] ?_; intro K hK)) | ((with_reducible first | refine aGo ?_ | refine rD (id := 8) ?_ | refine rD (id := 17) ?_); simp only [hjf, go_sem]) | ((with_reducible refine aCd ?_ ?_ (fun hb => ?_) (fun hb => ?_)); (iterate 2 simp only [hjf, go_sem]); all_goals (simp only [hjf, go_sem] at hb; try simp only [bls] at hb)) | ((iterate 6 try ((fail_if_success with_reducible refine hK _ ?_ ?_ ?_); clear hK K)); with_reducible refine hK _ ?_ ?_ ?_; rotate_left; (focus (simp only [hjf, go_sem]; exact rfl)); clear hK K) | (with_reducible refine aGs (fun hg0 => ?_) (fun hg0 => ?_) <;> first | (with_reducible first | exact aF1 hg0 | exact aF2 hg0) | (simp only [hg0, hjf, go_sem])) | (with_reducible refine aNk ?_; intro bnil hnil; try simp only []) | exact aZ | fail))
  all_goals first | omega | skip
  exact hLo _ (k + 1) ⟨by omega, hres⟩ (by (simp only [SubF, go_sem]; (try simp only [go_sem]); repeat' (first | exact True.intro | with_reducible refine And.intro ?_ ?_ | rfl | omega))) (by omega)
 have hkl : k = c.excl.length := by omega
 subst hkl
 have hlf : decide ((c.excl.length : Int) < c.excl.length) = false := decide_eq_false (by omega)
 rw [List.drop_length, List.all_nil] at hres
 simp only [go_sem] at hLo ⊢
 (repeat' (first | (with_reducible first | exact True.intro | refine And.intro ?_ ?_ | refine aBl ?_ | (refine aS 9 [] ?_; intro K hK)) | ((with_reducible first | refine aGo ?_ | refine rD (id := 8) ?_ | refine rD (id := 17) ?_); simp only [hlf, go_sem]) | ((with_reducible refine aCd ?_ ?_ (fun hb => ?_) (fun hb => ?_)); (iterate 2 simp only [hlf, go_sem]); all_goals (simp only [hlf, go_sem] at hb; try simp only [bls] at hb)) | ((iterate 6 try ((fail_if_success with_reducible refine hK _ ?_ ?_ ?_); clear hK K)); with_reducible refine hK _ ?_ ?_ ?_; rotate_left; (focus (simp only [hlf, go_sem]; exact rfl)); clear hK K) | (with_reducible refine aGs (fun hg0 => ?_) (fun hg0 => ?_) <;> first | (with_reducible first | exact aF1 hg0 | exact aF2 hg0) | (simp only [hg0, hlf, go_sem])) | (with_reducible refine aNk ?_; intro bnil hnil; try simp only []) | exact aZ | fail))
 all_goals first | omega | skip
 rw [Bool.true_and] at hres
 have hR := hres
 clear hLo
 refine awp_loop _ (by simp only [go_sem]; rfl) Nat (fun k => k ≤ c.cons.length ∧ R = ((c.cons.drop k).all (fun e => upB e.terms))) (fun k => [(6, .one (.int .i64 k))]) (fun _ H => H) (fun k => c.cons.length - k) 0 ⟨by omega, by rw [List.drop_zero]; exact hR⟩ ?_ ?_
 ·(simp only [SubF, go_sem]; (try simp only [go_sem]); repeat' (first | exact True.intro | with_reducible refine And.intro ?_ ?_ | rfl | omega))
 rintro k ⟨hk, hres⟩ Lo hLo
 have hq : ((k : Nat) : Int).toNat = k := by omega
 rcases (Decidable.em (k < c.cons.length)) with hlt | hlt
 ·have hlf : decide ((k : Int) < c.cons.length) = true := decide_eq_true (by omega)
  have hg := cnD_get hlt [.str [], .nil, .int .i64 0]
  rw [all_step (d := Cn.no) hlt] at hres
  have hfe := (hf.cons.2 _ (getD_mem c.cons k Cn.no hlt)).2
  generalize c.cons.getD k Cn.no = y at *
  simp only [Cn.d] at hg
  simp only [go_sem] at hLo ⊢
  (repeat' (first | (with_reducible first | exact True.intro | refine And.intro ?_ ?_ | refine aBl ?_ | (refine aS 9 [] ?_; intro K hK)) | ((with_reducible first | refine aGo ?_ | refine rD (id := 8) ?_ | refine rD (id := 17) ?_); simp only [hg, hq, hlf, go_sem]) | ((with_reducible refine aCd ?_ ?_ (fun hb => ?_) (fun hb => ?_)); (iterate 2 simp only [hg, hq, hlf, go_sem]); all_goals (simp only [hg, hq, hlf, go_sem] at hb; try simp only [bls] at hb)) | ((iterate 6 try ((fail_if_success with_reducible refine hK _ ?_ ?_ ?_); clear hK K)); with_reducible refine hK _ ?_ ?_ ?_; rotate_left; (focus (simp only [hg, hq, hlf, go_sem]; exact rfl)); clear hK K) | (with_reducible refine aGs (fun hg0 => ?_) (fun hg0 => ?_) <;> first | (with_reducible first | exact aF1 hg0 | exact aF2 hg0) | (simp only [hg0, hg, hq, hlf, go_sem])) | (with_reducible refine aNk ?_; intro bnil hnil; try simp only []) | exact aZ | fail))
  all_goals first | omega | skip
  refine awp_loop _ (by simp only [go_sem]; rfl) Nat (fun j => 1 ≤ j ∧ j ≤ max 1 y.terms.length ∧ R = (upB (y.terms.drop (j - 1)) && ((c.cons.drop (k + 1)).all (fun e => upB e.terms)))) (fun j => [(8, .one (.int .i64 j))]) (fun _ H => H) (fun j => y.terms.length - j) 1 ⟨by omega, by omega, by simpa using hres⟩ ?_ ?_
  ·(simp only [SubF, go_sem]; (try simp only [go_sem]); repeat' (first | exact True.intro | with_reducible refine And.intro ?_ ?_ | rfl | omega))
  clear hres
  rintro j ⟨hj1, hj, hres⟩ L hL
  have hqj : ((j : Nat) : Int).toNat = j := by omega
  have hqm : ((j : Int) - 1).toNat = j - 1 := by omega
  rcases (Decidable.em (j < y.terms.length)) with hjl | hjl
  ·have hjf : decide ((j : Int) < y.terms.length) = true := decide_eq_true (by omega)
   rw [up_step (by omega) hjl] at hres
   simp only [go_sem] at hL ⊢
   (repeat' (first | (with_reducible first | exact True.intro | refine And.intro ?_ ?_ | refine aBl ?_ | (refine aS 9 [] ?_; intro K hK)) | ((with_reducible first | refine aGo ?_ | refine rD (id := 8) ?_ | refine rD (id := 17) ?_); simp only [hqj, hqm, hjf, go_sem]) | ((with_reducible refine aCd ?_ ?_ (fun hb => ?_) (fun hb => ?_)); (iterate 2 simp only [hqj, hqm, hjf, go_sem]); all_goals (simp only [hqj, hqm, hjf, go_sem] at hb; try simp only [bls] at hb)) | ((iterate 6 try ((fail_if_success with_reducible refine hK _ ?_ ?_ ?_); clear hK K)); with_reducible refine hK _ ?_ ?_ ?_; rotate_left; (focus (simp only [hqj, hqm, hjf, go_sem]; exact rfl)); clear hK K) | (with_reducible refine aGs (fun hg0 => ?_) (fun hg0 => ?_) <;> first | (with_reducible first | exact aF1 hg0 | exact aF2 hg0) | (simp only [hg0, hqj, hqm, hjf, go_sem])) | (with_reducible refine aNk ?_; intro bnil hnil; try simp only []) | exact aZ | fail))
   all_goals first | omega | skip
   ·rw [hres, decide_eq_false (by omega)]; rfl
   ·rw [decide_eq_true (by omega), Bool.true_and] at hres
    exact hL _ (j + 1) ⟨by omega, by omega, hres⟩ (by (simp only [SubF, go_sem]; (try simp only [go_sem]); repeat' (first | exact True.intro | with_reducible refine And.intro ?_ ?_ | rfl | omega))) (by omega)
  have hjf : decide ((j : Int) < y.terms.length) = false := decide_eq_false (by omega)
  rw [up_end (by omega), Bool.true_and] at hres
  simp only [go_sem] at hL ⊢
  (repeat' (first | (with_reducible first | exact True.intro | refine And.intro ?_ ?_ | refine aBl ?_ | (refine aS 9 [] ?_; intro K hK)) | ((with_reducible first | refine aGo ?_ | refine rD (id := 8) ?_ | refine rD (id := 17) ?_); simp only [hjf, go_sem]) | ((with_reducible refine aCd ?_ ?_ (fun hb => ?_) (fun hb => ?_)); (iterate 2 simp only [hjf, go_sem]); all_goals (simp only [hjf, go_sem] at hb; try simp only [bls] at hb)) | ((iterate 6 try ((fail_if_success with_reducible refine hK _ ?_ ?_ ?_); clear hK K)); with_reducible refine hK _ ?_ ?_ ?_; rotate_left; (focus (simp only [hjf, go_sem]; exact rfl)); clear hK K) | (with_reducible refine aGs (fun hg0 => ?_) (fun hg0 => ?_) <;> first | (with_reducible first | exact aF1 hg0 | exact aF2 hg0) | (simp only [hg0, hjf, go_sem])) | (with_reducible refine aNk ?_; intro bnil hnil; try simp only []) | exact aZ | fail))
  all_goals first | omega | skip
  exact hLo _ (k + 1) ⟨by omega, hres⟩ (by (simp only [SubF, go_sem]; (try simp only [go_sem]); repeat' (first | exact True.intro | with_reducible refine And.intro ?_ ?_ | rfl | omega))) (by omega)
 have hkl : k = c.cons.length := by omega
 subst hkl
 have hlf : decide ((c.cons.length : Int) < c.cons.length) = false := decide_eq_false (by omega)
 rw [List.drop_length, List.all_nil] at hres
 simp only [go_sem] at hLo ⊢
 (repeat' (first | (with_reducible first | exact True.intro | refine And.intro ?_ ?_ | refine aBl ?_ | (refine aS 9 [] ?_; intro K hK)) | ((with_reducible first | refine aGo ?_ | refine rD (id := 8) ?_ | refine rD (id := 17) ?_); simp only [hlf, go_sem]) | ((with_reducible refine aCd ?_ ?_ (fun hb => ?_) (fun hb => ?_)); (iterate 2 simp only [hlf, go_sem]); all_goals (simp only [hlf, go_sem] at hb; try simp only [bls] at hb)) | ((iterate 6 try ((fail_if_success with_reducible refine hK _ ?_ ?_ ?_); clear hK K)); with_reducible refine hK _ ?_ ?_ ?_; rotate_left; (focus (simp only [hlf, go_sem]; exact rfl)); clear hK K) | (with_reducible refine aGs (fun hg0 => ?_) (fun hg0 => ?_) <;> first | (with_reducible first | exact aF1 hg0 | exact aF2 hg0) | (simp only [hg0, hlf, go_sem])) | (with_reducible refine aNk ?_; intro bnil hnil; try simp only []) | exact aZ | fail))
 all_goals first | omega | skip
 exact hres.symm
end Go.Proofs.YtkjnjkdcpbgabaaGreatDoor
