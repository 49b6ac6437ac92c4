/-
 Chapter 23: the law's few, same, sameAll, has, alike.
-/
import Derived.Test.YtkjnjkdcpbgabaaGreatDoorUE
set_option linter.unusedSimpArgs false
set_option linter.unusedVariables false
namespace Go.Proofs.YtkjnjkdcpbgabaaGreatDoor
open Go.Eng Go.RowKit
def nameB (y : Lt) : Bool := decide (y.name.length ≤ 40)
def fewL (x : It) : Bool := decide (x.name.length ≤ 40 ∧ x.locs.length ≤ 6 ∧ x.terms.length ≤ 6 ∧ x.aut.alpha.length ≤ 6 ∧ x.aut.marked.length ≤ 6 ∧ x.aut.edges.length ≤ 6)
def fewI (x : It) : Bool := fewL x && (x.locs.all nameB && x.terms.all nameB)
def fewN (l : List It) : Bool := decide (l.length ≤ 8 ∨ (75 ≤ l.length ∧ l.length ≤ 78))
def fewB (l : List It) : Bool := fewN l && l.all fewI
theorem all_step {α : Type} {p : α → Bool} {l : List α} {d : α} {k : Nat} (hk : k < l.length) : (l.drop k).all p = (p (l.getD k d) && (l.drop (k + 1)).all p) := by
 rw [drop_getD l k d hk, List.all_cons]
set_option maxHeartbeats 8000000 in
set_option maxRecDepth 100000 in
theorem few_c (l : List It) : ACalls Tryz.prog 13 [.one (.list (itD l))] (.one (.bool (fewB l))) [] := by
 have hR : fewB l = (fewN l && l.all fewI) := rfl
 generalize fewB l = R at *
 by_cases hn : l.length ≤ 8 ∨ (75 ≤ l.length ∧ l.length ≤ 78)
 ·rw [fewN, decide_eq_true hn, Bool.true_and] at hR
  (refine ACalls.of_body Ty_ok mixed Tryz.func13 rfl (by kernel_rfl) Tryz.ntmps13 (by simp) (congrArg Array.toList Tryz.results13) ?_)
  simp only [slotsOf]
  (repeat' (first | (with_reducible first | exact True.intro | refine And.intro ?_ ?_ | refine aBl ?_ | (refine aS 7 [] ?_; intro K hK)) | ((with_reducible first | refine aGo ?_); simp only [go_sem]) | ((with_reducible refine aCd ?_ ?_ (fun hb => ?_) (fun hb => ?_)); (iterate 2 simp only [go_sem]); all_goals (simp only [go_sem] at hb; try simp only [bls] at hb)) | ((iterate 6 try ((fail_if_success with_reducible refine hK _ ?_ ?_ ?_); clear hK K)); with_reducible refine hK _ ?_ ?_ ?_; rotate_left; (focus (simp only [go_sem]; exact rfl)); clear hK K) | (with_reducible refine aGs (fun hg0 => ?_) (fun hg0 => ?_) <;> first | (with_reducible first | exact aF1 hg0 | exact aF2 hg0) | (simp only [hg0, go_sem])) | (with_reducible refine aNk ?_; intro bnil hnil; try simp only []) | exact aZ | fail))
  all_goals first | omega | skip
  refine awp_loop _ (by simp only [go_sem]; rfl) Nat (fun k => k ≤ l.length ∧ R = (l.drop k).all fewI) (fun k => [(3, .one (.int .i64 k))]) (fun _ H => H) (fun k => l.length - k) 0 ⟨by omega, by simpa using hR⟩ ?_ ?_
  ·(simp only [SubF, go_sem]; (try simp only [go_sem]); repeat' (first | exact True.intro | with_reducible refine And.intro ?_ ?_ | rfl | omega))
  rintro k ⟨hk, hres⟩ Lo hLo
  have hq : ((k : Nat) : Int).toNat = k := by omega
  by_cases hlt : k < l.length
  ·have hg := itD_get hlt [.int .i64 0, .str [], .nil, .int .i64 0, .nil, .nil, .nil, .nil, .int .i64 0]
   rw [all_step (d := It.no) hlt] at hres
   generalize l.getD k It.no = y at *
   have hI : fewI y = (fewL y && (y.locs.all nameB && y.terms.all nameB)) := rfl
   have hFL : fewL y = decide (y.name.length ≤ 40 ∧ y.locs.length ≤ 6 ∧ y.terms.length ≤ 6 ∧ y.aut.alpha.length ≤ 6 ∧ y.aut.marked.length ≤ 6 ∧ y.aut.edges.length ≤ 6) := rfl
   generalize fewI y = fy at *
   generalize fewL y = fl at *
   simp only [It.d] at hg
   have hlf : decide ((k : Int) < l.length) = true := decide_eq_true (by omega)
   simp only [go_sem] at hLo ⊢
   rcases (Decidable.em (y.name.length ≤ 40)).symm with h0 | h0
   ·have d0 : decide (40 < (y.name.length : Int)) = true := decide_eq_true (by omega)
    rw [hI, hFL, decide_eq_false (by omega), Bool.false_and, Bool.false_and] at hres
    subst hres
    (repeat' (first | (with_reducible first | exact True.intro | refine And.intro ?_ ?_ | refine aBl ?_ | (refine aS 7 [] ?_; intro K hK)) | ((with_reducible first | refine aGo ?_); simp only [hg, hq, hlf, d0, go_sem]) | ((with_reducible refine aCd ?_ ?_ (fun hb => ?_) (fun hb => ?_)); (iterate 2 simp only [hg, hq, hlf, d0, go_sem]); all_goals (simp only [hg, hq, hlf, d0, go_sem] at hb; try simp only [bls] at hb)) | ((iterate 6 try ((fail_if_success with_reducible refine hK _ ?_ ?_ ?_); clear hK K)); with_reducible refine hK _ ?_ ?_ ?_; rotate_left; (focus (simp only [hg, hq, hlf, d0, go_sem]; exact rfl)); clear hK K) | (with_reducible refine aGs (fun hg0 => ?_) (fun hg0 => ?_) <;> first | (with_reducible first | exact aF1 hg0 | exact aF2 hg0) | (simp only [hg0, hg, hq, hlf, d0, go_sem])) | (with_reducible refine aNk ?_; intro bnil hnil; try simp only []) | exact aZ | fail))
    all_goals first | omega | rfl | skip
   have d0 : decide (40 < (y.name.length : Int)) = false := decide_eq_false (by omega)
   rcases (Decidable.em (y.locs.length ≤ 6)).symm with h1 | h1
   ·have d1 : decide (6 < (y.locs.length : Int)) = true := decide_eq_true (by omega)
    rw [hI, hFL, decide_eq_false (by omega), Bool.false_and, Bool.false_and] at hres
    subst hres
    (repeat' (first | (with_reducible first | exact True.intro | refine And.intro ?_ ?_ | refine aBl ?_ | (refine aS 7 [] ?_; intro K hK)) | ((with_reducible first | refine aGo ?_); simp only [hg, hq, hlf, d0, d1, go_sem]) | ((with_reducible refine aCd ?_ ?_ (fun hb => ?_) (fun hb => ?_)); (iterate 2 simp only [hg, hq, hlf, d0, d1, go_sem]); all_goals (simp only [hg, hq, hlf, d0, d1, go_sem] at hb; try simp only [bls] at hb)) | ((iterate 6 try ((fail_if_success with_reducible refine hK _ ?_ ?_ ?_); clear hK K)); with_reducible refine hK _ ?_ ?_ ?_; rotate_left; (focus (simp only [hg, hq, hlf, d0, d1, go_sem]; exact rfl)); clear hK K) | (with_reducible refine aGs (fun hg0 => ?_) (fun hg0 => ?_) <;> first | (with_reducible first | exact aF1 hg0 | exact aF2 hg0) | (simp only [hg0, hg, hq, hlf, d0, d1, go_sem])) | (with_reducible refine aNk ?_; intro bnil hnil; try simp only []) | exact aZ | fail))
    all_goals first | omega | rfl | skip
   have d1 : decide (6 < (y.locs.length : Int)) = false := decide_eq_false (by omega)
   rcases (Decidable.em (y.terms.length ≤ 6)).symm with h2 | h2
   ·have d2 : decide (6 < (y.terms.length : Int)) = true := decide_eq_true (by omega)
    rw [hI, hFL, decide_eq_false (by omega), Bool.false_and, Bool.false_and] at hres
    subst hres
    (repeat' (first | (with_reducible first | exact True.intro | refine And.intro ?_ ?_ | refine aBl ?_ | (refine aS 7 [] ?_; intro K hK)) | ((with_reducible first | refine aGo ?_); simp only [hg, hq, hlf, d0, d1, d2, go_sem]) | ((with_reducible refine aCd ?_ ?_ (fun hb => ?_) (fun hb => ?_)); (iterate 2 simp only [hg, hq, hlf, d0, d1, d2, go_sem]); all_goals (simp only [hg, hq, hlf, d0, d1, d2, go_sem] at hb; try simp only [bls] at hb)) | ((iterate 6 try ((fail_if_success with_reducible refine hK _ ?_ ?_ ?_); clear hK K)); with_reducible refine hK _ ?_ ?_ ?_; rotate_left; (focus (simp only [hg, hq, hlf, d0, d1, d2, go_sem]; exact rfl)); clear hK K) | (with_reducible refine aGs (fun hg0 => ?_) (fun hg0 => ?_) <;> first | (with_reducible first | exact aF1 hg0 | exact aF2 hg0) | (simp only [hg0, hg, hq, hlf, d0, d1, d2, go_sem])) | (with_reducible refine aNk ?_; intro bnil hnil; try simp only []) | exact aZ | fail))
    all_goals first | omega | rfl | skip
   have d2 : decide (6 < (y.terms.length : Int)) = false := decide_eq_false (by omega)
   rcases (Decidable.em (y.aut.alpha.length ≤ 6)).symm with h3 | h3
   ·have d3 : decide (6 < (y.aut.alpha.length : Int)) = true := decide_eq_true (by omega)
    rw [hI, hFL, decide_eq_false (by omega), Bool.false_and, Bool.false_and] at hres
    subst hres
    (repeat' (first | (with_reducible first | exact True.intro | refine And.intro ?_ ?_ | refine aBl ?_ | (refine aS 7 [] ?_; intro K hK)) | ((with_reducible first | refine aGo ?_); simp only [hg, hq, hlf, d0, d1, d2, d3, go_sem]) | ((with_reducible refine aCd ?_ ?_ (fun hb => ?_) (fun hb => ?_)); (iterate 2 simp only [hg, hq, hlf, d0, d1, d2, d3, go_sem]); all_goals (simp only [hg, hq, hlf, d0, d1, d2, d3, go_sem] at hb; try simp only [bls] at hb)) | ((iterate 6 try ((fail_if_success with_reducible refine hK _ ?_ ?_ ?_); clear hK K)); with_reducible refine hK _ ?_ ?_ ?_; rotate_left; (focus (simp only [hg, hq, hlf, d0, d1, d2, d3, go_sem]; exact rfl)); clear hK K) | (with_reducible refine aGs (fun hg0 => ?_) (fun hg0 => ?_) <;> first | (with_reducible first | exact aF1 hg0 | exact aF2 hg0) | (simp only [hg0, hg, hq, hlf, d0, d1, d2, d3, go_sem])) | (with_reducible refine aNk ?_; intro bnil hnil; try simp only []) | exact aZ | fail))
    all_goals first | omega | rfl | skip
   have d3 : decide (6 < (y.aut.alpha.length : Int)) = false := decide_eq_false (by omega)
   rcases (Decidable.em (y.aut.marked.length ≤ 6)).symm with h4 | h4
   ·have d4 : decide (6 < (y.aut.marked.length : Int)) = true := decide_eq_true (by omega)
    rw [hI, hFL, decide_eq_false (by omega), Bool.false_and, Bool.false_and] at hres
    subst hres
    (repeat' (first | (with_reducible first | exact True.intro | refine And.intro ?_ ?_ | refine aBl ?_ | (refine aS 7 [] ?_; intro K hK)) | ((with_reducible first | refine aGo ?_); simp only [hg, hq, hlf, d0, d1, d2, d3, d4, go_sem]) | ((with_reducible refine aCd ?_ ?_ (fun hb => ?_) (fun hb => ?_)); (iterate 2 simp only [hg, hq, hlf, d0, d1, d2, d3, d4, go_sem]); all_goals (simp only [hg, hq, hlf, d0, d1, d2, d3, d4, go_sem] at hb; try simp only [bls] at hb)) | ((iterate 6 try ((fail_if_success with_reducible refine hK _ ?_ ?_ ?_); clear hK K)); with_reducible refine hK _ ?_ ?_ ?_; rotate_left; (focus (simp only [hg, hq, hlf, d0, d1, d2, d3, d4, go_sem]; exact rfl)); clear hK K) | (with_reducible refine aGs (fun hg0 => ?_) (fun hg0 => ?_) <;> first | (with_reducible first | exact aF1 hg0 | exact aF2 hg0) | (simp only [hg0, hg, hq, hlf, d0, d1, d2, d3, d4, go_sem])) | (with_reducible refine aNk ?_; intro bnil hnil; try simp only []) | exact aZ | fail))
    all_goals first | omega | rfl | skip
   have d4 : decide (6 < (y.aut.marked.length : Int)) = false := decide_eq_false (by omega)
   rcases (Decidable.em (y.aut.edges.length ≤ 6)).symm with h5 | h5
   ·have d5 : decide (6 < (y.aut.edges.length : Int)) = true := decide_eq_true (by omega)
    rw [hI, hFL, decide_eq_false (by omega), Bool.false_and, Bool.false_and] at hres
    subst hres
    (repeat' (first | (with_reducible first | exact True.intro | refine And.intro ?_ ?_ | refine aBl ?_ | (refine aS 7 [] ?_; intro K hK)) | ((with_reducible first | refine aGo ?_); simp only [hg, hq, hlf, d0, d1, d2, d3, d4, d5, go_sem]) | ((with_reducible refine aCd ?_ ?_ (fun hb => ?_) (fun hb => ?_)); (iterate 2 simp only [hg, hq, hlf, d0, d1, d2, d3, d4, d5, go_sem]); all_goals (simp only [hg, hq, hlf, d0, d1, d2, d3, d4, d5, go_sem] at hb; try simp only [bls] at hb)) | ((iterate 6 try ((fail_if_success with_reducible refine hK _ ?_ ?_ ?_); clear hK K)); with_reducible refine hK _ ?_ ?_ ?_; rotate_left; (focus (simp only [hg, hq, hlf, d0, d1, d2, d3, d4, d5, go_sem]; exact rfl)); clear hK K) | (with_reducible refine aGs (fun hg0 => ?_) (fun hg0 => ?_) <;> first | (with_reducible first | exact aF1 hg0 | exact aF2 hg0) | (simp only [hg0, hg, hq, hlf, d0, d1, d2, d3, d4, d5, go_sem])) | (with_reducible refine aNk ?_; intro bnil hnil; try simp only []) | exact aZ | fail))
    all_goals first | omega | rfl | skip
   have d5 : decide (6 < (y.aut.edges.length : Int)) = false := decide_eq_false (by omega)
   rw [hI, hFL, decide_eq_true (by omega), Bool.true_and] at hres
   (repeat' (first | (with_reducible first | exact True.intro | refine And.intro ?_ ?_ | refine aBl ?_ | (refine aS 7 [] ?_; intro K hK)) | ((with_reducible first | refine aGo ?_); simp only [hg, hq, hlf, d0, d1, d2, d3, d4, d5, go_sem]) | ((with_reducible refine aCd ?_ ?_ (fun hb => ?_) (fun hb => ?_)); (iterate 2 simp only [hg, hq, hlf, d0, d1, d2, d3, d4, d5, go_sem]); all_goals (simp only [hg, hq, hlf, d0, d1, d2, d3, d4, d5, go_sem] at hb; try simp only [bls] at hb)) | ((iterate 6 try ((fail_if_success with_reducible refine hK _ ?_ ?_ ?_); clear hK K)); with_reducible refine hK _ ?_ ?_ ?_; rotate_left; (focus (simp only [hg, hq, hlf, d0, d1, d2, d3, d4, d5, go_sem]; exact rfl)); clear hK K) | (with_reducible refine aGs (fun hg0 => ?_) (fun hg0 => ?_) <;> first | (with_reducible first | exact aF1 hg0 | exact aF2 hg0) | (simp only [hg0, hg, hq, hlf, d0, d1, d2, d3, d4, d5, go_sem])) | (with_reducible refine aNk ?_; intro bnil hnil; try simp only []) | exact aZ | fail))
   all_goals first | omega | rfl | skip
   refine awp_loop _ (by simp only [go_sem]; rfl) Nat (fun j => j ≤ y.locs.length ∧ R = (((y.locs.drop j).all nameB && y.terms.all nameB) && (l.drop (k + 1)).all fewI)) (fun j => [(5, .one (.int .i64 j))]) (fun _ H => H) (fun j => y.locs.length - j) 0 ⟨by omega, by simpa using hres⟩ ?_ ?_
   ·(simp only [SubF, go_sem]; (try simp only [go_sem]); repeat' (first | exact True.intro | with_reducible refine And.intro ?_ ?_ | rfl | omega))
   clear hres
   rintro j ⟨hj, hres⟩ L hL
   have hqj : ((j : Nat) : Int).toNat = j := by omega
   rcases (Decidable.em (j < y.locs.length)) with hjl | hjl
   ·have hjf : decide ((j : Int) < y.locs.length) = true := decide_eq_true (by omega)
    rw [all_step (d := Lt.no) hjl] at hres
    generalize hz : y.locs.getD j Lt.no = z at *
    have hnb : nameB z = decide (z.name.length ≤ 40) := rfl
    generalize nameB z = nb at *
    simp only [go_sem] at hL ⊢
    (repeat' (first | (with_reducible first | exact True.intro | refine And.intro ?_ ?_ | refine aBl ?_ | (refine aS 7 [] ?_; intro K hK)) | ((with_reducible first | refine aGo ?_); simp only [hqj, hjf, hz, go_sem]) | ((with_reducible refine aCd ?_ ?_ (fun hb => ?_) (fun hb => ?_)); (iterate 2 simp only [hqj, hjf, hz, go_sem]); all_goals (simp only [hqj, hjf, hz, go_sem] at hb; try simp only [bls] at hb)) | ((iterate 6 try ((fail_if_success with_reducible refine hK _ ?_ ?_ ?_); clear hK K)); with_reducible refine hK _ ?_ ?_ ?_; rotate_left; (focus (simp only [hqj, hjf, hz, go_sem]; exact rfl)); clear hK K) | (with_reducible refine aGs (fun hg0 => ?_) (fun hg0 => ?_) <;> first | (with_reducible first | exact aF1 hg0 | exact aF2 hg0) | (simp only [hg0, hqj, hjf, hz, go_sem])) | (with_reducible refine aNk ?_; intro bnil hnil; try simp only []) | exact aZ | fail))
    all_goals first | omega | skip
    ·rw [hnb, decide_eq_false (by omega)] at hres
     simpa using hres.symm
    ·rw [hnb, decide_eq_true (by omega), Bool.true_and] at hres
     exact hL _ (j + 1) ⟨by omega, hres⟩ (by (simp only [SubF, go_sem]; (try simp only [go_sem]); repeat' (first | exact True.intro | with_reducible refine And.intro ?_ ?_ | rfl | omega))) (by omega)
   have hjk : j = y.locs.length := by omega
   subst hjk
   have hjf : decide ((y.locs.length : Int) < y.locs.length) = false := decide_eq_false (by omega)
   rw [List.drop_length, List.all_nil] at hres
   simp only [go_sem] at hL ⊢
   (repeat' (first | (with_reducible first | exact True.intro | refine And.intro ?_ ?_ | refine aBl ?_ | (refine aS 7 [] ?_; intro K hK)) | ((with_reducible first | refine aGo ?_); simp only [hjf, go_sem]) | ((with_reducible refine aCd ?_ ?_ (fun hb => ?_) (fun hb => ?_)); (iterate 2 simp only [hjf, go_sem]); all_goals (simp only [hjf, go_sem] at hb; try simp only [bls] at hb)) | ((iterate 6 try ((fail_if_success with_reducible refine hK _ ?_ ?_ ?_); clear hK K)); with_reducible refine hK _ ?_ ?_ ?_; rotate_left; (focus (simp only [hjf, go_sem]; exact rfl)); clear hK K) | (with_reducible refine aGs (fun hg0 => ?_) (fun hg0 => ?_) <;> first | (with_reducible first | exact aF1 hg0 | exact aF2 hg0) | (simp only [hg0, hjf, go_sem])) | (with_reducible refine aNk ?_; intro bnil hnil; try simp only []) | exact aZ | fail))
   all_goals first | omega | skip
   rw [Bool.true_and] at hres
   clear hL
   refine awp_loop _ (by simp only [go_sem]; rfl) Nat (fun j => j ≤ y.terms.length ∧ R = (((y.terms.drop j).all nameB) && (l.drop (k + 1)).all fewI)) (fun j => [(6, .one (.int .i64 j))]) (fun _ H => H) (fun j => y.terms.length - j) 0 ⟨by omega, by simpa using hres⟩ ?_ ?_
   ·(simp only [SubF, go_sem]; (try simp only [go_sem]); repeat' (first | exact True.intro | with_reducible refine And.intro ?_ ?_ | rfl | omega))
   clear hres
   rintro j ⟨hj, hres⟩ L hL
   have hqj : ((j : Nat) : Int).toNat = j := by omega
   rcases (Decidable.em (j < y.terms.length)) with hjl | hjl
   ·have hjf : decide ((j : Int) < y.terms.length) = true := decide_eq_true (by omega)
    rw [all_step (d := Lt.no) hjl] at hres
    generalize hz : y.terms.getD j Lt.no = z at *
    have hnb : nameB z = decide (z.name.length ≤ 40) := rfl
    generalize nameB z = nb at *
    simp only [go_sem] at hL ⊢
    (repeat' (first | (with_reducible first | exact True.intro | refine And.intro ?_ ?_ | refine aBl ?_ | (refine aS 7 [] ?_; intro K hK)) | ((with_reducible first | refine aGo ?_); simp only [hqj, hjf, hz, go_sem]) | ((with_reducible refine aCd ?_ ?_ (fun hb => ?_) (fun hb => ?_)); (iterate 2 simp only [hqj, hjf, hz, go_sem]); all_goals (simp only [hqj, hjf, hz, go_sem] at hb; try simp only [bls] at hb)) | ((iterate 6 try ((fail_if_success with_reducible refine hK _ ?_ ?_ ?_); clear hK K)); with_reducible refine hK _ ?_ ?_ ?_; rotate_left; (focus (simp only [hqj, hjf, hz, go_sem]; exact rfl)); clear hK K) | (with_reducible refine aGs (fun hg0 => ?_) (fun hg0 => ?_) <;> first | (with_reducible first | exact aF1 hg0 | exact aF2 hg0) | (simp only [hg0, hqj, hjf, hz, go_sem])) | (with_reducible refine aNk ?_; intro bnil hnil; try simp only []) | exact aZ | fail))
    all_goals first | omega | skip
    ·rw [hnb, decide_eq_false (by omega)] at hres
     simpa using hres.symm
    ·rw [hnb, decide_eq_true (by omega), Bool.true_and] at hres
     exact hL _ (j + 1) ⟨by omega, hres⟩ (by (simp only [SubF, go_sem]; (try simp only [go_sem]); repeat' (first | exact True.intro | with_reducible refine And.intro ?_ ?_ | rfl | omega))) (by omega)
   have hjk : j = y.terms.length := by omega
   subst hjk
   have hjf : decide ((y.terms.length : Int) < y.terms.length) = false := decide_eq_false (by omega)
   rw [List.drop_length, List.all_nil] at hres
   simp only [go_sem] at hL ⊢
   (repeat' (first | (with_reducible first | exact True.intro | refine And.intro ?_ ?_ | refine aBl ?_ | (refine aS 7 [] ?_; intro K hK)) | ((with_reducible first | refine aGo ?_); simp only [hjf, go_sem]) | ((with_reducible refine aCd ?_ ?_ (fun hb => ?_) (fun hb => ?_)); (iterate 2 simp only [hjf, go_sem]); all_goals (simp only [hjf, go_sem] at hb; try simp only [bls] at hb)) | ((iterate 6 try ((fail_if_success with_reducible refine hK _ ?_ ?_ ?_); clear hK K)); with_reducible refine hK _ ?_ ?_ ?_; rotate_left; (focus (simp only [hjf, go_sem]; exact rfl)); clear hK K) | (with_reducible refine aGs (fun hg0 => ?_) (fun hg0 => ?_) <;> first | (with_reducible first | exact aF1 hg0 | exact aF2 hg0) | (simp only [hg0, hjf, go_sem])) | (with_reducible refine aNk ?_; intro bnil hnil; try simp only []) | exact aZ | fail))
   all_goals first | omega | skip
   rw [Bool.true_and] at hres
   exact hLo _ (k + 1) ⟨by omega, hres⟩ (by (simp only [SubF, go_sem]; (try simp only [go_sem]); repeat' (first | exact True.intro | with_reducible refine And.intro ?_ ?_ | rfl | omega))) (by omega)
  have hkl : k = l.length := by omega
  subst hkl
  rw [List.drop_length, List.all_nil] at hres
  subst hres
  have hlf : decide ((l.length : Int) < l.length) = false := decide_eq_false (by omega)
  simp only [go_sem] at hLo ⊢
  (repeat' (first | (with_reducible first | exact True.intro | refine And.intro ?_ ?_ | refine aBl ?_ | (refine aS 7 [] ?_; intro K hK)) | ((with_reducible first | refine aGo ?_); simp only [hlf, go_sem]) | ((with_reducible refine aCd ?_ ?_ (fun hb => ?_) (fun hb => ?_)); (iterate 2 simp only [hlf, go_sem]); all_goals (simp only [hlf, go_sem] at hb; try simp only [bls] at hb)) | ((iterate 6 try ((fail_if_success with_reducible refine hK _ ?_ ?_ ?_); clear hK K)); with_reducible refine hK _ ?_ ?_ ?_; rotate_left; (focus (simp only [hlf, go_sem]; exact rfl)); clear hK K) | (with_reducible refine aGs (fun hg0 => ?_) (fun hg0 => ?_) <;> first | (with_reducible first | exact aF1 hg0 | exact aF2 hg0) | (simp only [hg0, hlf, go_sem])) | (with_reducible refine aNk ?_; intro bnil hnil; try simp only []) | exact aZ | fail))
  all_goals first | omega | rfl | skip
 ·rw [fewN, decide_eq_false hn, Bool.false_and] at hR
  subst hR
  (refine ACalls.of_body Ty_ok mixed Tryz.func13 rfl (by kernel_rfl) Tryz.ntmps13 (by simp) (congrArg Array.toList Tryz.results13) ?_)
  simp only [slotsOf]
  have d1 : decide (8 < (l.length : Int)) = true := decide_eq_true (by omega)
  rcases (Decidable.em (l.length < 75)) with h75 | h75
  ·have d2 : decide ((l.length : Int) < 75) = true := decide_eq_true (by omega)
   (repeat' (first | (with_reducible first | exact True.intro | refine And.intro ?_ ?_ | refine aBl ?_ | (refine aS 7 [] ?_; intro K hK)) | ((with_reducible first | refine aGo ?_); simp only [d1, d2, go_sem]) | ((with_reducible refine aCd ?_ ?_ (fun hb => ?_) (fun hb => ?_)); (iterate 2 simp only [d1, d2, go_sem]); all_goals (simp only [d1, d2, go_sem] at hb; try simp only [bls] at hb)) | ((iterate 6 try ((fail_if_success with_reducible refine hK _ ?_ ?_ ?_); clear hK K)); with_reducible refine hK _ ?_ ?_ ?_; rotate_left; (focus (simp only [d1, d2, go_sem]; exact rfl)); clear hK K) | (with_reducible refine aGs (fun hg0 => ?_) (fun hg0 => ?_) <;> first | (with_reducible first | exact aF1 hg0 | exact aF2 hg0) | (simp only [hg0, d1, d2, go_sem])) | (with_reducible refine aNk ?_; intro bnil hnil; try simp only []) | exact aZ | fail))
   all_goals first | omega | rfl | skip
  ·have d2 : decide ((l.length : Int) < 75) = false := decide_eq_false (by omega)
   have d3 : decide (78 < (l.length : Int)) = true := decide_eq_true (by omega)
   (repeat' (first | (with_reducible first | exact True.intro | refine And.intro ?_ ?_ | refine aBl ?_ | (refine aS 7 [] ?_; intro K hK)) | ((with_reducible first | refine aGo ?_); simp only [d1, d2, d3, go_sem]) | ((with_reducible refine aCd ?_ ?_ (fun hb => ?_) (fun hb => ?_)); (iterate 2 simp only [d1, d2, d3, go_sem]); all_goals (simp only [d1, d2, d3, go_sem] at hb; try simp only [bls] at hb)) | ((iterate 6 try ((fail_if_success with_reducible refine hK _ ?_ ?_ ?_); clear hK K)); with_reducible refine hK _ ?_ ?_ ?_; rotate_left; (focus (simp only [d1, d2, d3, go_sem]; exact rfl)); clear hK K) | (with_reducible refine aGs (fun hg0 => ?_) (fun hg0 => ?_) <;> first | (with_reducible first | exact aF1 hg0 | exact aF2 hg0) | (simp only [hg0, d1, d2, d3, go_sem])) | (with_reducible refine aNk ?_; intro bnil hnil; try simp only []) | exact aZ | fail))
   all_goals first | omega | rfl | skip
set_option maxHeartbeats 16000000 in
theorem same_c (a b : It) (ha : a.Fits) : ACalls Tryz.prog 34 [.agg a.d, .agg b.d] (.one (.bool (decide (a = b)))) [] := by
 have h4 := ha.locs
 have h5 := ha.terms
 rw [it_eq]
 have c1 := auSame_c a.aut b.aut ha.aut
 simp only [AU.d] at c1
 generalize hA : decide (a.aut = b.aut) = A at *
 have hE0 : False → ∀ args, ACalls Tryz.prog 71 args (.one (.bool false)) [] := fun h => h.elim
 have hXl : a.locs.length ≠ b.locs.length → decide (a.locs = b.locs) = false := fun h => decide_eq_false (fun e => h (by rw [e]))
 have hXt : a.terms.length ≠ b.terms.length → decide (a.terms = b.terms) = false := fun h => decide_eq_false (fun e => h (by rw [e]))
 generalize hE : decide (a.locs = b.locs) = E at *
 generalize hE' : decide (a.terms = b.terms) = E' at *
 (refine ACalls.of_body Ty_ok mixed Tryz.func34 rfl (by kernel_rfl) Tryz.ntmps34 (by simp) (congrArg Array.toList Tryz.results34) ?_)
 simp only [slotsOf, It.d]
 rcases (Decidable.em (a.kind = b.kind)).symm with h0 | h0
 ·have e0 : (a.kind == b.kind) = false := by simpa using h0
  rw [show (decide (a.kind = b.kind) && decide (a.name = b.name) && A && E && E' && decide (a.bound = b.bound)) = false by rw [decide_eq_false h0]; simp]
  (repeat' (first | (with_reducible first | exact True.intro | refine And.intro ?_ ?_ | refine aBl ?_ | (refine aS 7 [] ?_; intro K hK)) | ((with_reducible first | refine aGo ?_ | refine rD (id := 6) ?_ | refine rD (id := 11) ?_); simp only [e0, go_sem]) | ((with_reducible refine aCd ?_ ?_ (fun hb => ?_) (fun hb => ?_)); (iterate 2 simp only [e0, go_sem]); all_goals (simp only [e0, go_sem] at hb; try simp only [bls] at hb)) | ((iterate 6 try ((fail_if_success with_reducible refine hK _ ?_ ?_ ?_); clear hK K)); with_reducible refine hK _ ?_ ?_ ?_; rotate_left; (focus (simp only [e0, go_sem]; exact rfl)); clear hK K) | ((first | (with_reducible first | refine cA (hE0 (by simp at hg; exact h0 hg.1) _) ?_ | refine cD (hE0 (by simp at hg; exact h0 hg.1) _) ?_ | refine cO (hE0 (by simp at hg; exact h0 hg.1) _) ?_ | refine cR (hE0 (by simp at hg; exact h0 hg.1) _) ?_ | refine cG (fun hg => (hE0 (by simp at hg; exact h0 hg.1) _)) ?_ | refine cH (fun hg => (hE0 (by simp at hg; exact h0 hg.1) _)) ?_ | refine cM (fun hg => (hE0 (by simp at hg; exact h0 hg.1) _)) ?_) | ((with_reducible refine gA ?_); refine cA (hE0 (by simp at hg; exact h0 hg.1) _) ?_) | ((with_reducible refine gD ?_); refine cD (hE0 (by simp at hg; exact h0 hg.1) _) ?_) | ((with_reducible refine gG ?_); refine cG (fun hg => (hE0 (by simp at hg; exact h0 hg.1) _)) ?_)); simp only [e0, go_sem]) | (with_reducible refine aGs (fun hg0 => ?_) (fun hg0 => ?_) <;> first | (with_reducible first | exact aF1 hg0 | exact aF2 hg0) | (simp only [hg0, e0, go_sem])) | (with_reducible refine aNk ?_; intro bnil hnil; try simp only []) | exact aZ | fail))
  all_goals first | omega | rfl | skip
 have e0 : (a.kind == b.kind) = true := by simpa using h0
 rcases (Decidable.em (a.name = b.name)).symm with h1 | h1
 ·have e1 : (a.name == b.name) = false := by simpa using h1
  rw [show (decide (a.kind = b.kind) && decide (a.name = b.name) && A && E && E' && decide (a.bound = b.bound)) = false by rw [decide_eq_false h1]; simp]
  (repeat' (first | (with_reducible first | exact True.intro | refine And.intro ?_ ?_ | refine aBl ?_ | (refine aS 7 [] ?_; intro K hK)) | ((with_reducible first | refine aGo ?_ | refine rD (id := 6) ?_ | refine rD (id := 11) ?_); simp only [e0, e1, go_sem]) | ((with_reducible refine aCd ?_ ?_ (fun hb => ?_) (fun hb => ?_)); (iterate 2 simp only [e0, e1, go_sem]); all_goals (simp only [e0, e1, go_sem] at hb; try simp only [bls] at hb)) | ((iterate 6 try ((fail_if_success with_reducible refine hK _ ?_ ?_ ?_); clear hK K)); with_reducible refine hK _ ?_ ?_ ?_; rotate_left; (focus (simp only [e0, e1, go_sem]; exact rfl)); clear hK K) | ((first | (with_reducible first | refine cA (hE0 (by simp at hg; exact h1 hg.2) _) ?_ | refine cD (hE0 (by simp at hg; exact h1 hg.2) _) ?_ | refine cO (hE0 (by simp at hg; exact h1 hg.2) _) ?_ | refine cR (hE0 (by simp at hg; exact h1 hg.2) _) ?_ | refine cG (fun hg => (hE0 (by simp at hg; exact h1 hg.2) _)) ?_ | refine cH (fun hg => (hE0 (by simp at hg; exact h1 hg.2) _)) ?_ | refine cM (fun hg => (hE0 (by simp at hg; exact h1 hg.2) _)) ?_) | ((with_reducible refine gA ?_); refine cA (hE0 (by simp at hg; exact h1 hg.2) _) ?_) | ((with_reducible refine gD ?_); refine cD (hE0 (by simp at hg; exact h1 hg.2) _) ?_) | ((with_reducible refine gG ?_); refine cG (fun hg => (hE0 (by simp at hg; exact h1 hg.2) _)) ?_)); simp only [e0, e1, go_sem]) | (with_reducible refine aGs (fun hg0 => ?_) (fun hg0 => ?_) <;> first | (with_reducible first | exact aF1 hg0 | exact aF2 hg0) | (simp only [hg0, e0, e1, go_sem])) | (with_reducible refine aNk ?_; intro bnil hnil; try simp only []) | exact aZ | fail))
  all_goals first | omega | rfl | skip
 have e1 : (a.name == b.name) = true := by simpa using h1
 rcases hAc : A with _ | _
 ·subst hAc
  rw [show (decide (a.kind = b.kind) && decide (a.name = b.name) && false && E && E' && decide (a.bound = b.bound)) = false by simp]
  (repeat' (first | (with_reducible first | exact True.intro | refine And.intro ?_ ?_ | refine aBl ?_ | (refine aS 7 [] ?_; intro K hK)) | ((with_reducible first | refine aGo ?_ | refine rD (id := 6) ?_ | refine rD (id := 11) ?_); simp only [e0, e1, go_sem]) | ((with_reducible refine aCd ?_ ?_ (fun hb => ?_) (fun hb => ?_)); (iterate 2 simp only [e0, e1, go_sem]); all_goals (simp only [e0, e1, go_sem] at hb; try simp only [bls] at hb)) | ((iterate 6 try ((fail_if_success with_reducible refine hK _ ?_ ?_ ?_); clear hK K)); with_reducible refine hK _ ?_ ?_ ?_; rotate_left; (focus (simp only [e0, e1, go_sem]; exact rfl)); clear hK K) | ((first | (with_reducible first | refine xA ?_ | refine xD ?_ | refine xO ?_ | refine xR ?_ | refine xG ?_ | refine xH ?_ | refine xM ?_) | ((with_reducible refine gA ?_); refine xA ?_) | ((with_reducible refine gD ?_); refine xD ?_) | ((with_reducible refine gG ?_); refine xG ?_)); simp only [e0, e1, go_sem]) | (with_reducible refine aGs (fun hg0 => ?_) (fun hg0 => ?_) <;> first | (with_reducible first | exact aF1 hg0 | exact aF2 hg0) | (simp only [hg0, e0, e1, go_sem])) | (with_reducible refine aNk ?_; intro bnil hnil; try simp only []) | exact aZ | fail))
  all_goals first | omega | rfl | skip
 subst hAc
 rcases (Decidable.em (a.locs.length = b.locs.length)).symm with h3 | h3
 ·have e3 : ((a.locs.length : Int) == (b.locs.length : Int)) = false := by simp; omega
  rw [hXl h3, show (decide (a.kind = b.kind) && decide (a.name = b.name) && true && false && E' && decide (a.bound = b.bound)) = false by simp]
  (repeat' (first | (with_reducible first | exact True.intro | refine And.intro ?_ ?_ | refine aBl ?_ | (refine aS 7 [] ?_; intro K hK)) | ((with_reducible first | refine aGo ?_ | refine rD (id := 6) ?_ | refine rD (id := 11) ?_); simp only [e0, e1, e3, go_sem]) | ((with_reducible refine aCd ?_ ?_ (fun hb => ?_) (fun hb => ?_)); (iterate 2 simp only [e0, e1, e3, go_sem]); all_goals (simp only [e0, e1, e3, go_sem] at hb; try simp only [bls] at hb)) | ((iterate 6 try ((fail_if_success with_reducible refine hK _ ?_ ?_ ?_); clear hK K)); with_reducible refine hK _ ?_ ?_ ?_; rotate_left; (focus (simp only [e0, e1, e3, go_sem]; exact rfl)); clear hK K) | ((first | (with_reducible first | refine xA ?_ | refine xD ?_ | refine xO ?_ | refine xR ?_ | refine xG ?_ | refine xH ?_ | refine xM ?_) | ((with_reducible refine gA ?_); refine xA ?_) | ((with_reducible refine gD ?_); refine xD ?_) | ((with_reducible refine gG ?_); refine xG ?_)); simp only [e0, e1, e3, go_sem]) | (with_reducible refine aGs (fun hg0 => ?_) (fun hg0 => ?_) <;> first | (with_reducible first | exact aF1 hg0 | exact aF2 hg0) | (simp only [hg0, e0, e1, e3, go_sem])) | (with_reducible refine aNk ?_; intro bnil hnil; try simp only []) | exact aZ | fail))
  all_goals first | omega | rfl | skip
 have e3 : ((a.locs.length : Int) == (b.locs.length : Int)) = true := by simp; omega
 rcases (Decidable.em (a.terms.length = b.terms.length)).symm with h4' | h4'
 ·have e4 : ((a.terms.length : Int) == (b.terms.length : Int)) = false := by simp; omega
  rw [hXt h4', show (decide (a.kind = b.kind) && decide (a.name = b.name) && true && E && false && decide (a.bound = b.bound)) = false by simp]
  (repeat' (first | (with_reducible first | exact True.intro | refine And.intro ?_ ?_ | refine aBl ?_ | (refine aS 7 [] ?_; intro K hK)) | ((with_reducible first | refine aGo ?_ | refine rD (id := 6) ?_ | refine rD (id := 11) ?_); simp only [e0, e1, e3, e4, go_sem]) | ((with_reducible refine aCd ?_ ?_ (fun hb => ?_) (fun hb => ?_)); (iterate 2 simp only [e0, e1, e3, e4, go_sem]); all_goals (simp only [e0, e1, e3, e4, go_sem] at hb; try simp only [bls] at hb)) | ((iterate 6 try ((fail_if_success with_reducible refine hK _ ?_ ?_ ?_); clear hK K)); with_reducible refine hK _ ?_ ?_ ?_; rotate_left; (focus (simp only [e0, e1, e3, e4, go_sem]; exact rfl)); clear hK K) | ((first | (with_reducible first | refine xA ?_ | refine xD ?_ | refine xO ?_ | refine xR ?_ | refine xG ?_ | refine xH ?_ | refine xM ?_) | ((with_reducible refine gA ?_); refine xA ?_) | ((with_reducible refine gD ?_); refine xD ?_) | ((with_reducible refine gG ?_); refine xG ?_)); simp only [e0, e1, e3, e4, go_sem]) | (with_reducible refine aGs (fun hg0 => ?_) (fun hg0 => ?_) <;> first | (with_reducible first | exact aF1 hg0 | exact aF2 hg0) | (simp only [hg0, e0, e1, e3, e4, go_sem])) | (with_reducible refine aNk ?_; intro bnil hnil; try simp only []) | exact aZ | fail))
  all_goals first | omega | rfl | skip
 have e4 : ((a.terms.length : Int) == (b.terms.length : Int)) = true := by simp; omega
 rcases (Decidable.em (a.bound = b.bound)).symm with h5' | h5'
 ·have e5 : (a.bound == b.bound) = false := by simpa using h5'
  rw [decide_eq_false h5', Bool.and_false]
  (repeat' (first | (with_reducible first | exact True.intro | refine And.intro ?_ ?_ | refine aBl ?_ | (refine aS 7 [] ?_; intro K hK)) | ((with_reducible first | refine aGo ?_ | refine rD (id := 6) ?_ | refine rD (id := 11) ?_); simp only [e0, e1, e3, e4, e5, go_sem]) | ((with_reducible refine aCd ?_ ?_ (fun hb => ?_) (fun hb => ?_)); (iterate 2 simp only [e0, e1, e3, e4, e5, go_sem]); all_goals (simp only [e0, e1, e3, e4, e5, go_sem] at hb; try simp only [bls] at hb)) | ((iterate 6 try ((fail_if_success with_reducible refine hK _ ?_ ?_ ?_); clear hK K)); with_reducible refine hK _ ?_ ?_ ?_; rotate_left; (focus (simp only [e0, e1, e3, e4, e5, go_sem]; exact rfl)); clear hK K) | ((first | (with_reducible first | refine xA ?_ | refine xD ?_ | refine xO ?_ | refine xR ?_ | refine xG ?_ | refine xH ?_ | refine xM ?_) | ((with_reducible refine gA ?_); refine xA ?_) | ((with_reducible refine gD ?_); refine xD ?_) | ((with_reducible refine gG ?_); refine xG ?_)); simp only [e0, e1, e3, e4, e5, go_sem]) | (with_reducible refine aGs (fun hg0 => ?_) (fun hg0 => ?_) <;> first | (with_reducible first | exact aF1 hg0 | exact aF2 hg0) | (simp only [hg0, e0, e1, e3, e4, e5, go_sem])) | (with_reducible refine aNk ?_; intro bnil hnil; try simp only []) | exact aZ | fail))
  all_goals first | omega | rfl | skip
 have e5 : (a.bound == b.bound) = true := by simpa using h5'
 rw [decide_eq_true h0, decide_eq_true h1, decide_eq_true h5']
 simp only [Bool.true_and, Bool.and_true]
 (repeat' (first | (with_reducible first | exact True.intro | refine And.intro ?_ ?_ | refine aBl ?_ | (refine aS 7 [] ?_; intro K hK)) | ((with_reducible first | refine aGo ?_ | refine rD (id := 6) ?_ | refine rD (id := 11) ?_); simp only [e0, e1, e3, e4, e5, go_sem]) | ((with_reducible refine aCd ?_ ?_ (fun hb => ?_) (fun hb => ?_)); (iterate 2 simp only [e0, e1, e3, e4, e5, go_sem]); all_goals (simp only [e0, e1, e3, e4, e5, go_sem] at hb; try simp only [bls] at hb)) | ((iterate 6 try ((fail_if_success with_reducible refine hK _ ?_ ?_ ?_); clear hK K)); with_reducible refine hK _ ?_ ?_ ?_; rotate_left; (focus (simp only [e0, e1, e3, e4, e5, go_sem]; exact rfl)); clear hK K) | ((first | (with_reducible first | refine xA ?_ | refine xD ?_ | refine xO ?_ | refine xR ?_ | refine xG ?_ | refine xH ?_ | refine xM ?_) | ((with_reducible refine gA ?_); refine xA ?_) | ((with_reducible refine gD ?_); refine xD ?_) | ((with_reducible refine gG ?_); refine xG ?_)); simp only [e0, e1, e3, e4, e5, go_sem]) | (with_reducible refine aGs (fun hg0 => ?_) (fun hg0 => ?_) <;> first | (with_reducible first | exact aF1 hg0 | exact aF2 hg0) | (simp only [hg0, e0, e1, e3, e4, e5, go_sem])) | (with_reducible refine aNk ?_; intro bnil hnil; try simp only []) | exact aZ | fail))
 all_goals first | omega | rfl | skip
 ·exfalso; rcases hb with (((h | h) | h) | h) | h <;> first | exact h (by assumption) | omega
 refine awp_loop _ (by simp only [go_sem]; rfl) Nat (fun k => k ≤ a.locs.length ∧ E = decide (a.locs.drop k = b.locs.drop k)) (fun k => [(5, .one (.int .i64 k))]) (fun _ H => H) (fun k => a.locs.length - k) 0 ⟨by omega, by simpa using hE.symm⟩ ?_ ?_
 ·(simp only [SubF, go_sem]; (try simp only [go_sem]); repeat' (first | exact True.intro | with_reducible refine And.intro ?_ ?_ | rfl | omega))
 rintro k ⟨hk, hres⟩ L hL
 have hq : ((k : Nat) : Int).toNat = k := by omega
 rcases (Decidable.em (k < a.locs.length)) with hlt | hlt
 ·have hlf : decide ((k : Int) < a.locs.length) = true := decide_eq_true (by omega)
  have hs1 := eqq_step (d := Lt.no) (by omega) hlt hres
  (simp only [go_sem] at hL ⊢)
  (repeat' (first | (with_reducible first | exact True.intro | refine And.intro ?_ ?_ | refine aBl ?_ | (refine aS 7 [] ?_; intro K hK)) | ((with_reducible first | refine aGo ?_ | refine rD (id := 6) ?_ | refine rD (id := 11) ?_); simp only [hq, hlf, go_sem]) | ((with_reducible refine aCd ?_ ?_ (fun hb => ?_) (fun hb => ?_)); (iterate 2 simp only [hq, hlf, go_sem]); all_goals (simp only [hq, hlf, go_sem] at hb; try simp only [bls] at hb)) | ((iterate 6 try ((fail_if_success with_reducible refine hK _ ?_ ?_ ?_); clear hK K)); with_reducible refine hK _ ?_ ?_ ?_; rotate_left; (focus (simp only [hq, hlf, go_sem]; exact rfl)); clear hK K) | (with_reducible refine aGs (fun hg0 => ?_) (fun hg0 => ?_) <;> first | (with_reducible first | exact aF1 hg0 | exact aF2 hg0) | (simp only [hg0, hq, hlf, go_sem])) | (with_reducible refine aNk ?_; intro bnil hnil; try simp only []) | exact aZ | fail))
  all_goals first | omega | skip
  ·rw [hs1, decide_eq_false (fun h => by rw [h] at hb; simp at hb)]; simp
  ·rw [decide_eq_true (lt_ext hb), Bool.true_and] at hs1
   exact hL _ (k + 1) ⟨by omega, hs1⟩ (by (simp only [SubF, go_sem]; (try simp only [go_sem]); repeat' (first | exact True.intro | with_reducible refine And.intro ?_ ?_ | rfl | omega))) (by omega)
 have hkk : k = a.locs.length := by omega
 subst hkk
 have hlf : decide ((a.locs.length : Int) < a.locs.length) = false := decide_eq_false (by omega)
 rw [drop_end a.locs _ (Nat.le_refl _), drop_end b.locs _ (by omega)] at hres
 have hEt : E = true := by rw [hres]; rfl
 clear hres
 (simp only [go_sem] at hL ⊢)
 (repeat' (first | (with_reducible first | exact True.intro | refine And.intro ?_ ?_ | refine aBl ?_ | (refine aS 7 [] ?_; intro K hK)) | ((with_reducible first | refine aGo ?_ | refine rD (id := 6) ?_ | refine rD (id := 11) ?_); simp only [hlf, go_sem]) | ((with_reducible refine aCd ?_ ?_ (fun hb => ?_) (fun hb => ?_)); (iterate 2 simp only [hlf, go_sem]); all_goals (simp only [hlf, go_sem] at hb; try simp only [bls] at hb)) | ((iterate 6 try ((fail_if_success with_reducible refine hK _ ?_ ?_ ?_); clear hK K)); with_reducible refine hK _ ?_ ?_ ?_; rotate_left; (focus (simp only [hlf, go_sem]; exact rfl)); clear hK K) | (with_reducible refine aGs (fun hg0 => ?_) (fun hg0 => ?_) <;> first | (with_reducible first | exact aF1 hg0 | exact aF2 hg0) | (simp only [hg0, hlf, go_sem])) | (with_reducible refine aNk ?_; intro bnil hnil; try simp only []) | exact aZ | fail))
 all_goals first | omega | skip
 clear hL hlt hlf hk hq hE
 subst hEt
 refine awp_loop _ (by simp only [go_sem]; rfl) Nat (fun k => k ≤ a.terms.length ∧ E' = decide (a.terms.drop k = b.terms.drop k)) (fun k => [(6, .one (.int .i64 k))]) (fun _ H => H) (fun k => a.terms.length - k) 0 ⟨by omega, by simpa using hE'.symm⟩ ?_ ?_
 ·(simp only [SubF, go_sem]; (try simp only [go_sem]); repeat' (first | exact True.intro | with_reducible refine And.intro ?_ ?_ | rfl | omega))
 rintro k ⟨hk, hres⟩ L hL
 have hq : ((k : Nat) : Int).toNat = k := by omega
 rcases (Decidable.em (k < a.terms.length)) with hlt | hlt
 ·have hlf : decide ((k : Int) < a.terms.length) = true := decide_eq_true (by omega)
  have hs1 := eqq_step (d := Lt.no) (by omega) hlt hres
  (simp only [go_sem] at hL ⊢)
  (repeat' (first | (with_reducible first | exact True.intro | refine And.intro ?_ ?_ | refine aBl ?_ | (refine aS 7 [] ?_; intro K hK)) | ((with_reducible first | refine aGo ?_ | refine rD (id := 6) ?_ | refine rD (id := 11) ?_); simp only [hq, hlf, go_sem]) | ((with_reducible refine aCd ?_ ?_ (fun hb => ?_) (fun hb => ?_)); (iterate 2 simp only [hq, hlf, go_sem]); all_goals (simp only [hq, hlf, go_sem] at hb; try simp only [bls] at hb)) | ((iterate 6 try ((fail_if_success with_reducible refine hK _ ?_ ?_ ?_); clear hK K)); with_reducible refine hK _ ?_ ?_ ?_; rotate_left; (focus (simp only [hq, hlf, go_sem]; exact rfl)); clear hK K) | (with_reducible refine aGs (fun hg0 => ?_) (fun hg0 => ?_) <;> first | (with_reducible first | exact aF1 hg0 | exact aF2 hg0) | (simp only [hg0, hq, hlf, go_sem])) | (with_reducible refine aNk ?_; intro bnil hnil; try simp only []) | exact aZ | fail))
  all_goals first | omega | skip
  ·rw [hs1, decide_eq_false (fun h => by rw [h] at hb; simp at hb)]; simp
  ·rw [decide_eq_true (lt_ext hb), Bool.true_and] at hs1
   exact hL _ (k + 1) ⟨by omega, hs1⟩ (by (simp only [SubF, go_sem]; (try simp only [go_sem]); repeat' (first | exact True.intro | with_reducible refine And.intro ?_ ?_ | rfl | omega))) (by omega)
 have hkk : k = a.terms.length := by omega
 subst hkk
 have hlf : decide ((a.terms.length : Int) < a.terms.length) = false := decide_eq_false (by omega)
 rw [drop_end a.terms _ (Nat.le_refl _), drop_end b.terms _ (by omega)] at hres
 have hEt : E' = true := by rw [hres]; rfl
 clear hres
 (simp only [go_sem] at hL ⊢)
 (repeat' (first | (with_reducible first | exact True.intro | refine And.intro ?_ ?_ | refine aBl ?_ | (refine aS 7 [] ?_; intro K hK)) | ((with_reducible first | refine aGo ?_ | refine rD (id := 6) ?_ | refine rD (id := 11) ?_); simp only [hlf, go_sem]) | ((with_reducible refine aCd ?_ ?_ (fun hb => ?_) (fun hb => ?_)); (iterate 2 simp only [hlf, go_sem]); all_goals (simp only [hlf, go_sem] at hb; try simp only [bls] at hb)) | ((iterate 6 try ((fail_if_success with_reducible refine hK _ ?_ ?_ ?_); clear hK K)); with_reducible refine hK _ ?_ ?_ ?_; rotate_left; (focus (simp only [hlf, go_sem]; exact rfl)); clear hK K) | (with_reducible refine aGs (fun hg0 => ?_) (fun hg0 => ?_) <;> first | (with_reducible first | exact aF1 hg0 | exact aF2 hg0) | (simp only [hg0, hlf, go_sem])) | (with_reducible refine aNk ?_; intro bnil hnil; try simp only []) | exact aZ | fail))
 all_goals first | omega | skip
 rw [hEt]
end Go.Proofs.YtkjnjkdcpbgabaaGreatDoor
