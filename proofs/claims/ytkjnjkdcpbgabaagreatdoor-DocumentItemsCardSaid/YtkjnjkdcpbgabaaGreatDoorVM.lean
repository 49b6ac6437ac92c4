/-
 Chapter 23: the law DocumentItems.
-/
import Derived.Test.YtkjnjkdcpbgabaaGreatDoorVL
import Derived.Test.YtkjnjkdcpbgabaaGreatDoorVK
import Derived.Test.YtkjnjkdcpbgabaaGreatDoorUY
import Derived.Test.YtkjnjkdcpbgabaaGreatDoorUQ
set_option linter.unusedSimpArgs false
set_option linter.unusedVariables false
namespace Go.Proofs.YtkjnjkdcpbgabaaGreatDoor
open Go.Eng Go.RowKit
set_option maxHeartbeats 32000000 in
set_option maxRecDepth 100000 in
theorem Items_law (E : List Ev) (c : CE) : ACalls Tryz.prog 4 [.agg (cellD (evs E) c)] (.one (.bool true)) [] := by
 have kn := known_c
 have f1 := fewCell_c E c
 by_cases h1 : fewC E c = true
 ·rw [h1] at f1
  obtain ⟨hf, hE, hEn⟩ := fewC_true h1
  have c1 := Items_c (evs E) c hf
  have c2 := lawitems_c (evs E) c hf
  cases hr : rawI c with
  | none =>
   have e1 : itemsR c = ([], 2) := by rw [itemsR, hr]
   have e2 : lawItems c = ([], 2) := by rw [lawItems, hr]
   rw [e1, show itD [] = [] from rfl] at c1
   rw [e2, show itD [] = [] from rfl] at c2
   simp only [cellD] at f1 c1 c2
   (refine ACalls.of_body Ty_ok mixed Tryz.func4 rfl (by kernel_rfl) Tryz.ntmps4 (by simp) (congrArg Array.toList Tryz.results4) ?_)
   simp only [slotsOf, cellD]
   (repeat' (first | (with_reducible first | exact True.intro | refine And.intro ?_ ?_ | refine aBl ?_ | ((first | refine aS1 9 [] ?_ | refine aS2 9 [] ?_ | refine aS3 9 [] ?_ | refine aS4 9 [] ?_ | refine aSq 9 [] ?_); intro K hK)) | ((with_reducible first | refine aRg ?_ | refine aEx ?_ | refine aSk ?_ | refine aRt ?_ | refine aLk ?_ | refine aOt ?_); simp only [go_sem]) | ((with_reducible refine aCd ?_ ?_ (fun hb => ?_) (fun hb => ?_)); (simp only [go_sem]); (simp only [go_sem]); all_goals (simp only [go_sem] at hb; try simp only [bls] at hb)) | ((iterate 6 try ((fail_if_success with_reducible refine hK _ ?_ ?_ ?_); clear hK K)); with_reducible refine hK _ ?_ ?_ ?_; rotate_left; (focus (simp only [go_sem]; exact rfl)); clear hK K) | ((first | (with_reducible first | refine cA (by assumption) ?_ | refine cD (by assumption) ?_ | refine cO (by assumption) ?_ | refine cR (by assumption) ?_ | refine cG (fun hg => (by assumption)) ?_ | refine cH (fun hg => (by assumption)) ?_ | refine cM (fun hg => (by assumption)) ?_) | (guard_target = CallAt _ _ _ _ _ _ _ _ _ _; refine cA (by assumption) ?_) | (guard_target = DCallAt _ _ _ _ _ _ _ _; refine cD (by assumption) ?_) | (guard_target = GCallAt _ _ _ _ _ _ _ _ _ _ _; refine cG (fun hg => (by assumption)) ?_)); simp only [go_sem]) | (with_reducible refine aGs (fun hg0 => ?_) (fun hg0 => ?_) <;> first | (with_reducible first | exact aF1 hg0 | exact aF2 hg0) | (simp only [hg0, go_sem])) | (with_reducible refine aNk ?_; intro bnil hnil; try simp only []) | (omega; done) | (intro hv; (try simp only [bls] at hv); (try simp only [bls]); omega) | (intro hg; (simp only [hg, Bool.true_and, true_and, implies_true]; try (intro hg2; simp only [hg2, Bool.not_false, Bool.not_true])); done)))
   all_goals first | omega | skip
  | some l =>
   have hlf := rawI_fits hf hr
   have hll := hlf.len
   have e2 : lawItems c = (l, chkL l) := by rw [lawItems, hr]
   by_cases h3 : chkL l = 0
   ·have g := (good_iff l).1 h3
    have e1 : itemsR c = (l, 0) := by
     rw [itemsR, hr]
     show (if chkL l ≠ 0 then ([], chkL l) else (l, (0 : Int))) = _
     rw [if_neg (by simp [h3])]
    have c3 := sameAll_c l l hlf
    have c4 := Cell_c E l (by omega) hlf
    rw [decide_eq_true rfl] at c3
    have c5 := rising_c (evs E) c hf
    have c6 := sameCell_c E c hf (by omega) (by rw [e2]; exact hlf)
    rw [e1] at c1
    rw [e2, h3] at c2
    obtain ⟨w1, w2⟩ := wL_items hr g
    rw [cellR_eq g] at c4
    by_cases h5 : risingB c = true
    ·rw [w2 h5, if_neg (by decide), cell_back hr g h5, cellV, if_pos rfl] at c4
     rw [h5] at c5
     simp only [cellD] at f1 c1 c2 c4 c5 c6
     (refine ACalls.of_body Ty_ok mixed Tryz.func4 rfl (by kernel_rfl) Tryz.ntmps4 (by simp) (congrArg Array.toList Tryz.results4) ?_)
     simp only [slotsOf, cellD]
     (repeat' (first | (with_reducible first | exact True.intro | refine And.intro ?_ ?_ | refine aBl ?_ | ((first | refine aS1 9 [] ?_ | refine aS2 9 [] ?_ | refine aS3 9 [] ?_ | refine aS4 9 [] ?_ | refine aSq 9 [] ?_); intro K hK)) | ((with_reducible first | refine aRg ?_ | refine aEx ?_ | refine aSk ?_ | refine aRt ?_ | refine aLk ?_ | refine aOt ?_); simp only [go_sem]) | ((with_reducible refine aCd ?_ ?_ (fun hb => ?_) (fun hb => ?_)); (simp only [go_sem]); (simp only [go_sem]); all_goals (simp only [go_sem] at hb; try simp only [bls] at hb)) | ((iterate 6 try ((fail_if_success with_reducible refine hK _ ?_ ?_ ?_); clear hK K)); with_reducible refine hK _ ?_ ?_ ?_; rotate_left; (focus (simp only [go_sem]; exact rfl)); clear hK K) | ((first | (with_reducible first | refine cA (by assumption) ?_ | refine cD (by assumption) ?_ | refine cO (by assumption) ?_ | refine cR (by assumption) ?_ | refine cG (fun hg => (by assumption)) ?_ | refine cH (fun hg => (by assumption)) ?_ | refine cM (fun hg => (by assumption)) ?_) | (guard_target = CallAt _ _ _ _ _ _ _ _ _ _; refine cA (by assumption) ?_) | (guard_target = DCallAt _ _ _ _ _ _ _ _; refine cD (by assumption) ?_) | (guard_target = GCallAt _ _ _ _ _ _ _ _ _ _ _; refine cG (fun hg => (by assumption)) ?_)); simp only [go_sem]) | (with_reducible refine aGs (fun hg0 => ?_) (fun hg0 => ?_) <;> first | (with_reducible first | exact aF1 hg0 | exact aF2 hg0) | (simp only [hg0, go_sem])) | (with_reducible refine aNk ?_; intro bnil hnil; try simp only []) | (omega; done) | (intro hv; (try simp only [bls] at hv); (try simp only [bls]); omega) | (intro hg; (simp only [hg, Bool.true_and, true_and, implies_true]; try (intro hg2; simp only [hg2, Bool.not_false, Bool.not_true])); done)))
     all_goals first | omega | skip
    ·rw [Bool.eq_false_iff.2 h5] at c5
     rcases w1 with w1 | w1
     ·have c7 := rising_c (evs E) (cellOf l) (cell_fits g hlf)
      rw [cell_rising g w1] at c7
      rw [w1, if_neg (by decide), cellV, if_pos rfl] at c4
      simp only [cellD] at f1 c1 c2 c4 c5 c7
      (refine ACalls.of_body Ty_ok mixed Tryz.func4 rfl (by kernel_rfl) Tryz.ntmps4 (by simp) (congrArg Array.toList Tryz.results4) ?_)
      simp only [slotsOf, cellD]
      (repeat' (first | (with_reducible first | exact True.intro | refine And.intro ?_ ?_ | refine aBl ?_ | ((first | refine aS1 9 [] ?_ | refine aS2 9 [] ?_ | refine aS3 9 [] ?_ | refine aS4 9 [] ?_ | refine aSq 9 [] ?_); intro K hK)) | ((with_reducible first | refine aRg ?_ | refine aEx ?_ | refine aSk ?_ | refine aRt ?_ | refine aLk ?_ | refine aOt ?_); simp only [go_sem]) | ((with_reducible refine aCd ?_ ?_ (fun hb => ?_) (fun hb => ?_)); (simp only [go_sem]); (simp only [go_sem]); all_goals (simp only [go_sem] at hb; try simp only [bls] at hb)) | ((iterate 6 try ((fail_if_success with_reducible refine hK _ ?_ ?_ ?_); clear hK K)); with_reducible refine hK _ ?_ ?_ ?_; rotate_left; (focus (simp only [go_sem]; exact rfl)); clear hK K) | ((first | (with_reducible first | refine cA (by assumption) ?_ | refine cD (by assumption) ?_ | refine cO (by assumption) ?_ | refine cR (by assumption) ?_ | refine cG (fun hg => (by assumption)) ?_ | refine cH (fun hg => (by assumption)) ?_ | refine cM (fun hg => (by assumption)) ?_) | (guard_target = CallAt _ _ _ _ _ _ _ _ _ _; refine cA (by assumption) ?_) | (guard_target = DCallAt _ _ _ _ _ _ _ _; refine cD (by assumption) ?_) | (guard_target = GCallAt _ _ _ _ _ _ _ _ _ _ _; refine cG (fun hg => (by assumption)) ?_)); simp only [go_sem]) | (with_reducible refine aGs (fun hg0 => ?_) (fun hg0 => ?_) <;> first | (with_reducible first | exact aF1 hg0 | exact aF2 hg0) | (simp only [hg0, go_sem])) | (with_reducible refine aNk ?_; intro bnil hnil; try simp only []) | (omega; done) | (intro hv; (try simp only [bls] at hv); (try simp only [bls]); omega) | (intro hg; (simp only [hg, Bool.true_and, true_and, implies_true]; try (intro hg2; simp only [hg2, Bool.not_false, Bool.not_true])); done)))
      all_goals first | omega | skip
     ·have hE0 : False → ACalls Tryz.prog 25 [.agg (cellD [] CE.zero)] (.one (.bool true)) [] := fun h => h.elim
      rw [w1, if_pos (by decide), cellV, if_neg (by decide)] at c4
      simp only [cellD] at f1 c1 c2 c4 c5 hE0
      (refine ACalls.of_body Ty_ok mixed Tryz.func4 rfl (by kernel_rfl) Tryz.ntmps4 (by simp) (congrArg Array.toList Tryz.results4) ?_)
      simp only [slotsOf, cellD]
      (repeat' (first | (with_reducible first | exact True.intro | refine And.intro ?_ ?_ | refine aBl ?_ | ((first | refine aS1 9 [] ?_ | refine aS2 9 [] ?_ | refine aS3 9 [] ?_ | refine aS4 9 [] ?_ | refine aSq 9 [] ?_); intro K hK)) | ((with_reducible first | refine aRg ?_ | refine aEx ?_ | refine aSk ?_ | refine aRt ?_ | refine aLk ?_ | refine aOt ?_); simp only [go_sem]) | ((with_reducible refine aCd ?_ ?_ (fun hb => ?_) (fun hb => ?_)); (simp only [go_sem]); (simp only [go_sem]); all_goals (simp only [go_sem] at hb; try simp only [bls] at hb)) | ((iterate 6 try ((fail_if_success with_reducible refine hK _ ?_ ?_ ?_); clear hK K)); with_reducible refine hK _ ?_ ?_ ?_; rotate_left; (focus (simp only [go_sem]; exact rfl)); clear hK K) | ((first | (with_reducible first | refine cA (by assumption) ?_ | refine cA (hE0 (by simp at hg)) ?_ | refine cD (by assumption) ?_ | refine cD (hE0 (by simp at hg)) ?_ | refine cO (by assumption) ?_ | refine cO (hE0 (by simp at hg)) ?_ | refine cR (by assumption) ?_ | refine cR (hE0 (by simp at hg)) ?_ | refine cG (fun hg => (by assumption)) ?_ | refine cG (fun hg => (hE0 (by simp at hg))) ?_ | refine cH (fun hg => (by assumption)) ?_ | refine cH (fun hg => (hE0 (by simp at hg))) ?_ | refine cM (fun hg => (by assumption)) ?_ | refine cM (fun hg => (hE0 (by simp at hg))) ?_) | (guard_target = CallAt _ _ _ _ _ _ _ _ _ _; first | refine cA (by assumption) ?_ | refine cA (hE0 (by simp at hg)) ?_) | (guard_target = DCallAt _ _ _ _ _ _ _ _; first | refine cD (by assumption) ?_ | refine cD (hE0 (by simp at hg)) ?_) | (guard_target = GCallAt _ _ _ _ _ _ _ _ _ _ _; first | refine cG (fun hg => (by assumption)) ?_ | refine cG (fun hg => (hE0 (by simp at hg))) ?_)); simp only [go_sem]) | (with_reducible refine aGs (fun hg0 => ?_) (fun hg0 => ?_) <;> first | (with_reducible first | exact aF1 hg0 | exact aF2 hg0) | (simp only [hg0, go_sem])) | (with_reducible refine aNk ?_; intro bnil hnil; try simp only []) | (omega; done) | (intro hv; (try simp only [bls] at hv); (try simp only [bls]); omega) | (intro hg; (simp only [hg, Bool.true_and, true_and, implies_true]; try (intro hg2; simp only [hg2, Bool.not_false, Bool.not_true])); done)))
      all_goals first | omega | skip
   ·have h3' : (chkL l == 0) = false := by simpa using h3
    have e1 : itemsR c = ([], chkL l) := by
     rw [itemsR, hr]
     show (if chkL l ≠ 0 then ([], chkL l) else (l, (0 : Int))) = _
     rw [if_pos h3]
    rw [e1, show itD [] = [] from rfl] at c1
    rw [e2] at c2
    generalize chkL l = e at *
    simp only [cellD] at f1 c1 c2
    (refine ACalls.of_body Ty_ok mixed Tryz.func4 rfl (by kernel_rfl) Tryz.ntmps4 (by simp) (congrArg Array.toList Tryz.results4) ?_)
    simp only [slotsOf, cellD]
    (repeat' (first | (with_reducible first | exact True.intro | refine And.intro ?_ ?_ | refine aBl ?_ | ((first | refine aS1 9 [] ?_ | refine aS2 9 [] ?_ | refine aS3 9 [] ?_ | refine aS4 9 [] ?_ | refine aSq 9 [] ?_); intro K hK)) | ((with_reducible first | refine aRg ?_ | refine aEx ?_ | refine aSk ?_ | refine aRt ?_ | refine aLk ?_ | refine aOt ?_); simp only [h3', go_sem]) | ((with_reducible refine aCd ?_ ?_ (fun hb => ?_) (fun hb => ?_)); (simp only [h3', go_sem]); (simp only [h3', go_sem]); all_goals (simp only [h3', go_sem] at hb; try simp only [bls] at hb)) | ((iterate 6 try ((fail_if_success with_reducible refine hK _ ?_ ?_ ?_); clear hK K)); with_reducible refine hK _ ?_ ?_ ?_; rotate_left; (focus (simp only [h3', go_sem]; exact rfl)); clear hK K) | ((first | (with_reducible first | refine cA (by assumption) ?_ | refine cD (by assumption) ?_ | refine cO (by assumption) ?_ | refine cR (by assumption) ?_ | refine cG (fun hg => (by assumption)) ?_ | refine cH (fun hg => (by assumption)) ?_ | refine cM (fun hg => (by assumption)) ?_) | (guard_target = CallAt _ _ _ _ _ _ _ _ _ _; refine cA (by assumption) ?_) | (guard_target = DCallAt _ _ _ _ _ _ _ _; refine cD (by assumption) ?_) | (guard_target = GCallAt _ _ _ _ _ _ _ _ _ _ _; refine cG (fun hg => (by assumption)) ?_)); simp only [h3', go_sem]) | (with_reducible refine aGs (fun hg0 => ?_) (fun hg0 => ?_) <;> first | (with_reducible first | exact aF1 hg0 | exact aF2 hg0) | (simp only [hg0, h3', go_sem])) | (with_reducible refine aNk ?_; intro bnil hnil; try simp only []) | (omega; done) | (intro hv; (try simp only [bls] at hv); (try simp only [bls]); omega) | (intro hg; (simp only [hg, Bool.true_and, true_and, implies_true]; try (intro hg2; simp only [hg2, Bool.not_false, Bool.not_true])); done)))
    all_goals first | omega | skip
 ·rw [Bool.eq_false_iff.2 h1] at f1
  simp only [cellD] at f1
  (refine ACalls.of_body Ty_ok mixed Tryz.func4 rfl (by kernel_rfl) Tryz.ntmps4 (by simp) (congrArg Array.toList Tryz.results4) ?_)
  simp only [slotsOf, cellD]
  (repeat' (first | (with_reducible first | exact True.intro | refine And.intro ?_ ?_ | refine aBl ?_ | ((first | refine aS1 9 [] ?_ | refine aS2 9 [] ?_ | refine aS3 9 [] ?_ | refine aS4 9 [] ?_ | refine aSq 9 [] ?_); intro K hK)) | ((with_reducible first | refine aRg ?_ | refine aEx ?_ | refine aSk ?_ | refine aRt ?_ | refine aLk ?_ | refine aOt ?_); simp only [go_sem]) | ((with_reducible refine aCd ?_ ?_ (fun hb => ?_) (fun hb => ?_)); (simp only [go_sem]); (simp only [go_sem]); all_goals (simp only [go_sem] at hb; try simp only [bls] at hb)) | ((iterate 6 try ((fail_if_success with_reducible refine hK _ ?_ ?_ ?_); clear hK K)); with_reducible refine hK _ ?_ ?_ ?_; rotate_left; (focus (simp only [go_sem]; exact rfl)); clear hK K) | ((first | (with_reducible first | refine cA (by assumption) ?_ | refine cD (by assumption) ?_ | refine cO (by assumption) ?_ | refine cR (by assumption) ?_ | refine cG (fun hg => (by assumption)) ?_ | refine cH (fun hg => (by assumption)) ?_ | refine cM (fun hg => (by assumption)) ?_) | (guard_target = CallAt _ _ _ _ _ _ _ _ _ _; refine cA (by assumption) ?_) | (guard_target = DCallAt _ _ _ _ _ _ _ _; refine cD (by assumption) ?_) | (guard_target = GCallAt _ _ _ _ _ _ _ _ _ _ _; refine cG (fun hg => (by assumption)) ?_)); simp only [go_sem]) | (with_reducible refine aGs (fun hg0 => ?_) (fun hg0 => ?_) <;> first | (with_reducible first | exact aF1 hg0 | exact aF2 hg0) | (simp only [hg0, go_sem])) | (with_reducible refine aNk ?_; intro bnil hnil; try simp only []) | (omega; done) | (intro hv; (try simp only [bls] at hv); (try simp only [bls]); omega) | (intro hg; (simp only [hg, Bool.true_and, true_and, implies_true]; try (intro hg2; simp only [hg2, Bool.not_false, Bool.not_true])); done)))
  all_goals first | omega | skip
end Go.Proofs.YtkjnjkdcpbgabaaGreatDoor
