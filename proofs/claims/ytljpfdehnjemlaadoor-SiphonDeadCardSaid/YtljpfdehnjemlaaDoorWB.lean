/-
 Contracts: merging of sets.
-/
import Derived.Test.YtljpfdehnjemlaaDoorWA
set_option linter.unusedSimpArgs false
set_option linter.unusedVariables false
namespace Go.Proofs.YtljpfdehnjemlaaDoor
open Go.Eng Go.RowKit
attribute [local go_sem] List.take_length
def mergeB (keep : Bool → Bool → Bool) : List Int → List Int → List Int
 | [], [] => []
 | x :: a, [] => (if keep true false = true then [x] else []) ++ mergeB keep a []
 | [], y :: b => (if keep false true = true then [y] else []) ++ mergeB keep [] b
 | x :: a, y :: b => if x < y then (if keep true false = true then [x] else []) ++ mergeB keep a (y :: b) else if y < x then (if keep false true = true then [y] else []) ++ mergeB keep (x :: a) b else (if keep true true = true then [x] else []) ++ mergeB keep a b
 termination_by a b => a.length + b.length
def iA (u v : List Int) : Bool := decide (0 < (u.length : Int)) && ((v.length : Int) == 0 || decide (u.getD 0 0 ≤ v.getD 0 0))
def iB (u v : List Int) : Bool := decide (0 < (v.length : Int)) && ((u.length : Int) == 0 || decide (v.getD 0 0 ≤ u.getD 0 0))
theorem iA_cons (x y : Int) (u v : List Int) : iA (x :: u) (y :: v) = decide (x ≤ y) := by
 have h : 0 < (((x :: u).length : Nat) : Int) := by
  simp only [List.length_cons]
  omega
 have h2 : ((((y :: v).length : Nat) : Int) == 0) = false := by
  rw [beq_eq_false_iff_ne]
  simp only [List.length_cons]
  omega
 simp only [iA, decide_eq_true h, h2]; rfl
theorem iB_cons (x y : Int) (u v : List Int) : iB (x :: u) (y :: v) = decide (y ≤ x) := by
 have h : 0 < (((y :: v).length : Nat) : Int) := by
  simp only [List.length_cons]
  omega
 have h2 : ((((x :: u).length : Nat) : Int) == 0) = false := by
  rw [beq_eq_false_iff_ne]
  simp only [List.length_cons]
  omega
 simp only [iB, decide_eq_true h, h2]; rfl
theorem merge_step (keep : Bool → Bool → Bool) (u v : List Int) (h : ¬ (u.length = 0 ∧ v.length = 0)) :
  mergeB keep u v = (if keep (iA u v) (iB u v) = true then [if iB u v = true then v.getD 0 0 else u.getD 0 0] else []) ++ mergeB keep (if iA u v = true then u.drop 1 else u) (if iB u v = true then v.drop 1 else v) := by
 cases u with
 | nil =>
  cases v with
  | nil => simp at h
  | cons y v =>
   have e1 : iA [] (y :: v) = false := rfl
   have e2 : iB [] (y :: v) = true := by simp [iB]
   rw [mergeB, e1, e2]; simp
 | cons x u =>
  cases v with
  | nil =>
   have e1 : iA (x :: u) [] = true := by simp [iA]
   have e2 : iB (x :: u) [] = false := rfl
   rw [mergeB, e1, e2]; simp
  | cons y v =>
   rw [mergeB, iA_cons, iB_cons]
   by_cases h1 : x < y
   ·have a : x ≤ y := by omega
    have b : ¬ y ≤ x := by omega
    simp [h1, a, b]
   ·by_cases h2 : y < x
    ·have a : ¬ x ≤ y := by omega
     have b : y ≤ x := by omega
     simp [h1, h2, a, b]
    ·have a : x = y := by omega
     subst a
     simp
theorem mergeB_nil (keep : Bool → Bool → Bool) (u v : List Int) (h : u.length = 0 ∧ v.length = 0) : mergeB keep u v = [] := by
 rw [List.length_eq_zero_iff.1 h.1, List.length_eq_zero_iff.1 h.2, mergeB]
theorem Min1_c (p q : Bool) : ACalls Tryd.prog 71 [.one (.bool p), .one (.bool q)] (.one (.bool (p && !q))) [] := by
 (refine ACalls.of_body Ty_ok mixed Tryd.func71 rfl (by kernel_rfl) Tryd.ntmps71 (by simp) (congrArg Array.toList Tryd.results71) ?_)
 simp only [slotsOf]
 (repeat' (first | (with_reducible first | exact True.intro | refine And.intro ?_ ?_ | refine aBl ?_ | (refine aS 5 [] ?_; intro K hK)) | ((with_reducible first | refine aGo ?_); simp only [go_sem]) | ((with_reducible refine aCd ?_ ?_ (fun hb => ?_) (fun hb => ?_)); (iterate 2 simp only [go_sem]); all_goals (simp only [go_sem] at hb; try simp only [bls] at hb)) | ((iterate 6 try ((fail_if_success with_reducible refine hK _ ?_ ?_ ?_); clear hK K)); with_reducible refine hK _ ?_ ?_ ?_; rotate_left; (focus (simp only [go_sem]; exact rfl)); clear hK K) | (with_reducible refine aGs (fun hg0 => ?_) (fun hg0 => ?_) <;> first | (with_reducible first | exact aF1 hg0 | exact aF2 hg0) | (simp only [hg0, go_sem])) | (with_reducible refine aNk ?_; intro bnil hnil; try simp only []) | exact aZ | fail))
set_option maxHeartbeats 8000000 in
theorem merge_c (a b : List Int) (f : FuncId) (keep : Bool → Bool → Bool) (hn : a.length + b.length ≤ 1000000) (hp : ∀ p q : Bool, ACalls Tryd.prog f [.one (.bool p), .one (.bool q)] (.one (.bool (keep p q))) []) :
  ACalls Tryd.prog 70 [.one (.list (ints a)), .one (.list (ints b)), .one (.clo f [])] (.one (.list (ints (mergeB keep a b)))) [] := by
 (refine ACalls.of_body Ty_ok mixed Tryd.func70 rfl (by kernel_rfl) Tryd.ntmps70 (by simp) (congrArg Array.toList Tryd.results70) ?_)
 simp only [slotsOf]
 (repeat' (first | (with_reducible first | exact True.intro | refine And.intro ?_ ?_ | refine aBl ?_ | (refine aS 11 [] ?_; intro K hK)) | ((with_reducible first | refine aGo ?_ | refine rD (id := 3) ?_ | refine rD (id := 4) ?_ | refine rD (id := 7) ?_ | refine rD (id := 9) ?_); simp only [go_sem]) | ((with_reducible refine aCd ?_ ?_ (fun hb => ?_) (fun hb => ?_)); (iterate 2 simp only [go_sem]); all_goals (simp only [go_sem] at hb; try simp only [bls] at hb)) | ((iterate 6 try ((fail_if_success with_reducible refine hK _ ?_ ?_ ?_); clear hK K)); with_reducible refine hK _ ?_ ?_ ?_; rotate_left; (focus (simp only [go_sem]; exact rfl)); clear hK K) | (with_reducible refine aGs (fun hg0 => ?_) (fun hg0 => ?_) <;> first | (with_reducible first | exact aF1 hg0 | exact aF2 hg0) | (simp only [hg0, go_sem])) | (with_reducible refine aNk ?_; intro bnil hnil; try simp only []) | exact aZ | fail))
 refine awp_loop _ (by simp only [go_sem]; rfl) (List Int × List Int × List Int) (fun s => mergeB keep a b = s.2.2 ++ mergeB keep s.1 s.2.1 ∧ s.2.2.length + s.1.length + s.2.1.length ≤ a.length + b.length)
  (fun s => [(0, .one (.list (ints s.1))), (1, .one (.list (ints s.2.1))), (7, .one (.own 1))]) (fun s _ => [.row 3 1 [], .row 3 1 (ints s.2.2)]) (fun s => s.1.length + s.2.1.length) (a, b, []) ⟨by simp, by simp⟩ ?_ ?_
 ·(simp only [SubF, go_sem]; (try simp only [go_sem]); repeat' (first | exact True.intro | with_reducible refine And.intro ?_ ?_ | rfl | omega))
 ·rintro ⟨u, v, out⟩ ⟨hres, hlen⟩ L hL
  simp only at hres hlen
  (simp only [go_sem] at hL ⊢)
  (repeat' (first | (with_reducible first | exact True.intro | refine And.intro ?_ ?_ | refine aBl ?_ | (refine aS 11 [] ?_; intro K hK)) | ((with_reducible first | refine aGo ?_ | refine rD (id := 3) ?_ | refine rD (id := 4) ?_ | refine rD (id := 7) ?_ | refine rD (id := 9) ?_); simp only [go_sem]) | ((with_reducible refine aCd ?_ ?_ (fun hb => ?_) (fun hb => ?_)); (iterate 2 simp only [go_sem]); all_goals (simp only [go_sem] at hb; try simp only [bls] at hb)) | ((iterate 6 try ((fail_if_success with_reducible refine hK _ ?_ ?_ ?_); clear hK K)); with_reducible refine hK _ ?_ ?_ ?_; rotate_left; (focus (simp only [go_sem]; exact rfl)); clear hK K) | ((first | (with_reducible first | refine cA (hp _ _) ?_ | refine cD (hp _ _) ?_ | refine cO (hp _ _) ?_ | refine cR (hp _ _) ?_ | refine cG (fun hg => (hp _ _)) ?_ | refine cH (fun hg => (hp _ _)) ?_ | refine cM (fun hg => (hp _ _)) ?_) | ((with_reducible refine gA ?_); refine cA (hp _ _) ?_) | ((with_reducible refine gD ?_); refine cD (hp _ _) ?_) | ((with_reducible refine gG ?_); refine cG (fun hg => (hp _ _)) ?_)); simp only [go_sem]) | (with_reducible refine aGs (fun hg0 => ?_) (fun hg0 => ?_) <;> first | (with_reducible first | exact aF1 hg0 | exact aF2 hg0) | (simp only [hg0, go_sem])) | (with_reducible refine aNk ?_; intro bnil hnil; try simp only []) | exact aZ | fail))
  ·rename_i h0 hA hB
   have hA' : iA u v = true := by unfold iA; simp only [bls]; omega
   have hB' : iB u v = true := by unfold iB; simp only [bls]; omega
   have hs := merge_step keep u v (by omega)
   change keep (iA u v) (iB u v) = true at hb
   rw [hb, hA', hB'] at hs
   rw [hs] at hres
   simp only [ints_one, ints_append]
   exact hL _ (u.drop 1, v.drop 1, out ++ [v.getD 0 0]) ⟨by rw [hres]; simp, by simp only [List.length_append, List.length_singleton, List.length_drop]; omega⟩ (by (simp only [SubF, go_sem]; (try simp only [go_sem]); repeat' (first | exact True.intro | with_reducible refine And.intro ?_ ?_ | rfl | omega))) (by simp only [List.length_drop]; omega)
  ·rename_i h0 hA hB
   have hA' : iA u v = true := by unfold iA; simp only [bls]; omega
   have hB' : iB u v = true := by unfold iB; simp only [bls]; omega
   have hs := merge_step keep u v (by omega)
   change keep (iA u v) (iB u v) = false at hb
   rw [hb, hA', hB'] at hs
   rw [hs] at hres
   exact hL _ (u.drop 1, v.drop 1, out) ⟨by rw [hres]; simp, by simp only [List.length_append, List.length_singleton, List.length_drop]; omega⟩ (by (simp only [SubF, go_sem]; (try simp only [go_sem]); repeat' (first | exact True.intro | with_reducible refine And.intro ?_ ?_ | rfl | omega))) (by simp only [List.length_drop]; omega)
  ·rename_i h0 hA hB
   have hA' : iA u v = true := by unfold iA; simp only [bls]; omega
   have hB' : iB u v = false := by unfold iB; simp only [bls]; omega
   have hs := merge_step keep u v (by omega)
   change keep (iA u v) (iB u v) = true at hb
   rw [hb, hA', hB'] at hs
   rw [hs] at hres
   simp only [ints_one, ints_append]
   exact hL _ (u.drop 1, v, out ++ [u.getD 0 0]) ⟨by rw [hres]; simp, by simp only [List.length_append, List.length_singleton, List.length_drop]; omega⟩ (by (simp only [SubF, go_sem]; (try simp only [go_sem]); repeat' (first | exact True.intro | with_reducible refine And.intro ?_ ?_ | rfl | omega))) (by simp only [List.length_drop]; omega)
  ·rename_i h0 hA hB
   have hA' : iA u v = true := by unfold iA; simp only [bls]; omega
   have hB' : iB u v = false := by unfold iB; simp only [bls]; omega
   have hs := merge_step keep u v (by omega)
   change keep (iA u v) (iB u v) = false at hb
   rw [hb, hA', hB'] at hs
   rw [hs] at hres
   exact hL _ (u.drop 1, v, out) ⟨by rw [hres]; simp, by simp only [List.length_append, List.length_singleton, List.length_drop]; omega⟩ (by (simp only [SubF, go_sem]; (try simp only [go_sem]); repeat' (first | exact True.intro | with_reducible refine And.intro ?_ ?_ | rfl | omega))) (by simp only [List.length_drop]; omega)
  ·rename_i h0 hA hB
   have hA' : iA u v = false := by unfold iA; simp only [bls]; omega
   have hB' : iB u v = true := by unfold iB; simp only [bls]; omega
   have hs := merge_step keep u v (by omega)
   change keep (iA u v) (iB u v) = true at hb
   rw [hb, hA', hB'] at hs
   rw [hs] at hres
   simp only [ints_one, ints_append]
   exact hL _ (u, v.drop 1, out ++ [v.getD 0 0]) ⟨by rw [hres]; simp, by simp only [List.length_append, List.length_singleton, List.length_drop]; omega⟩ (by (simp only [SubF, go_sem]; (try simp only [go_sem]); repeat' (first | exact True.intro | with_reducible refine And.intro ?_ ?_ | rfl | omega))) (by simp only [List.length_drop]; omega)
  ·rename_i h0 hA hB
   have hA' : iA u v = false := by unfold iA; simp only [bls]; omega
   have hB' : iB u v = true := by unfold iB; simp only [bls]; omega
   have hs := merge_step keep u v (by omega)
   change keep (iA u v) (iB u v) = false at hb
   rw [hb, hA', hB'] at hs
   rw [hs] at hres
   exact hL _ (u, v.drop 1, out) ⟨by rw [hres]; simp, by simp only [List.length_append, List.length_singleton, List.length_drop]; omega⟩ (by (simp only [SubF, go_sem]; (try simp only [go_sem]); repeat' (first | exact True.intro | with_reducible refine And.intro ?_ ?_ | rfl | omega))) (by simp only [List.length_drop]; omega)
  ·rw [hres, mergeB_nil keep u v (by omega), List.append_nil]
def minusB (a b : List Int) : List Int := mergeB (fun p q => p && !q) a b
theorem Minus_c (a b : List Int) (hn : a.length + b.length ≤ 1000000) : ACalls Tryd.prog 47 [.one (.list (ints a)), .one (.list (ints b))] (.one (.list (ints (minusB a b)))) [] := by
 unfold minusB
 (refine ACalls.of_body Ty_ok mixed Tryd.func47 rfl (by kernel_rfl) Tryd.ntmps47 (by simp) (congrArg Array.toList Tryd.results47) ?_)
 simp only [slotsOf]
 (repeat' (first | (with_reducible first | exact True.intro | refine And.intro ?_ ?_ | refine aBl ?_ | (refine aS 5 [] ?_; intro K hK)) | ((with_reducible first | refine aGo ?_); simp only [go_sem]) | ((with_reducible refine aCd ?_ ?_ (fun hb => ?_) (fun hb => ?_)); (iterate 2 simp only [go_sem]); all_goals (simp only [go_sem] at hb; try simp only [bls] at hb)) | ((iterate 6 try ((fail_if_success with_reducible refine hK _ ?_ ?_ ?_); clear hK K)); with_reducible refine hK _ ?_ ?_ ?_; rotate_left; (focus (simp only [go_sem]; exact rfl)); clear hK K) | ((first | (with_reducible first | refine cA (merge_c a b 71 _ hn Min1_c) ?_ | refine cD (merge_c a b 71 _ hn Min1_c) ?_ | refine cO (merge_c a b 71 _ hn Min1_c) ?_ | refine cR (merge_c a b 71 _ hn Min1_c) ?_ | refine cG (fun hg => (merge_c a b 71 _ hn Min1_c)) ?_ | refine cH (fun hg => (merge_c a b 71 _ hn Min1_c)) ?_ | refine cM (fun hg => (merge_c a b 71 _ hn Min1_c)) ?_) | ((with_reducible refine gA ?_); refine cA (merge_c a b 71 _ hn Min1_c) ?_) | ((with_reducible refine gD ?_); refine cD (merge_c a b 71 _ hn Min1_c) ?_) | ((with_reducible refine gG ?_); refine cG (fun hg => (merge_c a b 71 _ hn Min1_c)) ?_)); simp only [go_sem]) | (with_reducible refine aGs (fun hg0 => ?_) (fun hg0 => ?_) <;> first | (with_reducible first | exact aF1 hg0 | exact aF2 hg0) | (simp only [hg0, go_sem])) | (with_reducible refine aNk ?_; intro bnil hnil; try simp only []) | exact aZ | fail))
theorem Subset_c (a b : List Int) (hn : a.length + b.length ≤ 1000000) : ACalls Tryd.prog 28 [.one (.list (ints a)), .one (.list (ints b))] (.one (.bool (decide ((minusB a b).length = 0)))) [] := by
 (refine ACalls.of_body Ty_ok mixed Tryd.func28 rfl (by kernel_rfl) Tryd.ntmps28 (by simp) (congrArg Array.toList Tryd.results28) ?_)
 simp only [slotsOf]
 (repeat' (first | (with_reducible first | exact True.intro | refine And.intro ?_ ?_ | refine aBl ?_ | (refine aS 5 [] ?_; intro K hK)) | ((with_reducible first | refine aGo ?_); simp only [go_sem]) | ((with_reducible refine aCd ?_ ?_ (fun hb => ?_) (fun hb => ?_)); (iterate 2 simp only [go_sem]); all_goals (simp only [go_sem] at hb; try simp only [bls] at hb)) | ((iterate 6 try ((fail_if_success with_reducible refine hK _ ?_ ?_ ?_); clear hK K)); with_reducible refine hK _ ?_ ?_ ?_; rotate_left; (focus (simp only [go_sem]; exact rfl)); clear hK K) | ((first | (with_reducible first | refine cA (Minus_c a b hn) ?_ | refine cD (Minus_c a b hn) ?_ | refine cO (Minus_c a b hn) ?_ | refine cR (Minus_c a b hn) ?_ | refine cG (fun hg => (Minus_c a b hn)) ?_ | refine cH (fun hg => (Minus_c a b hn)) ?_ | refine cM (fun hg => (Minus_c a b hn)) ?_) | ((with_reducible refine gA ?_); refine cA (Minus_c a b hn) ?_) | ((with_reducible refine gD ?_); refine cD (Minus_c a b hn) ?_) | ((with_reducible refine gG ?_); refine cG (fun hg => (Minus_c a b hn)) ?_)); simp only [go_sem]) | (with_reducible refine aGs (fun hg0 => ?_) (fun hg0 => ?_) <;> first | (with_reducible first | exact aF1 hg0 | exact aF2 hg0) | (simp only [hg0, go_sem])) | (with_reducible refine aNk ?_; intro bnil hnil; try simp only []) | exact aZ | fail))
 rw [Bool.eq_iff_iff]; simp
end Go.Proofs.YtljpfdehnjemlaaDoor
