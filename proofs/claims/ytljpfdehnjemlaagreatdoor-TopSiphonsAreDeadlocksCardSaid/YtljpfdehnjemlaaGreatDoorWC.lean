/-
 Contracts: binary search; sets out of masks.
-/
import Derived.Test.YtljpfdehnjemlaaGreatDoorWA
set_option linter.unusedSimpArgs false
set_option linter.unusedVariables false
namespace Go.Proofs.YtljpfdehnjemlaaGreatDoor
open Go.Eng Go.RowKit
attribute [local go_sem] List.take_length
def mergeB (keep : Bool → Bool → Bool) : List Int → List Int → List Int
 | [], [] => []
 | x :: a, [] => (if keep true false = true then [x] else []) ++ mergeB keep a []
 | [], y :: b => (if keep false true = true then [y] else []) ++ mergeB keep [] b
 | x :: a, y :: b => if x < y then (if keep true false = true then [x] else []) ++ mergeB keep a (y :: b) else if y < x then (if keep false true = true then [y] else []) ++ mergeB keep (x :: a) b else (if keep true true = true then [x] else []) ++ mergeB keep a b
 termination_by a b => a.length + b.length
def iA (u v : List Int) : Bool := decide (0 < (u.length : Int)) && ((v.length : Int) == 0 || decide (u.getD 0 0 ≤ v.getD 0 0))
def iB (u v : List Int) : Bool := decide (0 < (v.length : Int)) && ((u.length : Int) == 0 || decide (v.getD 0 0 ≤ u.getD 0 0))
theorem iA_cons (x y : Int) (u v : List Int) : iA (x :: u) (y :: v) = decide (x ≤ y) := by
 have h : 0 < (((x :: u).length : Nat) : Int) := by
  simp only [List.length_cons]
  omega
 have h2 : ((((y :: v).length : Nat) : Int) == 0) = false := by
  rw [beq_eq_false_iff_ne]
  simp only [List.length_cons]
  omega
 simp only [iA, decide_eq_true h, h2]; rfl
theorem iB_cons (x y : Int) (u v : List Int) : iB (x :: u) (y :: v) = decide (y ≤ x) := by
 have h : 0 < (((y :: v).length : Nat) : Int) := by
  simp only [List.length_cons]
  omega
 have h2 : ((((x :: u).length : Nat) : Int) == 0) = false := by
  rw [beq_eq_false_iff_ne]
  simp only [List.length_cons]
  omega
 simp only [iB, decide_eq_true h, h2]; rfl
theorem merge_step (keep : Bool → Bool → Bool) (u v : List Int) (h : ¬ (u.length = 0 ∧ v.length = 0)) :
  mergeB keep u v = (if keep (iA u v) (iB u v) = true then [if iB u v = true then v.getD 0 0 else u.getD 0 0] else []) ++ mergeB keep (if iA u v = true then u.drop 1 else u) (if iB u v = true then v.drop 1 else v) := by
 cases u with
 | nil =>
  cases v with
  | nil => simp at h
  | cons y v =>
   have e1 : iA [] (y :: v) = false := rfl
   have e2 : iB [] (y :: v) = true := by simp [iB]
   rw [mergeB, e1, e2]; simp
 | cons x u =>
  cases v with
  | nil =>
   have e1 : iA (x :: u) [] = true := by simp [iA]
   have e2 : iB (x :: u) [] = false := rfl
   rw [mergeB, e1, e2]; simp
  | cons y v =>
   rw [mergeB, iA_cons, iB_cons]
   by_cases h1 : x < y
   ·have a : x ≤ y := by omega
    have b : ¬ y ≤ x := by omega
    simp [h1, a, b]
   ·by_cases h2 : y < x
    ·have a : ¬ x ≤ y := by omega
     have b : y ≤ x := by omega
     simp [h1, h2, a, b]
    ·have a : x = y := by omega
     subst a
     simp
theorem mergeB_nil (keep : Bool → Bool → Bool) (u v : List Int) (h : u.length = 0 ∧ v.length = 0) : mergeB keep u v = [] := by
 rw [List.length_eq_zero_iff.1 h.1, List.length_eq_zero_iff.1 h.2, mergeB]
theorem Min1_c (p q : Bool) : ACalls Tryz.prog 98 [.one (.bool p), .one (.bool q)] (.one (.bool (p && !q))) [] := by
 (refine ACalls.of_body Ty_ok mixed Tryz.func98 rfl (by kernel_rfl) Tryz.ntmps98 (by simp) (congrArg Array.toList Tryz.results98) ?_)
 simp only [slotsOf]
 (repeat' (first | (with_reducible (refine aS 5 [] ?_; intro K hK)) | ((with_reducible refine aGo ?_); simp only [go_sem]) | ((iterate 6 try ((fail_if_success with_reducible refine hK _ ?_ ?_ ?_); clear hK K)); with_reducible refine hK _ ?_ ?_ ?_; rotate_left; (focus (simp only [go_sem]; exact rfl)); clear hK K) | fail))
set_option maxHeartbeats 8000000 in
theorem merge_c (a b : List Int) (f : FuncId) (keep : Bool → Bool → Bool) (hn : a.length + b.length ≤ 1000000) (hp : ∀ p q : Bool, ACalls Tryz.prog f [.one (.bool p), .one (.bool q)] (.one (.bool (keep p q))) []) :
  ACalls Tryz.prog 97 [.one (.list (ints a)), .one (.list (ints b)), .one (.clo f [])] (.one (.list (ints (mergeB keep a b)))) [] := by
 (refine ACalls.of_body Ty_ok mixed Tryz.func97 rfl (by kernel_rfl) Tryz.ntmps97 (by simp) (congrArg Array.toList Tryz.results97) ?_)
 simp only [slotsOf]
 (repeat' (first | (with_reducible first | refine aBl ?_ | (refine aS 11 [] ?_; intro K hK)) | ((with_reducible refine aGo ?_); simp only [go_sem]) | ((iterate 6 try ((fail_if_success with_reducible refine hK _ ?_ ?_ ?_); clear hK K)); with_reducible refine hK _ ?_ ?_ ?_; rotate_left; (focus (simp only [go_sem]; exact rfl)); clear hK K) | fail))
 refine awp_loop _ (by simp only [go_sem]; rfl) (List Int × List Int × List Int) (fun s => mergeB keep a b = s.2.2 ++ mergeB keep s.1 s.2.1 ∧ s.2.2.length + s.1.length + s.2.1.length ≤ a.length + b.length)
  (fun s => [(0, .one (.list (ints s.1))), (1, .one (.list (ints s.2.1))), (7, .one (.own 1))]) (fun s _ => [.row 3 1 [], .row 3 1 (ints s.2.2)]) (fun s => s.1.length + s.2.1.length) (a, b, []) ⟨by simp, by simp⟩ ?_ ?_
 ·(simp only [SubF, go_sem]; (try simp only [go_sem]); repeat' (first | exact True.intro | with_reducible refine And.intro ?_ ?_ | rfl | omega))
 ·rintro ⟨u, v, out⟩ ⟨hres, hlen⟩ L hL
  simp only at hres hlen
  (simp only [go_sem] at hL ⊢)
  (repeat' (first | (with_reducible first | refine And.intro ?_ ?_ | refine aBl ?_ | (refine aS 11 [] ?_; intro K hK)) | ((with_reducible first | refine aGo ?_ | refine rD (id := 3) ?_ | refine rD (id := 4) ?_ | refine rD (id := 7) ?_ | refine rD (id := 9) ?_); simp only [go_sem]) | ((with_reducible refine aCd ?_ ?_ (fun hb => ?_) (fun hb => ?_)); (iterate 2 simp only [go_sem]); all_goals (simp only [go_sem] at hb; try simp only [bls] at hb)) | ((iterate 6 try ((fail_if_success with_reducible refine hK _ ?_ ?_ ?_); clear hK K)); with_reducible refine hK _ ?_ ?_ ?_; rotate_left; (focus (simp only [go_sem]; exact rfl)); clear hK K) | ((with_reducible refine cA (hp _ _) ?_); simp only [go_sem]) | exact aZ | fail))
  ·rename_i h0 hA hB
   have hA' : iA u v = true := by unfold iA; simp only [bls]; omega
   have hB' : iB u v = true := by unfold iB; simp only [bls]; omega
   have hs := merge_step keep u v (by omega)
   change keep (iA u v) (iB u v) = true at hb
   rw [hb, hA', hB'] at hs
   rw [hs] at hres
   simp only [ints_one, ints_append]
   exact hL _ (u.drop 1, v.drop 1, out ++ [v.getD 0 0]) ⟨by rw [hres]; simp, by simp only [List.length_append, List.length_singleton, List.length_drop]; omega⟩ (by (simp only [SubF, go_sem]; (try simp only [go_sem]); repeat' (first | exact True.intro | with_reducible refine And.intro ?_ ?_ | rfl | omega))) (by simp only [List.length_drop]; omega)
  ·rename_i h0 hA hB
   have hA' : iA u v = true := by unfold iA; simp only [bls]; omega
   have hB' : iB u v = true := by unfold iB; simp only [bls]; omega
   have hs := merge_step keep u v (by omega)
   change keep (iA u v) (iB u v) = false at hb
   rw [hb, hA', hB'] at hs
   rw [hs] at hres
   exact hL _ (u.drop 1, v.drop 1, out) ⟨by rw [hres]; simp, by simp only [List.length_append, List.length_singleton, List.length_drop]; omega⟩ (by (simp only [SubF, go_sem]; (try simp only [go_sem]); repeat' (first | exact True.intro | with_reducible refine And.intro ?_ ?_ | rfl | omega))) (by simp only [List.length_drop]; omega)
  ·rename_i h0 hA hB
   have hA' : iA u v = true := by unfold iA; simp only [bls]; omega
   have hB' : iB u v = false := by unfold iB; simp only [bls]; omega
   have hs := merge_step keep u v (by omega)
   change keep (iA u v) (iB u v) = true at hb
   rw [hb, hA', hB'] at hs
   rw [hs] at hres
   simp only [ints_one, ints_append]
   exact hL _ (u.drop 1, v, out ++ [u.getD 0 0]) ⟨by rw [hres]; simp, by simp only [List.length_append, List.length_singleton, List.length_drop]; omega⟩ (by (simp only [SubF, go_sem]; (try simp only [go_sem]); repeat' (first | exact True.intro | with_reducible refine And.intro ?_ ?_ | rfl | omega))) (by simp only [List.length_drop]; omega)
  ·rename_i h0 hA hB
   have hA' : iA u v = true := by unfold iA; simp only [bls]; omega
   have hB' : iB u v = false := by unfold iB; simp only [bls]; omega
   have hs := merge_step keep u v (by omega)
   change keep (iA u v) (iB u v) = false at hb
   rw [hb, hA', hB'] at hs
   rw [hs] at hres
   exact hL _ (u.drop 1, v, out) ⟨by rw [hres]; simp, by simp only [List.length_append, List.length_singleton, List.length_drop]; omega⟩ (by (simp only [SubF, go_sem]; (try simp only [go_sem]); repeat' (first | exact True.intro | with_reducible refine And.intro ?_ ?_ | rfl | omega))) (by simp only [List.length_drop]; omega)
  ·rename_i h0 hA hB
   have hA' : iA u v = false := by unfold iA; simp only [bls]; omega
   have hB' : iB u v = true := by unfold iB; simp only [bls]; omega
   have hs := merge_step keep u v (by omega)
   change keep (iA u v) (iB u v) = true at hb
   rw [hb, hA', hB'] at hs
   rw [hs] at hres
   simp only [ints_one, ints_append]
   exact hL _ (u, v.drop 1, out ++ [v.getD 0 0]) ⟨by rw [hres]; simp, by simp only [List.length_append, List.length_singleton, List.length_drop]; omega⟩ (by (simp only [SubF, go_sem]; (try simp only [go_sem]); repeat' (first | exact True.intro | with_reducible refine And.intro ?_ ?_ | rfl | omega))) (by simp only [List.length_drop]; omega)
  ·rename_i h0 hA hB
   have hA' : iA u v = false := by unfold iA; simp only [bls]; omega
   have hB' : iB u v = true := by unfold iB; simp only [bls]; omega
   have hs := merge_step keep u v (by omega)
   change keep (iA u v) (iB u v) = false at hb
   rw [hb, hA', hB'] at hs
   rw [hs] at hres
   exact hL _ (u, v.drop 1, out) ⟨by rw [hres]; simp, by simp only [List.length_append, List.length_singleton, List.length_drop]; omega⟩ (by (simp only [SubF, go_sem]; (try simp only [go_sem]); repeat' (first | exact True.intro | with_reducible refine And.intro ?_ ?_ | rfl | omega))) (by simp only [List.length_drop]; omega)
  ·rw [hres, mergeB_nil keep u v (by omega), List.append_nil]
def minusB (a b : List Int) : List Int := mergeB (fun p q => p && !q) a b
theorem Minus_c (a b : List Int) (hn : a.length + b.length ≤ 1000000) : ACalls Tryz.prog 54 [.one (.list (ints a)), .one (.list (ints b))] (.one (.list (ints (minusB a b)))) [] := by
 unfold minusB
 (refine ACalls.of_body Ty_ok mixed Tryz.func54 rfl (by kernel_rfl) Tryz.ntmps54 (by simp) (congrArg Array.toList Tryz.results54) ?_)
 simp only [slotsOf]
 (repeat' (first | (with_reducible (refine aS 5 [] ?_; intro K hK)) | ((with_reducible refine aGo ?_); simp only [go_sem]) | ((iterate 6 try ((fail_if_success with_reducible refine hK _ ?_ ?_ ?_); clear hK K)); with_reducible refine hK _ ?_ ?_ ?_; rotate_left; (focus (simp only [go_sem]; exact rfl)); clear hK K) | ((with_reducible refine cA (merge_c a b 98 _ hn Min1_c) ?_); simp only [go_sem]) | fail))
theorem Subset_c (a b : List Int) (hn : a.length + b.length ≤ 1000000) : ACalls Tryz.prog 22 [.one (.list (ints a)), .one (.list (ints b))] (.one (.bool (decide ((minusB a b).length = 0)))) [] := by
 (refine ACalls.of_body Ty_ok mixed Tryz.func22 rfl (by kernel_rfl) Tryz.ntmps22 (by simp) (congrArg Array.toList Tryz.results22) ?_)
 simp only [slotsOf]
 (repeat' (first | (with_reducible (refine aS 5 [] ?_; intro K hK)) | ((with_reducible refine aGo ?_); simp only [go_sem]) | ((iterate 6 try ((fail_if_success with_reducible refine hK _ ?_ ?_ ?_); clear hK K)); with_reducible refine hK _ ?_ ?_ ?_; rotate_left; (focus (simp only [go_sem]; exact rfl)); clear hK K) | ((with_reducible refine cA (Minus_c a b hn) ?_); simp only [go_sem]) | fail))
 rw [Bool.eq_iff_iff]; simp
end Go.Proofs.YtljpfdehnjemlaaGreatDoor
set_option linter.unusedSimpArgs false
set_option linter.unusedVariables false
namespace Go.Proofs.YtljpfdehnjemlaaGreatDoor
open Go.Eng Go.RowKit
theorem slNaN_c (x : Int) : ACalls Tryz.prog 179 [.one (.int .i64 x)] (.one (.bool false)) [] := by
 (refine ACalls.of_body Ty_ok mixed Tryz.func179 rfl (by kernel_rfl) Tryz.ntmps179 (by simp) (congrArg Array.toList Tryz.results179) ?_)
 simp only [slotsOf]
 (repeat' (first | (with_reducible (refine aS 3 [] ?_; intro K hK)) | ((with_reducible refine aGo ?_); simp only [go_sem]) | ((iterate 6 try ((fail_if_success with_reducible refine hK _ ?_ ?_ ?_); clear hK K)); with_reducible refine hK _ ?_ ?_ ?_; rotate_left; (focus (simp only [go_sem]; exact rfl)); clear hK K) | fail))
 simp
theorem cmpNaN_c (x : Int) : ACalls Tryz.prog 175 [.one (.int .i64 x)] (.one (.bool false)) [] := by
 (refine ACalls.of_body Ty_ok mixed Tryz.func175 rfl (by kernel_rfl) Tryz.ntmps175 (by simp) (congrArg Array.toList Tryz.results175) ?_)
 simp only [slotsOf]
 (repeat' (first | (with_reducible (refine aS 3 [] ?_; intro K hK)) | ((with_reducible refine aGo ?_); simp only [go_sem]) | ((iterate 6 try ((fail_if_success with_reducible refine hK _ ?_ ?_ ?_); clear hK K)); with_reducible refine hK _ ?_ ?_ ?_; rotate_left; (focus (simp only [go_sem]; exact rfl)); clear hK K) | fail))
 simp
theorem Less_c (x y : Int) : ACalls Tryz.prog 143 [.one (.int .i64 x), .one (.int .i64 y)] (.one (.bool (decide (x < y)))) [] := by
 (refine ACalls.of_body Ty_ok mixed Tryz.func143 rfl (by kernel_rfl) Tryz.ntmps143 (by simp) (congrArg Array.toList Tryz.results143) ?_)
 simp only [slotsOf]
 (repeat' (first | (with_reducible (refine aS 5 [] ?_; intro K hK)) | ((with_reducible refine aGo ?_); simp only [go_sem]) | ((iterate 6 try ((fail_if_success with_reducible refine hK _ ?_ ?_ ?_); clear hK K)); with_reducible refine hK _ ?_ ?_ ?_; rotate_left; (focus (simp only [go_sem]; exact rfl)); clear hK K) | ((with_reducible first | refine cA (cmpNaN_c x) ?_ | refine cG (fun hg => (cmpNaN_c y)) ?_); simp only [go_sem]) | fail))
def below (xs : List Int) (x : Int) : Nat := (xs.filter fun z => decide (z < x)).length
theorem mid_eq (i j : Nat) (hj : i + j ≤ 4611686018427387904) : IntKind.i64.wrap ((IntKind.u64.wrap ((i : Int) + (j : Int))).fdiv (2 ^ min 1 64)) = (((i + j) / 2 : Nat) : Int) := by
 rw [wrap_u64 _ (by omega) (by omega), show min 1 64 = 1 from rfl, show ((i : Int) + (j : Int)) = ((i + j : Nat) : Int) by omega, fdiv_nat]
 exact wrap_fits ((fits_i64 _).2 ⟨by omega, by omega⟩)
theorem below_at (xs : List Int) (x : Int) (k : Nat) (hk : k ≤ xs.length) (h1 : ∀ t, t < k → xs.getD t 0 < x) (h2 : ∀ t, k ≤ t → t < xs.length → x ≤ xs.getD t 0) : below xs x = k := by
 have e : xs = xs.take k ++ xs.drop k := (List.take_append_drop k xs).symm
 have e1 : (xs.take k).filter (fun z => decide (z < x)) = xs.take k := by
  rw [List.filter_eq_self]
  intro z hz
  obtain ⟨t, ht, rfl⟩ := List.mem_iff_getElem.1 hz
  have htk : t < k := by simp at ht; omega
  have htl : t < xs.length := by simp at ht; omega
  have := h1 t htk
  simpa [List.getD, List.getElem?_eq_getElem htl] using this
 have e2 : (xs.drop k).filter (fun z => decide (z < x)) = [] := by
  rw [List.filter_eq_nil_iff]
  intro z hz
  obtain ⟨t, ht, rfl⟩ := List.mem_iff_getElem.1 hz
  have htl : k + t < xs.length := by simp at ht; omega
  have := h2 (k + t) (by omega) htl
  rw [List.getElem_drop]
  simp [List.getD, List.getElem?_eq_getElem htl] at this ⊢
  omega
 rw [below, e, List.filter_append, e1, e2]
 simp
 omega
theorem found_at (xs : List Int) (x : Int) (k : Nat) (hk : k ≤ xs.length) (h1 : ∀ t, t < k → xs.getD t 0 < x) (h2 : ∀ t, k ≤ t → t < xs.length → x ≤ xs.getD t 0) (hs : ∀ a b, a ≤ b → b < xs.length → xs.getD a 0 ≤ xs.getD b 0) :
  decide (x ∈ xs) = (decide (k < xs.length) && decide (xs.getD k 0 = x)) := by
 rw [Bool.eq_iff_iff]
 simp only [decide_eq_true_eq, Bool.and_eq_true]
 constructor
 ·intro hx
  obtain ⟨t, ht, rfl⟩ := List.mem_iff_getElem.1 hx
  have hg : xs.getD t 0 = xs[t] := by simp [List.getD, List.getElem?_eq_getElem ht]
  have hkt : k ≤ t := Nat.le_of_not_lt fun h => by have := h1 t h; omega
  have := hs k t hkt ht
  have := h2 k (Nat.le_refl _) (by omega)
  exact ⟨by omega, by omega⟩
 ·rintro ⟨hk, rfl⟩
  exact getD_mem xs k 0 hk
theorem sorted_getD {xs : List Int} (h : xs.Pairwise (· ≤ ·)) : ∀ a b, a ≤ b → b < xs.length → xs.getD a 0 ≤ xs.getD b 0 := by
 intro a b hab hb
 by_cases e : a = b
 ·subst e; exact Int.le_refl _
 ·have := (List.pairwise_iff_getElem.1 h) a b (by omega) hb (by omega)
  simpa [List.getD, List.getElem?_eq_getElem hb, List.getElem?_eq_getElem (show a < xs.length by omega)] using this
set_option maxHeartbeats 4000000 in
theorem BinarySearch_c (xs : List Int) (x : Int) (hn : xs.length ≤ 1000000) (hs : xs.Pairwise (· ≤ ·)) : ACalls Tryz.prog 158 [.one (.list (ints xs)), .one (.int .i64 x)] (.tup [.one (.int .i64 (below xs x)), .one (.bool (decide (x ∈ xs)))]) [] := by
 have hsort := sorted_getD hs
 (refine ACalls.of_body Ty_ok mixed Tryz.func158 rfl (by kernel_rfl) Tryz.ntmps158 (by simp) (congrArg Array.toList Tryz.results158) ?_)
 simp only [slotsOf]
 (repeat' (first | (with_reducible first | refine aBl ?_ | (refine aS 10 [] ?_; intro K hK)) | ((with_reducible refine aGo ?_); simp only [go_sem]) | ((iterate 6 try ((fail_if_success with_reducible refine hK _ ?_ ?_ ?_); clear hK K)); with_reducible refine hK _ ?_ ?_ ?_; rotate_left; (focus (simp only [go_sem]; exact rfl)); clear hK K) | fail))
 refine awp_loop _ (by simp only [go_sem]; rfl) (Nat × Nat) (fun s => s.1 ≤ s.2 ∧ s.2 ≤ xs.length ∧ (∀ t, t < s.1 → xs.getD t 0 < x) ∧ ∀ t, s.2 ≤ t → t < xs.length → x ≤ xs.getD t 0) (fun s => [(7, .one (.int .i64 s.1)), (8, .one (.int .i64 s.2))]) (fun _ H => H) (fun s => s.2 - s.1) (0, xs.length) ⟨Nat.zero_le _, Nat.le_refl _, (fun t h => absurd h (Nat.not_lt_zero t)), (fun t h1 h2 => absurd h2 (Nat.not_lt.2 h1))⟩ ?_ ?_
 ·(simp only [SubF, go_sem]; (try simp only [go_sem]); repeat' (first | exact True.intro | with_reducible refine And.intro ?_ ?_ | rfl | omega))
 ·rintro ⟨i, j⟩ ⟨h1, h2, h3, h4⟩ L hL
  simp only at h1 h2 h3 h4
  have hm := mid_eq i j (by omega)
  (simp only [go_sem] at hL ⊢)
  (repeat' (first | (with_reducible first | refine And.intro ?_ ?_ | refine aBl ?_ | (refine aS 10 [] ?_; intro K hK)) | ((with_reducible refine aGo ?_); simp only [hm, go_sem]) | ((with_reducible refine aCd ?_ ?_ (fun hb => ?_) (fun hb => ?_)); (iterate 2 simp only [hm, go_sem]); all_goals (simp only [hm, go_sem] at hb; try simp only [bls] at hb)) | ((iterate 6 try ((fail_if_success with_reducible refine hK _ ?_ ?_ ?_); clear hK K)); with_reducible refine hK _ ?_ ?_ ?_; rotate_left; (focus (simp only [hm, go_sem]; exact rfl)); clear hK K) | ((with_reducible first | refine cA (Less_c (xs.getD ((i + j) / 2) 0) x) ?_ | refine cG (fun hg => (slNaN_c _)) ?_); simp only [hm, go_sem]) | exact aZ | fail))
  ·exact hL _ ((i + j) / 2 + 1, j) ⟨by simp only; omega, by simp only; omega, fun t ht => by
    simp only at ht
    have := hsort t ((i + j) / 2) (by omega) (by omega)
    omega, fun t h5 h6 => h4 t h5 h6⟩ (by (simp only [SubF, go_sem]; (try simp only [go_sem]); repeat' (first | exact True.intro | with_reducible refine And.intro ?_ ?_ | rfl | omega))) (by simp only; omega)
  ·exact hL _ (i, (i + j) / 2) ⟨by simp only; omega, by simp only; omega, h3, fun t h5 h6 => by
    simp only at h5
    have := hsort ((i + j) / 2) t h5 h6
    omega⟩ (by (simp only [SubF, go_sem]; (try simp only [go_sem]); repeat' (first | exact True.intro | with_reducible refine And.intro ?_ ?_ | rfl | omega))) (by simp only; omega)
  all_goals
   have hij : i = j := by omega
   subst hij
   have e1 := below_at xs x i h2 h3 h4
   have e2 := found_at xs x i h2 h3 h4 hsort
   first
    | (rw [e1]; done)
    | (rw [e2, Bool.eq_iff_iff]; simp; done)
    | skip
theorem Contains_c (xs : List Int) (x : Int) (hn : xs.length ≤ 1000000) (hs : xs.Pairwise (· ≤ ·)) : ACalls Tryz.prog 129 [.one (.list (ints xs)), .one (.int .i64 x)] (.one (.bool (decide (x ∈ xs)))) [] := by
 (refine ACalls.of_body Ty_ok mixed Tryz.func129 rfl (by kernel_rfl) Tryz.ntmps129 (by simp) (congrArg Array.toList Tryz.results129) ?_)
 simp only [slotsOf]
 (repeat' (first | (with_reducible (refine aS 5 [6] ?_; intro K hK)) | ((with_reducible refine aGo ?_); simp only [go_sem]) | ((iterate 6 try ((fail_if_success with_reducible refine hK _ ?_ ?_ ?_); clear hK K)); with_reducible refine hK _ ?_ ?_ ?_; rotate_left; (focus (simp only [go_sem]; exact rfl)); clear hK K) | ((with_reducible refine cA (BinarySearch_c xs x hn hs) ?_); simp only [go_sem]) | fail))
def bitsL (m k : Nat) : List Int := ((List.range k).filter fun i => m.testBit i).map Int.ofNat
theorem bitsL_succ (m k : Nat) : bitsL m (k + 1) = bitsL m k ++ if m.testBit k = true then [(k : Int)] else [] := by
 simp only [bitsL, List.range_succ, List.filter_append, List.map_append]
 congr 1
 by_cases h : m.testBit k = true <;> simp [List.filter_cons, h]
theorem bitsL_length (m k : Nat) : (bitsL m k).length ≤ k := by
 simp only [bitsL, List.length_map]
 exact Nat.le_trans (List.length_filter_le _ _) (by simp)
def setOf (m : Nat) : List Int := bitsL m 32
theorem testBit_and (m k : Nat) (hm : m < 4294967296) (hk : k < 32) : bitV .and .u32 ((m : Int).fdiv (2 ^ min k 32)) 1 = 1 ↔ m.testBit k = true := by
 rw [Nat.min_eq_left (by omega), fdiv_nat, show (1 : Int) = ((1 : Nat) : Int) from rfl, and_u32 _ _ (Nat.lt_of_le_of_lt (Nat.div_le_self _ _) hm) (by omega), Nat.testBit_eq_decide_div_mod_eq, decide_eq_true_iff, Nat.and_one_is_mod]
 generalize m / 2 ^ k = q
 omega
set_option maxHeartbeats 4000000 in
theorem Set_c (m : Nat) (hm : m < 4294967296) : ACalls Tryz.prog 159 [.one (.int .u32 m)] (.one (.list (ints (setOf m)))) [] := by
 (refine ACalls.of_body Ty_ok mixed Tryz.func159 rfl (by kernel_rfl) Tryz.ntmps159 (by simp) (congrArg Array.toList Tryz.results159) ?_)
 simp only [slotsOf]
 (repeat' (first | (with_reducible first | refine aBl ?_ | (refine aS 6 [] ?_; intro K hK)) | ((with_reducible refine aGo ?_); simp only [go_sem]) | ((iterate 6 try ((fail_if_success with_reducible refine hK _ ?_ ?_ ?_); clear hK K)); with_reducible refine hK _ ?_ ?_ ?_; rotate_left; (focus (simp only [go_sem]; exact rfl)); clear hK K) | fail))
 refine awp_loop _ (by simp only [go_sem]; rfl) Nat (fun k => k ≤ 32) (fun k => [(3, .one (.own 1)), (5, .one (.int .i64 k))]) (fun k H => [.row 3 1 [], .row 3 1 (ints (bitsL m k))]) (fun k => 32 - k) 0 (by omega) ?_ ?_
 ·(simp only [SubF, go_sem]; (try simp only [go_sem]); repeat' (first | exact True.intro | with_reducible refine And.intro ?_ ?_ | rfl | omega))
 ·rintro k hk L hL
  have hlen := bitsL_length m k
  (simp only [go_sem] at hL ⊢)
  (repeat' (first | (with_reducible first | refine And.intro ?_ ?_ | refine aBl ?_ | (refine aS 6 [] ?_; intro K hK)) | ((with_reducible refine aGo ?_); simp only [go_sem]) | ((with_reducible refine aCd ?_ ?_ (fun hb => ?_) (fun hb => ?_)); (iterate 2 simp only [go_sem]); all_goals (simp only [go_sem] at hb; try simp only [bls] at hb)) | ((iterate 6 try ((fail_if_success with_reducible refine hK _ ?_ ?_ ?_); clear hK K)); with_reducible refine hK _ ?_ ?_ ?_; rotate_left; (focus (simp only [go_sem]; exact rfl)); clear hK K) | exact aZ | fail))
  ·rw [testBit_and m k hm (by omega)] at hb
   have e := bitsL_succ m k
   rw [if_pos hb] at e
   simp only [ints_one, ints_append, ← e]
   exact hL _ (k + 1) (by omega) (by (simp only [SubF, go_sem]; (try simp only [go_sem]); repeat' (first | exact True.intro | with_reducible refine And.intro ?_ ?_ | rfl | omega))) (by omega)
  ·rw [testBit_and m k hm (by omega)] at hb
   have e := bitsL_succ m k
   rw [if_neg hb, List.append_nil] at e
   simp only [← e]
   exact hL _ (k + 1) (by omega) (by (simp only [SubF, go_sem]; (try simp only [go_sem]); repeat' (first | exact True.intro | with_reducible refine And.intro ?_ ?_ | rfl | omega))) (by omega)
  ·have : k = 32 := by omega
   subst this; rfl
end Go.Proofs.YtljpfdehnjemlaaGreatDoor
