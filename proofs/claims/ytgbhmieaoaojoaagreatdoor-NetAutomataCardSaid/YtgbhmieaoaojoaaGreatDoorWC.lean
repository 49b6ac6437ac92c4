/-
 Contracts: binary search; sets out of masks.
-/
import Derived.Test.YtgbhmieaoaojoaaGreatDoorWB
set_option linter.unusedSimpArgs false
set_option linter.unusedVariables false
namespace Go.Proofs.YtgbhmieaoaojoaaGreatDoor
open Go.Eng Go.RowKit
theorem slNaN_c (x : Int) : ACalls Tryz.prog 147 [.one (.int .i64 x)] (.one (.bool false)) [] := by
 (refine ACalls.of_body Ty_ok mixed Tryz.func147 rfl (by kernel_rfl) Tryz.ntmps147 (by simp) (congrArg Array.toList Tryz.results147) ?_)
 simp only [slotsOf]
 (repeat' (first | (with_reducible first | exact True.intro | refine And.intro ?_ ?_ | refine aBl ?_ | (refine aS 3 [] ?_; intro K hK)) | ((with_reducible first | refine aGo ?_); simp only [go_sem]) | ((with_reducible refine aCd ?_ ?_ (fun hb => ?_) (fun hb => ?_)); (iterate 2 simp only [go_sem]); all_goals (simp only [go_sem] at hb; try simp only [bls] at hb)) | ((iterate 6 try ((fail_if_success with_reducible refine hK _ ?_ ?_ ?_); clear hK K)); with_reducible refine hK _ ?_ ?_ ?_; rotate_left; (focus (simp only [go_sem]; exact rfl)); clear hK K) | (with_reducible refine aGs (fun hg0 => ?_) (fun hg0 => ?_) <;> first | (with_reducible first | exact aF1 hg0 | exact aF2 hg0) | (simp only [hg0, go_sem])) | (with_reducible refine aNk ?_; intro bnil hnil; try simp only []) | exact aZ | fail))
 simp
theorem cmpNaN_c (x : Int) : ACalls Tryz.prog 181 [.one (.int .i64 x)] (.one (.bool false)) [] := by
 (refine ACalls.of_body Ty_ok mixed Tryz.func181 rfl (by kernel_rfl) Tryz.ntmps181 (by simp) (congrArg Array.toList Tryz.results181) ?_)
 simp only [slotsOf]
 (repeat' (first | (with_reducible first | exact True.intro | refine And.intro ?_ ?_ | refine aBl ?_ | (refine aS 3 [] ?_; intro K hK)) | ((with_reducible first | refine aGo ?_); simp only [go_sem]) | ((with_reducible refine aCd ?_ ?_ (fun hb => ?_) (fun hb => ?_)); (iterate 2 simp only [go_sem]); all_goals (simp only [go_sem] at hb; try simp only [bls] at hb)) | ((iterate 6 try ((fail_if_success with_reducible refine hK _ ?_ ?_ ?_); clear hK K)); with_reducible refine hK _ ?_ ?_ ?_; rotate_left; (focus (simp only [go_sem]; exact rfl)); clear hK K) | (with_reducible refine aGs (fun hg0 => ?_) (fun hg0 => ?_) <;> first | (with_reducible first | exact aF1 hg0 | exact aF2 hg0) | (simp only [hg0, go_sem])) | (with_reducible refine aNk ?_; intro bnil hnil; try simp only []) | exact aZ | fail))
 simp
theorem Less_c (x y : Int) : ACalls Tryz.prog 146 [.one (.int .i64 x), .one (.int .i64 y)] (.one (.bool (decide (x < y)))) [] := by
 (refine ACalls.of_body Ty_ok mixed Tryz.func146 rfl (by kernel_rfl) Tryz.ntmps146 (by simp) (congrArg Array.toList Tryz.results146) ?_)
 simp only [slotsOf]
 (repeat' (first | (with_reducible first | exact True.intro | refine And.intro ?_ ?_ | refine aBl ?_ | (refine aS 5 [] ?_; intro K hK)) | ((with_reducible first | refine aGo ?_); simp only [go_sem]) | ((with_reducible refine aCd ?_ ?_ (fun hb => ?_) (fun hb => ?_)); (iterate 2 simp only [go_sem]); all_goals (simp only [go_sem] at hb; try simp only [bls] at hb)) | ((iterate 6 try ((fail_if_success with_reducible refine hK _ ?_ ?_ ?_); clear hK K)); with_reducible refine hK _ ?_ ?_ ?_; rotate_left; (focus (simp only [go_sem]; exact rfl)); clear hK K) | ((first | (with_reducible first | refine cA (cmpNaN_c x) ?_ | refine cD (cmpNaN_c x) ?_ | refine cO (cmpNaN_c x) ?_ | refine cR (cmpNaN_c x) ?_ | refine cG (fun hg => (cmpNaN_c x)) ?_ | refine cH (fun hg => (cmpNaN_c x)) ?_ | refine cM (fun hg => (cmpNaN_c x)) ?_ | refine cA (cmpNaN_c y) ?_ | refine cD (cmpNaN_c y) ?_ | refine cO (cmpNaN_c y) ?_ | refine cR (cmpNaN_c y) ?_ | refine cG (fun hg => (cmpNaN_c y)) ?_ | refine cH (fun hg => (cmpNaN_c y)) ?_ | refine cM (fun hg => (cmpNaN_c y)) ?_) | ((with_reducible refine gA ?_); refine cA (cmpNaN_c x) ?_) | ((with_reducible refine gD ?_); refine cD (cmpNaN_c x) ?_) | ((with_reducible refine gG ?_); refine cG (fun hg => (cmpNaN_c x)) ?_) | ((with_reducible refine gA ?_); refine cA (cmpNaN_c y) ?_) | ((with_reducible refine gD ?_); refine cD (cmpNaN_c y) ?_) | ((with_reducible refine gG ?_); refine cG (fun hg => (cmpNaN_c y)) ?_)); simp only [go_sem]) | (with_reducible refine aGs (fun hg0 => ?_) (fun hg0 => ?_) <;> first | (with_reducible first | exact aF1 hg0 | exact aF2 hg0) | (simp only [hg0, go_sem])) | (with_reducible refine aNk ?_; intro bnil hnil; try simp only []) | exact aZ | fail))
def below (xs : List Int) (x : Int) : Nat := (xs.filter fun z => decide (z < x)).length
theorem below_le (xs : List Int) (x : Int) : below xs x ≤ xs.length := List.length_filter_le _ _
theorem mid_eq (i j : Nat) (hj : i + j ≤ 4611686018427387904) : IntKind.i64.wrap ((IntKind.u64.wrap ((i : Int) + (j : Int))).fdiv (2 ^ min 1 64)) = (((i + j) / 2 : Nat) : Int) := by
 rw [wrap_u64 _ (by omega) (by omega), show min 1 64 = 1 from rfl, show ((i : Int) + (j : Int)) = ((i + j : Nat) : Int) by omega, fdiv_nat]
 exact wrap_fits ((fits_i64 _).2 ⟨by omega, by omega⟩)
theorem below_at (xs : List Int) (x : Int) (k : Nat) (hk : k ≤ xs.length) (h1 : ∀ t, t < k → xs.getD t 0 < x) (h2 : ∀ t, k ≤ t → t < xs.length → x ≤ xs.getD t 0) : below xs x = k := by
 have e : xs = xs.take k ++ xs.drop k := (List.take_append_drop k xs).symm
 have e1 : (xs.take k).filter (fun z => decide (z < x)) = xs.take k := by
  rw [List.filter_eq_self]
  intro z hz
  obtain ⟨t, ht, rfl⟩ := List.mem_iff_getElem.1 hz
  have htk : t < k := by simp at ht; omega
  have htl : t < xs.length := by simp at ht; omega
  have := h1 t htk
  simpa [List.getD, List.getElem?_eq_getElem htl] using this
 have e2 : (xs.drop k).filter (fun z => decide (z < x)) = [] := by
  rw [List.filter_eq_nil_iff]
  intro z hz
  obtain ⟨t, ht, rfl⟩ := List.mem_iff_getElem.1 hz
  have htl : k + t < xs.length := by simp at ht; omega
  have := h2 (k + t) (by omega) htl
  rw [List.getElem_drop]
  simp [List.getD, List.getElem?_eq_getElem htl] at this ⊢
  omega
 rw [below, e, List.filter_append, e1, e2]
 simp
 omega
theorem found_at (xs : List Int) (x : Int) (k : Nat) (hk : k ≤ xs.length) (h1 : ∀ t, t < k → xs.getD t 0 < x) (h2 : ∀ t, k ≤ t → t < xs.length → x ≤ xs.getD t 0) (hs : ∀ a b, a ≤ b → b < xs.length → xs.getD a 0 ≤ xs.getD b 0) :
  decide (x ∈ xs) = (decide (k < xs.length) && decide (xs.getD k 0 = x)) := by
 rw [Bool.eq_iff_iff]
 simp only [decide_eq_true_eq, Bool.and_eq_true]
 constructor
 ·intro hx
  obtain ⟨t, ht, rfl⟩ := List.mem_iff_getElem.1 hx
  have hg : xs.getD t 0 = xs[t] := by simp [List.getD, List.getElem?_eq_getElem ht]
  have hkt : k ≤ t := Nat.le_of_not_lt fun h => by have := h1 t h; omega
  have := hs k t hkt ht
  have := h2 k (Nat.le_refl _) (by omega)
  exact ⟨by omega, by omega⟩
 ·rintro ⟨hk, rfl⟩
  exact getD_mem xs k 0 hk
theorem sorted_getD {xs : List Int} (h : xs.Pairwise (· ≤ ·)) : ∀ a b, a ≤ b → b < xs.length → xs.getD a 0 ≤ xs.getD b 0 := by
 intro a b hab hb
 by_cases e : a = b
 ·subst e; exact Int.le_refl _
 ·have := (List.pairwise_iff_getElem.1 h) a b (by omega) hb (by omega)
  simpa [List.getD, List.getElem?_eq_getElem hb, List.getElem?_eq_getElem (show a < xs.length by omega)] using this
set_option maxHeartbeats 4000000 in
theorem BinarySearch_c (xs : List Int) (x : Int) (hn : xs.length ≤ 1000000) (hs : xs.Pairwise (· ≤ ·)) : ACalls Tryz.prog 121 [.one (.list (ints xs)), .one (.int .i64 x)] (.tup [.one (.int .i64 (below xs x)), .one (.bool (decide (x ∈ xs)))]) [] := by
 have hsort := sorted_getD hs
 (refine ACalls.of_body Ty_ok mixed Tryz.func121 rfl (by kernel_rfl) Tryz.ntmps121 (by simp) (congrArg Array.toList Tryz.results121) ?_)
 simp only [slotsOf]
 (repeat' (first | (with_reducible first | exact True.intro | refine And.intro ?_ ?_ | refine aBl ?_ | (refine aS 10 [] ?_; intro K hK)) | ((with_reducible first | refine aGo ?_); simp only [go_sem]) | ((with_reducible refine aCd ?_ ?_ (fun hb => ?_) (fun hb => ?_)); (iterate 2 simp only [go_sem]); all_goals (simp only [go_sem] at hb; try simp only [bls] at hb)) | ((iterate 6 try ((fail_if_success with_reducible refine hK _ ?_ ?_ ?_); clear hK K)); with_reducible refine hK _ ?_ ?_ ?_; rotate_left; (focus (simp only [go_sem]; exact rfl)); clear hK K) | (with_reducible refine aGs (fun hg0 => ?_) (fun hg0 => ?_) <;> first | (with_reducible first | exact aF1 hg0 | exact aF2 hg0) | (simp only [hg0, go_sem])) | (with_reducible refine aNk ?_; intro bnil hnil; try simp only []) | exact aZ | fail))
 refine awp_loop _ (by simp only [go_sem]; rfl) (Nat × Nat) (fun s => s.1 ≤ s.2 ∧ s.2 ≤ xs.length ∧ (∀ t, t < s.1 → xs.getD t 0 < x) ∧ ∀ t, s.2 ≤ t → t < xs.length → x ≤ xs.getD t 0) (fun s => [(7, .one (.int .i64 s.1)), (8, .one (.int .i64 s.2))]) (fun _ H => H) (fun s => s.2 - s.1) (0, xs.length) ⟨Nat.zero_le _, Nat.le_refl _, (fun t h => absurd h (Nat.not_lt_zero t)), (fun t h1 h2 => absurd h2 (Nat.not_lt.2 h1))⟩ ?_ ?_
 ·(simp only [SubF, go_sem]; (try simp only [go_sem]); repeat' (first | exact True.intro | with_reducible refine And.intro ?_ ?_ | rfl | omega))
 ·rintro ⟨i, j⟩ ⟨h1, h2, h3, h4⟩ L hL
  simp only at h1 h2 h3 h4
  have hm := mid_eq i j (by omega)
  (simp only [go_sem] at hL ⊢)
  (repeat' (first | (with_reducible first | exact True.intro | refine And.intro ?_ ?_ | refine aBl ?_ | (refine aS 10 [] ?_; intro K hK)) | ((with_reducible first | refine aGo ?_); simp only [hm, go_sem]) | ((with_reducible refine aCd ?_ ?_ (fun hb => ?_) (fun hb => ?_)); (iterate 2 simp only [hm, go_sem]); all_goals (simp only [hm, go_sem] at hb; try simp only [bls] at hb)) | ((iterate 6 try ((fail_if_success with_reducible refine hK _ ?_ ?_ ?_); clear hK K)); with_reducible refine hK _ ?_ ?_ ?_; rotate_left; (focus (simp only [hm, go_sem]; exact rfl)); clear hK K) | ((first | (with_reducible first | refine cA (Less_c (xs.getD ((i + j) / 2) 0) x) ?_ | refine cD (Less_c (xs.getD ((i + j) / 2) 0) x) ?_ | refine cO (Less_c (xs.getD ((i + j) / 2) 0) x) ?_ | refine cR (Less_c (xs.getD ((i + j) / 2) 0) x) ?_ | refine cG (fun hg => (Less_c (xs.getD ((i + j) / 2) 0) x)) ?_ | refine cH (fun hg => (Less_c (xs.getD ((i + j) / 2) 0) x)) ?_ | refine cM (fun hg => (Less_c (xs.getD ((i + j) / 2) 0) x)) ?_ | refine cA (slNaN_c _) ?_ | refine cD (slNaN_c _) ?_ | refine cO (slNaN_c _) ?_ | refine cR (slNaN_c _) ?_ | refine cG (fun hg => (slNaN_c _)) ?_ | refine cH (fun hg => (slNaN_c _)) ?_ | refine cM (fun hg => (slNaN_c _)) ?_) | ((with_reducible refine gA ?_); refine cA (Less_c (xs.getD ((i + j) / 2) 0) x) ?_) | ((with_reducible refine gD ?_); refine cD (Less_c (xs.getD ((i + j) / 2) 0) x) ?_) | ((with_reducible refine gG ?_); refine cG (fun hg => (Less_c (xs.getD ((i + j) / 2) 0) x)) ?_) | ((with_reducible refine gA ?_); refine cA (slNaN_c _) ?_) | ((with_reducible refine gD ?_); refine cD (slNaN_c _) ?_) | ((with_reducible refine gG ?_); refine cG (fun hg => (slNaN_c _)) ?_)); simp only [hm, go_sem]) | (with_reducible refine aGs (fun hg0 => ?_) (fun hg0 => ?_) <;> first | (with_reducible first | exact aF1 hg0 | exact aF2 hg0) | (simp only [hg0, hm, go_sem])) | (with_reducible refine aNk ?_; intro bnil hnil; try simp only []) | exact aZ | fail))
  ·exact hL _ ((i + j) / 2 + 1, j) ⟨by simp only; omega, by simp only; omega, fun t ht => by
    simp only at ht
    have := hsort t ((i + j) / 2) (by omega) (by omega)
    omega, fun t h5 h6 => h4 t h5 h6⟩ (by (simp only [SubF, go_sem]; (try simp only [go_sem]); repeat' (first | exact True.intro | with_reducible refine And.intro ?_ ?_ | rfl | omega))) (by simp only; omega)
  ·exact hL _ (i, (i + j) / 2) ⟨by simp only; omega, by simp only; omega, h3, fun t h5 h6 => by
    simp only at h5
    have := hsort ((i + j) / 2) t h5 h6
    omega⟩ (by (simp only [SubF, go_sem]; (try simp only [go_sem]); repeat' (first | exact True.intro | with_reducible refine And.intro ?_ ?_ | rfl | omega))) (by simp only; omega)
  all_goals
   have hij : i = j := by omega
   subst hij
   have e1 := below_at xs x i h2 h3 h4
   have e2 := found_at xs x i h2 h3 h4 hsort
   first
    | (rw [e1]; done)
    | (rw [e2, Bool.eq_iff_iff]; simp; done)
    | skip
end Go.Proofs.YtgbhmieaoaojoaaGreatDoor
