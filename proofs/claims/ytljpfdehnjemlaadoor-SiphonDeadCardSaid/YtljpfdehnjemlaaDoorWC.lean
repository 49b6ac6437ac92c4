/-
 Contracts: binary search; sets out of masks.
-/
import Derived.Test.YtljpfdehnjemlaaDoorWB
set_option linter.unusedSimpArgs false
set_option linter.unusedVariables false
namespace Go.Proofs.YtljpfdehnjemlaaDoor
open Go.Eng Go.RowKit
theorem slNaN_c (x : Int) : ACalls Tryd.prog 86 [.one (.int .i64 x)] (.one (.bool false)) [] := by
 (refine ACalls.of_body Ty_ok mixed Tryd.func86 rfl (by kernel_rfl) Tryd.ntmps86 (by simp) (congrArg Array.toList Tryd.results86) ?_)
 simp only [slotsOf]
 (repeat' (first | (with_reducible first | exact True.intro | refine And.intro ?_ ?_ | refine aBl ?_ | (refine aS 3 [] ?_; intro K hK)) | ((with_reducible first | refine aGo ?_); simp only [go_sem]) | ((with_reducible refine aCd ?_ ?_ (fun hb => ?_) (fun hb => ?_)); (iterate 2 simp only [go_sem]); all_goals (simp only [go_sem] at hb; try simp only [bls] at hb)) | ((iterate 6 try ((fail_if_success with_reducible refine hK _ ?_ ?_ ?_); clear hK K)); with_reducible refine hK _ ?_ ?_ ?_; rotate_left; (focus (simp only [go_sem]; exact rfl)); clear hK K) | (with_reducible refine aGs (fun hg0 => ?_) (fun hg0 => ?_) <;> first | (with_reducible first | exact aF1 hg0 | exact aF2 hg0) | (simp only [hg0, go_sem])) | (with_reducible refine aNk ?_; intro bnil hnil; try simp only []) | exact aZ | fail))
 simp
theorem cmpNaN_c (x : Int) : ACalls Tryd.prog 46 [.one (.int .i64 x)] (.one (.bool false)) [] := by
 (refine ACalls.of_body Ty_ok mixed Tryd.func46 rfl (by kernel_rfl) Tryd.ntmps46 (by simp) (congrArg Array.toList Tryd.results46) ?_)
 simp only [slotsOf]
 (repeat' (first | (with_reducible first | exact True.intro | refine And.intro ?_ ?_ | refine aBl ?_ | (refine aS 3 [] ?_; intro K hK)) | ((with_reducible first | refine aGo ?_); simp only [go_sem]) | ((with_reducible refine aCd ?_ ?_ (fun hb => ?_) (fun hb => ?_)); (iterate 2 simp only [go_sem]); all_goals (simp only [go_sem] at hb; try simp only [bls] at hb)) | ((iterate 6 try ((fail_if_success with_reducible refine hK _ ?_ ?_ ?_); clear hK K)); with_reducible refine hK _ ?_ ?_ ?_; rotate_left; (focus (simp only [go_sem]; exact rfl)); clear hK K) | (with_reducible refine aGs (fun hg0 => ?_) (fun hg0 => ?_) <;> first | (with_reducible first | exact aF1 hg0 | exact aF2 hg0) | (simp only [hg0, go_sem])) | (with_reducible refine aNk ?_; intro bnil hnil; try simp only []) | exact aZ | fail))
 simp
theorem Less_c (x y : Int) : ACalls Tryd.prog 85 [.one (.int .i64 x), .one (.int .i64 y)] (.one (.bool (decide (x < y)))) [] := by
 (refine ACalls.of_body Ty_ok mixed Tryd.func85 rfl (by kernel_rfl) Tryd.ntmps85 (by simp) (congrArg Array.toList Tryd.results85) ?_)
 simp only [slotsOf]
 (repeat' (first | (with_reducible first | exact True.intro | refine And.intro ?_ ?_ | refine aBl ?_ | (refine aS 5 [] ?_; intro K hK)) | ((with_reducible first | refine aGo ?_); simp only [go_sem]) | ((with_reducible refine aCd ?_ ?_ (fun hb => ?_) (fun hb => ?_)); (iterate 2 simp only [go_sem]); all_goals (simp only [go_sem] at hb; try simp only [bls] at hb)) | ((iterate 6 try ((fail_if_success with_reducible refine hK _ ?_ ?_ ?_); clear hK K)); with_reducible refine hK _ ?_ ?_ ?_; rotate_left; (focus (simp only [go_sem]; exact rfl)); clear hK K) | ((first | (with_reducible first | refine cA (cmpNaN_c x) ?_ | refine cD (cmpNaN_c x) ?_ | refine cO (cmpNaN_c x) ?_ | refine cR (cmpNaN_c x) ?_ | refine cG (fun hg => (cmpNaN_c x)) ?_ | refine cH (fun hg => (cmpNaN_c x)) ?_ | refine cM (fun hg => (cmpNaN_c x)) ?_ | refine cA (cmpNaN_c y) ?_ | refine cD (cmpNaN_c y) ?_ | refine cO (cmpNaN_c y) ?_ | refine cR (cmpNaN_c y) ?_ | refine cG (fun hg => (cmpNaN_c y)) ?_ | refine cH (fun hg => (cmpNaN_c y)) ?_ | refine cM (fun hg => (cmpNaN_c y)) ?_) | ((with_reducible refine gA ?_); refine cA (cmpNaN_c x) ?_) | ((with_reducible refine gD ?_); refine cD (cmpNaN_c x) ?_) | ((with_reducible refine gG ?_); refine cG (fun hg => (cmpNaN_c x)) ?_) | ((with_reducible refine gA ?_); refine cA (cmpNaN_c y) ?_) | ((with_reducible refine gD ?_); refine cD (cmpNaN_c y) ?_) | ((with_reducible refine gG ?_); refine cG (fun hg => (cmpNaN_c y)) ?_)); simp only [go_sem]) | (with_reducible refine aGs (fun hg0 => ?_) (fun hg0 => ?_) <;> first | (with_reducible first | exact aF1 hg0 | exact aF2 hg0) | (simp only [hg0, go_sem])) | (with_reducible refine aNk ?_; intro bnil hnil; try simp only []) | exact aZ | fail))
def below (xs : List Int) (x : Int) : Nat := (xs.filter fun z => decide (z < x)).length
theorem mid_eq (i j : Nat) (hj : i + j ≤ 4611686018427387904) : IntKind.i64.wrap ((IntKind.u64.wrap ((i : Int) + (j : Int))).fdiv (2 ^ min 1 64)) = (((i + j) / 2 : Nat) : Int) := by
 rw [wrap_u64 _ (by omega) (by omega), show min 1 64 = 1 from rfl, show ((i : Int) + (j : Int)) = ((i + j : Nat) : Int) by omega, fdiv_nat]
 exact wrap_fits ((fits_i64 _).2 ⟨by omega, by omega⟩)
theorem below_at (xs : List Int) (x : Int) (k : Nat) (hk : k ≤ xs.length) (h1 : ∀ t, t < k → xs.getD t 0 < x) (h2 : ∀ t, k ≤ t → t < xs.length → x ≤ xs.getD t 0) : below xs x = k := by
 have e : xs = xs.take k ++ xs.drop k := (List.take_append_drop k xs).symm
 have e1 : (xs.take k).filter (fun z => decide (z < x)) = xs.take k := by
  rw [List.filter_eq_self]
  intro z hz
  obtain ⟨t, ht, rfl⟩ := List.mem_iff_getElem.1 hz
  have htk : t < k := by simp at ht; omega
  have htl : t < xs.length := by simp at ht; omega
  have := h1 t htk
  simpa [List.getD, List.getElem?_eq_getElem htl] using this
 have e2 : (xs.drop k).filter (fun z => decide (z < x)) = [] := by
  rw [List.filter_eq_nil_iff]
  intro z hz
  obtain ⟨t, ht, rfl⟩ := List.mem_iff_getElem.1 hz
  have htl : k + t < xs.length := by simp at ht; omega
  have := h2 (k + t) (by omega) htl
  rw [List.getElem_drop]
  simp [List.getD, List.getElem?_eq_getElem htl] at this ⊢
  omega
 rw [below, e, List.filter_append, e1, e2]
 simp
 omega
theorem found_at (xs : List Int) (x : Int) (k : Nat) (hk : k ≤ xs.length) (h1 : ∀ t, t < k → xs.getD t 0 < x) (h2 : ∀ t, k ≤ t → t < xs.length → x ≤ xs.getD t 0) (hs : ∀ a b, a ≤ b → b < xs.length → xs.getD a 0 ≤ xs.getD b 0) :
  decide (x ∈ xs) = (decide (k < xs.length) && decide (xs.getD k 0 = x)) := by
 rw [Bool.eq_iff_iff]
 simp only [decide_eq_true_eq, Bool.and_eq_true]
 constructor
 ·intro hx
  obtain ⟨t, ht, rfl⟩ := List.mem_iff_getElem.1 hx
  have hg : xs.getD t 0 = xs[t] := by simp [List.getD, List.getElem?_eq_getElem ht]
  have hkt : k ≤ t := Nat.le_of_not_lt fun h => by have := h1 t h; omega
  have := hs k t hkt ht
  have := h2 k (Nat.le_refl _) (by omega)
  exact ⟨by omega, by omega⟩
 ·rintro ⟨hk, rfl⟩
  exact getD_mem xs k 0 hk
theorem sorted_getD {xs : List Int} (h : xs.Pairwise (· ≤ ·)) : ∀ a b, a ≤ b → b < xs.length → xs.getD a 0 ≤ xs.getD b 0 := by
 intro a b hab hb
 by_cases e : a = b
 ·subst e; exact Int.le_refl _
 ·have := (List.pairwise_iff_getElem.1 h) a b (by omega) hb (by omega)
  simpa [List.getD, List.getElem?_eq_getElem hb, List.getElem?_eq_getElem (show a < xs.length by omega)] using this
set_option maxHeartbeats 4000000 in
theorem BinarySearch_c (xs : List Int) (x : Int) (hn : xs.length ≤ 1000000) (hs : xs.Pairwise (· ≤ ·)) : ACalls Tryd.prog 77 [.one (.list (ints xs)), .one (.int .i64 x)] (.tup [.one (.int .i64 (below xs x)), .one (.bool (decide (x ∈ xs)))]) [] := by
 have hsort := sorted_getD hs
 (refine ACalls.of_body Ty_ok mixed Tryd.func77 rfl (by kernel_rfl) Tryd.ntmps77 (by simp) (congrArg Array.toList Tryd.results77) ?_)
 simp only [slotsOf]
 (repeat' (first | (with_reducible first | exact True.intro | refine And.intro ?_ ?_ | refine aBl ?_ | (refine aS 10 [] ?_; intro K hK)) | ((with_reducible first | refine aGo ?_); simp only [go_sem]) | ((with_reducible refine aCd ?_ ?_ (fun hb => ?_) (fun hb => ?_)); (iterate 2 simp only [go_sem]); all_goals (simp only [go_sem] at hb; try simp only [bls] at hb)) | ((iterate 6 try ((fail_if_success with_reducible refine hK _ ?_ ?_ ?_); clear hK K)); with_reducible refine hK _ ?_ ?_ ?_; rotate_left; (focus (simp only [go_sem]; exact rfl)); clear hK K) | (with_reducible refine aGs (fun hg0 => ?_) (fun hg0 => ?_) <;> first | (with_reducible first | exact aF1 hg0 | exact aF2 hg0) | (simp only [hg0, go_sem])) | (with_reducible refine aNk ?_; intro bnil hnil; try simp only []) | exact aZ | fail))
 refine awp_loop _ (by simp only [go_sem]; rfl) (Nat × Nat) (fun s => s.1 ≤ s.2 ∧ s.2 ≤ xs.length ∧ (∀ t, t < s.1 → xs.getD t 0 < x) ∧ ∀ t, s.2 ≤ t → t < xs.length → x ≤ xs.getD t 0) (fun s => [(7, .one (.int .i64 s.1)), (8, .one (.int .i64 s.2))]) (fun _ H => H) (fun s => s.2 - s.1) (0, xs.length) ⟨Nat.zero_le _, Nat.le_refl _, (fun t h => absurd h (Nat.not_lt_zero t)), (fun t h1 h2 => absurd h2 (Nat.not_lt.2 h1))⟩ ?_ ?_
 ·(simp only [SubF, go_sem]; (try simp only [go_sem]); repeat' (first | exact True.intro | with_reducible refine And.intro ?_ ?_ | rfl | omega))
 ·rintro ⟨i, j⟩ ⟨h1, h2, h3, h4⟩ L hL
  simp only at h1 h2 h3 h4
  have hm := mid_eq i j (by omega)
  (simp only [go_sem] at hL ⊢)
  (repeat' (first | (with_reducible first | exact True.intro | refine And.intro ?_ ?_ | refine aBl ?_ | (refine aS 10 [] ?_; intro K hK)) | ((with_reducible first | refine aGo ?_); simp only [hm, go_sem]) | ((with_reducible refine aCd ?_ ?_ (fun hb => ?_) (fun hb => ?_)); (iterate 2 simp only [hm, go_sem]); all_goals (simp only [hm, go_sem] at hb; try simp only [bls] at hb)) | ((iterate 6 try ((fail_if_success with_reducible refine hK _ ?_ ?_ ?_); clear hK K)); with_reducible refine hK _ ?_ ?_ ?_; rotate_left; (focus (simp only [hm, go_sem]; exact rfl)); clear hK K) | ((first | (with_reducible first | refine cA (Less_c (xs.getD ((i + j) / 2) 0) x) ?_ | refine cD (Less_c (xs.getD ((i + j) / 2) 0) x) ?_ | refine cO (Less_c (xs.getD ((i + j) / 2) 0) x) ?_ | refine cR (Less_c (xs.getD ((i + j) / 2) 0) x) ?_ | refine cG (fun hg => (Less_c (xs.getD ((i + j) / 2) 0) x)) ?_ | refine cH (fun hg => (Less_c (xs.getD ((i + j) / 2) 0) x)) ?_ | refine cM (fun hg => (Less_c (xs.getD ((i + j) / 2) 0) x)) ?_ | refine cA (slNaN_c _) ?_ | refine cD (slNaN_c _) ?_ | refine cO (slNaN_c _) ?_ | refine cR (slNaN_c _) ?_ | refine cG (fun hg => (slNaN_c _)) ?_ | refine cH (fun hg => (slNaN_c _)) ?_ | refine cM (fun hg => (slNaN_c _)) ?_) | ((with_reducible refine gA ?_); refine cA (Less_c (xs.getD ((i + j) / 2) 0) x) ?_) | ((with_reducible refine gD ?_); refine cD (Less_c (xs.getD ((i + j) / 2) 0) x) ?_) | ((with_reducible refine gG ?_); refine cG (fun hg => (Less_c (xs.getD ((i + j) / 2) 0) x)) ?_) | ((with_reducible refine gA ?_); refine cA (slNaN_c _) ?_) | ((with_reducible refine gD ?_); refine cD (slNaN_c _) ?_) | ((with_reducible refine gG ?_); refine cG (fun hg => (slNaN_c _)) ?_)); simp only [hm, go_sem]) | (with_reducible refine aGs (fun hg0 => ?_) (fun hg0 => ?_) <;> first | (with_reducible first | exact aF1 hg0 | exact aF2 hg0) | (simp only [hg0, hm, go_sem])) | (with_reducible refine aNk ?_; intro bnil hnil; try simp only []) | exact aZ | fail))
  ·exact hL _ ((i + j) / 2 + 1, j) ⟨by simp only; omega, by simp only; omega, fun t ht => by
    simp only at ht
    have := hsort t ((i + j) / 2) (by omega) (by omega)
    omega, fun t h5 h6 => h4 t h5 h6⟩ (by (simp only [SubF, go_sem]; (try simp only [go_sem]); repeat' (first | exact True.intro | with_reducible refine And.intro ?_ ?_ | rfl | omega))) (by simp only; omega)
  ·exact hL _ (i, (i + j) / 2) ⟨by simp only; omega, by simp only; omega, h3, fun t h5 h6 => by
    simp only at h5
    have := hsort ((i + j) / 2) t h5 h6
    omega⟩ (by (simp only [SubF, go_sem]; (try simp only [go_sem]); repeat' (first | exact True.intro | with_reducible refine And.intro ?_ ?_ | rfl | omega))) (by simp only; omega)
  all_goals
   have hij : i = j := by omega
   subst hij
   have e1 := below_at xs x i h2 h3 h4
   have e2 := found_at xs x i h2 h3 h4 hsort
   first
    | (rw [e1]; done)
    | (rw [e2, Bool.eq_iff_iff]; simp; done)
    | skip
theorem Contains_c (xs : List Int) (x : Int) (hn : xs.length ≤ 1000000) (hs : xs.Pairwise (· ≤ ·)) : ACalls Tryd.prog 58 [.one (.list (ints xs)), .one (.int .i64 x)] (.one (.bool (decide (x ∈ xs)))) [] := by
 (refine ACalls.of_body Ty_ok mixed Tryd.func58 rfl (by kernel_rfl) Tryd.ntmps58 (by simp) (congrArg Array.toList Tryd.results58) ?_)
 simp only [slotsOf]
 (repeat' (first | (with_reducible first | exact True.intro | refine And.intro ?_ ?_ | refine aBl ?_ | (refine aS 5 [6] ?_; intro K hK)) | ((with_reducible first | refine aGo ?_); simp only [go_sem]) | ((with_reducible refine aCd ?_ ?_ (fun hb => ?_) (fun hb => ?_)); (iterate 2 simp only [go_sem]); all_goals (simp only [go_sem] at hb; try simp only [bls] at hb)) | ((iterate 6 try ((fail_if_success with_reducible refine hK _ ?_ ?_ ?_); clear hK K)); with_reducible refine hK _ ?_ ?_ ?_; rotate_left; (focus (simp only [go_sem]; exact rfl)); clear hK K) | ((first | (with_reducible first | refine cA (BinarySearch_c xs x hn hs) ?_ | refine cD (BinarySearch_c xs x hn hs) ?_ | refine cO (BinarySearch_c xs x hn hs) ?_ | refine cR (BinarySearch_c xs x hn hs) ?_ | refine cG (fun hg => (BinarySearch_c xs x hn hs)) ?_ | refine cH (fun hg => (BinarySearch_c xs x hn hs)) ?_ | refine cM (fun hg => (BinarySearch_c xs x hn hs)) ?_) | ((with_reducible refine gA ?_); refine cA (BinarySearch_c xs x hn hs) ?_) | ((with_reducible refine gD ?_); refine cD (BinarySearch_c xs x hn hs) ?_) | ((with_reducible refine gG ?_); refine cG (fun hg => (BinarySearch_c xs x hn hs)) ?_)); simp only [go_sem]) | (with_reducible refine aGs (fun hg0 => ?_) (fun hg0 => ?_) <;> first | (with_reducible first | exact aF1 hg0 | exact aF2 hg0) | (simp only [hg0, go_sem])) | (with_reducible refine aNk ?_; intro bnil hnil; try simp only []) | exact aZ | fail))
def bitsL (m k : Nat) : List Int := ((List.range k).filter fun i => m.testBit i).map Int.ofNat
theorem bitsL_succ (m k : Nat) : bitsL m (k + 1) = bitsL m k ++ if m.testBit k = true then [(k : Int)] else [] := by
 simp only [bitsL, List.range_succ, List.filter_append, List.map_append]
 congr 1
 by_cases h : m.testBit k = true <;> simp [List.filter_cons, h]
theorem bitsL_length (m k : Nat) : (bitsL m k).length ≤ k := by
 simp only [bitsL, List.length_map]
 exact Nat.le_trans (List.length_filter_le _ _) (by simp)
def setOf (m : Nat) : List Int := bitsL m 32
theorem testBit_and (m k : Nat) (hm : m < 4294967296) (hk : k < 32) : bitV .and .u32 ((m : Int).fdiv (2 ^ min k 32)) 1 = 1 ↔ m.testBit k = true := by
 rw [Nat.min_eq_left (by omega), fdiv_nat, show (1 : Int) = ((1 : Nat) : Int) from rfl, and_u32 _ _ (Nat.lt_of_le_of_lt (Nat.div_le_self _ _) hm) (by omega), Nat.testBit_eq_decide_div_mod_eq, decide_eq_true_iff, Nat.and_one_is_mod]
 generalize m / 2 ^ k = q
 omega
set_option maxHeartbeats 4000000 in
theorem Set_c (m : Nat) (hm : m < 4294967296) : ACalls Tryd.prog 20 [.one (.int .u32 m)] (.one (.list (ints (setOf m)))) [] := by
 (refine ACalls.of_body Ty_ok mixed Tryd.func20 rfl (by kernel_rfl) Tryd.ntmps20 (by simp) (congrArg Array.toList Tryd.results20) ?_)
 simp only [slotsOf]
 (repeat' (first | (with_reducible first | exact True.intro | refine And.intro ?_ ?_ | refine aBl ?_ | (refine aS 6 [] ?_; intro K hK)) | ((with_reducible first | refine aGo ?_); simp only [go_sem]) | ((with_reducible refine aCd ?_ ?_ (fun hb => ?_) (fun hb => ?_)); (iterate 2 simp only [go_sem]); all_goals (simp only [go_sem] at hb; try simp only [bls] at hb)) | ((iterate 6 try ((fail_if_success with_reducible refine hK _ ?_ ?_ ?_); clear hK K)); with_reducible refine hK _ ?_ ?_ ?_; rotate_left; (focus (simp only [go_sem]; exact rfl)); clear hK K) | (with_reducible refine aGs (fun hg0 => ?_) (fun hg0 => ?_) <;> first | (with_reducible first | exact aF1 hg0 | exact aF2 hg0) | (simp only [hg0, go_sem])) | (with_reducible refine aNk ?_; intro bnil hnil; try simp only []) | exact aZ | fail))
 refine awp_loop _ (by simp only [go_sem]; rfl) Nat (fun k => k ≤ 32) (fun k => [(3, .one (.own 1)), (5, .one (.int .i64 k))]) (fun k H => [.row 3 1 [], .row 3 1 (ints (bitsL m k))]) (fun k => 32 - k) 0 (by omega) ?_ ?_
 ·(simp only [SubF, go_sem]; (try simp only [go_sem]); repeat' (first | exact True.intro | with_reducible refine And.intro ?_ ?_ | rfl | omega))
 ·rintro k hk L hL
  have hlen := bitsL_length m k
  (simp only [go_sem] at hL ⊢)
  (repeat' (first | (with_reducible first | exact True.intro | refine And.intro ?_ ?_ | refine aBl ?_ | (refine aS 6 [] ?_; intro K hK)) | ((with_reducible first | refine aGo ?_); simp only [go_sem]) | ((with_reducible refine aCd ?_ ?_ (fun hb => ?_) (fun hb => ?_)); (iterate 2 simp only [go_sem]); all_goals (simp only [go_sem] at hb; try simp only [bls] at hb)) | ((iterate 6 try ((fail_if_success with_reducible refine hK _ ?_ ?_ ?_); clear hK K)); with_reducible refine hK _ ?_ ?_ ?_; rotate_left; (focus (simp only [go_sem]; exact rfl)); clear hK K) | (with_reducible refine aGs (fun hg0 => ?_) (fun hg0 => ?_) <;> first | (with_reducible first | exact aF1 hg0 | exact aF2 hg0) | (simp only [hg0, go_sem])) | (with_reducible refine aNk ?_; intro bnil hnil; try simp only []) | exact aZ | fail))
  ·rw [testBit_and m k hm (by omega)] at hb
   have e := bitsL_succ m k
   rw [if_pos hb] at e
   simp only [ints_one, ints_append, ← e]
   exact hL _ (k + 1) (by omega) (by (simp only [SubF, go_sem]; (try simp only [go_sem]); repeat' (first | exact True.intro | with_reducible refine And.intro ?_ ?_ | rfl | omega))) (by omega)
  ·rw [testBit_and m k hm (by omega)] at hb
   have e := bitsL_succ m k
   rw [if_neg hb, List.append_nil] at e
   simp only [← e]
   exact hL _ (k + 1) (by omega) (by (simp only [SubF, go_sem]; (try simp only [go_sem]); repeat' (first | exact True.intro | with_reducible refine And.intro ?_ ?_ | rfl | omega))) (by omega)
  ·have : k = 32 := by omega
   subst this; rfl
end Go.Proofs.YtljpfdehnjemlaaDoor
