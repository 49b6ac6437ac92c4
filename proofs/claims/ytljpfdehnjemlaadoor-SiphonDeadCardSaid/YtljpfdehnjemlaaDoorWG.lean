/-
 Contracts: siphons and traps: tokens, sets without tokens, the minimal sets.
-/
import Derived.Test.YtljpfdehnjemlaaDoorWF
import Derived.Test.YtljpfdehnjemlaaDoorMW
set_option linter.unusedSimpArgs false
set_option linter.unusedVariables false
namespace Go.Proofs.YtljpfdehnjemlaaDoor
open Go.Eng Go.RowKit
/-! comparing -/
def cmpI (x y : Int) : Int := if x < y then -1 else if y < x then 1 else 0
theorem Compare_c (x y : Int) : ACalls Tryd.prog 24 [.one (.int .i64 x), .one (.int .i64 y)] (.one (.int .i64 (cmpI x y))) [] := by
 (refine ACalls.of_body Ty_ok mixed Tryd.func24 rfl (by kernel_rfl) Tryd.ntmps24 (by simp) (congrArg Array.toList Tryd.results24) ?_)
 simp only [slotsOf]
 (repeat' (first | (with_reducible first | exact True.intro | refine And.intro ?_ ?_ | refine aBl ?_ | (refine aS 7 [] ?_; intro K hK)) | ((with_reducible first | refine aGo ?_); simp only [go_sem]) | ((with_reducible refine aCd ?_ ?_ (fun hb => ?_) (fun hb => ?_)); (iterate 2 simp only [go_sem]); all_goals (simp only [go_sem] at hb; try simp only [bls] at hb)) | ((iterate 6 try ((fail_if_success with_reducible refine hK _ ?_ ?_ ?_); clear hK K)); with_reducible refine hK _ ?_ ?_ ?_; rotate_left; (focus (simp only [go_sem]; exact rfl)); clear hK K) | ((first | (with_reducible first | refine cA (cmpNaN_c x) ?_ | refine cD (cmpNaN_c x) ?_ | refine cO (cmpNaN_c x) ?_ | refine cR (cmpNaN_c x) ?_ | refine cG (fun hg => (cmpNaN_c x)) ?_ | refine cH (fun hg => (cmpNaN_c x)) ?_ | refine cM (fun hg => (cmpNaN_c x)) ?_ | refine cA (cmpNaN_c y) ?_ | refine cD (cmpNaN_c y) ?_ | refine cO (cmpNaN_c y) ?_ | refine cR (cmpNaN_c y) ?_ | refine cG (fun hg => (cmpNaN_c y)) ?_ | refine cH (fun hg => (cmpNaN_c y)) ?_ | refine cM (fun hg => (cmpNaN_c y)) ?_) | ((with_reducible refine gA ?_); refine cA (cmpNaN_c x) ?_) | ((with_reducible refine gD ?_); refine cD (cmpNaN_c x) ?_) | ((with_reducible refine gG ?_); refine cG (fun hg => (cmpNaN_c x)) ?_) | ((with_reducible refine gA ?_); refine cA (cmpNaN_c y) ?_) | ((with_reducible refine gD ?_); refine cD (cmpNaN_c y) ?_) | ((with_reducible refine gG ?_); refine cG (fun hg => (cmpNaN_c y)) ?_)); simp only [go_sem]) | (with_reducible refine aGs (fun hg0 => ?_) (fun hg0 => ?_) <;> first | (with_reducible first | exact aF1 hg0 | exact aF2 hg0) | (simp only [hg0, go_sem])) | (with_reducible refine aNk ?_; intro bnil hnil; try simp only []) | exact aZ | fail))
 all_goals (unfold cmpI; simp_all)
 all_goals first | omega | skip
theorem lexI_step (a b : List Int) (k : Nat) (ha : k < a.length) (hb : k < b.length) : lexI (a.drop k) (b.drop k) = if cmpI (a.getD k 0) (b.getD k 0) ≠ 0 then cmpI (a.getD k 0) (b.getD k 0) else lexI (a.drop (k + 1)) (b.drop (k + 1)) := by
 rw [drop_getD a k 0 ha, drop_getD b k 0 hb, lexI]
 unfold cmpI
 split
 ·rfl
 ·split <;> rfl
set_option maxHeartbeats 4000000 in
theorem sCompare_c (a b : List Int) (ha : a.length ≤ 1000000) (hb : b.length ≤ 1000000) : ACalls Tryd.prog 25 [.one (.list (ints a)), .one (.list (ints b))] (.one (.int .i64 (lexI a b))) [] := by
 (refine ACalls.of_body Ty_ok mixed Tryd.func25 rfl (by kernel_rfl) Tryd.ntmps25 (by simp) (congrArg Array.toList Tryd.results25) ?_)
 simp only [slotsOf]
 (repeat' (first | (with_reducible first | exact True.intro | refine And.intro ?_ ?_ | refine aBl ?_ | (refine aS 12 [] ?_; intro K hK)) | ((with_reducible first | refine aGo ?_); simp only [go_sem]) | ((with_reducible refine aCd ?_ ?_ (fun hb => ?_) (fun hb => ?_)); (iterate 2 simp only [go_sem]); all_goals (simp only [go_sem] at hb; try simp only [bls] at hb)) | ((iterate 6 try ((fail_if_success with_reducible refine hK _ ?_ ?_ ?_); clear hK K)); with_reducible refine hK _ ?_ ?_ ?_; rotate_left; (focus (simp only [go_sem]; exact rfl)); clear hK K) | (with_reducible refine aGs (fun hg0 => ?_) (fun hg0 => ?_) <;> first | (with_reducible first | exact aF1 hg0 | exact aF2 hg0) | (simp only [hg0, go_sem])) | (with_reducible refine aNk ?_; intro bnil hnil; try simp only []) | exact aZ | fail))
 refine awp_loop _ (by simp only [go_sem]; rfl) Nat (fun k => k ≤ a.length ∧ k ≤ b.length ∧ lexI a b = lexI (a.drop k) (b.drop k)) (fun k => [(11, .one (.int .i64 k))]) (fun _ H => H) (fun k => a.length - k) 0 ⟨by omega, by omega, by simp⟩ ?_ ?_
 ·(simp only [SubF, go_sem]; (try simp only [go_sem]); repeat' (first | exact True.intro | with_reducible refine And.intro ?_ ?_ | rfl | omega))
 ·rintro k ⟨hka, hkb, hres⟩ L hL
  (simp only [go_sem] at hL ⊢)
  (repeat' (first | (with_reducible first | exact True.intro | refine And.intro ?_ ?_ | refine aBl ?_ | (refine aS 12 [] ?_; intro K hK)) | ((with_reducible first | refine aGo ?_); simp only [go_sem]) | ((with_reducible refine aCd ?_ ?_ (fun hb => ?_) (fun hb => ?_)); (iterate 2 simp only [go_sem]); all_goals (simp only [go_sem] at hb; try simp only [bls] at hb)) | ((iterate 6 try ((fail_if_success with_reducible refine hK _ ?_ ?_ ?_); clear hK K)); with_reducible refine hK _ ?_ ?_ ?_; rotate_left; (focus (simp only [go_sem]; exact rfl)); clear hK K) | ((first | (with_reducible first | refine cA (Compare_c (a.getD k 0) (b.getD k 0)) ?_ | refine cD (Compare_c (a.getD k 0) (b.getD k 0)) ?_ | refine cO (Compare_c (a.getD k 0) (b.getD k 0)) ?_ | refine cR (Compare_c (a.getD k 0) (b.getD k 0)) ?_ | refine cG (fun hg => (Compare_c (a.getD k 0) (b.getD k 0))) ?_ | refine cH (fun hg => (Compare_c (a.getD k 0) (b.getD k 0))) ?_ | refine cM (fun hg => (Compare_c (a.getD k 0) (b.getD k 0))) ?_) | ((with_reducible refine gA ?_); refine cA (Compare_c (a.getD k 0) (b.getD k 0)) ?_) | ((with_reducible refine gD ?_); refine cD (Compare_c (a.getD k 0) (b.getD k 0)) ?_) | ((with_reducible refine gG ?_); refine cG (fun hg => (Compare_c (a.getD k 0) (b.getD k 0))) ?_)); simp only [go_sem]) | (with_reducible refine aGs (fun hg0 => ?_) (fun hg0 => ?_) <;> first | (with_reducible first | exact aF1 hg0 | exact aF2 hg0) | (simp only [hg0, go_sem])) | (with_reducible refine aNk ?_; intro bnil hnil; try simp only []) | exact aZ | fail))
  all_goals first | omega | skip
  ·rw [hres, drop_end b k (by omega), drop_getD a k 0 (by omega)]; rfl
  ·rw [hres, lexI_step a b k (by omega) (by omega), if_pos (by omega)]
  ·have h1 := lexI_step a b k (by omega) (by omega)
   rw [if_neg (by omega)] at h1
   exact hL _ (k + 1) ⟨by omega, by omega, hres.trans h1⟩ (by (simp only [SubF, go_sem]; (try simp only [go_sem]); repeat' (first | exact True.intro | with_reducible refine And.intro ?_ ?_ | rfl | omega))) (by omega)
  ·rw [hres, drop_end a k (by omega), drop_getD b k 0 (by omega)]; rfl
  ·rw [hres, drop_end a k (by omega), drop_end b k (by omega)]; rfl
def cfP (a b : List Int) : Int := if cmpI a.length b.length ≠ 0 then cmpI a.length b.length else lexI a b
theorem cfP_lt (a b : List Int) : decide (cfP a b < 0) = ltLL a b := by
 unfold cfP ltLL cmpI
 by_cases h : a.length < b.length
 ·simp [h]
 ·by_cases h2 : b.length < a.length
  ·have h3 : a.length ≠ b.length := by omega
   simp [h, h2, h3]
  ·have h3 : a.length = b.length := by omega
   simp [h3]
theorem Or2_c (x y : Int) : ACalls Tryd.prog 23 [.one (.list (ints [x, y]))] (.one (.int .i64 (if x ≠ 0 then x else y))) [] := by
 (refine ACalls.of_body Ty_ok mixed Tryd.func23 rfl (by kernel_rfl) Tryd.ntmps23 (by simp) (congrArg Array.toList Tryd.results23) ?_)
 simp only [slotsOf]
 (repeat' (first | (with_reducible first | exact True.intro | refine And.intro ?_ ?_ | refine aBl ?_ | (refine aS 9 [] ?_; intro K hK)) | ((with_reducible first | refine aGo ?_); simp only [go_sem]) | ((with_reducible refine aCd ?_ ?_ (fun hb => ?_) (fun hb => ?_)); (iterate 2 simp only [go_sem]); all_goals (simp only [go_sem] at hb; try simp only [bls] at hb)) | ((iterate 6 try ((fail_if_success with_reducible refine hK _ ?_ ?_ ?_); clear hK K)); with_reducible refine hK _ ?_ ?_ ?_; rotate_left; (focus (simp only [go_sem]; exact rfl)); clear hK K) | (with_reducible refine aGs (fun hg0 => ?_) (fun hg0 => ?_) <;> first | (with_reducible first | exact aF1 hg0 | exact aF2 hg0) | (simp only [hg0, go_sem])) | (with_reducible refine aNk ?_; intro bnil hnil; try simp only []) | exact aZ | fail))
 refine awp_loop _ (by simp only [go_sem]; rfl) Nat (fun k => k ≤ 2 ∧ (0 < k → x = 0) ∧ (1 < k → y = 0)) (fun k => [(8, .one (.int .i64 k))]) (fun _ H => H) (fun k => 2 - k) 0 ⟨by omega, by omega, by omega⟩ ?_ ?_
 ·(simp only [SubF, go_sem]; (try simp only [go_sem]); repeat' (first | exact True.intro | with_reducible refine And.intro ?_ ?_ | rfl | omega))
 ·rintro k ⟨hk, h1, h2⟩ L hL
  have : k = 0 ∨ k = 1 ∨ k = 2 := by omega
  rcases this with rfl | rfl | rfl
  all_goals
   (simp only [go_sem] at hL ⊢)
   (repeat' (first | (with_reducible first | exact True.intro | refine And.intro ?_ ?_ | refine aBl ?_ | (refine aS 9 [] ?_; intro K hK)) | ((with_reducible first | refine aGo ?_); simp only [go_sem]) | ((with_reducible refine aCd ?_ ?_ (fun hb => ?_) (fun hb => ?_)); (iterate 2 simp only [go_sem]); all_goals (simp only [go_sem] at hb; try simp only [bls] at hb)) | ((iterate 6 try ((fail_if_success with_reducible refine hK _ ?_ ?_ ?_); clear hK K)); with_reducible refine hK _ ?_ ?_ ?_; rotate_left; (focus (simp only [go_sem]; exact rfl)); clear hK K) | (with_reducible refine aGs (fun hg0 => ?_) (fun hg0 => ?_) <;> first | (with_reducible first | exact aF1 hg0 | exact aF2 hg0) | (simp only [hg0, go_sem])) | (with_reducible refine aNk ?_; intro bnil hnil; try simp only []) | exact aZ | fail))
  ·exact hL _ 1 ⟨by omega, fun _ => by omega, fun h => by omega⟩ (by (simp only [SubF, go_sem]; (try simp only [go_sem]); repeat' (first | exact True.intro | with_reducible refine And.intro ?_ ?_ | rfl | omega))) (by omega)
  ·exact hL _ 2 ⟨by omega, fun _ => h1 (by omega), fun _ => by omega⟩ (by (simp only [SubF, go_sem]; (try simp only [go_sem]); repeat' (first | exact True.intro | with_reducible refine And.intro ?_ ?_ | rfl | omega))) (by omega)
theorem MinCmp_c (a b : List Int) (ha : a.length ≤ 1000000) (hb : b.length ≤ 1000000) : ACalls Tryd.prog 22 [.one (.list (ints a)), .one (.list (ints b))] (.one (.int .i64 (cfP a b))) [] := by
 have h1 := Compare_c a.length b.length
 have h2 := sCompare_c a b ha hb
 have h3 := Or2_c (cmpI a.length b.length) (lexI a b)
 (refine ACalls.of_body Ty_ok mixed Tryd.func22 rfl (by kernel_rfl) Tryd.ntmps22 (by simp) (congrArg Array.toList Tryd.results22) ?_)
 simp only [slotsOf]
 (repeat' (first | (with_reducible first | exact True.intro | refine And.intro ?_ ?_ | refine aBl ?_ | (refine aS 5 [] ?_; intro K hK)) | ((with_reducible first | refine aGo ?_); simp only [go_sem]) | ((with_reducible refine aCd ?_ ?_ (fun hb => ?_) (fun hb => ?_)); (iterate 2 simp only [go_sem]); all_goals (simp only [go_sem] at hb; try simp only [bls] at hb)) | ((iterate 6 try ((fail_if_success with_reducible refine hK _ ?_ ?_ ?_); clear hK K)); with_reducible refine hK _ ?_ ?_ ?_; rotate_left; (focus (simp only [go_sem]; exact rfl)); clear hK K) | ((first | (with_reducible first | refine xA ?_ | refine xD ?_ | refine xO ?_ | refine xR ?_ | refine xG ?_ | refine xH ?_ | refine xM ?_) | ((with_reducible refine gA ?_); refine xA ?_) | ((with_reducible refine gD ?_); refine xD ?_) | ((with_reducible refine gG ?_); refine xG ?_)); simp only [go_sem]) | (with_reducible refine aGs (fun hg0 => ?_) (fun hg0 => ?_) <;> first | (with_reducible first | exact aF1 hg0 | exact aF2 hg0) | (simp only [hg0, go_sem])) | (with_reducible refine aNk ?_; intro bnil hnil; try simp only []) | exact aZ | fail))
 rfl
/-! tokens of a set; the greatest siphon without tokens -/
def zeroK (m : List Int) (k : Nat) : List Int := ((List.range k).filter fun p => decide (m.getD p 0 = 0)).map Int.ofNat
def zeroL (m : List Int) : List Int := zeroK m m.length
theorem zeroK_succ (m : List Int) (k : Nat) : zeroK m (k + 1) = zeroK m k ++ if m.getD k 0 = 0 then [(k : Int)] else [] := by
 simp only [zeroK, List.range_succ, List.filter_append, List.map_append]
 congr 1
 cases hd : decide (m.getD k 0 = 0) with
 | true => rw [if_pos (of_decide_eq_true hd)]; simp only [List.filter_cons, hd, if_true, List.filter_nil]; rfl
 | false => rw [if_neg (of_decide_eq_false hd)]; simp only [List.filter_cons, hd, List.filter_nil]; rfl
theorem zeroK_length (m : List Int) (k : Nat) : (zeroK m k).length ≤ k := by
 simp only [zeroK, List.length_map]
 exact Nat.le_trans (List.length_filter_le _ _) (by simp)
theorem range_pw (p : Nat → Bool) (k : Nat) : (((List.range k).filter p).map Int.ofNat).Pairwise (· < ·) := by
 rw [List.pairwise_map]
 exact ((List.pairwise_lt_range (n := k)).filter p).imp fun h => by simpa using h
theorem zeroK_pw (m : List Int) (k : Nat) : (zeroK m k).Pairwise (· < ·) := range_pw _ k
theorem mem_zeroL {m : List Int} {x : Int} : x ∈ zeroL m ↔ ∃ p : Nat, p < m.length ∧ x = p ∧ m.getD p 0 = 0 := by
 simp only [zeroL, zeroK, List.mem_map, List.mem_filter, List.mem_range, decide_eq_true_eq]
 constructor
 ·rintro ⟨p, ⟨h1, h2⟩, rfl⟩
  exact ⟨p, h1, rfl, h2⟩
 ·rintro ⟨p, h1, rfl, h2⟩
  exact ⟨p, ⟨h1, h2⟩, rfl⟩
def empL (n : Net) (m : List Int) : List Int := if markE n m = 0 then redL 1 n.trs (zeroL m) else []
set_option maxHeartbeats 8000000 in
theorem Empty_c (n : Net) (m : List Int) (hf : n.Fits) (hm : m.length ≤ 1000000) : ACalls Tryd.prog 7 [.agg n.d, .one (.list (ints m))] (.tup [.one (.list (ints (empL n m))), .one (.int .i64 (markE n m))]) [] := by
 have h1 := CheckMarking_c n m hf hm
 by_cases he : markE n m = 0
 ·have e : empL n m = redL 1 n.trs (zeroL m) := by rw [empL, if_pos he]
  rw [e]
  have hzl := zeroK_length m m.length
  have h2 := reduce_c n (zeroL m) 1 hf (Nat.le_trans hzl hm) ((zeroK_pw m _).imp fun h => Int.le_of_lt h)
  simp only [Net.d] at h1 h2
  (refine ACalls.of_body Ty_ok mixed Tryd.func7 rfl (by kernel_rfl) Tryd.ntmps7 (by simp) (congrArg Array.toList Tryd.results7) ?_)
  simp only [slotsOf, Net.d]
  (repeat' (first | (with_reducible first | exact True.intro | refine And.intro ?_ ?_ | refine aBl ?_ | (refine aS 10 [17, 16, 18] ?_; intro K hK)) | ((with_reducible first | refine aGo ?_); simp only [he, go_sem]) | ((with_reducible refine aCd ?_ ?_ (fun hb => ?_) (fun hb => ?_)); (iterate 2 simp only [he, go_sem]); all_goals (simp only [he, go_sem] at hb; try simp only [bls] at hb)) | ((iterate 6 try ((fail_if_success with_reducible refine hK _ ?_ ?_ ?_); clear hK K)); with_reducible refine hK _ ?_ ?_ ?_; rotate_left; (focus (simp only [he, go_sem]; exact rfl)); clear hK K) | ((first | (with_reducible first | refine xA ?_ | refine xD ?_ | refine xO ?_ | refine xR ?_ | refine xG ?_ | refine xH ?_ | refine xM ?_) | ((with_reducible refine gA ?_); refine xA ?_) | ((with_reducible refine gD ?_); refine xD ?_) | ((with_reducible refine gG ?_); refine xG ?_)); simp only [he, go_sem]) | (with_reducible refine aGs (fun hg0 => ?_) (fun hg0 => ?_) <;> first | (with_reducible first | exact aF1 hg0 | exact aF2 hg0) | (simp only [hg0, he, go_sem])) | (with_reducible refine aNk ?_; intro bnil hnil; try simp only []) | exact aZ | fail))
  all_goals first | omega | skip
  refine awp_loop _ (by simp only [go_sem]; rfl) Nat (fun k => k ≤ m.length) (fun k => [(7, .one (.own 2)), (18, .one (.int .i64 k))]) (fun k _ => [.var 30 [.list (ints n.init), .list (trsD n.trs)], .row 3 1 [], .row 3 1 (ints (zeroK m k))]) (fun k => m.length - k) 0 (by omega) ?_ ?_
  ·have e0 : ints (zeroK m 0) = [] := rfl
   rw [e0]
   (simp only [SubF, go_sem]; (try simp only [go_sem]); repeat' (first | exact True.intro | with_reducible refine And.intro ?_ ?_ | rfl | omega))
  ·rintro k hk L hL
   have hzk := zeroK_length m k
   have hs := zeroK_succ m k
   (simp only [go_sem] at hL ⊢)
   (repeat' (first | (with_reducible first | exact True.intro | refine And.intro ?_ ?_ | refine aBl ?_ | (refine aS 10 [17, 16, 18] ?_; intro K hK)) | ((with_reducible first | refine aGo ?_); simp only [go_sem]) | ((with_reducible refine aCd ?_ ?_ (fun hb => ?_) (fun hb => ?_)); (iterate 2 simp only [go_sem]); all_goals (simp only [go_sem] at hb; try simp only [bls] at hb)) | ((iterate 6 try ((fail_if_success with_reducible refine hK _ ?_ ?_ ?_); clear hK K)); with_reducible refine hK _ ?_ ?_ ?_; rotate_left; (focus (simp only [go_sem]; exact rfl)); clear hK K) | (with_reducible refine aGs (fun hg0 => ?_) (fun hg0 => ?_) <;> first | (with_reducible first | exact aF1 hg0 | exact aF2 hg0) | (simp only [hg0, go_sem])) | (with_reducible refine aNk ?_; intro bnil hnil; try simp only []) | exact aZ | fail))
   all_goals first | omega | skip
   ·rw [if_pos hb] at hs
    simp only [ints_one, ints_append, ← hs]
    exact hL _ (k + 1) (by omega) (by (simp only [SubF, go_sem]; (try simp only [go_sem]); repeat' (first | exact True.intro | with_reducible refine And.intro ?_ ?_ | rfl | omega))) (by omega)
   ·rw [if_neg hb, List.append_nil] at hs
    simp only [← hs]
    exact hL _ (k + 1) (by omega) (by (simp only [SubF, go_sem]; (try simp only [go_sem]); repeat' (first | exact True.intro | with_reducible refine And.intro ?_ ?_ | rfl | omega))) (by omega)
   ·have hkl : k = m.length := by omega
    subst hkl
    rw [show zeroK m m.length = zeroL m from rfl]
    (refine MCallAt_i [2] [] (calls_toM h2) ?_ ?_; (focus (simp only [mside, handOk, go_sem]; (first | done | exact (by decide) | exact ⟨by decide, fun t ht => ht.elim⟩ | (refine ⟨by decide, ?_⟩; simp; done)))); simp only [go_sem])
    (repeat' (first | (with_reducible first | exact True.intro | refine And.intro ?_ ?_ | refine aBl ?_ | (refine aS 10 [17, 16, 18] ?_; intro K hK)) | ((with_reducible first | refine aGo ?_); simp only [go_sem]) | ((with_reducible refine aCd ?_ ?_ (fun hb => ?_) (fun hb => ?_)); (iterate 2 simp only [go_sem]); all_goals (simp only [go_sem] at hb; try simp only [bls] at hb)) | ((iterate 6 try ((fail_if_success with_reducible refine hK _ ?_ ?_ ?_); clear hK K)); with_reducible refine hK _ ?_ ?_ ?_; rotate_left; (focus (simp only [go_sem]; exact rfl)); clear hK K) | (with_reducible refine aGs (fun hg0 => ?_) (fun hg0 => ?_) <;> first | (with_reducible first | exact aF1 hg0 | exact aF2 hg0) | (simp only [hg0, go_sem])) | (with_reducible refine aNk ?_; intro bnil hnil; try simp only []) | exact aZ | fail))
    all_goals first | omega | skip
 ·have e : empL n m = [] := by rw [empL, if_neg he]
  rw [e]
  (refine ACalls.of_body Ty_ok mixed Tryd.func7 rfl (by kernel_rfl) Tryd.ntmps7 (by simp) (congrArg Array.toList Tryd.results7) ?_)
  simp only [slotsOf, Net.d]
  simp only [Net.d] at h1
  (repeat' (first | (with_reducible first | exact True.intro | refine And.intro ?_ ?_ | refine aBl ?_ | (refine aS 10 [17, 16, 18] ?_; intro K hK)) | ((with_reducible first | refine aGo ?_); simp only [go_sem]) | ((with_reducible refine aCd ?_ ?_ (fun hb => ?_) (fun hb => ?_)); (iterate 2 simp only [go_sem]); all_goals (simp only [go_sem] at hb; try simp only [bls] at hb)) | ((iterate 6 try ((fail_if_success with_reducible refine hK _ ?_ ?_ ?_); clear hK K)); with_reducible refine hK _ ?_ ?_ ?_; rotate_left; (focus (simp only [go_sem]; exact rfl)); clear hK K) | ((first | (with_reducible first | refine xA ?_ | refine xD ?_ | refine xO ?_ | refine xR ?_ | refine xG ?_ | refine xH ?_ | refine xM ?_) | ((with_reducible refine gA ?_); refine xA ?_) | ((with_reducible refine gD ?_); refine xD ?_) | ((with_reducible refine gG ?_); refine xG ?_)); simp only [go_sem]) | (with_reducible refine aGs (fun hg0 => ?_) (fun hg0 => ?_) <;> first | (with_reducible first | exact aF1 hg0 | exact aF2 hg0) | (simp only [hg0, go_sem])) | (with_reducible refine aNk ?_; intro bnil hnil; try simp only []) | exact aZ | fail))
  all_goals first | omega | rfl | skip
end Go.Proofs.YtljpfdehnjemlaaDoor
