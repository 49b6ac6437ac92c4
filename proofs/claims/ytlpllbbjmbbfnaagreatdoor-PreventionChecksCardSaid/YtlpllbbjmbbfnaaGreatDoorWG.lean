/-
 Contracts: siphons and traps: tokens, sets without tokens, the minimal sets.
-/
import Derived.Test.YtlpllbbjmbbfnaaGreatDoorWF
set_option linter.unusedSimpArgs false
set_option linter.unusedVariables false
namespace Go.Proofs.YtlpllbbjmbbfnaaGreatDoor
open Go.Eng Go.RowKit
set_option maxHeartbeats 4000000 in
theorem IndexFuncWords_c (l : List (List Int)) (f : FuncId) (caps : List D) (p : List Int → Bool) (hn : l.length ≤ 1000000) (hc : CapsOk caps) (hp : ∀ e ∈ l, ACalls Tryz.prog f (.one (.list (ints e)) :: caps.map AV.one) (.one (.bool (p e))) []) :
  ACalls Tryz.prog 100 [.one (.list (wordsD l)), .one (.clo f caps)] (.one (.int .i64 (ixFrom p 0 l))) [] := by
 have hc1 := hc.lt
 have hc2 := hc.none
 have hc3 := hc.bor
 (refine ACalls.of_body Ty_ok mixed Tryz.func100 rfl (by kernel_rfl) Tryz.ntmps100 (by simp) (congrArg Array.toList Tryz.results100) ?_)
 simp only [slotsOf]
 (repeat' (first | (with_reducible first | exact True.intro | refine And.intro ?_ ?_ | refine aBl ?_ | (refine aS 6 [7, 8] ?_; intro K hK)) | ((with_reducible first | refine aGo ?_); simp only [go_sem]) | ((with_reducible refine aCd ?_ ?_ (fun hb => ?_) (fun hb => ?_)); (iterate 2 simp only [go_sem]); all_goals (simp only [go_sem] at hb; try simp only [bls] at hb)) | ((iterate 6 try ((fail_if_success with_reducible refine hK _ ?_ ?_ ?_); clear hK K)); with_reducible refine hK _ ?_ ?_ ?_; rotate_left; (focus (simp only [go_sem]; exact rfl)); clear hK K) | (with_reducible refine aGs (fun hg0 => ?_) (fun hg0 => ?_) <;> first | (with_reducible first | exact aF1 hg0 | exact aF2 hg0) | (simp only [hg0, go_sem])) | (with_reducible refine aNk ?_; intro bnil hnil; try simp only []) | exact aZ | fail))
 refine awp_loop _ (by simp only [go_sem]; rfl) Nat (fun k => k ≤ l.length ∧ ixFrom p 0 l = ixFrom p k (l.drop k)) (fun k => [(8, .one (.int .i64 k))]) (fun _ H => H) (fun k => l.length - k) 0 ⟨by omega, by simp⟩ ?_ ?_
 ·(simp only [SubF, hc1, hc2, go_sem]; (try simp only [hc1, hc2, go_sem]); repeat' (first | exact True.intro | with_reducible refine And.intro ?_ ?_ | rfl | omega))
 ·rintro k ⟨hk, hres⟩ L hL
  have hq : ((k : Nat) : Int).toNat = k := by omega
  by_cases hlt : k < l.length
  ·have hw := words_at (l := l) hlt [.nil]
   (simp only [go_sem] at hL ⊢)
   (repeat' (first | (with_reducible first | exact True.intro | refine And.intro ?_ ?_ | refine aBl ?_ | (refine aS 6 [7, 8] ?_; intro K hK)) | ((with_reducible first | refine aGo ?_); simp only [hc3, hq, hw, go_sem]) | ((with_reducible refine aCd ?_ ?_ (fun hb => ?_) (fun hb => ?_)); (iterate 2 simp only [hc3, hq, hw, go_sem]); all_goals (simp only [hc3, hq, hw, go_sem] at hb; try simp only [bls] at hb)) | ((iterate 6 try ((fail_if_success with_reducible refine hK _ ?_ ?_ ?_); clear hK K)); with_reducible refine hK _ ?_ ?_ ?_; rotate_left; (focus (simp only [hc3, hq, hw, go_sem]; exact rfl)); clear hK K) | ((first | (with_reducible first | refine cA (hp (l.getD k []) (getD_mem l k [] (by omega))) ?_ | refine cD (hp (l.getD k []) (getD_mem l k [] (by omega))) ?_ | refine cO (hp (l.getD k []) (getD_mem l k [] (by omega))) ?_ | refine cR (hp (l.getD k []) (getD_mem l k [] (by omega))) ?_ | refine cG (fun hg => (hp (l.getD k []) (getD_mem l k [] (by omega)))) ?_ | refine cH (fun hg => (hp (l.getD k []) (getD_mem l k [] (by omega)))) ?_ | refine cM (fun hg => (hp (l.getD k []) (getD_mem l k [] (by omega)))) ?_) | ((with_reducible refine gA ?_); refine cA (hp (l.getD k []) (getD_mem l k [] (by omega))) ?_) | ((with_reducible refine gD ?_); refine cD (hp (l.getD k []) (getD_mem l k [] (by omega))) ?_) | ((with_reducible refine gG ?_); refine cG (fun hg => (hp (l.getD k []) (getD_mem l k [] (by omega)))) ?_)); simp only [hc3, hq, hw, go_sem]) | (with_reducible refine aGs (fun hg0 => ?_) (fun hg0 => ?_) <;> first | (with_reducible first | exact aF1 hg0 | exact aF2 hg0) | (simp only [hg0, hc3, hq, hw, go_sem])) | (with_reducible refine aNk ?_; intro bnil hnil; try simp only []) | exact aZ | fail))
   all_goals first | omega | skip
   ·rw [ix_step (d := []) (by omega) hres, if_pos hb]
   ·have h1 := ix_step (d := []) (by omega) hres
    rw [if_neg (by rw [hb]; simp)] at h1
    refine hL _ (k + 1) ⟨by omega, h1⟩ ?_ (by omega)
    (simp only [SubF, hc1, hc2, go_sem]; (try simp only [hc1, hc2, go_sem]); repeat' (first | exact True.intro | with_reducible refine And.intro ?_ ?_ | rfl | omega))
  ·(simp only [go_sem] at hL ⊢)
   (repeat' (first | (with_reducible first | exact True.intro | refine And.intro ?_ ?_ | refine aBl ?_ | (refine aS 6 [7, 8] ?_; intro K hK)) | ((with_reducible first | refine aGo ?_); simp only [go_sem]) | ((with_reducible refine aCd ?_ ?_ (fun hb => ?_) (fun hb => ?_)); (iterate 2 simp only [go_sem]); all_goals (simp only [go_sem] at hb; try simp only [bls] at hb)) | ((iterate 6 try ((fail_if_success with_reducible refine hK _ ?_ ?_ ?_); clear hK K)); with_reducible refine hK _ ?_ ?_ ?_; rotate_left; (focus (simp only [go_sem]; exact rfl)); clear hK K) | (with_reducible refine aGs (fun hg0 => ?_) (fun hg0 => ?_) <;> first | (with_reducible first | exact aF1 hg0 | exact aF2 hg0) | (simp only [hg0, go_sem])) | (with_reducible refine aNk ?_; intro bnil hnil; try simp only []) | exact aZ | fail))
   all_goals first | omega | skip
   rw [hres, drop_end l k (by omega)]; rfl
theorem ContainsFuncWords_c (l : List (List Int)) (f : FuncId) (caps : List D) (p : List Int → Bool) (hn : l.length ≤ 1000000) (hc : CapsOk caps) (hp : ∀ e ∈ l, ACalls Tryz.prog f (.one (.list (ints e)) :: caps.map AV.one) (.one (.bool (p e))) []) :
  ACalls Tryz.prog 73 [.one (.list (wordsD l)), .one (.clo f caps)] (.one (.bool (l.any p))) [] := by
 have hc1 := hc.lt
 have hc2 := hc.none
 have hc3 := hc.bor
 have hc4 := hc.bor1
 (refine ACalls.of_body Ty_ok mixed Tryz.func73 rfl (by kernel_rfl) Tryz.ntmps73 (by simp) (congrArg Array.toList Tryz.results73) ?_)
 simp only [slotsOf]
 (repeat' (first | (with_reducible first | exact True.intro | refine And.intro ?_ ?_ | refine aBl ?_ | (refine aS 5 [] ?_; intro K hK)) | ((with_reducible first | refine aGo ?_); simp only [hc3, hc4, go_sem]) | ((with_reducible refine aCd ?_ ?_ (fun hb => ?_) (fun hb => ?_)); (iterate 2 simp only [hc3, hc4, go_sem]); all_goals (simp only [hc3, hc4, go_sem] at hb; try simp only [bls] at hb)) | ((iterate 6 try ((fail_if_success with_reducible refine hK _ ?_ ?_ ?_); clear hK K)); with_reducible refine hK _ ?_ ?_ ?_; rotate_left; (focus (simp only [hc3, hc4, go_sem]; exact rfl)); clear hK K) | ((first | (with_reducible first | refine cA (IndexFuncWords_c l f caps p hn hc hp) ?_ | refine cD (IndexFuncWords_c l f caps p hn hc hp) ?_ | refine cO (IndexFuncWords_c l f caps p hn hc hp) ?_ | refine cR (IndexFuncWords_c l f caps p hn hc hp) ?_ | refine cG (fun hg => (IndexFuncWords_c l f caps p hn hc hp)) ?_ | refine cH (fun hg => (IndexFuncWords_c l f caps p hn hc hp)) ?_ | refine cM (fun hg => (IndexFuncWords_c l f caps p hn hc hp)) ?_) | ((with_reducible refine gA ?_); refine cA (IndexFuncWords_c l f caps p hn hc hp) ?_) | ((with_reducible refine gD ?_); refine cD (IndexFuncWords_c l f caps p hn hc hp) ?_) | ((with_reducible refine gG ?_); refine cG (fun hg => (IndexFuncWords_c l f caps p hn hc hp)) ?_)); simp only [hc3, hc4, go_sem]) | (with_reducible refine aGs (fun hg0 => ?_) (fun hg0 => ?_) <;> first | (with_reducible first | exact aF1 hg0 | exact aF2 hg0) | (simp only [hg0, hc3, hc4, go_sem])) | (with_reducible refine aNk ?_; intro bnil hnil; try simp only []) | exact aZ | fail))
 rw [ix_any]
def cmpI (x y : Int) : Int := if x < y then -1 else if y < x then 1 else 0
theorem Compare_c (x y : Int) : ACalls Tryz.prog 71 [.one (.int .i64 x), .one (.int .i64 y)] (.one (.int .i64 (cmpI x y))) [] := by
 (refine ACalls.of_body Ty_ok mixed Tryz.func71 rfl (by kernel_rfl) Tryz.ntmps71 (by simp) (congrArg Array.toList Tryz.results71) ?_)
 simp only [slotsOf]
 (repeat' (first | (with_reducible first | exact True.intro | refine And.intro ?_ ?_ | refine aBl ?_ | (refine aS 7 [] ?_; intro K hK)) | ((with_reducible first | refine aGo ?_); simp only [go_sem]) | ((with_reducible refine aCd ?_ ?_ (fun hb => ?_) (fun hb => ?_)); (iterate 2 simp only [go_sem]); all_goals (simp only [go_sem] at hb; try simp only [bls] at hb)) | ((iterate 6 try ((fail_if_success with_reducible refine hK _ ?_ ?_ ?_); clear hK K)); with_reducible refine hK _ ?_ ?_ ?_; rotate_left; (focus (simp only [go_sem]; exact rfl)); clear hK K) | ((first | (with_reducible first | refine cA (cmpNaN_c x) ?_ | refine cD (cmpNaN_c x) ?_ | refine cO (cmpNaN_c x) ?_ | refine cR (cmpNaN_c x) ?_ | refine cG (fun hg => (cmpNaN_c x)) ?_ | refine cH (fun hg => (cmpNaN_c x)) ?_ | refine cM (fun hg => (cmpNaN_c x)) ?_ | refine cA (cmpNaN_c y) ?_ | refine cD (cmpNaN_c y) ?_ | refine cO (cmpNaN_c y) ?_ | refine cR (cmpNaN_c y) ?_ | refine cG (fun hg => (cmpNaN_c y)) ?_ | refine cH (fun hg => (cmpNaN_c y)) ?_ | refine cM (fun hg => (cmpNaN_c y)) ?_) | ((with_reducible refine gA ?_); refine cA (cmpNaN_c x) ?_) | ((with_reducible refine gD ?_); refine cD (cmpNaN_c x) ?_) | ((with_reducible refine gG ?_); refine cG (fun hg => (cmpNaN_c x)) ?_) | ((with_reducible refine gA ?_); refine cA (cmpNaN_c y) ?_) | ((with_reducible refine gD ?_); refine cD (cmpNaN_c y) ?_) | ((with_reducible refine gG ?_); refine cG (fun hg => (cmpNaN_c y)) ?_)); simp only [go_sem]) | (with_reducible refine aGs (fun hg0 => ?_) (fun hg0 => ?_) <;> first | (with_reducible first | exact aF1 hg0 | exact aF2 hg0) | (simp only [hg0, go_sem])) | (with_reducible refine aNk ?_; intro bnil hnil; try simp only []) | exact aZ | fail))
 all_goals (unfold cmpI; simp_all)
 all_goals first | omega | skip
theorem lexI_step (a b : List Int) (k : Nat) (ha : k < a.length) (hb : k < b.length) : lexI (a.drop k) (b.drop k) = if cmpI (a.getD k 0) (b.getD k 0) ≠ 0 then cmpI (a.getD k 0) (b.getD k 0) else lexI (a.drop (k + 1)) (b.drop (k + 1)) := by
 rw [drop_getD a k 0 ha, drop_getD b k 0 hb, lexI]
 unfold cmpI
 split
 ·rfl
 ·split <;> rfl
set_option maxHeartbeats 4000000 in
theorem sCompare_c (a b : List Int) (ha : a.length ≤ 1000000) (hb : b.length ≤ 1000000) : ACalls Tryz.prog 72 [.one (.list (ints a)), .one (.list (ints b))] (.one (.int .i64 (lexI a b))) [] := by
 (refine ACalls.of_body Ty_ok mixed Tryz.func72 rfl (by kernel_rfl) Tryz.ntmps72 (by simp) (congrArg Array.toList Tryz.results72) ?_)
 simp only [slotsOf]
 (repeat' (first | (with_reducible first | exact True.intro | refine And.intro ?_ ?_ | refine aBl ?_ | (refine aS 12 [] ?_; intro K hK)) | ((with_reducible first | refine aGo ?_); simp only [go_sem]) | ((with_reducible refine aCd ?_ ?_ (fun hb => ?_) (fun hb => ?_)); (iterate 2 simp only [go_sem]); all_goals (simp only [go_sem] at hb; try simp only [bls] at hb)) | ((iterate 6 try ((fail_if_success with_reducible refine hK _ ?_ ?_ ?_); clear hK K)); with_reducible refine hK _ ?_ ?_ ?_; rotate_left; (focus (simp only [go_sem]; exact rfl)); clear hK K) | (with_reducible refine aGs (fun hg0 => ?_) (fun hg0 => ?_) <;> first | (with_reducible first | exact aF1 hg0 | exact aF2 hg0) | (simp only [hg0, go_sem])) | (with_reducible refine aNk ?_; intro bnil hnil; try simp only []) | exact aZ | fail))
 refine awp_loop _ (by simp only [go_sem]; rfl) Nat (fun k => k ≤ a.length ∧ k ≤ b.length ∧ lexI a b = lexI (a.drop k) (b.drop k)) (fun k => [(11, .one (.int .i64 k))]) (fun _ H => H) (fun k => a.length - k) 0 ⟨by omega, by omega, by simp⟩ ?_ ?_
 ·(simp only [SubF, go_sem]; (try simp only [go_sem]); repeat' (first | exact True.intro | with_reducible refine And.intro ?_ ?_ | rfl | omega))
 ·rintro k ⟨hka, hkb, hres⟩ L hL
  (simp only [go_sem] at hL ⊢)
  (repeat' (first | (with_reducible first | exact True.intro | refine And.intro ?_ ?_ | refine aBl ?_ | (refine aS 12 [] ?_; intro K hK)) | ((with_reducible first | refine aGo ?_); simp only [go_sem]) | ((with_reducible refine aCd ?_ ?_ (fun hb => ?_) (fun hb => ?_)); (iterate 2 simp only [go_sem]); all_goals (simp only [go_sem] at hb; try simp only [bls] at hb)) | ((iterate 6 try ((fail_if_success with_reducible refine hK _ ?_ ?_ ?_); clear hK K)); with_reducible refine hK _ ?_ ?_ ?_; rotate_left; (focus (simp only [go_sem]; exact rfl)); clear hK K) | ((first | (with_reducible first | refine cA (Compare_c (a.getD k 0) (b.getD k 0)) ?_ | refine cD (Compare_c (a.getD k 0) (b.getD k 0)) ?_ | refine cO (Compare_c (a.getD k 0) (b.getD k 0)) ?_ | refine cR (Compare_c (a.getD k 0) (b.getD k 0)) ?_ | refine cG (fun hg => (Compare_c (a.getD k 0) (b.getD k 0))) ?_ | refine cH (fun hg => (Compare_c (a.getD k 0) (b.getD k 0))) ?_ | refine cM (fun hg => (Compare_c (a.getD k 0) (b.getD k 0))) ?_) | ((with_reducible refine gA ?_); refine cA (Compare_c (a.getD k 0) (b.getD k 0)) ?_) | ((with_reducible refine gD ?_); refine cD (Compare_c (a.getD k 0) (b.getD k 0)) ?_) | ((with_reducible refine gG ?_); refine cG (fun hg => (Compare_c (a.getD k 0) (b.getD k 0))) ?_)); simp only [go_sem]) | (with_reducible refine aGs (fun hg0 => ?_) (fun hg0 => ?_) <;> first | (with_reducible first | exact aF1 hg0 | exact aF2 hg0) | (simp only [hg0, go_sem])) | (with_reducible refine aNk ?_; intro bnil hnil; try simp only []) | exact aZ | fail))
  all_goals first | omega | skip
  ·rw [hres, drop_end b k (by omega), drop_getD a k 0 (by omega)]; rfl
  ·rw [hres, lexI_step a b k (by omega) (by omega), if_pos (by omega)]
  ·have h1 := lexI_step a b k (by omega) (by omega)
   rw [if_neg (by omega)] at h1
   exact hL _ (k + 1) ⟨by omega, by omega, hres.trans h1⟩ (by (simp only [SubF, go_sem]; (try simp only [go_sem]); repeat' (first | exact True.intro | with_reducible refine And.intro ?_ ?_ | rfl | omega))) (by omega)
  ·rw [hres, drop_end a k (by omega), drop_getD b k 0 (by omega)]; rfl
  ·rw [hres, drop_end a k (by omega), drop_end b k (by omega)]; rfl
def cfP (a b : List Int) : Int := if cmpI a.length b.length ≠ 0 then cmpI a.length b.length else lexI a b
theorem cfP_lt (a b : List Int) : decide (cfP a b < 0) = ltLL a b := by
 unfold cfP ltLL cmpI
 by_cases h : a.length < b.length
 ·simp [h]
 ·by_cases h2 : b.length < a.length
  ·have h3 : a.length ≠ b.length := by omega
   simp [h, h2, h3]
  ·have h3 : a.length = b.length := by omega
   simp [h3]
theorem Or2_c (x y : Int) : ACalls Tryz.prog 70 [.one (.list (ints [x, y]))] (.one (.int .i64 (if x ≠ 0 then x else y))) [] := by
 (refine ACalls.of_body Ty_ok mixed Tryz.func70 rfl (by kernel_rfl) Tryz.ntmps70 (by simp) (congrArg Array.toList Tryz.results70) ?_)
 simp only [slotsOf]
 (repeat' (first | (with_reducible first | exact True.intro | refine And.intro ?_ ?_ | refine aBl ?_ | (refine aS 9 [] ?_; intro K hK)) | ((with_reducible first | refine aGo ?_); simp only [go_sem]) | ((with_reducible refine aCd ?_ ?_ (fun hb => ?_) (fun hb => ?_)); (iterate 2 simp only [go_sem]); all_goals (simp only [go_sem] at hb; try simp only [bls] at hb)) | ((iterate 6 try ((fail_if_success with_reducible refine hK _ ?_ ?_ ?_); clear hK K)); with_reducible refine hK _ ?_ ?_ ?_; rotate_left; (focus (simp only [go_sem]; exact rfl)); clear hK K) | (with_reducible refine aGs (fun hg0 => ?_) (fun hg0 => ?_) <;> first | (with_reducible first | exact aF1 hg0 | exact aF2 hg0) | (simp only [hg0, go_sem])) | (with_reducible refine aNk ?_; intro bnil hnil; try simp only []) | exact aZ | fail))
 refine awp_loop _ (by simp only [go_sem]; rfl) Nat (fun k => k ≤ 2 ∧ (0 < k → x = 0) ∧ (1 < k → y = 0)) (fun k => [(8, .one (.int .i64 k))]) (fun _ H => H) (fun k => 2 - k) 0 ⟨by omega, by omega, by omega⟩ ?_ ?_
 ·(simp only [SubF, go_sem]; (try simp only [go_sem]); repeat' (first | exact True.intro | with_reducible refine And.intro ?_ ?_ | rfl | omega))
 ·rintro k ⟨hk, h1, h2⟩ L hL
  have : k = 0 ∨ k = 1 ∨ k = 2 := by omega
  rcases this with rfl | rfl | rfl
  all_goals
   (simp only [go_sem] at hL ⊢)
   (repeat' (first | (with_reducible first | exact True.intro | refine And.intro ?_ ?_ | refine aBl ?_ | (refine aS 9 [] ?_; intro K hK)) | ((with_reducible first | refine aGo ?_); simp only [go_sem]) | ((with_reducible refine aCd ?_ ?_ (fun hb => ?_) (fun hb => ?_)); (iterate 2 simp only [go_sem]); all_goals (simp only [go_sem] at hb; try simp only [bls] at hb)) | ((iterate 6 try ((fail_if_success with_reducible refine hK _ ?_ ?_ ?_); clear hK K)); with_reducible refine hK _ ?_ ?_ ?_; rotate_left; (focus (simp only [go_sem]; exact rfl)); clear hK K) | (with_reducible refine aGs (fun hg0 => ?_) (fun hg0 => ?_) <;> first | (with_reducible first | exact aF1 hg0 | exact aF2 hg0) | (simp only [hg0, go_sem])) | (with_reducible refine aNk ?_; intro bnil hnil; try simp only []) | exact aZ | fail))
  ·exact hL _ 1 ⟨by omega, fun _ => by omega, fun h => by omega⟩ (by (simp only [SubF, go_sem]; (try simp only [go_sem]); repeat' (first | exact True.intro | with_reducible refine And.intro ?_ ?_ | rfl | omega))) (by omega)
  ·exact hL _ 2 ⟨by omega, fun _ => h1 (by omega), fun _ => by omega⟩ (by (simp only [SubF, go_sem]; (try simp only [go_sem]); repeat' (first | exact True.intro | with_reducible refine And.intro ?_ ?_ | rfl | omega))) (by omega)
theorem MinCmp_c (a b : List Int) (ha : a.length ≤ 1000000) (hb : b.length ≤ 1000000) : ACalls Tryz.prog 69 [.one (.list (ints a)), .one (.list (ints b))] (.one (.int .i64 (cfP a b))) [] := by
 have h1 := Compare_c a.length b.length
 have h2 := sCompare_c a b ha hb
 have h3 := Or2_c (cmpI a.length b.length) (lexI a b)
 (refine ACalls.of_body Ty_ok mixed Tryz.func69 rfl (by kernel_rfl) Tryz.ntmps69 (by simp) (congrArg Array.toList Tryz.results69) ?_)
 simp only [slotsOf]
 (repeat' (first | (with_reducible first | exact True.intro | refine And.intro ?_ ?_ | refine aBl ?_ | (refine aS 5 [] ?_; intro K hK)) | ((with_reducible first | refine aGo ?_); simp only [go_sem]) | ((with_reducible refine aCd ?_ ?_ (fun hb => ?_) (fun hb => ?_)); (iterate 2 simp only [go_sem]); all_goals (simp only [go_sem] at hb; try simp only [bls] at hb)) | ((iterate 6 try ((fail_if_success with_reducible refine hK _ ?_ ?_ ?_); clear hK K)); with_reducible refine hK _ ?_ ?_ ?_; rotate_left; (focus (simp only [go_sem]; exact rfl)); clear hK K) | ((first | (with_reducible first | refine xA ?_ | refine xD ?_ | refine xO ?_ | refine xR ?_ | refine xG ?_ | refine xH ?_ | refine xM ?_) | ((with_reducible refine gA ?_); refine xA ?_) | ((with_reducible refine gD ?_); refine xD ?_) | ((with_reducible refine gG ?_); refine xG ?_)); simp only [go_sem]) | (with_reducible refine aGs (fun hg0 => ?_) (fun hg0 => ?_) <;> first | (with_reducible first | exact aF1 hg0 | exact aF2 hg0) | (simp only [hg0, go_sem])) | (with_reducible refine aNk ?_; intro bnil hnil; try simp only []) | exact aZ | fail))
 rfl
def tkE (n : Net) (m s : List Int) : Int := if markE n m ≠ 0 then markE n m else checkSet s n.init.length
def tkV (n : Net) (m s : List Int) : Int := if tkE n m s = 0 then sumAt m s else 0
theorem Tokens_c (n : Net) (m s : List Int) (hf : n.Fits) (hm : m.length ≤ 1000000) (hn : s.length ≤ 1000000) : ACalls Tryz.prog 80 [.agg n.d, .one (.list (ints m)), .one (.list (ints s))] (.tup [.one (.int .i64 (tkV n m s)), .one (.int .i64 (tkE n m s))]) [] := by
 have h1 := CheckMarking_c n m hf hm
 have h2 := CheckSet_c s n.init.length (by omega)
 have hi := hf.init
 by_cases he : tkE n m s = 0
 ·have he1 : markE n m = 0 := by
   unfold tkE at he
   split at he
   ·omega
   ·omega
  have he2 : checkSet s n.init.length = 0 := by rw [tkE, if_neg (by omega)] at he; exact he
  obtain ⟨_, hl, hx⟩ := mark_ok he1
  have h3 := siTokens_c m s hx (by rw [hl]; exact checkSet_in he2) hn hm
  have e : tkV n m s = sumAt m s := by rw [tkV, if_pos he]
  rw [e, he]
  (refine ACalls.of_body Ty_ok mixed Tryz.func80 rfl (by kernel_rfl) Tryz.ntmps80 (by simp) (congrArg Array.toList Tryz.results80) ?_)
  simp only [slotsOf, Net.d]
  simp only [Net.d] at h1
  (repeat' (first | (with_reducible first | exact True.intro | refine And.intro ?_ ?_ | refine aBl ?_ | (refine aS 10 [] ?_; intro K hK)) | ((with_reducible first | refine aGo ?_); simp only [he1, he2, go_sem]) | ((with_reducible refine aCd ?_ ?_ (fun hb => ?_) (fun hb => ?_)); (iterate 2 simp only [he1, he2, go_sem]); all_goals (simp only [he1, he2, go_sem] at hb; try simp only [bls] at hb)) | ((iterate 6 try ((fail_if_success with_reducible refine hK _ ?_ ?_ ?_); clear hK K)); with_reducible refine hK _ ?_ ?_ ?_; rotate_left; (focus (simp only [he1, he2, go_sem]; exact rfl)); clear hK K) | ((first | (with_reducible first | refine xA ?_ | refine xD ?_ | refine xO ?_ | refine xR ?_ | refine xG ?_ | refine xH ?_ | refine xM ?_) | ((with_reducible refine gA ?_); refine xA ?_) | ((with_reducible refine gD ?_); refine xD ?_) | ((with_reducible refine gG ?_); refine xG ?_)); simp only [he1, he2, go_sem]) | (with_reducible refine aGs (fun hg0 => ?_) (fun hg0 => ?_) <;> first | (with_reducible first | exact aF1 hg0 | exact aF2 hg0) | (simp only [hg0, he1, he2, go_sem])) | (with_reducible refine aNk ?_; intro bnil hnil; try simp only []) | exact aZ | fail))
  all_goals first | omega | skip
 ·have e : tkV n m s = 0 := by rw [tkV, if_neg he]
  rw [e]
  (refine ACalls.of_body Ty_ok mixed Tryz.func80 rfl (by kernel_rfl) Tryz.ntmps80 (by simp) (congrArg Array.toList Tryz.results80) ?_)
  simp only [slotsOf, Net.d]
  simp only [Net.d] at h1
  (repeat' (first | (with_reducible first | exact True.intro | refine And.intro ?_ ?_ | refine aBl ?_ | (refine aS 10 [] ?_; intro K hK)) | ((with_reducible first | refine aGo ?_); simp only [go_sem]) | ((with_reducible refine aCd ?_ ?_ (fun hb => ?_) (fun hb => ?_)); (iterate 2 simp only [go_sem]); all_goals (simp only [go_sem] at hb; try simp only [bls] at hb)) | ((iterate 6 try ((fail_if_success with_reducible refine hK _ ?_ ?_ ?_); clear hK K)); with_reducible refine hK _ ?_ ?_ ?_; rotate_left; (focus (simp only [go_sem]; exact rfl)); clear hK K) | ((first | (with_reducible first | refine xA ?_ | refine xD ?_ | refine xO ?_ | refine xR ?_ | refine xG ?_ | refine xH ?_ | refine xM ?_) | ((with_reducible refine gA ?_); refine xA ?_) | ((with_reducible refine gD ?_); refine xD ?_) | ((with_reducible refine gG ?_); refine xG ?_)); simp only [go_sem]) | (with_reducible refine aGs (fun hg0 => ?_) (fun hg0 => ?_) <;> first | (with_reducible first | exact aF1 hg0 | exact aF2 hg0) | (simp only [hg0, go_sem])) | (with_reducible refine aNk ?_; intro bnil hnil; try simp only []) | exact aZ | fail))
  all_goals (unfold tkE at *; first | omega | (simp_all; done) | skip)
theorem range_pw (p : Nat → Bool) (k : Nat) : (((List.range k).filter p).map Int.ofNat).Pairwise (· < ·) := by
 rw [List.pairwise_map]
 exact ((List.pairwise_lt_range (n := k)).filter p).imp fun h => by simpa using h
end Go.Proofs.YtlpllbbjmbbfnaaGreatDoor
