/-
 Contracts: IndexFunc and ContainsFunc of lists of lists.
-/
import Derived.Test.YtljpfdehnjemlaaDoorS4
set_option linter.unusedSimpArgs false
set_option linter.unusedVariables false
namespace Go.Proofs.YtljpfdehnjemlaaDoor
open Go.Eng Go.RowKit
/-! lists of lists -/
set_option maxHeartbeats 4000000 in
theorem IndexFuncWords_c (l : List (List Int)) (f : FuncId) (caps : List D) (p : List Int → Bool) (hn : l.length ≤ 1000000) (hc : CapsOk caps) (hp : ∀ e ∈ l, ACalls Tryd.prog f (.one (.list (ints e)) :: caps.map AV.one) (.one (.bool (p e))) []) :
  ACalls Tryd.prog 30 [.one (.list (wordsD l)), .one (.clo f caps)] (.one (.int .i64 (ixFrom p 0 l))) [] := by
 have hc1 := hc.lt
 have hc2 := hc.none
 have hc3 := hc.bor
 (refine ACalls.of_body Ty_ok mixed Tryd.func30 rfl (by kernel_rfl) Tryd.ntmps30 (by simp) (congrArg Array.toList Tryd.results30) ?_)
 simp only [slotsOf]
 (repeat' (first | (with_reducible first | exact True.intro | refine And.intro ?_ ?_ | refine aBl ?_ | (refine aS 6 [7, 8] ?_; intro K hK)) | ((with_reducible first | refine aGo ?_); simp only [go_sem]) | ((with_reducible refine aCd ?_ ?_ (fun hb => ?_) (fun hb => ?_)); (iterate 2 simp only [go_sem]); all_goals (simp only [go_sem] at hb; try simp only [bls] at hb)) | ((iterate 6 try ((fail_if_success with_reducible refine hK _ ?_ ?_ ?_); clear hK K)); with_reducible refine hK _ ?_ ?_ ?_; rotate_left; (focus (simp only [go_sem]; exact rfl)); clear hK K) | (with_reducible refine aGs (fun hg0 => ?_) (fun hg0 => ?_) <;> first | (with_reducible first | exact aF1 hg0 | exact aF2 hg0) | (simp only [hg0, go_sem])) | (with_reducible refine aNk ?_; intro bnil hnil; try simp only []) | exact aZ | fail))
 refine awp_loop _ (by simp only [go_sem]; rfl) Nat (fun k => k ≤ l.length ∧ ixFrom p 0 l = ixFrom p k (l.drop k)) (fun k => [(8, .one (.int .i64 k))]) (fun _ H => H) (fun k => l.length - k) 0 ⟨by omega, by simp⟩ ?_ ?_
 ·(simp only [SubF, hc1, hc2, go_sem]; (try simp only [hc1, hc2, go_sem]); repeat' (first | exact True.intro | with_reducible refine And.intro ?_ ?_ | rfl | omega))
 ·rintro k ⟨hk, hres⟩ L hL
  have hq : ((k : Nat) : Int).toNat = k := by omega
  by_cases hlt : k < l.length
  ·have hw := words_at (l := l) hlt [.nil]
   (simp only [go_sem] at hL ⊢)
   (repeat' (first | (with_reducible first | exact True.intro | refine And.intro ?_ ?_ | refine aBl ?_ | (refine aS 6 [7, 8] ?_; intro K hK)) | ((with_reducible first | refine aGo ?_); simp only [hc3, hq, hw, go_sem]) | ((with_reducible refine aCd ?_ ?_ (fun hb => ?_) (fun hb => ?_)); (iterate 2 simp only [hc3, hq, hw, go_sem]); all_goals (simp only [hc3, hq, hw, go_sem] at hb; try simp only [bls] at hb)) | ((iterate 6 try ((fail_if_success with_reducible refine hK _ ?_ ?_ ?_); clear hK K)); with_reducible refine hK _ ?_ ?_ ?_; rotate_left; (focus (simp only [hc3, hq, hw, go_sem]; exact rfl)); clear hK K) | ((first | (with_reducible first | refine cA (hp (l.getD k []) (getD_mem l k [] (by omega))) ?_ | refine cD (hp (l.getD k []) (getD_mem l k [] (by omega))) ?_ | refine cO (hp (l.getD k []) (getD_mem l k [] (by omega))) ?_ | refine cR (hp (l.getD k []) (getD_mem l k [] (by omega))) ?_ | refine cG (fun hg => (hp (l.getD k []) (getD_mem l k [] (by omega)))) ?_ | refine cH (fun hg => (hp (l.getD k []) (getD_mem l k [] (by omega)))) ?_ | refine cM (fun hg => (hp (l.getD k []) (getD_mem l k [] (by omega)))) ?_) | ((with_reducible refine gA ?_); refine cA (hp (l.getD k []) (getD_mem l k [] (by omega))) ?_) | ((with_reducible refine gD ?_); refine cD (hp (l.getD k []) (getD_mem l k [] (by omega))) ?_) | ((with_reducible refine gG ?_); refine cG (fun hg => (hp (l.getD k []) (getD_mem l k [] (by omega)))) ?_)); simp only [hc3, hq, hw, go_sem]) | (with_reducible refine aGs (fun hg0 => ?_) (fun hg0 => ?_) <;> first | (with_reducible first | exact aF1 hg0 | exact aF2 hg0) | (simp only [hg0, hc3, hq, hw, go_sem])) | (with_reducible refine aNk ?_; intro bnil hnil; try simp only []) | exact aZ | fail))
   all_goals first | omega | skip
   ·rw [ix_step (d := []) (by omega) hres, if_pos hb]
   ·have h1 := ix_step (d := []) (by omega) hres
    rw [if_neg (by rw [hb]; simp)] at h1
    refine hL _ (k + 1) ⟨by omega, h1⟩ ?_ (by omega)
    (simp only [SubF, hc1, hc2, go_sem]; (try simp only [hc1, hc2, go_sem]); repeat' (first | exact True.intro | with_reducible refine And.intro ?_ ?_ | rfl | omega))
  ·(simp only [go_sem] at hL ⊢)
   (repeat' (first | (with_reducible first | exact True.intro | refine And.intro ?_ ?_ | refine aBl ?_ | (refine aS 6 [7, 8] ?_; intro K hK)) | ((with_reducible first | refine aGo ?_); simp only [go_sem]) | ((with_reducible refine aCd ?_ ?_ (fun hb => ?_) (fun hb => ?_)); (iterate 2 simp only [go_sem]); all_goals (simp only [go_sem] at hb; try simp only [bls] at hb)) | ((iterate 6 try ((fail_if_success with_reducible refine hK _ ?_ ?_ ?_); clear hK K)); with_reducible refine hK _ ?_ ?_ ?_; rotate_left; (focus (simp only [go_sem]; exact rfl)); clear hK K) | (with_reducible refine aGs (fun hg0 => ?_) (fun hg0 => ?_) <;> first | (with_reducible first | exact aF1 hg0 | exact aF2 hg0) | (simp only [hg0, go_sem])) | (with_reducible refine aNk ?_; intro bnil hnil; try simp only []) | exact aZ | fail))
   all_goals first | omega | skip
   rw [hres, drop_end l k (by omega)]; rfl
theorem ContainsFuncWords_c (l : List (List Int)) (f : FuncId) (caps : List D) (p : List Int → Bool) (hn : l.length ≤ 1000000) (hc : CapsOk caps) (hp : ∀ e ∈ l, ACalls Tryd.prog f (.one (.list (ints e)) :: caps.map AV.one) (.one (.bool (p e))) []) :
  ACalls Tryd.prog 26 [.one (.list (wordsD l)), .one (.clo f caps)] (.one (.bool (l.any p))) [] := by
 have hc1 := hc.lt
 have hc2 := hc.none
 have hc3 := hc.bor
 have hc4 := hc.bor1
 (refine ACalls.of_body Ty_ok mixed Tryd.func26 rfl (by kernel_rfl) Tryd.ntmps26 (by simp) (congrArg Array.toList Tryd.results26) ?_)
 simp only [slotsOf]
 (repeat' (first | (with_reducible first | exact True.intro | refine And.intro ?_ ?_ | refine aBl ?_ | (refine aS 5 [] ?_; intro K hK)) | ((with_reducible first | refine aGo ?_); simp only [hc3, hc4, go_sem]) | ((with_reducible refine aCd ?_ ?_ (fun hb => ?_) (fun hb => ?_)); (iterate 2 simp only [hc3, hc4, go_sem]); all_goals (simp only [hc3, hc4, go_sem] at hb; try simp only [bls] at hb)) | ((iterate 6 try ((fail_if_success with_reducible refine hK _ ?_ ?_ ?_); clear hK K)); with_reducible refine hK _ ?_ ?_ ?_; rotate_left; (focus (simp only [hc3, hc4, go_sem]; exact rfl)); clear hK K) | ((first | (with_reducible first | refine cA (IndexFuncWords_c l f caps p hn hc hp) ?_ | refine cD (IndexFuncWords_c l f caps p hn hc hp) ?_ | refine cO (IndexFuncWords_c l f caps p hn hc hp) ?_ | refine cR (IndexFuncWords_c l f caps p hn hc hp) ?_ | refine cG (fun hg => (IndexFuncWords_c l f caps p hn hc hp)) ?_ | refine cH (fun hg => (IndexFuncWords_c l f caps p hn hc hp)) ?_ | refine cM (fun hg => (IndexFuncWords_c l f caps p hn hc hp)) ?_) | ((with_reducible refine gA ?_); refine cA (IndexFuncWords_c l f caps p hn hc hp) ?_) | ((with_reducible refine gD ?_); refine cD (IndexFuncWords_c l f caps p hn hc hp) ?_) | ((with_reducible refine gG ?_); refine cG (fun hg => (IndexFuncWords_c l f caps p hn hc hp)) ?_)); simp only [hc3, hc4, go_sem]) | (with_reducible refine aGs (fun hg0 => ?_) (fun hg0 => ?_) <;> first | (with_reducible first | exact aF1 hg0 | exact aF2 hg0) | (simp only [hg0, hc3, hc4, go_sem])) | (with_reducible refine aNk ?_; intro bnil hnil; try simp only []) | exact aZ | fail))
 rw [ix_any]
end Go.Proofs.YtljpfdehnjemlaaDoor
