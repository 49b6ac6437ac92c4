/-
 Chapter 23: Users, Alike, Difference, Apply.
-/
import Derived.Test.YtkjnjkdcpbgabaaGreatDoorU8
set_option linter.unusedSimpArgs false
set_option linter.unusedVariables false
namespace Go.Proofs.YtkjnjkdcpbgabaaGreatDoor
open Go.Eng Go.RowKit
set_option maxHeartbeats 4000000 in
theorem IndexFuncLocs_c (l : List Lt) (f : FuncId) (caps : List D) (p : Lt → Bool) (hn : l.length ≤ 1000000) (hc : CapsOk caps) (hp : ∀ e ∈ l, ACalls Tryz.prog f (.agg e.d :: caps.map AV.one) (.one (.bool (p e))) []) :
  ACalls Tryz.prog 104 [.one (.list (ltD l)), .one (.clo f caps)] (.one (.int .i64 (ixFrom p 0 l))) [] := by
 have hc1 := hc.lt
 have hc2 := hc.none
 have hc3 := hc.bor
 (refine ACalls.of_body Ty_ok mixed Tryz.func104 rfl (by kernel_rfl) Tryz.ntmps104 (by simp) (congrArg Array.toList Tryz.results104) ?_)
 simp only [slotsOf]
 (repeat' (first | (with_reducible first | exact True.intro | refine And.intro ?_ ?_ | refine aBl ?_ | ((first | refine aS1 6 [7, 8] ?_ | refine aS2 6 [7, 8] ?_ | refine aS3 6 [7, 8] ?_ | refine aS4 6 [7, 8] ?_ | refine aSq 6 [7, 8] ?_); intro K hK)) | ((with_reducible first | refine aRg ?_ | refine aEx ?_ | refine aSk ?_ | refine aRt ?_ | refine aLk ?_ | refine aOt ?_); simp only [go_sem]) | ((with_reducible refine aCd ?_ ?_ (fun hb => ?_) (fun hb => ?_)); (simp only [go_sem]); (simp only [go_sem]); all_goals (simp only [go_sem] at hb; try simp only [bls] at hb)) | ((iterate 6 try ((fail_if_success with_reducible refine hK _ ?_ ?_ ?_); clear hK K)); with_reducible refine hK _ ?_ ?_ ?_; rotate_left; (focus (simp only [go_sem]; exact rfl)); clear hK K) | (with_reducible refine aGs (fun hg0 => ?_) (fun hg0 => ?_) <;> first | (with_reducible first | exact aF1 hg0 | exact aF2 hg0) | (simp only [hg0, go_sem])) | (with_reducible refine aNk ?_; intro bnil hnil; try simp only []) | (omega; done) | (intro hv; (try simp only [bls] at hv); (try simp only [bls]); omega) | (intro hg; (simp only [hg, Bool.true_and, true_and, implies_true]; try (intro hg2; simp only [hg2, Bool.not_false, Bool.not_true])); done)))
 refine awp_loop _ (by simp only [go_sem]; rfl) Nat (fun k => k ≤ l.length ∧ ixFrom p 0 l = ixFrom p k (l.drop k)) (fun k => [(8, .one (.int .i64 k))]) (fun _ H => H) (fun k => l.length - k) 0 ⟨by omega, by simp⟩ ?_ ?_
 ·(simp only [SubF, hc1, hc2, go_sem]; (try simp only [hc1, hc2, go_sem]); repeat' (first | exact True.intro | with_reducible refine And.intro ?_ ?_ | rfl | omega))
 ·rintro k ⟨hk, hres⟩ L hL
  by_cases hlt : k < l.length
  ·have hq : ((k : Nat) : Int).toNat = k := by omega
   have hpe := hp (l.getD k Lt.no) (getD_mem l k Lt.no hlt)
   have hs := ix_step (d := Lt.no) hlt hres
   generalize hyd : l.getD k Lt.no = e at *
   simp only [Lt.d] at hpe
   (simp only [go_sem] at hL ⊢)
   (repeat' (first | (with_reducible first | exact True.intro | refine And.intro ?_ ?_ | refine aBl ?_ | ((first | refine aS1 6 [7, 8] ?_ | refine aS2 6 [7, 8] ?_ | refine aS3 6 [7, 8] ?_ | refine aS4 6 [7, 8] ?_ | refine aSq 6 [7, 8] ?_); intro K hK)) | ((with_reducible first | refine aRg ?_ | refine aEx ?_ | refine aSk ?_ | refine aRt ?_ | refine aLk ?_ | refine aOt ?_); simp only [hc3, hyd, hq, go_sem]) | ((with_reducible refine aCd ?_ ?_ (fun hb => ?_) (fun hb => ?_)); (simp only [hc3, hyd, hq, go_sem]); (simp only [hc3, hyd, hq, go_sem]); all_goals (simp only [hc3, hyd, hq, go_sem] at hb; try simp only [bls] at hb)) | ((iterate 6 try ((fail_if_success with_reducible refine hK _ ?_ ?_ ?_); clear hK K)); with_reducible refine hK _ ?_ ?_ ?_; rotate_left; (focus (simp only [hc3, hyd, hq, go_sem]; exact rfl)); clear hK K) | ((first | (with_reducible first | refine cA hpe ?_ | refine cD hpe ?_ | refine cO hpe ?_ | refine cR hpe ?_ | refine cG (fun hg => hpe) ?_ | refine cH (fun hg => hpe) ?_ | refine cM (fun hg => hpe) ?_) | (guard_target = CallAt _ _ _ _ _ _ _ _ _ _; refine cA hpe ?_) | (guard_target = DCallAt _ _ _ _ _ _ _ _; refine cD hpe ?_) | (guard_target = GCallAt _ _ _ _ _ _ _ _ _ _ _; refine cG (fun hg => hpe) ?_)); simp only [hc3, hyd, hq, go_sem]) | (with_reducible refine aGs (fun hg0 => ?_) (fun hg0 => ?_) <;> first | (with_reducible first | exact aF1 hg0 | exact aF2 hg0) | (simp only [hg0, hc3, hyd, hq, go_sem])) | (with_reducible refine aNk ?_; intro bnil hnil; try simp only []) | (omega; done) | (intro hv; (try simp only [bls] at hv); (try simp only [bls]); omega) | (intro hg; (simp only [hg, Bool.true_and, true_and, implies_true]; try (intro hg2; simp only [hg2, Bool.not_false, Bool.not_true])); done)))
   all_goals first | omega | skip
   ·rw [hs, if_pos hb]
   ·rw [if_neg (by rw [hb]; simp)] at hs
    refine hL _ (k + 1) ⟨by omega, hs⟩ ?_ (by omega)
    (simp only [SubF, hc1, hc2, go_sem]; (try simp only [hc1, hc2, go_sem]); repeat' (first | exact True.intro | with_reducible refine And.intro ?_ ?_ | rfl | omega))
  ·(simp only [go_sem] at hL ⊢)
   (repeat' (first | (with_reducible first | exact True.intro | refine And.intro ?_ ?_ | refine aBl ?_ | ((first | refine aS1 6 [7, 8] ?_ | refine aS2 6 [7, 8] ?_ | refine aS3 6 [7, 8] ?_ | refine aS4 6 [7, 8] ?_ | refine aSq 6 [7, 8] ?_); intro K hK)) | ((with_reducible first | refine aRg ?_ | refine aEx ?_ | refine aSk ?_ | refine aRt ?_ | refine aLk ?_ | refine aOt ?_); simp only [go_sem]) | ((with_reducible refine aCd ?_ ?_ (fun hb => ?_) (fun hb => ?_)); (simp only [go_sem]); (simp only [go_sem]); all_goals (simp only [go_sem] at hb; try simp only [bls] at hb)) | ((iterate 6 try ((fail_if_success with_reducible refine hK _ ?_ ?_ ?_); clear hK K)); with_reducible refine hK _ ?_ ?_ ?_; rotate_left; (focus (simp only [go_sem]; exact rfl)); clear hK K) | (with_reducible refine aGs (fun hg0 => ?_) (fun hg0 => ?_) <;> first | (with_reducible first | exact aF1 hg0 | exact aF2 hg0) | (simp only [hg0, go_sem])) | (with_reducible refine aNk ?_; intro bnil hnil; try simp only []) | (omega; done) | (intro hv; (try simp only [bls] at hv); (try simp only [bls]); omega) | (intro hg; (simp only [hg, Bool.true_and, true_and, implies_true]; try (intro hg2; simp only [hg2, Bool.not_false, Bool.not_true])); done)))
   all_goals first | omega | skip
   rw [hres, drop_end l k (by omega)]; rfl
theorem ContainsFuncLocs_c (l : List Lt) (f : FuncId) (caps : List D) (p : Lt → Bool) (hn : l.length ≤ 1000000) (hc : CapsOk caps) (hp : ∀ e ∈ l, ACalls Tryz.prog f (.agg e.d :: caps.map AV.one) (.one (.bool (p e))) []) :
  ACalls Tryz.prog 72 [.one (.list (ltD l)), .one (.clo f caps)] (.one (.bool (l.any p))) [] := by
 have h1 := IndexFuncLocs_c l f caps p hn hc hp
 rw [← ix_any p l 0]
 have hc3 := hc.bor
 have hc1 := hc.lt
 have hc2 := hc.none
 have hc4 := hc.bor1
 (refine ACalls.of_body Ty_ok mixed Tryz.func72 rfl (by kernel_rfl) Tryz.ntmps72 (by simp) (congrArg Array.toList Tryz.results72) ?_)
 simp only [slotsOf]
 (repeat' (first | (with_reducible first | exact True.intro | refine And.intro ?_ ?_ | refine aBl ?_ | ((first | refine aS1 5 [] ?_ | refine aS2 5 [] ?_ | refine aS3 5 [] ?_ | refine aS4 5 [] ?_ | refine aSq 5 [] ?_); intro K hK)) | ((with_reducible first | refine aRg ?_ | refine aEx ?_ | refine aSk ?_ | refine aRt ?_ | refine aLk ?_ | refine aOt ?_); simp only [hc1, hc2, hc3, hc4, go_sem]) | ((with_reducible refine aCd ?_ ?_ (fun hb => ?_) (fun hb => ?_)); (simp only [hc1, hc2, hc3, hc4, go_sem]); (simp only [hc1, hc2, hc3, hc4, go_sem]); all_goals (simp only [hc1, hc2, hc3, hc4, go_sem] at hb; try simp only [bls] at hb)) | ((iterate 6 try ((fail_if_success with_reducible refine hK _ ?_ ?_ ?_); clear hK K)); with_reducible refine hK _ ?_ ?_ ?_; rotate_left; (focus (simp only [hc1, hc2, hc3, hc4, go_sem]; exact rfl)); clear hK K) | ((first | (with_reducible first | refine cA h1 ?_ | refine cD h1 ?_ | refine cO h1 ?_ | refine cR h1 ?_ | refine cG (fun hg => h1) ?_ | refine cH (fun hg => h1) ?_ | refine cM (fun hg => h1) ?_) | (guard_target = CallAt _ _ _ _ _ _ _ _ _ _; refine cA h1 ?_) | (guard_target = DCallAt _ _ _ _ _ _ _ _; refine cD h1 ?_) | (guard_target = GCallAt _ _ _ _ _ _ _ _ _ _ _; refine cG (fun hg => h1) ?_)); simp only [hc1, hc2, hc3, hc4, go_sem]) | (with_reducible refine aGs (fun hg0 => ?_) (fun hg0 => ?_) <;> first | (with_reducible first | exact aF1 hg0 | exact aF2 hg0) | (simp only [hg0, hc1, hc2, hc3, hc4, go_sem])) | (with_reducible refine aNk ?_; intro bnil hnil; try simp only []) | (omega; done) | (intro hv; (try simp only [bls] at hv); (try simp only [bls]); omega) | (intro hg; (simp only [hg, Bool.true_and, true_and, implies_true]; try (intro hg2; simp only [hg2, Bool.not_false, Bool.not_true])); done)))
set_option maxHeartbeats 4000000 in
theorem IndexFuncTerms_c (l : List Lt) (f : FuncId) (caps : List D) (p : Lt → Bool) (hn : l.length ≤ 1000000) (hc : CapsOk caps) (hp : ∀ e ∈ l, ACalls Tryz.prog f (.agg e.d :: caps.map AV.one) (.one (.bool (p e))) []) :
  ACalls Tryz.prog 105 [.one (.list (ltD l)), .one (.clo f caps)] (.one (.int .i64 (ixFrom p 0 l))) [] := by
 have hc1 := hc.lt
 have hc2 := hc.none
 have hc3 := hc.bor
 (refine ACalls.of_body Ty_ok mixed Tryz.func105 rfl (by kernel_rfl) Tryz.ntmps105 (by simp) (congrArg Array.toList Tryz.results105) ?_)
 simp only [slotsOf]
 (repeat' (first | (with_reducible first | exact True.intro | refine And.intro ?_ ?_ | refine aBl ?_ | ((first | refine aS1 6 [7, 8] ?_ | refine aS2 6 [7, 8] ?_ | refine aS3 6 [7, 8] ?_ | refine aS4 6 [7, 8] ?_ | refine aSq 6 [7, 8] ?_); intro K hK)) | ((with_reducible first | refine aRg ?_ | refine aEx ?_ | refine aSk ?_ | refine aRt ?_ | refine aLk ?_ | refine aOt ?_); simp only [go_sem]) | ((with_reducible refine aCd ?_ ?_ (fun hb => ?_) (fun hb => ?_)); (simp only [go_sem]); (simp only [go_sem]); all_goals (simp only [go_sem] at hb; try simp only [bls] at hb)) | ((iterate 6 try ((fail_if_success with_reducible refine hK _ ?_ ?_ ?_); clear hK K)); with_reducible refine hK _ ?_ ?_ ?_; rotate_left; (focus (simp only [go_sem]; exact rfl)); clear hK K) | (with_reducible refine aGs (fun hg0 => ?_) (fun hg0 => ?_) <;> first | (with_reducible first | exact aF1 hg0 | exact aF2 hg0) | (simp only [hg0, go_sem])) | (with_reducible refine aNk ?_; intro bnil hnil; try simp only []) | (omega; done) | (intro hv; (try simp only [bls] at hv); (try simp only [bls]); omega) | (intro hg; (simp only [hg, Bool.true_and, true_and, implies_true]; try (intro hg2; simp only [hg2, Bool.not_false, Bool.not_true])); done)))
 refine awp_loop _ (by simp only [go_sem]; rfl) Nat (fun k => k ≤ l.length ∧ ixFrom p 0 l = ixFrom p k (l.drop k)) (fun k => [(8, .one (.int .i64 k))]) (fun _ H => H) (fun k => l.length - k) 0 ⟨by omega, by simp⟩ ?_ ?_
 ·(simp only [SubF, hc1, hc2, go_sem]; (try simp only [hc1, hc2, go_sem]); repeat' (first | exact True.intro | with_reducible refine And.intro ?_ ?_ | rfl | omega))
 ·rintro k ⟨hk, hres⟩ L hL
  by_cases hlt : k < l.length
  ·have hq : ((k : Nat) : Int).toNat = k := by omega
   have hpe := hp (l.getD k Lt.no) (getD_mem l k Lt.no hlt)
   have hs := ix_step (d := Lt.no) hlt hres
   generalize hyd : l.getD k Lt.no = e at *
   simp only [Lt.d] at hpe
   (simp only [go_sem] at hL ⊢)
   (repeat' (first | (with_reducible first | exact True.intro | refine And.intro ?_ ?_ | refine aBl ?_ | ((first | refine aS1 6 [7, 8] ?_ | refine aS2 6 [7, 8] ?_ | refine aS3 6 [7, 8] ?_ | refine aS4 6 [7, 8] ?_ | refine aSq 6 [7, 8] ?_); intro K hK)) | ((with_reducible first | refine aRg ?_ | refine aEx ?_ | refine aSk ?_ | refine aRt ?_ | refine aLk ?_ | refine aOt ?_); simp only [hc3, hyd, hq, go_sem]) | ((with_reducible refine aCd ?_ ?_ (fun hb => ?_) (fun hb => ?_)); (simp only [hc3, hyd, hq, go_sem]); (simp only [hc3, hyd, hq, go_sem]); all_goals (simp only [hc3, hyd, hq, go_sem] at hb; try simp only [bls] at hb)) | ((iterate 6 try ((fail_if_success with_reducible refine hK _ ?_ ?_ ?_); clear hK K)); with_reducible refine hK _ ?_ ?_ ?_; rotate_left; (focus (simp only [hc3, hyd, hq, go_sem]; exact rfl)); clear hK K) | ((first | (with_reducible first | refine cA hpe ?_ | refine cD hpe ?_ | refine cO hpe ?_ | refine cR hpe ?_ | refine cG (fun hg => hpe) ?_ | refine cH (fun hg => hpe) ?_ | refine cM (fun hg => hpe) ?_) | (guard_target = CallAt _ _ _ _ _ _ _ _ _ _; refine cA hpe ?_) | (guard_target = DCallAt _ _ _ _ _ _ _ _; refine cD hpe ?_) | (guard_target = GCallAt _ _ _ _ _ _ _ _ _ _ _; refine cG (fun hg => hpe) ?_)); simp only [hc3, hyd, hq, go_sem]) | (with_reducible refine aGs (fun hg0 => ?_) (fun hg0 => ?_) <;> first | (with_reducible first | exact aF1 hg0 | exact aF2 hg0) | (simp only [hg0, hc3, hyd, hq, go_sem])) | (with_reducible refine aNk ?_; intro bnil hnil; try simp only []) | (omega; done) | (intro hv; (try simp only [bls] at hv); (try simp only [bls]); omega) | (intro hg; (simp only [hg, Bool.true_and, true_and, implies_true]; try (intro hg2; simp only [hg2, Bool.not_false, Bool.not_true])); done)))
   all_goals first | omega | skip
   ·rw [hs, if_pos hb]
   ·rw [if_neg (by rw [hb]; simp)] at hs
    refine hL _ (k + 1) ⟨by omega, hs⟩ ?_ (by omega)
    (simp only [SubF, hc1, hc2, go_sem]; (try simp only [hc1, hc2, go_sem]); repeat' (first | exact True.intro | with_reducible refine And.intro ?_ ?_ | rfl | omega))
  ·(simp only [go_sem] at hL ⊢)
   (repeat' (first | (with_reducible first | exact True.intro | refine And.intro ?_ ?_ | refine aBl ?_ | ((first | refine aS1 6 [7, 8] ?_ | refine aS2 6 [7, 8] ?_ | refine aS3 6 [7, 8] ?_ | refine aS4 6 [7, 8] ?_ | refine aSq 6 [7, 8] ?_); intro K hK)) | ((with_reducible first | refine aRg ?_ | refine aEx ?_ | refine aSk ?_ | refine aRt ?_ | refine aLk ?_ | refine aOt ?_); simp only [go_sem]) | ((with_reducible refine aCd ?_ ?_ (fun hb => ?_) (fun hb => ?_)); (simp only [go_sem]); (simp only [go_sem]); all_goals (simp only [go_sem] at hb; try simp only [bls] at hb)) | ((iterate 6 try ((fail_if_success with_reducible refine hK _ ?_ ?_ ?_); clear hK K)); with_reducible refine hK _ ?_ ?_ ?_; rotate_left; (focus (simp only [go_sem]; exact rfl)); clear hK K) | (with_reducible refine aGs (fun hg0 => ?_) (fun hg0 => ?_) <;> first | (with_reducible first | exact aF1 hg0 | exact aF2 hg0) | (simp only [hg0, go_sem])) | (with_reducible refine aNk ?_; intro bnil hnil; try simp only []) | (omega; done) | (intro hv; (try simp only [bls] at hv); (try simp only [bls]); omega) | (intro hg; (simp only [hg, Bool.true_and, true_and, implies_true]; try (intro hg2; simp only [hg2, Bool.not_false, Bool.not_true])); done)))
   all_goals first | omega | skip
   rw [hres, drop_end l k (by omega)]; rfl
theorem ContainsFuncTerms_c (l : List Lt) (f : FuncId) (caps : List D) (p : Lt → Bool) (hn : l.length ≤ 1000000) (hc : CapsOk caps) (hp : ∀ e ∈ l, ACalls Tryz.prog f (.agg e.d :: caps.map AV.one) (.one (.bool (p e))) []) :
  ACalls Tryz.prog 74 [.one (.list (ltD l)), .one (.clo f caps)] (.one (.bool (l.any p))) [] := by
 have h1 := IndexFuncTerms_c l f caps p hn hc hp
 rw [← ix_any p l 0]
 have hc3 := hc.bor
 have hc1 := hc.lt
 have hc2 := hc.none
 have hc4 := hc.bor1
 (refine ACalls.of_body Ty_ok mixed Tryz.func74 rfl (by kernel_rfl) Tryz.ntmps74 (by simp) (congrArg Array.toList Tryz.results74) ?_)
 simp only [slotsOf]
 (repeat' (first | (with_reducible first | exact True.intro | refine And.intro ?_ ?_ | refine aBl ?_ | ((first | refine aS1 5 [] ?_ | refine aS2 5 [] ?_ | refine aS3 5 [] ?_ | refine aS4 5 [] ?_ | refine aSq 5 [] ?_); intro K hK)) | ((with_reducible first | refine aRg ?_ | refine aEx ?_ | refine aSk ?_ | refine aRt ?_ | refine aLk ?_ | refine aOt ?_); simp only [hc1, hc2, hc3, hc4, go_sem]) | ((with_reducible refine aCd ?_ ?_ (fun hb => ?_) (fun hb => ?_)); (simp only [hc1, hc2, hc3, hc4, go_sem]); (simp only [hc1, hc2, hc3, hc4, go_sem]); all_goals (simp only [hc1, hc2, hc3, hc4, go_sem] at hb; try simp only [bls] at hb)) | ((iterate 6 try ((fail_if_success with_reducible refine hK _ ?_ ?_ ?_); clear hK K)); with_reducible refine hK _ ?_ ?_ ?_; rotate_left; (focus (simp only [hc1, hc2, hc3, hc4, go_sem]; exact rfl)); clear hK K) | ((first | (with_reducible first | refine cA h1 ?_ | refine cD h1 ?_ | refine cO h1 ?_ | refine cR h1 ?_ | refine cG (fun hg => h1) ?_ | refine cH (fun hg => h1) ?_ | refine cM (fun hg => h1) ?_) | (guard_target = CallAt _ _ _ _ _ _ _ _ _ _; refine cA h1 ?_) | (guard_target = DCallAt _ _ _ _ _ _ _ _; refine cD h1 ?_) | (guard_target = GCallAt _ _ _ _ _ _ _ _ _ _ _; refine cG (fun hg => h1) ?_)); simp only [hc1, hc2, hc3, hc4, go_sem]) | (with_reducible refine aGs (fun hg0 => ?_) (fun hg0 => ?_) <;> first | (with_reducible first | exact aF1 hg0 | exact aF2 hg0) | (simp only [hg0, hc1, hc2, hc3, hc4, go_sem])) | (with_reducible refine aNk ?_; intro bnil hnil; try simp only []) | (omega; done) | (intro hv; (try simp only [bls] at hv); (try simp only [bls]); omega) | (intro hg; (simp only [hg, Bool.true_and, true_and, implies_true]; try (intro hg2; simp only [hg2, Bool.not_false, Bool.not_true])); done)))
theorem ContainsFuncIts_c (l : List It) (f : FuncId) (caps : List D) (p : It → Bool) (hn : l.length ≤ 1000000) (hc : CapsOk caps) (hp : ∀ e ∈ l, ACalls Tryz.prog f (.agg e.d :: caps.map AV.one) (.one (.bool (p e))) []) :
  ACalls Tryz.prog 78 [.one (.list (itD l)), .one (.clo f caps)] (.one (.bool (l.any p))) [] := by
 have h1 := IndexFuncIts_c l f caps p hn hc hp
 rw [← ix_any p l 0]
 have hc3 := hc.bor
 have hc1 := hc.lt
 have hc2 := hc.none
 have hc4 := hc.bor1
 (refine ACalls.of_body Ty_ok mixed Tryz.func78 rfl (by kernel_rfl) Tryz.ntmps78 (by simp) (congrArg Array.toList Tryz.results78) ?_)
 simp only [slotsOf]
 (repeat' (first | (with_reducible first | exact True.intro | refine And.intro ?_ ?_ | refine aBl ?_ | ((first | refine aS1 5 [] ?_ | refine aS2 5 [] ?_ | refine aS3 5 [] ?_ | refine aS4 5 [] ?_ | refine aSq 5 [] ?_); intro K hK)) | ((with_reducible first | refine aRg ?_ | refine aEx ?_ | refine aSk ?_ | refine aRt ?_ | refine aLk ?_ | refine aOt ?_); simp only [hc1, hc2, hc3, hc4, go_sem]) | ((with_reducible refine aCd ?_ ?_ (fun hb => ?_) (fun hb => ?_)); (simp only [hc1, hc2, hc3, hc4, go_sem]); (simp only [hc1, hc2, hc3, hc4, go_sem]); all_goals (simp only [hc1, hc2, hc3, hc4, go_sem] at hb; try simp only [bls] at hb)) | ((iterate 6 try ((fail_if_success with_reducible refine hK _ ?_ ?_ ?_); clear hK K)); with_reducible refine hK _ ?_ ?_ ?_; rotate_left; (focus (simp only [hc1, hc2, hc3, hc4, go_sem]; exact rfl)); clear hK K) | ((first | (with_reducible first | refine cA h1 ?_ | refine cD h1 ?_ | refine cO h1 ?_ | refine cR h1 ?_ | refine cG (fun hg => h1) ?_ | refine cH (fun hg => h1) ?_ | refine cM (fun hg => h1) ?_) | (guard_target = CallAt _ _ _ _ _ _ _ _ _ _; refine cA h1 ?_) | (guard_target = DCallAt _ _ _ _ _ _ _ _; refine cD h1 ?_) | (guard_target = GCallAt _ _ _ _ _ _ _ _ _ _ _; refine cG (fun hg => h1) ?_)); simp only [hc1, hc2, hc3, hc4, go_sem]) | (with_reducible refine aGs (fun hg0 => ?_) (fun hg0 => ?_) <;> first | (with_reducible first | exact aF1 hg0 | exact aF2 hg0) | (simp only [hg0, hc1, hc2, hc3, hc4, go_sem])) | (with_reducible refine aNk ?_; intro bnil hnil; try simp only []) | (omega; done) | (intro hv; (try simp only [bls] at hv); (try simp only [bls]); omega) | (intro hg; (simp only [hg, Bool.true_and, true_and, implies_true]; try (intro hg2; simp only [hg2, Bool.not_false, Bool.not_true])); done)))
/-! users of a name -/
def usesB (s : List UInt8) (x : It) : Bool := x.locs.any (fun y => y.name == s) || x.terms.any (fun y => y.name == s)
theorem Users1_c (y : Lt) (s : List UInt8) : ACalls Tryz.prog 73 [.agg y.d, .one (.ref [.str s])] (.one (.bool (y.name == s))) [] := by
 (refine ACalls.of_body Ty_ok mixed Tryz.func73 rfl (by kernel_rfl) Tryz.ntmps73 (by simp) (congrArg Array.toList Tryz.results73) ?_)
 simp only [slotsOf, Lt.d]
 (repeat' (first | (with_reducible first | exact True.intro | refine And.intro ?_ ?_ | refine aBl ?_ | ((first | refine aS1 4 [] ?_ | refine aS2 4 [] ?_ | refine aS3 4 [] ?_ | refine aS4 4 [] ?_ | refine aSq 4 [] ?_); intro K hK)) | ((with_reducible first | refine aRg ?_ | refine aEx ?_ | refine aSk ?_ | refine aRt ?_ | refine aLk ?_ | refine aOt ?_); simp only [go_sem]) | ((with_reducible refine aCd ?_ ?_ (fun hb => ?_) (fun hb => ?_)); (simp only [go_sem]); (simp only [go_sem]); all_goals (simp only [go_sem] at hb; try simp only [bls] at hb)) | ((iterate 6 try ((fail_if_success with_reducible refine hK _ ?_ ?_ ?_); clear hK K)); with_reducible refine hK _ ?_ ?_ ?_; rotate_left; (focus (simp only [go_sem]; exact rfl)); clear hK K) | (with_reducible refine aGs (fun hg0 => ?_) (fun hg0 => ?_) <;> first | (with_reducible first | exact aF1 hg0 | exact aF2 hg0) | (simp only [hg0, go_sem])) | (with_reducible refine aNk ?_; intro bnil hnil; try simp only []) | (omega; done) | (intro hv; (try simp only [bls] at hv); (try simp only [bls]); omega) | (intro hg; (simp only [hg, Bool.true_and, true_and, implies_true]; try (intro hg2; simp only [hg2, Bool.not_false, Bool.not_true])); done)))
theorem Users2_c (y : Lt) (s : List UInt8) : ACalls Tryz.prog 75 [.agg y.d, .one (.ref [.str s])] (.one (.bool (y.name == s))) [] := by
 (refine ACalls.of_body Ty_ok mixed Tryz.func75 rfl (by kernel_rfl) Tryz.ntmps75 (by simp) (congrArg Array.toList Tryz.results75) ?_)
 simp only [slotsOf, Lt.d]
 (repeat' (first | (with_reducible first | exact True.intro | refine And.intro ?_ ?_ | refine aBl ?_ | ((first | refine aS1 4 [] ?_ | refine aS2 4 [] ?_ | refine aS3 4 [] ?_ | refine aS4 4 [] ?_ | refine aSq 4 [] ?_); intro K hK)) | ((with_reducible first | refine aRg ?_ | refine aEx ?_ | refine aSk ?_ | refine aRt ?_ | refine aLk ?_ | refine aOt ?_); simp only [go_sem]) | ((with_reducible refine aCd ?_ ?_ (fun hb => ?_) (fun hb => ?_)); (simp only [go_sem]); (simp only [go_sem]); all_goals (simp only [go_sem] at hb; try simp only [bls] at hb)) | ((iterate 6 try ((fail_if_success with_reducible refine hK _ ?_ ?_ ?_); clear hK K)); with_reducible refine hK _ ?_ ?_ ?_; rotate_left; (focus (simp only [go_sem]; exact rfl)); clear hK K) | (with_reducible refine aGs (fun hg0 => ?_) (fun hg0 => ?_) <;> first | (with_reducible first | exact aF1 hg0 | exact aF2 hg0) | (simp only [hg0, go_sem])) | (with_reducible refine aNk ?_; intro bnil hnil; try simp only []) | (omega; done) | (intro hv; (try simp only [bls] at hv); (try simp only [bls]); omega) | (intro hg; (simp only [hg, Bool.true_and, true_and, implies_true]; try (intro hg2; simp only [hg2, Bool.not_false, Bool.not_true])); done)))
def usersF (s : List UInt8) : Nat → List It → List Int
 | _, [] => []
 | i, x :: l => if usesB s x then (i : Int) :: usersF s (i + 1) l else usersF s (i + 1) l
def usersR (l : List It) (s : List UInt8) : List Int × Int := (if chkL l = 0 then usersF s 0 l else [], chkL l)
set_option maxHeartbeats 8000000 in
theorem Users_c (l : List It) (s : List UInt8) (hf : LFits l) : ACalls Tryz.prog 35 [.one (.list (itD l)), .one (.str s)] (.tup [.one (.list (ints (usersR l s).1)), .one (.int .i64 (usersR l s).2)]) [] := by
 have hl := hf.len
 have hck := Check_c l hf
 have hR : usersR l s = (if chkL l = 0 then usersF s 0 l else [], chkL l) := rfl
 generalize usersR l s = R at *
 generalize chkL l = c at *
 rcases (Decidable.em (c = 0)).symm with h0 | h0
 ·rw [if_neg h0] at hR
  subst hR
  have e0 : ints [] = [] := rfl
  (refine ACalls.of_body Ty_ok mixed Tryz.func35 rfl (by kernel_rfl) Tryz.ntmps35 (by simp) (congrArg Array.toList Tryz.results35) ?_)
  simp only [slotsOf, e0]
  (repeat' (first | (with_reducible first | exact True.intro | refine And.intro ?_ ?_ | refine aBl ?_ | ((first | refine aS1 11 [17, 16, 18] ?_ | refine aS2 11 [17, 16, 18] ?_ | refine aS3 11 [17, 16, 18] ?_ | refine aS4 11 [17, 16, 18] ?_ | refine aSq 11 [17, 16, 18] ?_); intro K hK)) | ((with_reducible first | refine aRg ?_ | refine aEx ?_ | refine aSk ?_ | refine aRt ?_ | refine aLk ?_ | refine aOt ?_); simp only [go_sem]) | ((with_reducible refine aCd ?_ ?_ (fun hb => ?_) (fun hb => ?_)); (simp only [go_sem]); (simp only [go_sem]); all_goals (simp only [go_sem] at hb; try simp only [bls] at hb)) | ((iterate 6 try ((fail_if_success with_reducible refine hK _ ?_ ?_ ?_); clear hK K)); with_reducible refine hK _ ?_ ?_ ?_; rotate_left; (focus (simp only [go_sem]; exact rfl)); clear hK K) | ((first | (with_reducible first | refine cA hck ?_ | refine cD hck ?_ | refine cO hck ?_ | refine cR hck ?_ | refine cG (fun hg => hck) ?_ | refine cH (fun hg => hck) ?_ | refine cM (fun hg => hck) ?_) | (guard_target = CallAt _ _ _ _ _ _ _ _ _ _; refine cA hck ?_) | (guard_target = DCallAt _ _ _ _ _ _ _ _; refine cD hck ?_) | (guard_target = GCallAt _ _ _ _ _ _ _ _ _ _ _; refine cG (fun hg => hck) ?_)); simp only [go_sem]) | (with_reducible refine aGs (fun hg0 => ?_) (fun hg0 => ?_) <;> first | (with_reducible first | exact aF1 hg0 | exact aF2 hg0) | (simp only [hg0, go_sem])) | (with_reducible refine aNk ?_; intro bnil hnil; try simp only []) | (omega; done) | (intro hv; (try simp only [bls] at hv); (try simp only [bls]); omega) | (intro hg; (simp only [hg, Bool.true_and, true_and, implies_true]; try (intro hg2; simp only [hg2, Bool.not_false, Bool.not_true])); done)))
  all_goals first | omega | rfl | skip
 subst h0
 rw [if_pos rfl] at hR
 subst hR
 generalize hU : usersF s 0 l = U at *
 (refine ACalls.of_body Ty_ok mixed Tryz.func35 rfl (by kernel_rfl) Tryz.ntmps35 (by simp) (congrArg Array.toList Tryz.results35) ?_)
 simp only [slotsOf]
 (repeat' (first | (with_reducible first | exact True.intro | refine And.intro ?_ ?_ | refine aBl ?_ | ((first | refine aS1 11 [17, 16, 18] ?_ | refine aS2 11 [17, 16, 18] ?_ | refine aS3 11 [17, 16, 18] ?_ | refine aS4 11 [17, 16, 18] ?_ | refine aSq 11 [17, 16, 18] ?_); intro K hK)) | ((with_reducible first | refine aRg ?_ | refine aEx ?_ | refine aSk ?_ | refine aRt ?_ | refine aLk ?_ | refine aOt ?_); simp only [go_sem]) | ((with_reducible refine aCd ?_ ?_ (fun hb => ?_) (fun hb => ?_)); (simp only [go_sem]); (simp only [go_sem]); all_goals (simp only [go_sem] at hb; try simp only [bls] at hb)) | ((iterate 6 try ((fail_if_success with_reducible refine hK _ ?_ ?_ ?_); clear hK K)); with_reducible refine hK _ ?_ ?_ ?_; rotate_left; (focus (simp only [go_sem]; exact rfl)); clear hK K) | ((first | (with_reducible first | refine cA hck ?_ | refine cD hck ?_ | refine cO hck ?_ | refine cR hck ?_ | refine cG (fun hg => hck) ?_ | refine cH (fun hg => hck) ?_ | refine cM (fun hg => hck) ?_) | (guard_target = CallAt _ _ _ _ _ _ _ _ _ _; refine cA hck ?_) | (guard_target = DCallAt _ _ _ _ _ _ _ _; refine cD hck ?_) | (guard_target = GCallAt _ _ _ _ _ _ _ _ _ _ _; refine cG (fun hg => hck) ?_)); simp only [go_sem]) | (with_reducible refine aGs (fun hg0 => ?_) (fun hg0 => ?_) <;> first | (with_reducible first | exact aF1 hg0 | exact aF2 hg0) | (simp only [hg0, go_sem])) | (with_reducible refine aNk ?_; intro bnil hnil; try simp only []) | (omega; done) | (intro hv; (try simp only [bls] at hv); (try simp only [bls]); omega) | (intro hg; (simp only [hg, Bool.true_and, true_and, implies_true]; try (intro hg2; simp only [hg2, Bool.not_false, Bool.not_true])); done)))
 all_goals first | omega | skip
 refine awp_loop _ (by simp only [go_sem]; rfl) (Nat × List Int) (fun z => z.1 ≤ l.length ∧ U = z.2 ++ usersF s z.1 (l.drop z.1) ∧ z.2.length ≤ z.1) (fun z => [(7, .one (.own 2)), (18, .one (.int .i64 z.1))]) (fun z H => H.set 2 (.row 3 1 (ints z.2))) (fun z => l.length - z.1) (0, []) ⟨by omega, by simpa using hU.symm, by decide⟩ ?_ ?_
 ·(simp only [SubF, go_sem]; (try simp only [go_sem]); repeat' (first | exact True.intro | with_reducible refine And.intro ?_ ?_ | rfl | omega))
 rintro ⟨k, o⟩ ⟨hk, hres, hol⟩ L hL
 dsimp only at hk hres hol
 have hq : ((k : Nat) : Int).toNat = k := by omega
 by_cases hlt : k < l.length
 ·have hg := itD_get hlt [.int .i64 0, .str [], .nil, .int .i64 0, .nil, .nil, .nil, .nil, .int .i64 0]
  have hfe := hf.get hlt
  have h1 := hfe.locs
  have h2 := hfe.terms
  rw [drop_getD l k It.no hlt, usersF] at hres
  generalize l.getD k It.no = y at *
  have hu : usesB s y = (y.locs.any (fun y => y.name == s) || y.terms.any (fun y => y.name == s)) := rfl
  have c1 := ContainsFuncLocs_c y.locs 73 [.ref [.str s]] (fun y => y.name == s) (by omega) (capsOk_ref1 _) (fun e _ => Users1_c e s)
  have c2 := ContainsFuncTerms_c y.terms 75 [.ref [.str s]] (fun y => y.name == s) (by omega) (capsOk_ref1 _) (fun e _ => Users2_c e s)
  generalize usesB s y = u at *
  generalize y.locs.any (fun y => y.name == s) = u1 at *
  generalize y.terms.any (fun y => y.name == s) = u2 at *
  simp only [It.d] at hg
  (simp only [go_sem] at hL ⊢)
  (repeat' (first | (with_reducible first | exact True.intro | refine And.intro ?_ ?_ | refine aBl ?_ | ((first | refine aS1 11 [17, 16, 18] ?_ | refine aS2 11 [17, 16, 18] ?_ | refine aS3 11 [17, 16, 18] ?_ | refine aS4 11 [17, 16, 18] ?_ | refine aSq 11 [17, 16, 18] ?_); intro K hK)) | ((with_reducible first | refine aRg ?_ | refine aEx ?_ | refine aSk ?_ | refine aRt ?_ | refine aLk ?_ | refine aOt ?_); simp only [hg, hq, go_sem]) | ((with_reducible refine aCd ?_ ?_ (fun hb => ?_) (fun hb => ?_)); (simp only [hg, hq, go_sem]); (simp only [hg, hq, go_sem]); all_goals (simp only [hg, hq, go_sem] at hb; try simp only [bls] at hb)) | ((iterate 6 try ((fail_if_success with_reducible refine hK _ ?_ ?_ ?_); clear hK K)); with_reducible refine hK _ ?_ ?_ ?_; rotate_left; (focus (simp only [hg, hq, go_sem]; exact rfl)); clear hK K) | ((first | (with_reducible first | refine cA (by assumption) ?_ | refine cD (by assumption) ?_ | refine cO (by assumption) ?_ | refine cR (by assumption) ?_ | refine cG (fun hg => (by assumption)) ?_ | refine cH (fun hg => (by assumption)) ?_ | refine cM (fun hg => (by assumption)) ?_) | (guard_target = CallAt _ _ _ _ _ _ _ _ _ _; refine cA (by assumption) ?_) | (guard_target = DCallAt _ _ _ _ _ _ _ _; refine cD (by assumption) ?_) | (guard_target = GCallAt _ _ _ _ _ _ _ _ _ _ _; refine cG (fun hg => (by assumption)) ?_)); simp only [hg, hq, go_sem]) | (with_reducible refine aGs (fun hg0 => ?_) (fun hg0 => ?_) <;> first | (with_reducible first | exact aF1 hg0 | exact aF2 hg0) | (simp only [hg0, hg, hq, go_sem])) | (with_reducible refine aNk ?_; intro bnil hnil; try simp only []) | (omega; done) | (intro hv; (try simp only [bls] at hv); (try simp only [bls]); omega) | (intro hg; (simp only [hg, Bool.true_and, true_and, implies_true]; try (intro hg2; simp only [hg2, Bool.not_false, Bool.not_true])); done)))
  all_goals first | omega | skip
  ·rw [if_pos (by rw [hu]; rcases hb with h | h <;> rw [h] <;> simp)] at hres
   refine hL _ (k + 1, o ++ [(k : Int)]) ⟨by omega, by rw [hres, List.append_assoc]; rfl, by simp only [List.length_append, List.length_cons, List.length_nil]; omega⟩ ?_ (by dsimp only; omega)
   dsimp only
   rw [← ints_append]
   (simp only [SubF, go_sem]; (try simp only [go_sem]); repeat' (first | exact True.intro | with_reducible refine And.intro ?_ ?_ | rfl | omega))
  ·rw [if_neg (by rw [hu, hb.1, hb.2]; decide)] at hres
   refine hL _ (k + 1, o) ⟨by omega, hres, by dsimp only; omega⟩ ?_ (by dsimp only; omega)
   (simp only [SubF, go_sem]; (try simp only [go_sem]); repeat' (first | exact True.intro | with_reducible refine And.intro ?_ ?_ | rfl | omega))
 have hkl : k = l.length := by omega
 subst hkl
 rw [List.drop_length, usersF, List.append_nil] at hres
 subst hres
 (simp only [go_sem] at hL ⊢)
 (repeat' (first | (with_reducible first | exact True.intro | refine And.intro ?_ ?_ | refine aBl ?_ | ((first | refine aS1 11 [17, 16, 18] ?_ | refine aS2 11 [17, 16, 18] ?_ | refine aS3 11 [17, 16, 18] ?_ | refine aS4 11 [17, 16, 18] ?_ | refine aSq 11 [17, 16, 18] ?_); intro K hK)) | ((with_reducible first | refine aRg ?_ | refine aEx ?_ | refine aSk ?_ | refine aRt ?_ | refine aLk ?_ | refine aOt ?_); simp only [go_sem]) | ((with_reducible refine aCd ?_ ?_ (fun hb => ?_) (fun hb => ?_)); (simp only [go_sem]); (simp only [go_sem]); all_goals (simp only [go_sem] at hb; try simp only [bls] at hb)) | ((iterate 6 try ((fail_if_success with_reducible refine hK _ ?_ ?_ ?_); clear hK K)); with_reducible refine hK _ ?_ ?_ ?_; rotate_left; (focus (simp only [go_sem]; exact rfl)); clear hK K) | (with_reducible refine aGs (fun hg0 => ?_) (fun hg0 => ?_) <;> first | (with_reducible first | exact aF1 hg0 | exact aF2 hg0) | (simp only [hg0, go_sem])) | (with_reducible refine aNk ?_; intro bnil hnil; try simp only []) | (omega; done) | (intro hv; (try simp only [bls] at hv); (try simp only [bls]); omega) | (intro hg; (simp only [hg, Bool.true_and, true_and, implies_true]; try (intro hg2; simp only [hg2, Bool.not_false, Bool.not_true])); done)))
 all_goals first | omega | rfl | skip
/-! alike -/
def hasB (l : List It) (x : It) : Bool := l.any (fun y => decide (x = y))
def alikeB (a b : List It) : Bool := decide (a.length = b.length) && (a.all (hasB b) && b.all (hasB a))
theorem Alike3_c (x y : It) (hx : x.Fits) : ACalls Tryz.prog 80 [.agg y.d, .one (.ref x.d)] (.one (.bool (decide (x = y)))) [] := by
 have h := itEqual_c x y hx
 simp only [It.d] at h
 (refine ACalls.of_body Ty_ok mixed Tryz.func80 rfl (by kernel_rfl) Tryz.ntmps80 (by simp) (congrArg Array.toList Tryz.results80) ?_)
 simp only [slotsOf, It.d]
 (repeat' (first | (with_reducible first | exact True.intro | refine And.intro ?_ ?_ | refine aBl ?_ | ((first | refine aS1 4 [] ?_ | refine aS2 4 [] ?_ | refine aS3 4 [] ?_ | refine aS4 4 [] ?_ | refine aSq 4 [] ?_); intro K hK)) | ((with_reducible first | refine aRg ?_ | refine aEx ?_ | refine aSk ?_ | refine aRt ?_ | refine aLk ?_ | refine aOt ?_); simp only [go_sem]) | ((with_reducible refine aCd ?_ ?_ (fun hb => ?_) (fun hb => ?_)); (simp only [go_sem]); (simp only [go_sem]); all_goals (simp only [go_sem] at hb; try simp only [bls] at hb)) | ((iterate 6 try ((fail_if_success with_reducible refine hK _ ?_ ?_ ?_); clear hK K)); with_reducible refine hK _ ?_ ?_ ?_; rotate_left; (focus (simp only [go_sem]; exact rfl)); clear hK K) | ((first | (with_reducible first | refine cA h ?_ | refine cD h ?_ | refine cO h ?_ | refine cR h ?_ | refine cG (fun hg => h) ?_ | refine cH (fun hg => h) ?_ | refine cM (fun hg => h) ?_) | (guard_target = CallAt _ _ _ _ _ _ _ _ _ _; refine cA h ?_) | (guard_target = DCallAt _ _ _ _ _ _ _ _; refine cD h ?_) | (guard_target = GCallAt _ _ _ _ _ _ _ _ _ _ _; refine cG (fun hg => h) ?_)); simp only [go_sem]) | (with_reducible refine aGs (fun hg0 => ?_) (fun hg0 => ?_) <;> first | (with_reducible first | exact aF1 hg0 | exact aF2 hg0) | (simp only [hg0, go_sem])) | (with_reducible refine aNk ?_; intro bnil hnil; try simp only []) | (omega; done) | (intro hv; (try simp only [bls] at hv); (try simp only [bls]); omega) | (intro hg; (simp only [hg, Bool.true_and, true_and, implies_true]; try (intro hg2; simp only [hg2, Bool.not_false, Bool.not_true])); done)))
theorem Alike2_c (b : List It) (x : It) (hx : x.Fits) (hb : b.length ≤ 1000) : ACalls Tryz.prog 79 [.agg x.d, .one (.ref [.list (itD b)])] (.one (.bool (!hasB b x))) [] := by
 have h := ContainsFuncIts_c b 80 [.ref x.d] (fun y => decide (x = y)) (by omega) (capsOk_ref1 _) (fun y _ => Alike3_c x y hx)
 rw [hasB]
 simp only [It.d] at h
 (refine ACalls.of_body Ty_ok mixed Tryz.func79 rfl (by kernel_rfl) Tryz.ntmps79 (by simp) (congrArg Array.toList Tryz.results79) ?_)
 simp only [slotsOf, It.d]
 (repeat' (first | (with_reducible first | exact True.intro | refine And.intro ?_ ?_ | refine aBl ?_ | ((first | refine aS1 4 [] ?_ | refine aS2 4 [] ?_ | refine aS3 4 [] ?_ | refine aS4 4 [] ?_ | refine aSq 4 [] ?_); intro K hK)) | ((with_reducible first | refine aRg ?_ | refine aEx ?_ | refine aSk ?_ | refine aRt ?_ | refine aLk ?_ | refine aOt ?_); simp only [go_sem]) | ((with_reducible refine aCd ?_ ?_ (fun hb => ?_) (fun hb => ?_)); (simp only [go_sem]); (simp only [go_sem]); all_goals (simp only [go_sem] at hb; try simp only [bls] at hb)) | ((iterate 6 try ((fail_if_success with_reducible refine hK _ ?_ ?_ ?_); clear hK K)); with_reducible refine hK _ ?_ ?_ ?_; rotate_left; (focus (simp only [go_sem]; exact rfl)); clear hK K) | ((first | (with_reducible first | refine cA h ?_ | refine cD h ?_ | refine cO h ?_ | refine cR h ?_ | refine cG (fun hg => h) ?_ | refine cH (fun hg => h) ?_ | refine cM (fun hg => h) ?_) | (guard_target = CallAt _ _ _ _ _ _ _ _ _ _; refine cA h ?_) | (guard_target = DCallAt _ _ _ _ _ _ _ _; refine cD h ?_) | (guard_target = GCallAt _ _ _ _ _ _ _ _ _ _ _; refine cG (fun hg => h) ?_)); simp only [go_sem]) | (with_reducible refine aGs (fun hg0 => ?_) (fun hg0 => ?_) <;> first | (with_reducible first | exact aF1 hg0 | exact aF2 hg0) | (simp only [hg0, go_sem])) | (with_reducible refine aNk ?_; intro bnil hnil; try simp only []) | (omega; done) | (intro hv; (try simp only [bls] at hv); (try simp only [bls]); omega) | (intro hg; (simp only [hg, Bool.true_and, true_and, implies_true]; try (intro hg2; simp only [hg2, Bool.not_false, Bool.not_true])); done)))
theorem any_not_all {α : Type} (l : List α) (p : α → Bool) : (!l.any (fun x => !p x)) = l.all p := by
 induction l with
 | nil => rfl
 | cons x l ih => rw [List.any_cons, List.all_cons, Bool.not_or, ih, Bool.not_not]
theorem Alike1_c (a b : List It) (ha : LFits a) (hb : b.length ≤ 1000) : ACalls Tryz.prog 77 [.one (.list (itD a)), .one (.list (itD b))] (.one (.bool (a.all (hasB b)))) [] := by
 have hal := ha.len
 have h := ContainsFuncIts_c a 79 [.ref [.list (itD b)]] (fun x => !hasB b x) (by omega) (capsOk_ref1 _) (fun x hx => Alike2_c b x (ha.it x hx) hb)
 rw [← any_not_all]
 (refine ACalls.of_body Ty_ok mixed Tryz.func77 rfl (by kernel_rfl) Tryz.ntmps77 (by simp) (congrArg Array.toList Tryz.results77) ?_)
 simp only [slotsOf]
 (repeat' (first | (with_reducible first | exact True.intro | refine And.intro ?_ ?_ | refine aBl ?_ | ((first | refine aS1 5 [] ?_ | refine aS2 5 [] ?_ | refine aS3 5 [] ?_ | refine aS4 5 [] ?_ | refine aSq 5 [] ?_); intro K hK)) | ((with_reducible first | refine aRg ?_ | refine aEx ?_ | refine aSk ?_ | refine aRt ?_ | refine aLk ?_ | refine aOt ?_); simp only [go_sem]) | ((with_reducible refine aCd ?_ ?_ (fun hb => ?_) (fun hb => ?_)); (simp only [go_sem]); (simp only [go_sem]); all_goals (simp only [go_sem] at hb; try simp only [bls] at hb)) | ((iterate 6 try ((fail_if_success with_reducible refine hK _ ?_ ?_ ?_); clear hK K)); with_reducible refine hK _ ?_ ?_ ?_; rotate_left; (focus (simp only [go_sem]; exact rfl)); clear hK K) | ((first | (with_reducible first | refine cA h ?_ | refine cD h ?_ | refine cO h ?_ | refine cR h ?_ | refine cG (fun hg => h) ?_ | refine cH (fun hg => h) ?_ | refine cM (fun hg => h) ?_) | (guard_target = CallAt _ _ _ _ _ _ _ _ _ _; refine cA h ?_) | (guard_target = DCallAt _ _ _ _ _ _ _ _; refine cD h ?_) | (guard_target = GCallAt _ _ _ _ _ _ _ _ _ _ _; refine cG (fun hg => h) ?_)); simp only [go_sem]) | (with_reducible refine aGs (fun hg0 => ?_) (fun hg0 => ?_) <;> first | (with_reducible first | exact aF1 hg0 | exact aF2 hg0) | (simp only [hg0, go_sem])) | (with_reducible refine aNk ?_; intro bnil hnil; try simp only []) | (omega; done) | (intro hv; (try simp only [bls] at hv); (try simp only [bls]); omega) | (intro hg; (simp only [hg, Bool.true_and, true_and, implies_true]; try (intro hg2; simp only [hg2, Bool.not_false, Bool.not_true])); done)))
set_option maxHeartbeats 4000000 in
theorem Alike_c (a b : List It) (ha : LFits a) (hb : LFits b) : ACalls Tryz.prog 41 [.one (.list (itD a)), .one (.list (itD b))] (.one (.bool (alikeB a b))) [] := by
 have hal := ha.len
 have hbl := hb.len
 have h1 := Alike1_c a b ha hbl
 have h2 := Alike1_c b a hb hal
 rw [alikeB]
 generalize a.all (hasB b) = u at *
 generalize b.all (hasB a) = v at *
 (refine ACalls.of_body Ty_ok mixed Tryz.func41 rfl (by kernel_rfl) Tryz.ntmps41 (by simp) (congrArg Array.toList Tryz.results41) ?_)
 simp only [slotsOf]
 (repeat' (first | (with_reducible first | exact True.intro | refine And.intro ?_ ?_ | refine aBl ?_ | ((first | refine aS1 6 [] ?_ | refine aS2 6 [] ?_ | refine aS3 6 [] ?_ | refine aS4 6 [] ?_ | refine aSq 6 [] ?_); intro K hK)) | ((with_reducible first | refine aRg ?_ | refine aEx ?_ | refine aSk ?_ | refine aRt ?_ | refine aLk ?_ | refine aOt ?_); simp only [go_sem]) | ((with_reducible refine aCd ?_ ?_ (fun hb => ?_) (fun hb => ?_)); (simp only [go_sem]); (simp only [go_sem]); all_goals (simp only [go_sem] at hb; try simp only [bls] at hb)) | ((iterate 6 try ((fail_if_success with_reducible refine hK _ ?_ ?_ ?_); clear hK K)); with_reducible refine hK _ ?_ ?_ ?_; rotate_left; (focus (simp only [go_sem]; exact rfl)); clear hK K) | ((first | (with_reducible first | refine cA (by assumption) ?_ | refine cD (by assumption) ?_ | refine cO (by assumption) ?_ | refine cR (by assumption) ?_ | refine cG (fun hg => (by assumption)) ?_ | refine cH (fun hg => (by assumption)) ?_ | refine cM (fun hg => (by assumption)) ?_) | (guard_target = CallAt _ _ _ _ _ _ _ _ _ _; refine cA (by assumption) ?_) | (guard_target = DCallAt _ _ _ _ _ _ _ _; refine cD (by assumption) ?_) | (guard_target = GCallAt _ _ _ _ _ _ _ _ _ _ _; refine cG (fun hg => (by assumption)) ?_)); simp only [go_sem]) | (with_reducible refine aGs (fun hg0 => ?_) (fun hg0 => ?_) <;> first | (with_reducible first | exact aF1 hg0 | exact aF2 hg0) | (simp only [hg0, go_sem])) | (with_reducible refine aNk ?_; intro bnil hnil; try simp only []) | (omega; done) | (intro hv; (try simp only [bls] at hv); (try simp only [bls]); omega) | (intro hg; (simp only [hg, Bool.true_and, true_and, implies_true]; try (intro hg2; simp only [hg2, Bool.not_false, Bool.not_true])); done)))
 all_goals first | omega | skip
 have e1 : ((a.length : Int) == b.length) = decide (a.length = b.length) := by
  rw [Bool.eq_iff_iff, beq_iff_eq, decide_eq_true_eq]; omega
 rw [e1, Bool.and_assoc]
/-! edits -/
structure Edt where
 drop : Bool
 it : It
 deriving DecidableEq
def Edt.no : Edt := ⟨false, It.no⟩
def Edt.d (e : Edt) : List D := [.bool e.drop, .int .i64 e.it.kind, .str e.it.name, .list (ints e.it.aut.alpha), .int .i64 e.it.aut.states, .list (ints e.it.aut.marked), .list (edD e.it.aut.edges), .list (ltD e.it.locs), .list (ltD e.it.terms), .int .i64 e.it.bound]
def edtD (l : List Edt) : List (List D) := l.map Edt.d
theorem edtD_length (l : List Edt) : (edtD l).length = l.length := by simp [edtD]
theorem edtD_get {l : List Edt} {k : Nat} (hk : k < l.length) (z : List D) : (edtD l).getD k z = (l.getD k Edt.no).d := by
 simp only [edtD, List.getD, List.getElem?_map, List.getElem?_eq_getElem hk]
 rfl
theorem edtD_sz (l : List Edt) : (∀ r : List D, r ∈ edtD l → r.length = 10) ↔ True := ⟨fun _ => trivial, fun _ r hr => by obtain ⟨e, _, rfl⟩ := List.mem_map.1 hr; rfl⟩
attribute [go_sem] edtD_length edtD_sz
def applyGo : List It → List Edt → List It × Int
 | l, [] => (l, 0)
 | l, x :: r =>
  if (if x.drop = true then dropR l x.it.kind x.it.name else putR l x.it).2 ≠ 0 then ([], (if x.drop = true then dropR l x.it.kind x.it.name else putR l x.it).2)
  else applyGo (if x.drop = true then dropR l x.it.kind x.it.name else putR l x.it).1 r
def applyR (l : List It) (es : List Edt) : List It × Int := if chkL l ≠ 0 then ([], chkL l) else applyGo l es
theorem dropR_fits {l : List It} (h : LFits l) (k : Int) (s : List UInt8) : LFits (dropR l k s).1 := by
 rw [dropR]; dsimp only
 by_cases he : dropE l k s = 0
 ·rw [if_pos he, dropL]
  exact ⟨by have := h.len; simp only [List.length_append, List.length_take, List.length_drop]; omega, fun x hx => by
   rcases List.mem_append.1 hx with hx | hx
   ·exact h.it x (List.mem_of_mem_take hx)
   ·exact h.it x (List.mem_of_mem_drop hx)⟩
 ·rw [if_neg he]; exact ⟨by decide, fun x hx => by simp at hx⟩
theorem chkL_len {l : List It} (h : chkL l = 0) : l.length ≤ 76 := by
 rw [chkL] at h
 by_cases hl : 76 < l.length
 ·rw [if_pos hl] at h; omega
 ·omega
theorem putR_fits {l : List It} (h : LFits l) {x : It} (hx : x.Fits) : LFits (putR l x).1 := by
 rw [putR]; dsimp only
 by_cases he : putE l x = 0
 ·rw [if_pos he, putL]
  have hc : chkL l = 0 := by
   rw [putE] at he
   by_cases hc : chkL l = 0
   ·exact hc
   ·rw [if_pos hc] at he; exact absurd he hc
  have hl := chkL_len hc
  by_cases hf : 0 ≤ findI l x.kind x.name
  ·rw [if_pos hf]
   exact ⟨by rw [List.length_set]; omega, fun y hy => by
    rcases List.mem_or_eq_of_mem_set hy with hy | rfl
    ·exact h.it y hy
    ·exact hx⟩
  ·rw [if_neg hf, insL]
   exact ⟨by simp only [List.length_append, List.length_take, List.length_cons, List.length_drop]; omega, fun y hy => by
    rcases List.mem_append.1 hy with hy | hy
    ·exact h.it y (List.mem_of_mem_take hy)
    ·rcases List.mem_cons.1 hy with rfl | hy
     ·exact hx
     ·exact h.it y (List.mem_of_mem_drop hy)⟩
 ·rw [if_neg he]; exact ⟨by decide, fun y hy => by simp at hy⟩
theorem cloneAllF_c (l : List It) (hf : LFits l) : ACalls Tryz.prog 49 [.one (.list (itD l))] (.one (.list (itD l))) [] := ACalls.frozen (cloneAll_c l hf)
set_option maxHeartbeats 8000000 in
theorem Apply_c (l : List It) (es : List Edt) (hf : LFits l) (hl2 : es.length ≤ 1000000) (he : ∀ e ∈ es, e.it.Fits) : ACalls Tryz.prog 37 [.one (.list (itD l)), .one (.list (edtD es))] (.tup [.one (.list (itD (applyR l es).1)), .one (.int .i64 (applyR l es).2)]) [] := by
 have hl := hf.len
 have hck := Check_c l hf
 have hcl := cloneAllF_c l hf
 have hR : applyR l es = if chkL l ≠ 0 then ([], chkL l) else applyGo l es := rfl
 generalize applyR l es = R at *
 generalize chkL l = c at *
 have e0 : itD [] = [] := rfl
 rcases (Decidable.em (c = 0)).symm with h0 | h0
 ·rw [if_pos h0] at hR
  subst hR
  (refine ACalls.of_body Ty_ok mixed Tryz.func37 rfl (by kernel_rfl) Tryz.ntmps37 (by simp) (congrArg Array.toList Tryz.results37) ?_)
  simp only [slotsOf, e0]
  (repeat' (first | (with_reducible first | exact True.intro | refine And.intro ?_ ?_ | refine aBl ?_ | ((first | refine aS1 11 [19, 18, 20] ?_ | refine aS2 11 [19, 18, 20] ?_ | refine aS3 11 [19, 18, 20] ?_ | refine aS4 11 [19, 18, 20] ?_ | refine aSq 11 [19, 18, 20] ?_); intro K hK)) | ((with_reducible first | refine aRg ?_ | refine aEx ?_ | refine aSk ?_ | refine aRt ?_ | refine aLk ?_ | refine aOt ?_); simp only [go_sem]) | ((with_reducible refine aCd ?_ ?_ (fun hb => ?_) (fun hb => ?_)); (simp only [go_sem]); (simp only [go_sem]); all_goals (simp only [go_sem] at hb; try simp only [bls] at hb)) | ((iterate 6 try ((fail_if_success with_reducible refine hK _ ?_ ?_ ?_); clear hK K)); with_reducible refine hK _ ?_ ?_ ?_; rotate_left; (focus (simp only [go_sem]; exact rfl)); clear hK K) | ((first | (with_reducible first | refine cA hck ?_ | refine cD hck ?_ | refine cO hck ?_ | refine cR hck ?_ | refine cG (fun hg => hck) ?_ | refine cH (fun hg => hck) ?_ | refine cM (fun hg => hck) ?_) | (guard_target = CallAt _ _ _ _ _ _ _ _ _ _; refine cA hck ?_) | (guard_target = DCallAt _ _ _ _ _ _ _ _; refine cD hck ?_) | (guard_target = GCallAt _ _ _ _ _ _ _ _ _ _ _; refine cG (fun hg => hck) ?_)); simp only [go_sem]) | (with_reducible refine aGs (fun hg0 => ?_) (fun hg0 => ?_) <;> first | (with_reducible first | exact aF1 hg0 | exact aF2 hg0) | (simp only [hg0, go_sem])) | (with_reducible refine aNk ?_; intro bnil hnil; try simp only []) | (omega; done) | (intro hv; (try simp only [bls] at hv); (try simp only [bls]); omega) | (intro hg; (simp only [hg, Bool.true_and, true_and, implies_true]; try (intro hg2; simp only [hg2, Bool.not_false, Bool.not_true])); done)))
  all_goals first | omega | rfl | skip
 subst h0
 rw [if_neg (by decide)] at hR
 (refine ACalls.of_body Ty_ok mixed Tryz.func37 rfl (by kernel_rfl) Tryz.ntmps37 (by simp) (congrArg Array.toList Tryz.results37) ?_)
 simp only [slotsOf]
 (repeat' (first | (with_reducible first | exact True.intro | refine And.intro ?_ ?_ | refine aBl ?_ | ((first | refine aS1 11 [19, 18, 20] ?_ | refine aS2 11 [19, 18, 20] ?_ | refine aS3 11 [19, 18, 20] ?_ | refine aS4 11 [19, 18, 20] ?_ | refine aSq 11 [19, 18, 20] ?_); intro K hK)) | ((with_reducible first | refine aRg ?_ | refine aEx ?_ | refine aSk ?_ | refine aRt ?_ | refine aLk ?_ | refine aOt ?_); simp only [go_sem]) | ((with_reducible refine aCd ?_ ?_ (fun hb => ?_) (fun hb => ?_)); (simp only [go_sem]); (simp only [go_sem]); all_goals (simp only [go_sem] at hb; try simp only [bls] at hb)) | ((iterate 6 try ((fail_if_success with_reducible refine hK _ ?_ ?_ ?_); clear hK K)); with_reducible refine hK _ ?_ ?_ ?_; rotate_left; (focus (simp only [go_sem]; exact rfl)); clear hK K) | ((first | (with_reducible first | refine cA (by assumption) ?_ | refine cD (by assumption) ?_ | refine cO (by assumption) ?_ | refine cR (by assumption) ?_ | refine cG (fun hg => (by assumption)) ?_ | refine cH (fun hg => (by assumption)) ?_ | refine cM (fun hg => (by assumption)) ?_) | (guard_target = CallAt _ _ _ _ _ _ _ _ _ _; refine cA (by assumption) ?_) | (guard_target = DCallAt _ _ _ _ _ _ _ _; refine cD (by assumption) ?_) | (guard_target = GCallAt _ _ _ _ _ _ _ _ _ _ _; refine cG (fun hg => (by assumption)) ?_)); simp only [go_sem]) | (with_reducible refine aGs (fun hg0 => ?_) (fun hg0 => ?_) <;> first | (with_reducible first | exact aF1 hg0 | exact aF2 hg0) | (simp only [hg0, go_sem])) | (with_reducible refine aNk ?_; intro bnil hnil; try simp only []) | (omega; done) | (intro hv; (try simp only [bls] at hv); (try simp only [bls]); omega) | (intro hg; (simp only [hg, Bool.true_and, true_and, implies_true]; try (intro hg2; simp only [hg2, Bool.not_false, Bool.not_true])); done)))
 all_goals first | omega | skip
 refine awp_loop _ (by simp only [go_sem]; rfl) (Nat × List It) (fun z => z.1 ≤ es.length ∧ R = applyGo z.2 (es.drop z.1) ∧ LFits z.2) (fun z => [(7, .one (.list (itD z.2))), (20, .one (.int .i64 z.1))]) (fun _ H => H) (fun z => es.length - z.1) (0, l) ⟨by omega, by simpa using hR, hf⟩ ?_ ?_
 ·(simp only [SubF, go_sem]; (try simp only [go_sem]); repeat' (first | exact True.intro | with_reducible refine And.intro ?_ ?_ | rfl | omega))
 rintro ⟨k, o⟩ ⟨hk, hres, hfo⟩ L hL
 dsimp only at hk hres hfo
 have hq : ((k : Nat) : Int).toNat = k := by omega
 by_cases hlt : k < es.length
 ·have hg := edtD_get hlt [.bool false, .int .i64 0, .str [], .nil, .int .i64 0, .nil, .nil, .nil, .nil, .int .i64 0]
  have hye := he _ (getD_mem es k Edt.no hlt)
  rw [drop_getD es k Edt.no hlt, applyGo] at hres
  generalize es.getD k Edt.no = y at *
  have c1 := Drop_c o y.it.kind y.it.name hfo
  have c2 := Put_c o y.it hfo hye
  have f1 := dropR_fits hfo y.it.kind y.it.name
  have f2 := putR_fits hfo hye
  generalize dropR o y.it.kind y.it.name = dR at *
  generalize putR o y.it = pR at *
  simp only [Edt.d] at hg
  simp only [It.d] at c2
  (simp only [go_sem] at hL ⊢)
  (repeat' (first | (with_reducible first | exact True.intro | refine And.intro ?_ ?_ | refine aBl ?_ | ((first | refine aS1 11 [19, 18, 20] ?_ | refine aS2 11 [19, 18, 20] ?_ | refine aS3 11 [19, 18, 20] ?_ | refine aS4 11 [19, 18, 20] ?_ | refine aSq 11 [19, 18, 20] ?_); intro K hK)) | ((with_reducible first | refine aRg ?_ | refine aEx ?_ | refine aSk ?_ | refine aRt ?_ | refine aLk ?_ | refine aOt ?_); simp only [hg, hq, go_sem]) | ((with_reducible refine aCd ?_ ?_ (fun hb => ?_) (fun hb => ?_)); (simp only [hg, hq, go_sem]); (simp only [hg, hq, go_sem]); all_goals (simp only [hg, hq, go_sem] at hb; try simp only [bls] at hb)) | ((iterate 6 try ((fail_if_success with_reducible refine hK _ ?_ ?_ ?_); clear hK K)); with_reducible refine hK _ ?_ ?_ ?_; rotate_left; (focus (simp only [hg, hq, go_sem]; exact rfl)); clear hK K) | ((first | (with_reducible first | refine cA (by assumption) ?_ | refine cD (by assumption) ?_ | refine cO (by assumption) ?_ | refine cR (by assumption) ?_ | refine cG (fun hg => (by assumption)) ?_ | refine cH (fun hg => (by assumption)) ?_ | refine cM (fun hg => (by assumption)) ?_) | (guard_target = CallAt _ _ _ _ _ _ _ _ _ _; refine cA (by assumption) ?_) | (guard_target = DCallAt _ _ _ _ _ _ _ _; refine cD (by assumption) ?_) | (guard_target = GCallAt _ _ _ _ _ _ _ _ _ _ _; refine cG (fun hg => (by assumption)) ?_)); simp only [hg, hq, go_sem]) | (with_reducible refine aGs (fun hg0 => ?_) (fun hg0 => ?_) <;> first | (with_reducible first | exact aF1 hg0 | exact aF2 hg0) | (simp only [hg0, hg, hq, go_sem])) | (with_reducible refine aNk ?_; intro bnil hnil; try simp only []) | (omega; done) | (intro hv; (try simp only [bls] at hv); (try simp only [bls]); omega) | (intro hg; (simp only [hg, Bool.true_and, true_and, implies_true]; try (intro hg2; simp only [hg2, Bool.not_false, Bool.not_true])); done)))
  all_goals first | omega | skip
  ·simp only [‹y.drop = true›, if_true] at hres
   rw [if_pos (by assumption)] at hres; subst hres; rfl
  ·simp only [‹y.drop = true›, if_true] at hres
   rw [if_pos (by assumption)] at hres; subst hres; rfl
  ·simp only [‹y.drop = true›, if_true] at hres
   rw [if_neg (by omega)] at hres
   refine hL _ (k + 1, dR.1) ⟨by omega, hres, f1⟩ ?_ (by dsimp only; omega)
   (simp only [SubF, go_sem]; (try simp only [go_sem]); repeat' (first | exact True.intro | with_reducible refine And.intro ?_ ?_ | rfl | omega))
  ·simp only [‹y.drop = false›, Bool.false_eq_true, if_false] at hres
   rw [if_pos (by assumption)] at hres; subst hres; rfl
  ·simp only [‹y.drop = false›, Bool.false_eq_true, if_false] at hres
   rw [if_pos (by assumption)] at hres; subst hres; rfl
  ·simp only [‹y.drop = false›, Bool.false_eq_true, if_false] at hres
   rw [if_neg (by omega)] at hres
   refine hL _ (k + 1, pR.1) ⟨by omega, hres, f2⟩ ?_ (by dsimp only; omega)
   (simp only [SubF, go_sem]; (try simp only [go_sem]); repeat' (first | exact True.intro | with_reducible refine And.intro ?_ ?_ | rfl | omega))
 have hkl : k = es.length := by omega
 subst hkl
 rw [List.drop_length, applyGo] at hres
 subst hres
 (simp only [go_sem] at hL ⊢)
 (repeat' (first | (with_reducible first | exact True.intro | refine And.intro ?_ ?_ | refine aBl ?_ | ((first | refine aS1 11 [19, 18, 20] ?_ | refine aS2 11 [19, 18, 20] ?_ | refine aS3 11 [19, 18, 20] ?_ | refine aS4 11 [19, 18, 20] ?_ | refine aSq 11 [19, 18, 20] ?_); intro K hK)) | ((with_reducible first | refine aRg ?_ | refine aEx ?_ | refine aSk ?_ | refine aRt ?_ | refine aLk ?_ | refine aOt ?_); simp only [go_sem]) | ((with_reducible refine aCd ?_ ?_ (fun hb => ?_) (fun hb => ?_)); (simp only [go_sem]); (simp only [go_sem]); all_goals (simp only [go_sem] at hb; try simp only [bls] at hb)) | ((iterate 6 try ((fail_if_success with_reducible refine hK _ ?_ ?_ ?_); clear hK K)); with_reducible refine hK _ ?_ ?_ ?_; rotate_left; (focus (simp only [go_sem]; exact rfl)); clear hK K) | (with_reducible refine aGs (fun hg0 => ?_) (fun hg0 => ?_) <;> first | (with_reducible first | exact aF1 hg0 | exact aF2 hg0) | (simp only [hg0, go_sem])) | (with_reducible refine aNk ?_; intro bnil hnil; try simp only []) | (omega; done) | (intro hv; (try simp only [bls] at hv); (try simp only [bls]); omega) | (intro hg; (simp only [hg, Bool.true_and, true_and, implies_true]; try (intro hg2; simp only [hg2, Bool.not_false, Bool.not_true])); done)))
 all_goals first | omega | rfl | skip
/-! difference -/
theorem leV_tup {us ts : List AV} (h : LeVs us ts) : LeV (.tup us) (.tup ts) := fun w M β v k => by
 obtain ⟨vs, e, k⟩ := k
 exact ⟨vs, e, LeVs.rep h k⟩
theorem ACalls.weak {P : Program} {f : FuncId} {args : List AV} {r r' : AV} {Hn : List AObj} (h : LeV r r') (hc : ACalls P f args r Hn) : ACalls P f args r' Hn := ⟨hc.ok, fun w M vs hM hv => (hc.run w M vs hM hv).mono fun e w' hh => by
 obtain ⟨v, β, h1, h2⟩ := hh
 exact ⟨v, β, h1, { h2 with val := h _ _ _ _ h2.val }⟩⟩
theorem leR_map {α : Type} {f g : α → List D} (h : ∀ x, LeL (f x) (g x)) : ∀ l : List α, LeR (l.map f) (l.map g)
 | [] => trivial
 | x :: l => ⟨h x, leR_map h l⟩
def Edt.dn (e : Edt) : List D := if e.drop = true ∧ e.it.aut = AU.no ∧ e.it.locs = [] ∧ e.it.terms = [] then [.bool e.drop, .int .i64 e.it.kind, .str e.it.name, .nil, .int .i64 0, .nil, .nil, .nil, .nil, .int .i64 e.it.bound] else e.d
theorem Edt.dn_drop (k : Int) (s : List UInt8) : Edt.dn ⟨true, ⟨k, s, AU.no, [], [], 0⟩⟩ = [.bool true, .int .i64 k, .str s, .nil, .int .i64 0, .nil, .nil, .nil, .nil, .int .i64 0] := by
 rw [Edt.dn, if_pos ⟨rfl, rfl, rfl, rfl⟩]
theorem Edt.dn_put (x : It) : Edt.dn ⟨false, x⟩ = [.bool false, .int .i64 x.kind, .str x.name, .list (ints x.aut.alpha), .int .i64 x.aut.states, .list (ints x.aut.marked), .list (edD x.aut.edges), .list (ltD x.locs), .list (ltD x.terms), .int .i64 x.bound] := by
 rw [Edt.dn, if_neg (fun h => by cases h.1)]; rfl
theorem Edt.dn_le (e : Edt) : LeL e.dn e.d := by
 rw [Edt.dn]
 by_cases h : e.drop = true ∧ e.it.aut = AU.no ∧ e.it.locs = [] ∧ e.it.terms = []
 ·rw [if_pos h]
  obtain ⟨h1, h2, h3, h4⟩ := h
  rw [Edt.d, h2, h3, h4]
  exact LeL.cons (LeD.refl _) (LeL.cons (LeD.refl _) (LeL.cons (LeD.refl _) (LeL.cons leD_nil (LeL.cons (LeD.refl _) (LeL.cons leD_nil (LeL.cons leD_nil (LeL.cons leD_nil (LeL.cons leD_nil (LeL.refl _)))))))))
 ·rw [if_neg h]; exact LeL.refl _
def edtN (l : List Edt) : List (List D) := l.map Edt.dn
theorem edtN_length (l : List Edt) : (edtN l).length = l.length := by simp [edtN]
theorem edt_dn_length (e : Edt) : e.dn.length = 10 := by
 rw [Edt.dn]
 by_cases h : e.drop = true ∧ e.it.aut = AU.no ∧ e.it.locs = [] ∧ e.it.terms = []
 ·rw [if_pos h]; rfl
 ·rw [if_neg h]; rfl
theorem edtN_sz (l : List Edt) : (∀ r : List D, r ∈ edtN l → r.length = 10) ↔ True := ⟨fun _ => trivial, fun _ r hr => by obtain ⟨e, _, rfl⟩ := List.mem_map.1 hr; exact edt_dn_length e⟩
theorem edtN_append (xs ys : List Edt) : edtN xs ++ edtN ys = edtN (xs ++ ys) := by simp [edtN]
theorem edtN_drop (k : Int) (s : List UInt8) : edtN [⟨true, ⟨k, s, AU.no, [], [], 0⟩⟩] = [[.bool true, .int .i64 k, .str s, .nil, .int .i64 0, .nil, .nil, .nil, .nil, .int .i64 0]] := by
 rw [edtN, List.map_cons, List.map_nil, Edt.dn_drop]
theorem edtN_put (x : It) : edtN [⟨false, x⟩] = [[.bool false, .int .i64 x.kind, .str x.name, .list (ints x.aut.alpha), .int .i64 x.aut.states, .list (ints x.aut.marked), .list (edD x.aut.edges), .list (ltD x.locs), .list (ltD x.terms), .int .i64 x.bound]] := by
 rw [edtN, List.map_cons, List.map_nil, Edt.dn_put]
attribute [go_sem] edtN_length edtN_sz
def diffA (b a : List It) : List Edt := (a.filter (fun x => decide (findI b x.kind x.name < 0))).map (fun x => ⟨true, ⟨x.kind, x.name, AU.no, [], [], 0⟩⟩)
def newB (a : List It) (x : It) : Bool := !(decide (0 ≤ findI a x.kind x.name) && decide (a.getD (findI a x.kind x.name).toNat It.no = x))
def diffB (a b : List It) : List Edt := (b.filter (newB a)).map (fun x => ⟨false, x⟩)
def diffR (a b : List It) : List Edt × Int := if chkL a ≠ 0 then ([], chkL a) else if chkL b ≠ 0 then ([], chkL b) else (diffA b a ++ diffB a b, 0)
set_option maxHeartbeats 16000000 in
theorem DifferenceN_c (a b : List It) (ha : LFits a) (hb' : LFits b) : ACalls Tryz.prog 38 [.one (.list (itD a)), .one (.list (itD b))] (.tup [.one (.list (edtN (diffR a b).1)), .one (.int .i64 (diffR a b).2)]) [] := by
 have hal := ha.len
 have hbl := hb'.len
 have hbi := hb'.it
 have hca := Check_c a ha
 have hcb := Check_c b hb'
 have hR : diffR a b = if chkL a ≠ 0 then ([], chkL a) else if chkL b ≠ 0 then ([], chkL b) else (diffA b a ++ diffB a b, 0) := rfl
 generalize diffR a b = R at *
 have e0 : edtN [] = [] := rfl
 (refine ACalls.of_body Ty_ok mixed Tryz.func38 rfl (by kernel_rfl) Tryz.ntmps38 (by simp) (congrArg Array.toList Tryz.results38) ?_)
 simp only [slotsOf]
 (repeat' (first | (with_reducible first | exact True.intro | refine And.intro ?_ ?_ | refine aBl ?_ | ((first | refine aS1 12 [21, 20, 22, 33, 32, 13, 34, 60, 59, 17, 16, 15, 61] ?_ | refine aS2 12 [21, 20, 22, 33, 32, 13, 34, 60, 59, 17, 16, 15, 61] ?_ | refine aS3 12 [21, 20, 22, 33, 32, 13, 34, 60, 59, 17, 16, 15, 61] ?_ | refine aS4 12 [21, 20, 22, 33, 32, 13, 34, 60, 59, 17, 16, 15, 61] ?_ | refine aSq 12 [21, 20, 22, 33, 32, 13, 34, 60, 59, 17, 16, 15, 61] ?_); intro K hK)) | ((with_reducible first | refine aRg ?_ | refine aEx ?_ | refine aSk ?_ | refine aRt ?_ | refine aLk ?_ | refine aOt ?_ | refine rP Ty_ok mixed 20 [0] [.mid [pe 1, pe 2, pe 3, pe 4, pe 5, pe 6, pe 7] 0, .one 8, .mid [pe 9, pe 10] 0] ?_); simp only [go_sem]) | ((with_reducible refine aCd ?_ ?_ (fun hb => ?_) (fun hb => ?_)); (simp only [go_sem]); (simp only [go_sem]); all_goals (simp only [go_sem] at hb; try simp only [bls] at hb)) | ((iterate 6 try ((fail_if_success with_reducible refine hK _ ?_ ?_ ?_); clear hK K)); with_reducible refine hK _ ?_ ?_ ?_; rotate_left; (focus (simp only [go_sem]; exact rfl)); clear hK K) | (with_reducible refine aGs (fun hg0 => ?_) (fun hg0 => ?_) <;> first | (with_reducible first | exact aF1 hg0 | exact aF2 hg0) | (simp only [hg0, go_sem])) | (with_reducible refine aNk ?_; intro bnil hnil; try simp only []) | (omega; done) | (intro hv; (try simp only [bls] at hv); (try simp only [bls]); omega) | (intro hg; (simp only [hg, Bool.true_and, true_and, implies_true]; try (intro hg2; simp only [hg2, Bool.not_false, Bool.not_true])); done)))
 all_goals first | omega | skip
 refine awp_loop _ (by simp only [go_sem]; rfl) Nat (fun k => k ≤ 2 ∧ (1 ≤ k → chkL a = 0) ∧ (2 ≤ k → chkL b = 0)) (fun k => [(22, .one (.int .i64 k))]) (fun _ H => H) (fun k => 2 - k) 0 ⟨by omega, by omega, by omega⟩ ?_ ?_
 ·(simp only [SubF, go_sem]; (try simp only [go_sem]); repeat' (first | exact True.intro | with_reducible refine And.intro ?_ ?_ | rfl | omega))
 rintro k ⟨hk, hk1, hk2⟩ L hL
 have hq : ((k : Nat) : Int).toNat = k := by omega
 rcases (show k = 0 ∨ k = 1 ∨ k = 2 by omega) with rfl | rfl | rfl
 ·(simp only [go_sem] at hL ⊢)
  (repeat' (first | (with_reducible first | exact True.intro | refine And.intro ?_ ?_ | refine aBl ?_ | ((first | refine aS1 12 [21, 20, 22, 33, 32, 13, 34, 60, 59, 17, 16, 15, 61] ?_ | refine aS2 12 [21, 20, 22, 33, 32, 13, 34, 60, 59, 17, 16, 15, 61] ?_ | refine aS3 12 [21, 20, 22, 33, 32, 13, 34, 60, 59, 17, 16, 15, 61] ?_ | refine aS4 12 [21, 20, 22, 33, 32, 13, 34, 60, 59, 17, 16, 15, 61] ?_ | refine aSq 12 [21, 20, 22, 33, 32, 13, 34, 60, 59, 17, 16, 15, 61] ?_); intro K hK)) | ((with_reducible first | refine aRg ?_ | refine aEx ?_ | refine aSk ?_ | refine aRt ?_ | refine aLk ?_ | refine aOt ?_ | refine rP Ty_ok mixed 20 [0] [.mid [pe 1, pe 2, pe 3, pe 4, pe 5, pe 6, pe 7] 0, .one 8, .mid [pe 9, pe 10] 0] ?_); simp only [go_sem]) | ((with_reducible refine aCd ?_ ?_ (fun hb => ?_) (fun hb => ?_)); (simp only [go_sem]); (simp only [go_sem]); all_goals (simp only [go_sem] at hb; try simp only [bls] at hb)) | ((iterate 6 try ((fail_if_success with_reducible refine hK _ ?_ ?_ ?_); clear hK K)); with_reducible refine hK _ ?_ ?_ ?_; rotate_left; (focus (simp only [go_sem]; exact rfl)); clear hK K) | ((first | (with_reducible first | refine cA hca ?_ | refine cD hca ?_ | refine cO hca ?_ | refine cR hca ?_ | refine cG (fun hg => hca) ?_ | refine cH (fun hg => hca) ?_ | refine cM (fun hg => hca) ?_) | (guard_target = CallAt _ _ _ _ _ _ _ _ _ _; refine cA hca ?_) | (guard_target = DCallAt _ _ _ _ _ _ _ _; refine cD hca ?_) | (guard_target = GCallAt _ _ _ _ _ _ _ _ _ _ _; refine cG (fun hg => hca) ?_)); simp only [go_sem]) | (with_reducible refine aGs (fun hg0 => ?_) (fun hg0 => ?_) <;> first | (with_reducible first | exact aF1 hg0 | exact aF2 hg0) | (simp only [hg0, go_sem])) | (with_reducible refine aNk ?_; intro bnil hnil; try simp only []) | (omega; done) | (intro hv; (try simp only [bls] at hv); (try simp only [bls]); omega) | (intro hg; (simp only [hg, Bool.true_and, true_and, implies_true]; try (intro hg2; simp only [hg2, Bool.not_false, Bool.not_true])); done)))
  all_goals first | omega | skip
  ·rw [if_pos (by assumption)] at hR; subst hR; rfl
  ·rw [if_pos (by assumption)] at hR; subst hR; rfl
  ·exact hL _ 1 ⟨by omega, fun _ => by assumption, by omega⟩ (by (simp only [SubF, go_sem]; (try simp only [go_sem]); repeat' (first | exact True.intro | with_reducible refine And.intro ?_ ?_ | rfl | omega))) (by omega)
 ·have h1 := hk1 (by omega)
  rw [if_neg (by omega)] at hR
  (simp only [go_sem] at hL ⊢)
  (repeat' (first | (with_reducible first | exact True.intro | refine And.intro ?_ ?_ | refine aBl ?_ | ((first | refine aS1 12 [21, 20, 22, 33, 32, 13, 34, 60, 59, 17, 16, 15, 61] ?_ | refine aS2 12 [21, 20, 22, 33, 32, 13, 34, 60, 59, 17, 16, 15, 61] ?_ | refine aS3 12 [21, 20, 22, 33, 32, 13, 34, 60, 59, 17, 16, 15, 61] ?_ | refine aS4 12 [21, 20, 22, 33, 32, 13, 34, 60, 59, 17, 16, 15, 61] ?_ | refine aSq 12 [21, 20, 22, 33, 32, 13, 34, 60, 59, 17, 16, 15, 61] ?_); intro K hK)) | ((with_reducible first | refine aRg ?_ | refine aEx ?_ | refine aSk ?_ | refine aRt ?_ | refine aLk ?_ | refine aOt ?_ | refine rP Ty_ok mixed 20 [0] [.mid [pe 1, pe 2, pe 3, pe 4, pe 5, pe 6, pe 7] 0, .one 8, .mid [pe 9, pe 10] 0] ?_); simp only [go_sem]) | ((with_reducible refine aCd ?_ ?_ (fun hb => ?_) (fun hb => ?_)); (simp only [go_sem]); (simp only [go_sem]); all_goals (simp only [go_sem] at hb; try simp only [bls] at hb)) | ((iterate 6 try ((fail_if_success with_reducible refine hK _ ?_ ?_ ?_); clear hK K)); with_reducible refine hK _ ?_ ?_ ?_; rotate_left; (focus (simp only [go_sem]; exact rfl)); clear hK K) | ((first | (with_reducible first | refine cA hcb ?_ | refine cD hcb ?_ | refine cO hcb ?_ | refine cR hcb ?_ | refine cG (fun hg => hcb) ?_ | refine cH (fun hg => hcb) ?_ | refine cM (fun hg => hcb) ?_) | (guard_target = CallAt _ _ _ _ _ _ _ _ _ _; refine cA hcb ?_) | (guard_target = DCallAt _ _ _ _ _ _ _ _; refine cD hcb ?_) | (guard_target = GCallAt _ _ _ _ _ _ _ _ _ _ _; refine cG (fun hg => hcb) ?_)); simp only [go_sem]) | (with_reducible refine aGs (fun hg0 => ?_) (fun hg0 => ?_) <;> first | (with_reducible first | exact aF1 hg0 | exact aF2 hg0) | (simp only [hg0, go_sem])) | (with_reducible refine aNk ?_; intro bnil hnil; try simp only []) | (omega; done) | (intro hv; (try simp only [bls] at hv); (try simp only [bls]); omega) | (intro hg; (simp only [hg, Bool.true_and, true_and, implies_true]; try (intro hg2; simp only [hg2, Bool.not_false, Bool.not_true])); done)))
  all_goals first | omega | skip
  ·rw [if_pos (by assumption)] at hR; subst hR; rfl
  ·rw [if_pos (by assumption)] at hR; subst hR; rfl
  ·exact hL _ 2 ⟨by omega, fun _ => h1, fun _ => by assumption⟩ (by (simp only [SubF, go_sem]; (try simp only [go_sem]); repeat' (first | exact True.intro | with_reducible refine And.intro ?_ ?_ | rfl | omega))) (by omega)
 rw [if_neg (by have := hk1 (by omega); omega), if_neg (by have := hk2 (by omega); omega)] at hR
 generalize hX : diffA b a ++ diffB a b = X at *
 subst hR
 clear hca hcb hk1 hk2
 (simp only [go_sem] at hL ⊢)
 (repeat' (first | (with_reducible first | exact True.intro | refine And.intro ?_ ?_ | refine aBl ?_ | ((first | refine aS1 12 [21, 20, 22, 33, 32, 13, 34, 60, 59, 17, 16, 15, 61] ?_ | refine aS2 12 [21, 20, 22, 33, 32, 13, 34, 60, 59, 17, 16, 15, 61] ?_ | refine aS3 12 [21, 20, 22, 33, 32, 13, 34, 60, 59, 17, 16, 15, 61] ?_ | refine aS4 12 [21, 20, 22, 33, 32, 13, 34, 60, 59, 17, 16, 15, 61] ?_ | refine aSq 12 [21, 20, 22, 33, 32, 13, 34, 60, 59, 17, 16, 15, 61] ?_); intro K hK)) | ((with_reducible first | refine aRg ?_ | refine aEx ?_ | refine aSk ?_ | refine aRt ?_ | refine aLk ?_ | refine aOt ?_ | refine rP Ty_ok mixed 20 [0] [.mid [pe 1, pe 2, pe 3, pe 4, pe 5, pe 6, pe 7] 0, .one 8, .mid [pe 9, pe 10] 0] ?_); simp only [go_sem]) | ((with_reducible refine aCd ?_ ?_ (fun hb => ?_) (fun hb => ?_)); (simp only [go_sem]); (simp only [go_sem]); all_goals (simp only [go_sem] at hb; try simp only [bls] at hb)) | ((iterate 6 try ((fail_if_success with_reducible refine hK _ ?_ ?_ ?_); clear hK K)); with_reducible refine hK _ ?_ ?_ ?_; rotate_left; (focus (simp only [go_sem]; exact rfl)); clear hK K) | (with_reducible refine aGs (fun hg0 => ?_) (fun hg0 => ?_) <;> first | (with_reducible first | exact aF1 hg0 | exact aF2 hg0) | (simp only [hg0, go_sem])) | (with_reducible refine aNk ?_; intro bnil hnil; try simp only []) | (omega; done) | (intro hv; (try simp only [bls] at hv); (try simp only [bls]); omega) | (intro hg; (simp only [hg, Bool.true_and, true_and, implies_true]; try (intro hg2; simp only [hg2, Bool.not_false, Bool.not_true])); done)))
 all_goals first | omega | skip
 refine awp_loop _ (by simp only [go_sem]; rfl) (Nat × List Edt) (fun z => z.1 ≤ a.length ∧ X = (z.2 ++ diffA b (a.drop z.1)) ++ diffB a b ∧ z.2.length ≤ z.1) (fun z => [(9, .one (.own 2)), (34, .one (.int .i64 z.1))]) (fun z H => H.set 2 (.row 42 10 (edtN z.2))) (fun z => a.length - z.1) (0, []) ⟨by omega, by simpa using hX.symm, by decide⟩ ?_ ?_
 ·(simp only [SubF, go_sem]; (try simp only [go_sem]); repeat' (first | exact True.intro | with_reducible refine And.intro ?_ ?_ | rfl | omega))
 rintro ⟨k, o⟩ ⟨hk, hres, hol⟩ L hL
 dsimp only at hk hres hol
 have hq : ((k : Nat) : Int).toNat = k := by omega
 by_cases hlt : k < a.length
 ·have hg := itD_get hlt [.int .i64 0, .str [], .nil, .int .i64 0, .nil, .nil, .nil, .nil, .int .i64 0]
  rw [drop_getD a k It.no hlt, diffA, List.filter_cons] at hres
  generalize a.getD k It.no = y at *
  have hF := Find_c b y.kind y.name (by omega)
  generalize findI b y.kind y.name = f at *
  simp only [It.d] at hg
  (simp only [go_sem] at hL ⊢)
  (repeat' (first | (with_reducible first | exact True.intro | refine And.intro ?_ ?_ | refine aBl ?_ | ((first | refine aS1 12 [21, 20, 22, 33, 32, 13, 34, 60, 59, 17, 16, 15, 61] ?_ | refine aS2 12 [21, 20, 22, 33, 32, 13, 34, 60, 59, 17, 16, 15, 61] ?_ | refine aS3 12 [21, 20, 22, 33, 32, 13, 34, 60, 59, 17, 16, 15, 61] ?_ | refine aS4 12 [21, 20, 22, 33, 32, 13, 34, 60, 59, 17, 16, 15, 61] ?_ | refine aSq 12 [21, 20, 22, 33, 32, 13, 34, 60, 59, 17, 16, 15, 61] ?_); intro K hK)) | ((with_reducible first | refine aRg ?_ | refine aEx ?_ | refine aSk ?_ | refine aRt ?_ | refine aLk ?_ | refine aOt ?_ | refine rP Ty_ok mixed 20 [0] [.mid [pe 1, pe 2, pe 3, pe 4, pe 5, pe 6, pe 7] 0, .one 8, .mid [pe 9, pe 10] 0] ?_); simp only [hg, hq, go_sem]) | ((with_reducible refine aCd ?_ ?_ (fun hb => ?_) (fun hb => ?_)); (simp only [hg, hq, go_sem]); (simp only [hg, hq, go_sem]); all_goals (simp only [hg, hq, go_sem] at hb; try simp only [bls] at hb)) | ((iterate 6 try ((fail_if_success with_reducible refine hK _ ?_ ?_ ?_); clear hK K)); with_reducible refine hK _ ?_ ?_ ?_; rotate_left; (focus (simp only [hg, hq, go_sem]; exact rfl)); clear hK K) | ((first | (with_reducible first | refine cA hF ?_ | refine cD hF ?_ | refine cO hF ?_ | refine cR hF ?_ | refine cG (fun hg => hF) ?_ | refine cH (fun hg => hF) ?_ | refine cM (fun hg => hF) ?_) | (guard_target = CallAt _ _ _ _ _ _ _ _ _ _; refine cA hF ?_) | (guard_target = DCallAt _ _ _ _ _ _ _ _; refine cD hF ?_) | (guard_target = GCallAt _ _ _ _ _ _ _ _ _ _ _; refine cG (fun hg => hF) ?_)); simp only [hg, hq, go_sem]) | (with_reducible refine aGs (fun hg0 => ?_) (fun hg0 => ?_) <;> first | (with_reducible first | exact aF1 hg0 | exact aF2 hg0) | (simp only [hg0, hg, hq, go_sem])) | (with_reducible refine aNk ?_; intro bnil hnil; try simp only []) | (omega; done) | (intro hv; (try simp only [bls] at hv); (try simp only [bls]); omega) | (intro hg; (simp only [hg, Bool.true_and, true_and, implies_true]; try (intro hg2; simp only [hg2, Bool.not_false, Bool.not_true])); done)))
  all_goals first | omega | skip
  ·rw [if_pos (by simpa using by assumption), List.map_cons] at hres
   refine hL _ (k + 1, o ++ [⟨true, ⟨y.kind, y.name, AU.no, [], [], 0⟩⟩]) ⟨by omega, by rw [hres, diffA]; simp, by simp only [List.length_append, List.length_cons, List.length_nil]; omega⟩ ?_ (by dsimp only; omega)
   dsimp only
   rw [← edtN_append, edtN_drop]
   (simp only [SubF, go_sem]; (try simp only [go_sem]); repeat' (first | exact True.intro | with_reducible refine And.intro ?_ ?_ | rfl | omega))
  ·rw [if_neg (by simpa using by assumption)] at hres
   refine hL _ (k + 1, o) ⟨by omega, by rw [hres, diffA], by dsimp only; omega⟩ ?_ (by dsimp only; omega)
   (simp only [SubF, go_sem]; (try simp only [go_sem]); repeat' (first | exact True.intro | with_reducible refine And.intro ?_ ?_ | rfl | omega))
 have hkl : k = a.length := by omega
 subst hkl
 rw [List.drop_length, diffA, List.filter_nil, List.map_nil, List.append_nil] at hres
 clear hL
 (simp only [go_sem] at hL ⊢)
 (repeat' (first | (with_reducible first | exact True.intro | refine And.intro ?_ ?_ | refine aBl ?_ | ((first | refine aS1 12 [21, 20, 22, 33, 32, 13, 34, 60, 59, 17, 16, 15, 61] ?_ | refine aS2 12 [21, 20, 22, 33, 32, 13, 34, 60, 59, 17, 16, 15, 61] ?_ | refine aS3 12 [21, 20, 22, 33, 32, 13, 34, 60, 59, 17, 16, 15, 61] ?_ | refine aS4 12 [21, 20, 22, 33, 32, 13, 34, 60, 59, 17, 16, 15, 61] ?_ | refine aSq 12 [21, 20, 22, 33, 32, 13, 34, 60, 59, 17, 16, 15, 61] ?_); intro K hK)) | ((with_reducible first | refine aRg ?_ | refine aEx ?_ | refine aSk ?_ | refine aRt ?_ | refine aLk ?_ | refine aOt ?_ | refine rP Ty_ok mixed 20 [0] [.mid [pe 1, pe 2, pe 3, pe 4, pe 5, pe 6, pe 7] 0, .one 8, .mid [pe 9, pe 10] 0] ?_); simp only [go_sem]) | ((with_reducible refine aCd ?_ ?_ (fun hb => ?_) (fun hb => ?_)); (simp only [go_sem]); (simp only [go_sem]); all_goals (simp only [go_sem] at hb; try simp only [bls] at hb)) | ((iterate 6 try ((fail_if_success with_reducible refine hK _ ?_ ?_ ?_); clear hK K)); with_reducible refine hK _ ?_ ?_ ?_; rotate_left; (focus (simp only [go_sem]; exact rfl)); clear hK K) | (with_reducible refine aGs (fun hg0 => ?_) (fun hg0 => ?_) <;> first | (with_reducible first | exact aF1 hg0 | exact aF2 hg0) | (simp only [hg0, go_sem])) | (with_reducible refine aNk ?_; intro bnil hnil; try simp only []) | (omega; done) | (intro hv; (try simp only [bls] at hv); (try simp only [bls]); omega) | (intro hg; (simp only [hg, Bool.true_and, true_and, implies_true]; try (intro hg2; simp only [hg2, Bool.not_false, Bool.not_true])); done)))
 all_goals first | omega | rfl | skip
 refine awp_loop _ (by simp only [go_sem]; rfl) (Nat × List Edt) (fun z => z.1 ≤ b.length ∧ X = z.2 ++ diffB a (b.drop z.1) ∧ z.2.length ≤ 2000 + z.1) (fun z => [(9, .one (.own 2)), (61, .one (.int .i64 z.1))]) (fun z H => H.set 2 (.row 42 10 (edtN z.2))) (fun z => b.length - z.1) (0, o) ⟨by omega, by simpa using hres, by dsimp only; omega⟩ ?_ ?_
 ·(simp only [SubF, go_sem]; (try simp only [go_sem]); repeat' (first | exact True.intro | with_reducible refine And.intro ?_ ?_ | rfl | omega))
 rintro ⟨k, p⟩ ⟨hk, hres, hpl⟩ L hL
 dsimp only at hk hres hpl
 have hq : ((k : Nat) : Int).toNat = k := by omega
 by_cases hlt : k < b.length
 ·have hg := itD_get hlt [.int .i64 0, .str [], .nil, .int .i64 0, .nil, .nil, .nil, .nil, .int .i64 0]
  have hye := hbi _ (getD_mem b k It.no hlt)
  rw [drop_getD b k It.no hlt, diffB, List.filter_cons] at hres
  generalize b.getD k It.no = y at *
  have hF := Find_c a y.kind y.name (by omega)
  have hN : newB a y = !(decide (0 ≤ findI a y.kind y.name) && decide (a.getD (findI a y.kind y.name).toNat It.no = y)) := rfl
  obtain ⟨hr1, hr2⟩ := findI_range a y.kind y.name
  have hcl := clone_c y hye
  generalize newB a y = nb at *
  generalize findI a y.kind y.name = f at *
  simp only [It.d] at hg hcl
  by_cases hf0 : 0 ≤ f
  ·have hlf : f.toNat < a.length := by omega
   have hgf := itD_get hlf [.int .i64 0, .str [], .nil, .int .i64 0, .nil, .nil, .nil, .nil, .int .i64 0]
   have hEq := itEqual_c (a.getD f.toNat It.no) y (ha.it _ (getD_mem a _ It.no hlf))
   have hmx : max f 0 = f := by omega
   generalize a.getD f.toNat It.no = z at *
   generalize hzy : decide (z = y) = ze at *
   simp only [It.d] at hgf hEq
   (simp only [go_sem] at hL ⊢)
   (repeat' (first | (with_reducible first | exact True.intro | refine And.intro ?_ ?_ | refine aBl ?_ | ((first | refine aS1 12 [21, 20, 22, 33, 32, 13, 34, 60, 59, 17, 16, 15, 61] ?_ | refine aS2 12 [21, 20, 22, 33, 32, 13, 34, 60, 59, 17, 16, 15, 61] ?_ | refine aS3 12 [21, 20, 22, 33, 32, 13, 34, 60, 59, 17, 16, 15, 61] ?_ | refine aS4 12 [21, 20, 22, 33, 32, 13, 34, 60, 59, 17, 16, 15, 61] ?_ | refine aSq 12 [21, 20, 22, 33, 32, 13, 34, 60, 59, 17, 16, 15, 61] ?_); intro K hK)) | ((with_reducible first | refine aRg ?_ | refine aEx ?_ | refine aSk ?_ | refine aRt ?_ | refine aLk ?_ | refine aOt ?_ | refine rP Ty_ok mixed 20 [0] [.mid [pe 1, pe 2, pe 3, pe 4, pe 5, pe 6, pe 7] 0, .one 8, .mid [pe 9, pe 10] 0] ?_); simp only [hg, hq, hgf, hmx, go_sem]) | ((with_reducible refine aCd ?_ ?_ (fun hb => ?_) (fun hb => ?_)); (simp only [hg, hq, hgf, hmx, go_sem]); (simp only [hg, hq, hgf, hmx, go_sem]); all_goals (simp only [hg, hq, hgf, hmx, go_sem] at hb; try simp only [bls] at hb)) | ((iterate 6 try ((fail_if_success with_reducible refine hK _ ?_ ?_ ?_); clear hK K)); with_reducible refine hK _ ?_ ?_ ?_; rotate_left; (focus (simp only [hg, hq, hgf, hmx, go_sem]; exact rfl)); clear hK K) | ((first | (with_reducible first | refine cA (by assumption) ?_ | refine cD (by assumption) ?_ | refine cO (by assumption) ?_ | refine cR (by assumption) ?_ | refine cG (fun hg => (by assumption)) ?_ | refine cH (fun hg => (by assumption)) ?_ | refine cM (fun hg => (by assumption)) ?_) | (guard_target = CallAt _ _ _ _ _ _ _ _ _ _; refine cA (by assumption) ?_) | (guard_target = DCallAt _ _ _ _ _ _ _ _; refine cD (by assumption) ?_) | (guard_target = GCallAt _ _ _ _ _ _ _ _ _ _ _; refine cG (fun hg => (by assumption)) ?_)); simp only [hg, hq, hgf, hmx, go_sem]) | (with_reducible refine aGs (fun hg0 => ?_) (fun hg0 => ?_) <;> first | (with_reducible first | exact aF1 hg0 | exact aF2 hg0) | (simp only [hg0, hg, hq, hgf, hmx, go_sem])) | (with_reducible refine aNk ?_; intro bnil hnil; try simp only []) | (omega; done) | (intro hv; (try simp only [bls] at hv); (try simp only [bls]); omega) | (intro hg; (simp only [hg, Bool.true_and, true_and, implies_true]; try (intro hg2; simp only [hg2, Bool.not_false, Bool.not_true])); done)))
   all_goals first | omega | skip
   ·have hn : nb = true := by
     rw [hN]
     rcases ‹f < 0 ∨ ze = false› with h | h
     ·omega
     ·rw [h, Bool.and_false]; rfl
    rw [if_pos hn, List.map_cons] at hres
    refine hL _ (k + 1, p ++ [⟨false, y⟩]) ⟨by omega, by rw [hres, diffB]; simp, by simp only [List.length_append, List.length_cons, List.length_nil]; omega⟩ ?_ (by dsimp only; omega)
    dsimp only
    rw [← edtN_append, edtN_put]
    (simp only [SubF, go_sem]; (try simp only [go_sem]); repeat' (first | exact True.intro | with_reducible refine And.intro ?_ ?_ | rfl | omega))
   ·rw [if_neg (by rw [hN, (‹0 ≤ f ∧ ze = true›).2, decide_eq_true hf0]; decide)] at hres
    refine hL _ (k + 1, p) ⟨by omega, by rw [hres, diffB], by dsimp only; omega⟩ ?_ (by dsimp only; omega)
    (simp only [SubF, go_sem]; (try simp only [go_sem]); repeat' (first | exact True.intro | with_reducible refine And.intro ?_ ?_ | rfl | omega))
  ·have hE0 : False → ∀ args, ACalls Tryz.prog 42 args (.one (.bool false)) [] := fun h => h.elim
   have hfd : decide (0 ≤ f) = false := decide_eq_false hf0
   (simp only [go_sem] at hL ⊢)
   (repeat' (first | (with_reducible first | exact True.intro | refine And.intro ?_ ?_ | refine aBl ?_ | ((first | refine aS1 12 [21, 20, 22, 33, 32, 13, 34, 60, 59, 17, 16, 15, 61] ?_ | refine aS2 12 [21, 20, 22, 33, 32, 13, 34, 60, 59, 17, 16, 15, 61] ?_ | refine aS3 12 [21, 20, 22, 33, 32, 13, 34, 60, 59, 17, 16, 15, 61] ?_ | refine aS4 12 [21, 20, 22, 33, 32, 13, 34, 60, 59, 17, 16, 15, 61] ?_ | refine aSq 12 [21, 20, 22, 33, 32, 13, 34, 60, 59, 17, 16, 15, 61] ?_); intro K hK)) | ((with_reducible first | refine aRg ?_ | refine aEx ?_ | refine aSk ?_ | refine aRt ?_ | refine aLk ?_ | refine aOt ?_ | refine rP Ty_ok mixed 20 [0] [.mid [pe 1, pe 2, pe 3, pe 4, pe 5, pe 6, pe 7] 0, .one 8, .mid [pe 9, pe 10] 0] ?_); simp only [hg, hq, hfd, go_sem]) | ((with_reducible refine aCd ?_ ?_ (fun hb => ?_) (fun hb => ?_)); (simp only [hg, hq, hfd, go_sem]); (simp only [hg, hq, hfd, go_sem]); all_goals (simp only [hg, hq, hfd, go_sem] at hb; try simp only [bls] at hb)) | ((iterate 6 try ((fail_if_success with_reducible refine hK _ ?_ ?_ ?_); clear hK K)); with_reducible refine hK _ ?_ ?_ ?_; rotate_left; (focus (simp only [hg, hq, hfd, go_sem]; exact rfl)); clear hK K) | ((first | (with_reducible first | refine cA (by assumption) ?_ | refine cA (hE0 (by simp at hg) _) ?_ | refine cD (by assumption) ?_ | refine cD (hE0 (by simp at hg) _) ?_ | refine cO (by assumption) ?_ | refine cO (hE0 (by simp at hg) _) ?_ | refine cR (by assumption) ?_ | refine cR (hE0 (by simp at hg) _) ?_ | refine cG (fun hg => (by assumption)) ?_ | refine cG (fun hg => (hE0 (by simp at hg) _)) ?_ | refine cH (fun hg => (by assumption)) ?_ | refine cH (fun hg => (hE0 (by simp at hg) _)) ?_ | refine cM (fun hg => (by assumption)) ?_ | refine cM (fun hg => (hE0 (by simp at hg) _)) ?_) | (guard_target = CallAt _ _ _ _ _ _ _ _ _ _; first | refine cA (by assumption) ?_ | refine cA (hE0 (by simp at hg) _) ?_) | (guard_target = DCallAt _ _ _ _ _ _ _ _; first | refine cD (by assumption) ?_ | refine cD (hE0 (by simp at hg) _) ?_) | (guard_target = GCallAt _ _ _ _ _ _ _ _ _ _ _; first | refine cG (fun hg => (by assumption)) ?_ | refine cG (fun hg => (hE0 (by simp at hg) _)) ?_)); simp only [hg, hq, hfd, go_sem]) | (with_reducible refine aGs (fun hg0 => ?_) (fun hg0 => ?_) <;> first | (with_reducible first | exact aF1 hg0 | exact aF2 hg0) | (simp only [hg0, hg, hq, hfd, go_sem])) | (with_reducible refine aNk ?_; intro bnil hnil; try simp only []) | (omega; done) | (intro hv; (try simp only [bls] at hv); (try simp only [bls]); omega) | (intro hg; (simp only [hg, Bool.true_and, true_and, implies_true]; try (intro hg2; simp only [hg2, Bool.not_false, Bool.not_true])); done)))
   all_goals first | omega | skip
   ·have hn : nb = true := by rw [hN, hfd]; rfl
    rw [if_pos hn, List.map_cons] at hres
    refine hL _ (k + 1, p ++ [⟨false, y⟩]) ⟨by omega, by rw [hres, diffB]; simp, by simp only [List.length_append, List.length_cons, List.length_nil]; omega⟩ ?_ (by dsimp only; omega)
    dsimp only
    rw [← edtN_append, edtN_put]
    (simp only [SubF, go_sem]; (try simp only [go_sem]); repeat' (first | exact True.intro | with_reducible refine And.intro ?_ ?_ | rfl | omega))
 have hkl : k = b.length := by omega
 subst hkl
 rw [List.drop_length, diffB, List.filter_nil, List.map_nil, List.append_nil] at hres
 subst hres
 (simp only [go_sem] at hL ⊢)
 (repeat' (first | (with_reducible first | exact True.intro | refine And.intro ?_ ?_ | refine aBl ?_ | ((first | refine aS1 12 [21, 20, 22, 33, 32, 13, 34, 60, 59, 17, 16, 15, 61] ?_ | refine aS2 12 [21, 20, 22, 33, 32, 13, 34, 60, 59, 17, 16, 15, 61] ?_ | refine aS3 12 [21, 20, 22, 33, 32, 13, 34, 60, 59, 17, 16, 15, 61] ?_ | refine aS4 12 [21, 20, 22, 33, 32, 13, 34, 60, 59, 17, 16, 15, 61] ?_ | refine aSq 12 [21, 20, 22, 33, 32, 13, 34, 60, 59, 17, 16, 15, 61] ?_); intro K hK)) | ((with_reducible first | refine aRg ?_ | refine aEx ?_ | refine aSk ?_ | refine aRt ?_ | refine aLk ?_ | refine aOt ?_ | refine rP Ty_ok mixed 20 [0] [.mid [pe 1, pe 2, pe 3, pe 4, pe 5, pe 6, pe 7] 0, .one 8, .mid [pe 9, pe 10] 0] ?_); simp only [go_sem]) | ((with_reducible refine aCd ?_ ?_ (fun hb => ?_) (fun hb => ?_)); (simp only [go_sem]); (simp only [go_sem]); all_goals (simp only [go_sem] at hb; try simp only [bls] at hb)) | ((iterate 6 try ((fail_if_success with_reducible refine hK _ ?_ ?_ ?_); clear hK K)); with_reducible refine hK _ ?_ ?_ ?_; rotate_left; (focus (simp only [go_sem]; exact rfl)); clear hK K) | (with_reducible refine aGs (fun hg0 => ?_) (fun hg0 => ?_) <;> first | (with_reducible first | exact aF1 hg0 | exact aF2 hg0) | (simp only [hg0, go_sem])) | (with_reducible refine aNk ?_; intro bnil hnil; try simp only []) | (omega; done) | (intro hv; (try simp only [bls] at hv); (try simp only [bls]); omega) | (intro hg; (simp only [hg, Bool.true_and, true_and, implies_true]; try (intro hg2; simp only [hg2, Bool.not_false, Bool.not_true])); done)))
 all_goals first | omega | rfl | skip
theorem edtN_le (l : List Edt) : LeR (edtN l) (edtD l) := leR_map Edt.dn_le l
theorem Difference_c (a b : List It) (ha : LFits a) (hb : LFits b) : ACalls Tryz.prog 38 [.one (.list (itD a)), .one (.list (itD b))] (.tup [.one (.list (edtD (diffR a b).1)), .one (.int .i64 (diffR a b).2)]) [] :=
 ACalls.weak (leV_tup (us := [.one (.list (edtN (diffR a b).1)), .one (.int .i64 (diffR a b).2)]) ⟨leV_one rfl rfl (leD_list (edtN_le _)), LeV.refl _, trivial⟩) (DifferenceN_c a b ha hb)
end Go.Proofs.YtkjnjkdcpbgabaaGreatDoor
