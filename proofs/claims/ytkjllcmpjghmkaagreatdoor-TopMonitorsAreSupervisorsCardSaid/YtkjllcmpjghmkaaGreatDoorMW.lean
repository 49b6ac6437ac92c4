/-
 Contracts: IndexFunc and ContainsFunc of lists of lists.
-/
import Derived.Test.YtkjllcmpjghmkaaGreatDoorS4
set_option linter.unusedSimpArgs false
set_option linter.unusedVariables false
namespace Go.Proofs.YtkjllcmpjghmkaaGreatDoor
open Go.Eng Go.RowKit
set_option maxHeartbeats 4000000 in
theorem z5H (l : List (List Int)) (f : FuncId) (caps : List D) (p : List Int → Bool) (hn : l.length ≤ 1000000) (hc : CapsOk caps) (hp : ∀ e ∈ l, ACalls Tryz.prog f (.one (.list (ints e)) :: caps.map AV.one) (.one (.bool (p e))) []) :
  ACalls Tryz.prog 66 [.one (.list (z0v l)), .one (.clo f caps)] (.one (.int .i64 (z0E p 0 l))) [] := by
 have hc1 := hc.lt
 have hc2 := hc.none
 have hc3 := hc.bor
 (refine ACalls.of_body Ty_ok mixed Tryz.func66 rfl (by kernel_rfl) Tryz.ntmps66 (by simp) (congrArg Array.toList Tryz.results66) ?_)
 simp only [z00]
 (repeat' (first | (with_reducible first | refine aBl ?_ | (refine aS 6 [7, 8] ?_; intro K hK)) | ((with_reducible refine aGo ?_); simp only [go_sem]) | ((iterate 6 try ((fail_if_success with_reducible refine hK _ ?_ ?_ ?_); clear hK K)); with_reducible refine hK _ ?_ ?_ ?_; rotate_left; (focus (simp only [go_sem]; exact rfl)); clear hK K) | fail))
 refine z02 _ (by simp only [go_sem]; rfl) Nat (fun k => k ≤ l.length ∧ z0E p 0 l = z0E p k (l.drop k)) (fun k => [(8, .one (.int .i64 k))]) (fun _ H => H) (fun k => l.length - k) 0 ⟨by omega, by simp⟩ ?_ ?_
 ·(simp only [SubF, hc1, hc2, go_sem]; (try simp only [hc1, hc2, go_sem]); repeat' (first | exact True.intro | with_reducible refine And.intro ?_ ?_ | rfl | omega))
 ·rintro k ⟨hk, hres⟩ L hL
  have hq : ((k : Nat) : Int).toNat = k := by omega
  by_cases hlt : k < l.length
  ·have hw := z1d (l := l) hlt [.nil]
   (simp only [go_sem] at hL ⊢)
   (repeat' (first | (with_reducible first | refine And.intro ?_ ?_ | refine aBl ?_ | (refine aS 6 [7, 8] ?_; intro K hK)) | ((with_reducible refine aGo ?_); simp only [hc3, hq, hw, go_sem]) | ((with_reducible refine aCd ?_ ?_ (fun hb => ?_) (fun hb => ?_)); (iterate 2 simp only [hc3, hq, hw, go_sem]); all_goals (simp only [hc3, hq, hw, go_sem] at hb; try simp only [bls] at hb)) | ((iterate 6 try ((fail_if_success with_reducible refine hK _ ?_ ?_ ?_); clear hK K)); with_reducible refine hK _ ?_ ?_ ?_; rotate_left; (focus (simp only [hc3, hq, hw, go_sem]; exact rfl)); clear hK K) | ((with_reducible refine cA (hp (l.getD k []) (z01 l k [] (by omega))) ?_); simp only [hc3, hq, hw, go_sem]) | exact aZ | fail))
   all_goals first | omega | skip
   ·rw [z36 (d := []) (by omega) hres, if_pos hb]
   ·have h1 := z36 (d := []) (by omega) hres
    rw [if_neg (by rw [hb]; simp)] at h1
    refine hL _ (k + 1) ⟨by omega, h1⟩ ?_ (by omega)
    (simp only [SubF, hc1, hc2, go_sem]; (try simp only [hc1, hc2, go_sem]); repeat' (first | exact True.intro | with_reducible refine And.intro ?_ ?_ | rfl | omega))
  ·(simp only [go_sem] at hL ⊢)
   (repeat' (first | (with_reducible first | refine And.intro ?_ ?_ | refine aBl ?_ | (refine aS 6 [7, 8] ?_; intro K hK)) | ((with_reducible refine aGo ?_); simp only [go_sem]) | ((with_reducible refine aCd ?_ ?_ (fun hb => ?_) (fun hb => ?_)); (iterate 2 simp only [go_sem]); all_goals (simp only [go_sem] at hb; try simp only [bls] at hb)) | ((iterate 6 try ((fail_if_success with_reducible refine hK _ ?_ ?_ ?_); clear hK K)); with_reducible refine hK _ ?_ ?_ ?_; rotate_left; (focus (simp only [go_sem]; exact rfl)); clear hK K) | exact aZ | fail))
   all_goals first | omega | skip
   rw [hres, z0z l k (by omega)]; rfl
theorem z4a (l : List (List Int)) (f : FuncId) (caps : List D) (p : List Int → Bool) (hn : l.length ≤ 1000000) (hc : CapsOk caps) (hp : ∀ e ∈ l, ACalls Tryz.prog f (.one (.list (ints e)) :: caps.map AV.one) (.one (.bool (p e))) []) :
  ACalls Tryz.prog 32 [.one (.list (z0v l)), .one (.clo f caps)] (.one (.bool (l.any p))) [] := by
 have hc1 := hc.lt
 have hc2 := hc.none
 have hc3 := hc.bor
 have hc4 := hc.bor1
 (refine ACalls.of_body Ty_ok mixed Tryz.func32 rfl (by kernel_rfl) Tryz.ntmps32 (by simp) (congrArg Array.toList Tryz.results32) ?_)
 simp only [z00]
 (repeat' (first | (with_reducible (refine aS 5 [] ?_; intro K hK)) | ((with_reducible refine aGo ?_); simp only [hc3, hc4, go_sem]) | ((iterate 6 try ((fail_if_success with_reducible refine hK _ ?_ ?_ ?_); clear hK K)); with_reducible refine hK _ ?_ ?_ ?_; rotate_left; (focus (simp only [hc3, hc4, go_sem]; exact rfl)); clear hK K) | ((with_reducible refine cA (z5H l f caps p hn hc hp) ?_); simp only [hc3, hc4, go_sem]) | fail))
 rw [za5]
end Go.Proofs.YtkjllcmpjghmkaaGreatDoor
