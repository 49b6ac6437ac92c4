/-
 Contracts of chapter 51's law: the constraint of a set, comparing, what is controlled, the next step, its own prevention.
-/
import Derived.Test.YtlpllbbjmbbfnaaGreatDoorE3
import Derived.Test.YtlpllbbjmbbfnaaGreatDoorQI
set_option linter.unusedSimpArgs false
set_option linter.unusedVariables false
namespace Go.Eng
open Go.RowKit
inductive OT where
 | leaf
 | nil
 | alt (i : Nat) (n m : OT)
def OT.ids : OT → List Nat
 | .alt i _ m => i :: m.ids
 | _ => []
def otW (P : Program) (T : Tab) (ops : Array Oper) (ps : List Ph) (K : AState → Prop) : OT → AState → Prop
 | .leaf, σ => pWalk P T ops ps σ K
 | .nil, _ => True
 | .alt i n m, σ => (match ops[i]? with | some o => aop P T ops o σ (otW P T ops ps K n) | none => False) ∧ otW P T ops ps K m σ
section
variable {P : Program} {T : Tab} {W0 w : World} {M0 : Nat → Prop} {F : List Value} {σ : AState} {a : Act} {ops : Array Oper} {Q : Exit → Act → World → Prop} {K : AState → Prop} {A : List (Nat × List Nat)} {ps : List Ph}
end
section
variable {P : Program} {T : Tab} {σ : AState} {ops : Array Oper} {K : AState → Prop} {Q : APost}
def otWR (P : Program) (T : Tab) (ops : Array Oper) (ps : List Ph) (K : AState → Prop) (t : OT) (σ : AState) : Prop := otW P T ops ps K t σ
theorem otW_leaf {ps : List Ph} : otW P T ops ps K .leaf σ = pWalk P T ops ps σ K := rfl
theorem otW_nil {ps : List Ph} : otW P T ops ps K .nil σ = True := rfl
theorem otW_alt {ps : List Ph} {i : Nat} {n m : OT} : otW P T ops ps K (.alt i n m) σ = ((match ops[i]? with | some o => aop P T ops o σ (otWR P T ops ps K n) | none => False) ∧ otW P T ops ps K m σ) := rfl
theorem aOt {ps : List Ph} {t : OT} (h : otW P T ops ps K t σ) : otWR P T ops ps K t σ := h
instance sgOt {ps : List Ph} {t : OT} : Sg (otWR P T ops ps K t σ) (otW P T ops ps K t σ) := ⟨aOt⟩
attribute [go_sem] otW_leaf otW_nil otW_alt
end
end Go.Eng
set_option linter.unusedSimpArgs false
set_option linter.unusedVariables false
namespace Go.Proofs.YtlpllbbjmbbfnaaGreatDoor
open Go.Eng Go.RowKit
theorem lHas_c (l : List Int) (x : Int) (hn : l.length ≤ 1000000) : ACalls Tryz.prog 18 [.one (.list (ints l)), .one (.int .i64 x)] (.one (.bool (decide (x ∈ l)))) [] := by
 (refine ACalls.of_body Ty_ok mixed Tryz.func18 rfl (by kernel_rfl) Tryz.ntmps18 (by simp) (congrArg Array.toList Tryz.results18) ?_)
 simp only [slotsOf]
 (repeat' (first | (with_reducible first | exact True.intro | refine And.intro ?_ ?_ | refine aBl ?_ | (refine aS 6 [] ?_; intro K hK)) | ((with_reducible first | refine aGo ?_); simp only [go_sem]) | ((with_reducible refine aCd ?_ ?_ (fun hb => ?_) (fun hb => ?_)); (iterate 2 simp only [go_sem]); all_goals (simp only [go_sem] at hb; try simp only [bls] at hb)) | ((iterate 6 try ((fail_if_success with_reducible refine hK _ ?_ ?_ ?_); clear hK K)); with_reducible refine hK _ ?_ ?_ ?_; rotate_left; (focus (simp only [go_sem]; exact rfl)); clear hK K) | (with_reducible refine aGs (fun hg0 => ?_) (fun hg0 => ?_) <;> first | (with_reducible first | exact aF1 hg0 | exact aF2 hg0) | (simp only [hg0, go_sem])) | (with_reducible refine aNk ?_; intro bnil hnil; try simp only []) | exact aZ | fail))
 refine awp_loop _ (by simp only [go_sem]; rfl) Nat (fun k => k ≤ l.length ∧ decide (x ∈ l) = decide (x ∈ l.drop k)) (fun k => [(5, .one (.int .i64 k))]) (fun _ H => H) (fun k => l.length - k) 0 ⟨by omega, by simp⟩ ?_ ?_
 ·(simp only [SubF, go_sem]; (try simp only [go_sem]); repeat' (first | exact True.intro | with_reducible refine And.intro ?_ ?_ | rfl | omega))
 ·rintro k ⟨hk, hres⟩ L hL
  by_cases hlt : k < l.length
  ·rw [drop_getD l k 0 hlt] at hres
   (simp only [go_sem] at hL ⊢)
   (repeat' (first | (with_reducible first | exact True.intro | refine And.intro ?_ ?_ | refine aBl ?_ | (refine aS 6 [] ?_; intro K hK)) | ((with_reducible first | refine aGo ?_); simp only [go_sem]) | ((with_reducible refine aCd ?_ ?_ (fun hb => ?_) (fun hb => ?_)); (iterate 2 simp only [go_sem]); all_goals (simp only [go_sem] at hb; try simp only [bls] at hb)) | ((iterate 6 try ((fail_if_success with_reducible refine hK _ ?_ ?_ ?_); clear hK K)); with_reducible refine hK _ ?_ ?_ ?_; rotate_left; (focus (simp only [go_sem]; exact rfl)); clear hK K) | (with_reducible refine aGs (fun hg0 => ?_) (fun hg0 => ?_) <;> first | (with_reducible first | exact aF1 hg0 | exact aF2 hg0) | (simp only [hg0, go_sem])) | (with_reducible refine aNk ?_; intro bnil hnil; try simp only []) | exact aZ | fail))
   all_goals first | omega | skip
   ·rw [hres, ← hb]; simp
   ·refine hL _ (k + 1) ⟨by omega, ?_⟩ (by (simp only [SubF, go_sem]; (try simp only [go_sem]); repeat' (first | exact True.intro | with_reducible refine And.intro ?_ ?_ | rfl | omega))) (by omega)
    have hne : ¬ x = l.getD k 0 := fun e => hb e.symm
    rw [hres, Bool.eq_iff_iff]
    simp only [decide_eq_true_eq, List.mem_cons, hne, false_or]
  ·(simp only [go_sem] at hL ⊢)
   (repeat' (first | (with_reducible first | exact True.intro | refine And.intro ?_ ?_ | refine aBl ?_ | (refine aS 6 [] ?_; intro K hK)) | ((with_reducible first | refine aGo ?_); simp only [go_sem]) | ((with_reducible refine aCd ?_ ?_ (fun hb => ?_) (fun hb => ?_)); (iterate 2 simp only [go_sem]); all_goals (simp only [go_sem] at hb; try simp only [bls] at hb)) | ((iterate 6 try ((fail_if_success with_reducible refine hK _ ?_ ?_ ?_); clear hK K)); with_reducible refine hK _ ?_ ?_ ?_; rotate_left; (focus (simp only [go_sem]; exact rfl)); clear hK K) | (with_reducible refine aGs (fun hg0 => ?_) (fun hg0 => ?_) <;> first | (with_reducible first | exact aF1 hg0 | exact aF2 hg0) | (simp only [hg0, go_sem])) | (with_reducible refine aNk ?_; intro bnil hnil; try simp only []) | exact aZ | fail))
   all_goals first | omega | skip
   rw [hres, drop_end l k (by omega)]; rfl
end Go.Proofs.YtlpllbbjmbbfnaaGreatDoor
