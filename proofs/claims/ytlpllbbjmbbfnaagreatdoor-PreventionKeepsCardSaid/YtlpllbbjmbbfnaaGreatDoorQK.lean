/-
 Contracts of chapter 51's law: the constraint of a set, comparing, what is controlled, the next step, its own prevention.
-/
import Derived.Test.YtlpllbbjmbbfnaaGreatDoorE3
import Derived.Test.YtlpllbbjmbbfnaaGreatDoorQI
set_option linter.unusedSimpArgs false
set_option linter.unusedVariables false
namespace Go.Eng
open Go.RowKit
inductive OT where
 | leaf
 | nil
 | alt (i : Nat) (n m : OT)
def OT.ids : OT → List Nat
 | .alt i _ m => i :: m.ids
 | _ => []
def otW (P : Program) (T : Tab) (ops : Array Oper) (ps : List Ph) (K : AState → Prop) : OT → AState → Prop
 | .leaf, σ => pWalk P T ops ps σ K
 | .nil, _ => True
 | .alt i n m, σ => (match ops[i]? with | some o => aop P T ops o σ (otW P T ops ps K n) | none => False) ∧ otW P T ops ps K m σ
section
variable {P : Program} {T : Tab} {W0 w : World} {M0 : Nat → Prop} {F : List Value} {σ : AState} {a : Act} {ops : Array Oper} {Q : Exit → Act → World → Prop} {K : AState → Prop} {A : List (Nat × List Nat)} {ps : List Ph}
end
section
variable {P : Program} {T : Tab} {σ : AState} {ops : Array Oper} {K : AState → Prop} {Q : APost}
def otWR (P : Program) (T : Tab) (ops : Array Oper) (ps : List Ph) (K : AState → Prop) (t : OT) (σ : AState) : Prop := otW P T ops ps K t σ
theorem otW_leaf {ps : List Ph} : otW P T ops ps K .leaf σ = pWalk P T ops ps σ K := rfl
theorem otW_nil {ps : List Ph} : otW P T ops ps K .nil σ = True := rfl
theorem otW_alt {ps : List Ph} {i : Nat} {n m : OT} : otW P T ops ps K (.alt i n m) σ = ((match ops[i]? with | some o => aop P T ops o σ (otWR P T ops ps K n) | none => False) ∧ otW P T ops ps K m σ) := rfl
theorem aOt {ps : List Ph} {t : OT} (h : otW P T ops ps K t σ) : otWR P T ops ps K t σ := h
attribute [go_sem] otW_leaf otW_nil otW_alt
end
end Go.Eng
set_option linter.unusedSimpArgs false
set_option linter.unusedVariables false
namespace Go.Proofs.YtlpllbbjmbbfnaaGreatDoor
open Go.Eng Go.RowKit
theorem none_c (st : List Stp) (n : Net) (h1 : st.length ≤ 1000) (h2 : n.init.length ≤ 1000) (h3 : n.trs.length ≤ 1000) : ACalls Tryz.prog 23 [.agg (resD st n)] (.one (.bool (decide ((st.length : Int) + n.init.length + n.trs.length = 0)))) [] := by
 (refine ACalls.of_body Ty_ok mixed Tryz.func23 rfl (by kernel_rfl) Tryz.ntmps23 (by simp) (congrArg Array.toList Tryz.results23) ?_)
 simp only [slotsOf, resD]
 (repeat' (first | (with_reducible first | exact True.intro | refine And.intro ?_ ?_ | refine aBl ?_ | ((first | refine aS1 3 [] ?_ | refine aS2 3 [] ?_ | refine aS3 3 [] ?_ | refine aS4 3 [] ?_ | refine aSq 3 [] ?_); intro K hK)) | ((with_reducible first | refine aRg ?_ | refine aEx ?_ | refine aSk ?_ | refine aRt ?_ | refine aLk ?_ | refine aOt ?_); simp only [go_sem]) | ((with_reducible refine aCd ?_ ?_ (fun hb => ?_) (fun hb => ?_)); (simp only [go_sem]); (simp only [go_sem]); all_goals (simp only [go_sem] at hb; try simp only [bls] at hb)) | ((iterate 6 try ((fail_if_success with_reducible refine hK _ ?_ ?_ ?_); clear hK K)); with_reducible refine hK _ ?_ ?_ ?_; rotate_left; (focus (simp only [go_sem]; exact rfl)); clear hK K) | (with_reducible refine aGs (fun hg0 => ?_) (fun hg0 => ?_) <;> first | (with_reducible first | exact aF1 hg0 | exact aF2 hg0) | (simp only [hg0, go_sem])) | (with_reducible refine aNk ?_; intro bnil hnil; try simp only []) | (omega; done) | (intro hv; (try simp only [bls] at hv); (try simp only [bls]); omega) | (intro hg; (simp only [hg, Bool.true_and, true_and, implies_true]; try (intro hg2; simp only [hg2, Bool.not_false, Bool.not_true])); done)))
 all_goals first | omega | rfl | skip
end Go.Proofs.YtlpllbbjmbbfnaaGreatDoor
