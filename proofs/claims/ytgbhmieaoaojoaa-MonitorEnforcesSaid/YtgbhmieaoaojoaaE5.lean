/-
 The abstract machine over data, part 5: a region that draws its order, where the first operations are walked in every order; phases follow.
-/
import Derived.Test.YtgbhmieaoaojoaaE3
set_option linter.unusedSimpArgs false
set_option linter.unusedVariables false
namespace Go.Eng
open Go.RowKit
inductive OT where
 | leaf
 | nil
 | alt (i : Nat) (n m : OT)
def OT.ids : OT → List Nat
 | .alt i _ m => i :: m.ids
 | _ => []
def OT.deep : OT → Nat → Bool
 | .leaf, k => k == 0
 | .nil, k => k != 0
 | .alt _ n m, k => (match k with | 0 => false | k + 1 => n.deep k) && m.deep k
def otB (md : Region.Mode) (ops : Array Oper) (e : Array Bool → Bool) : Bool → OT → Array Bool → Bool
 | _, .leaf, listed => e listed
 | hd, .nil, _ => !hd
 | hd, .alt i n m, listed => (!hd || ((Region.ready md ops listed).all (fun j => (i :: m.ids).contains j) && !(Region.ready md ops listed).isEmpty)) && otB md ops e true n (listed.setIfInBounds i true) && otB md ops e false m listed
def otW (P : Program) (T : Tab) (ops : Array Oper) (ps : List Ph) (K : AState → Prop) : OT → AState → Prop
 | .leaf, σ => pWalk P T ops ps σ K
 | .nil, _ => True
 | .alt i n m, σ => (match ops[i]? with | some o => aop P T ops o σ (otW P T ops ps K n) | none => False) ∧ otW P T ops ps K m σ
section
variable {P : Program} {T : Tab} {W0 w : World} {M0 : Nat → Prop} {F : List Value} {σ : AState} {a : Act} {ops : Array Oper} {Q : Exit → Act → World → Prop} {K : AState → Prop} {A : List (Nat × List Nat)} {ps : List Ph}
end
section
variable {P : Program} {T : Tab} {σ : AState} {ops : Array Oper} {K : AState → Prop} {Q : APost}
def otWR (P : Program) (T : Tab) (ops : Array Oper) (ps : List Ph) (K : AState → Prop) (t : OT) (σ : AState) : Prop := otW P T ops ps K t σ
theorem otW_leaf {ps : List Ph} : otW P T ops ps K .leaf σ = pWalk P T ops ps σ K := rfl
theorem otW_nil {ps : List Ph} : otW P T ops ps K .nil σ = True := rfl
theorem otW_alt {ps : List Ph} {i : Nat} {n m : OT} : otW P T ops ps K (.alt i n m) σ = ((match ops[i]? with | some o => aop P T ops o σ (otWR P T ops ps K n) | none => False) ∧ otW P T ops ps K m σ) := rfl
theorem aOt {ps : List Ph} {t : OT} (h : otW P T ops ps K t σ) : otWR P T ops ps K t σ := h
instance sgOt {ps : List Ph} {t : OT} : Sg (otWR P T ops ps K t σ) (otW P T ops ps K t σ) := ⟨aOt⟩
attribute [go_sem] otW_leaf otW_nil otW_alt
end
end Go.Eng
