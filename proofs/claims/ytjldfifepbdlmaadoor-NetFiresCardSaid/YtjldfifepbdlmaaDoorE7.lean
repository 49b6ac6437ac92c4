/-
 The abstract machine over data, part 7: a region that draws its order, where what only reads what was there is taken first; the rest (new variables and stores into them) is walked in every order.
-/
import Derived.Test.YtjldfifepbdlmaaDoorE5
import Derived.OrdersHeld
set_option linter.unusedSimpArgs false
set_option linter.unusedVariables false
namespace Go.Eng
open Go.RowKit
def StillB (w1 w : World) : Prop := Below w1.heap.size w1 w
def eStep (T : Tab) (o : Oper) (σ : AState) (K : AState → Prop) : Prop :=
 match o.dst with
 | none => False
 | some d => match o.op with
  | .move x => ((σ.ev x).need ∧ d < σ.n) ∧ K (σ.put d (σ.evs x))
  | .fieldAddr t x f => ((σ.ev x).need ∧ d < σ.n ∧ (fieldAddrV (T t) σ.H f (σ.evs x)).1) ∧ K (σ.put d (fieldAddrV (T t) σ.H f (σ.evs x)).2)
  | .indexAddr t x i => match (T t).desc, σ.evs x, σ.evs i with
   | .slice e, .one (.list rows), .one (.int _ z) => ((σ.ev x).need ∧ (σ.ev i).need ∧ d < σ.n ∧ (0 ≤ z ∧ z < rows.length) ∧ (T e).desc ≠ .other ∧ (rows.getD z.toNat (T e).zero).length = (T e).size) ∧ K (σ.put d (.one (.ref (rows.getD z.toNat (T e).zero))))
   | _, _, _ => False
  | .load t x => match σ.evs x with
   | .one (.ref row) => ((σ.ev x).need ∧ d < σ.n ∧ (T t).desc ≠ .other ∧ (loadV (T t) row).1) ∧ K (σ.put d (loadV (T t) row).2)
   | .one (.vp ob off) => match σ.H[ob]? with
    | some (.var _ cs) => ((σ.ev x).need ∧ d < σ.n ∧ (T t).desc ≠ .other ∧ (loadV (T t) (cs.drop off)).1) ∧ K (σ.put d (loadV (T t) (cs.drop off)).2)
    | _ => False
   | _ => False
  | _ => False
def eWalk (T : Tab) (ops : Array Oper) : List Nat → AState → (AState → Prop) → Prop
 | [], σ, K => K σ
 | i :: is, σ, K => match ops[i]? with | some o => o.guard = none ∧ eStep T o σ (fun σ' => eWalk T ops is σ' K) | none => False
def fStep (T : Tab) (m : Nat) (o : Oper) (σ : AState) (K : AState → Prop) : Prop :=
 o.guard = none ∧ match o.dst with
 | some d => match o.op with
  | .alloc e => tAlloc T e d σ K
  | _ => False
 | none => match o.op with
  | .store t ad v => match σ.evs ad, (σ.evs v).cells? with
   | .one (.vp o off), some cells => match σ.H[o]? with
    | some (.var e cs) => (m ≤ o ∧ (σ.ev ad).need ∧ (σ.ev v).need ∧ (T t).desc ≠ .other ∧ cells.length = (T t).size ∧ off + cells.length ≤ cs.length) ∧ K (σ.setObj o (.var e (setAt cs off cells)))
    | _ => False
   | _, _ => False
  | _ => False
def fWalk (T : Tab) (ops : Array Oper) (m : Nat) (K : AState → Prop) : OT → AState → Prop
 | .leaf, σ => K σ
 | .nil, _ => True
 | .alt i n t, σ => (match ops[i]? with | some o => fStep T m o σ (fWalk T ops m K n) | none => False) ∧ fWalk T ops m K t σ
section
variable {P : Program} {T : Tab} {W0 w w' w1 : World} {M0 : Nat → Prop} {F β : List Value} {σ : AState} {a : Act} {ops : Array Oper} {Q : Exit → Act → World → Prop} {K : AState → Prop} {md : Region.Mode} {Kc : Act → World → Prop}
def HS (W0 : World) (M0 : Nat → Prop) (F : List Value) (w1 : World) (m : Nat) (σ : AState) (a : Act) (w : World) : Prop :=
 ∃ β, Sim W0 M0 F σ a w β ∧ StillB w1 w ∧ ∀ (t : Nat) (h : Value) (g : Nat), m ≤ t → β[t]? = some h → hblk h = some g → w1.heap.size ≤ g
end
section
variable {P : Program} {T : Tab} {σ : AState} {ops : Array Oper} {K : AState → Prop} {Q : APost}
def fWalkR (T : Tab) (ops : Array Oper) (m : Nat) (K : AState → Prop) (t : OT) (σ : AState) : Prop := fWalk T ops m K t σ
theorem fW_leaf {m : Nat} : fWalk T ops m K .leaf σ = K σ := rfl
theorem fW_nil {m : Nat} : fWalk T ops m K .nil σ = True := rfl
theorem fW_alt {m i : Nat} {n t : OT} : fWalk T ops m K (.alt i n t) σ = ((match ops[i]? with | some o => fStep T m o σ (fWalkR T ops m K n) | none => False) ∧ fWalk T ops m K t σ) := rfl
theorem eWalk_nil : eWalk T ops [] σ K = K σ := rfl
theorem eWalk_cons {i : Nat} {is : List Nat} : eWalk T ops (i :: is) σ K = (match ops[i]? with | some o => o.guard = none ∧ eStep T o σ (fun σ' => eWalk T ops is σ' K) | none => False) := rfl
attribute [go_sem] fW_leaf fW_nil fW_alt fWalkR eWalk_nil eWalk_cons eStep fStep
end
end Go.Eng
