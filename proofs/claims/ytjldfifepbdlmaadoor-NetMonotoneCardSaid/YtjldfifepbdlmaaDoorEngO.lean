/-
  The abstract machine: code, loops, contracts.
-/
import Derived.Test.YtjldfifepbdlmaaDoorEngN2
import Derived.Deep.LoopGhost
set_option linter.unusedSimpArgs false
set_option linter.unusedVariables false
namespace Go.Eng
open Go.RowKit

def D.tagsLt0 (m : Nat) : D → Bool
  | .own t => t < m
  | .vp t _ => t < m
  | .rp t _ _ _ => t < m
  | .mp t => t < m
  | _ => true
def D.tagsLt (m : Nat) : D → Bool
  | .clo _ caps => caps.all (D.tagsLt0 m)
  | d => d.tagsLt0 m
def AV.tagsLt (m : Nat) : AV → Bool
  | .one d => d.tagsLt m
  | .agg ds => ds.all (D.tagsLt m)
  | .tup vs => vs.all fun | .one d => d.tagsLt m | .agg ds => ds.all (D.tagsLt m) | .any => true | _ => false
  | .cond _ (.one d) => d.tagsLt m
  | .cond _ (.agg ds) => ds.all (D.tagsLt m)
  | .any => true
  | _ => false
def AObj.tagsLt (m : Nat) : AObj → Bool
  | .var _ cs => cs.all (D.tagsLt m)
  | .map _ kvs => kvs.all fun kv => kv.1.tagsLt m && kv.2.tagsLt m
  | _ => true
def subSlots (σ : AState) (m : Nat) : List (Nat × AV) → Prop
  | [] => True
  | (i, v) :: r => (lookS σ.slots i = some v ∧ v.tagsLt m = true) ∧ subSlots σ m r
def subObj (m : Nat) (o : AObj) : AObj → Prop
  | .gone => True
  | p => o = p ∧ p.tagsLt m = true
def subH (m : Nat) : List AObj → List AObj → Prop
  | _, [] => True
  | [], _ :: _ => False
  | o :: os, p :: ps => subObj m o p ∧ subH m os ps
/-- what 'τ' tells holds in 'σ' -/
def SubA (σ τ : AState) : Prop := (σ.n = τ.n ∧ (σ.pin = τ.pin ∧ τ.pin ≤ τ.H.length) ∧ subSlots σ τ.H.length τ.slots) ∧ subH τ.H.length σ.H τ.H
/-! what is dropped is frozen first; what is nil may become a slice of one's own -/
def isRow : AObj → Bool | .row .. => true | _ => false
def isVar : AObj → Bool | .var .. => true | _ => false
def D.tags0 : D → List Nat
  | .own t => [t]
  | .vp t _ => [t]
  | .rp t _ _ _ => [t]
  | .mp t => [t]
  | _ => []
def D.tags : D → List Nat
  | .clo _ caps => caps.flatMap D.tags0
  | d => d.tags0
def AV.tags : AV → List Nat
  | .one d => d.tags
  | .agg ds => ds.flatMap D.tags
  | .tup vs => vs.flatMap fun | .one d => d.tags | .agg ds => ds.flatMap D.tags | _ => []
  | .cond _ (.one d) => d.tags
  | .cond _ (.agg ds) => ds.flatMap D.tags
  | _ => []
def AObj.tags : AObj → List Nat
  | .var _ cs => cs.flatMap D.tags
  | _ => []
def slotTags : List (Nat × AV) → List Nat
  | [] => []
  | s :: l => s.2.tags ++ slotTags l
def objTags : List AObj → List Nat
  | [] => []
  | o :: l => o.tags ++ objTags l
def tagsOf (p : AObj → Bool) (used : List Nat) : Nat → List AObj → List Nat
  | _, [] => []
  | k, o :: os => if (p o && memN k used) = true then k :: tagsOf p used (k + 1) os else tagsOf p used (k + 1) os
def dropObjs : Nat → List AObj → List AObj
  | 0, l => l
  | n + 1, l => match l with | [] => [] | _ :: os => dropObjs n os
/-- of the objects beyond the first 'm' those that are spoken of: rows first -/
def newTags (m : Nat) (used : List Nat) (H : List AObj) : List Nat := tagsOf isRow used m (dropObjs m H) ++ tagsOf isVar used m (dropObjs m H)
def pickS (σ : AState) : List Nat → List (Nat × AV)
  | [] => []
  | i :: l => match lookS σ.slots i with | some v => (i, v) :: pickS σ l | none => pickS σ l
def slotIds : List (Nat × AV) → List Nat
  | [] => []
  | s :: l => s.1 :: slotIds l
/-- only these slots, and what lies beyond the first 'm' objects is frozen -/
def AState.pare (m : Nat) (is : List Nat) (σ : AState) : AState := AState.freezeAll (newTags m (slotTags (pickS σ is) ++ objTags σ.H) σ.H) { n := σ.n, slots := pickS σ is, H := σ.H, pin := σ.pin }
def SubF (σ τ : AState) : Prop := SubA (σ.pare τ.H.length (slotIds τ.slots)) τ
inductive Thaw where
  | slot (i e sz : Nat) | cell (o off e sz : Nat)
def AState.thaw1 (σ : AState) : Thaw → AState
  | .slot i e sz => { n := σ.n, slots := (i, .one (.own σ.H.length)) :: σ.slots, H := σ.H ++ [.row e sz []], pin := σ.pin }
  | .cell o off e sz => match σ.H[o]? with | some (.var et cs) => { n := σ.n, slots := σ.slots, H := σ.H.set o (.var et (cs.set off (.own σ.H.length))) ++ [.row e sz []], pin := σ.pin } | _ => σ
def thawOk (σ : AState) : Thaw → Prop
  | .slot i _ _ => lookS σ.slots i = some (.one .nil)
  | .cell o off _ _ => match σ.H[o]? with | some (.var _ cs) => cs[off]? = some .nil | _ => False
def AState.thaw : List Thaw → AState → AState
  | [], σ => σ
  | t :: ts, σ => AState.thaw ts (σ.thaw1 t)
def thawsOk : List Thaw → AState → Prop
  | [], _ => True
  | t :: ts, σ => thawOk σ t ∧ thawsOk ts (σ.thaw1 t)

section
variable {P : Program} {T : Tab} {W0 w : World} {M M' M0 : Nat → Prop} {F : List Value} {σ τ : AState} {a : Act} {β β' : List Value} {m : Nat}
/-- fewer tags -/
structure Cut (w : World) (M : Nat → Prop) (β : List Value) (m : Nat) (M' : Nat → Prop) (β' : List Value) : Prop where
  keeps : Keeps w M w M'
  tags : ∀ (t : Nat) (h : Value), t < m → β[t]? = some h → β'[t]? = some h
theorem RepC0.cut (hg : Cut w M β m M' β') {d : D} {v : Value} (h : RepC0 w M β d v) (ht : d.tagsLt0 m = true) : RepC0 w M' β' d v := by
  cases d
  case unk => exact h
  case own t => exact ⟨h.1.imp (hg.tags _ _ (by simpa [D.tagsLt0] using ht)) (hg.tags _ _ (by simpa [D.tagsLt0] using ht)), h.2⟩
  case vp t off =>
    rcases h with ⟨g, h1, h2⟩ | h
    · exact .inl ⟨g, hg.tags _ _ (by simpa [D.tagsLt0] using ht) h1, h2⟩
    · exact .inr ⟨hg.tags _ _ (by simpa [D.tagsLt0] using ht) h.1, h.2⟩
  case rp t i sz sub =>
    rcases h with ⟨g, n, c, h1, h2⟩ | h
    · exact .inl ⟨g, n, c, hg.tags _ _ (by simpa [D.tagsLt0] using ht) h1, h2⟩
    · exact .inr ⟨hg.tags _ _ (by simpa [D.tagsLt0] using ht) h.1, h.2⟩
  case mp t =>
    rcases h with ⟨g, h1, h2⟩ | h
    · exact .inl ⟨g, hg.tags _ _ (by simpa [D.tagsLt0] using ht) h1, h2⟩
    · exact .inr ⟨hg.tags _ _ (by simpa [D.tagsLt0] using ht) h.1, h.2⟩
  all_goals (simp only [RepC0] at h ⊢; exact RepD.keep hg.keeps _ _ h)
theorem RepC.cut (hg : Cut w M β m M' β') {d : D} {v : Value} (h : RepC w M β d v) (ht : d.tagsLt m = true) : RepC w M' β' d v := by
  cases d
  case clo f caps =>
    obtain ⟨vs, h1, h2, h3⟩ := h
    simp only [D.tagsLt, List.all_eq_true] at ht
    exact ⟨vs, h1, h2, fun i d u a b => (h3 i d u a b).cut hg (ht d (List.mem_of_getElem? a))⟩
  all_goals (simp only [RepC] at h ⊢; exact h.cut hg ht)
theorem RepCL.cut (hg : Cut w M β m M' β') {ds : List D} {vs : List Value} (h : RepCL w M β ds vs) (ht : ds.all (D.tagsLt m) = true) : RepCL w M' β' ds vs := by
  rw [List.all_eq_true] at ht
  exact ⟨h.1, fun i d u a b => (h.2 i d u a b).cut hg (ht d (List.mem_of_getElem? a))⟩
theorem RepV.cut (hg : Cut w M β m M' β') (x : AV) (v : Value) (h : RepV w M β x v) (ht : x.tagsLt m = true) : RepV w M' β' x v := by
  cases x with
  | one d => exact RepC.cut (d := d) hg h ht
  | agg ds => obtain ⟨vs, h1, h2⟩ := h; exact ⟨vs, h1, h2.cut hg ht⟩
  | tup avs =>
    obtain ⟨vs, e, hl⟩ := h
    have hg' := RepVL.get avs vs hl
    simp only [AV.tagsLt, List.all_eq_true] at ht
    refine ⟨vs, e, RepVL.mk _ _ hg'.1 fun i b u hb hu => ?_⟩
    have h1 := hg'.2 i b u hb hu
    have h3 := ht b (List.mem_of_getElem? hb)
    cases b with
    | one d => exact RepC.cut (d := d) hg h1 h3
    | agg ds => obtain ⟨vs, e1, e2⟩ := h1; exact ⟨vs, e1, e2.cut hg h3⟩
    | any => exact trivial
    | _ => cases h3
  | cond g y =>
    cases y with
    | one d => exact ⟨fun hh => RepC.cut (d := d) hg (h.1 hh) ht, h.2⟩
    | agg ds => exact ⟨fun hh => by obtain ⟨vs, h1, h2⟩ := h.1 hh; exact ⟨vs, h1, h2.cut hg ht⟩, h.2⟩
    | _ => cases ht
  | any => exact trivial
theorem ObjRep.cut (hg : Cut w M β m M' β') {o : AObj} {h : Value} (hr : ObjRep w M β o h) (ht : o.tagsLt m = true) : ObjRep w M' β' o h := by
  cases o with
  | gone => exact trivial
  | row e sz rows =>
    obtain ⟨A, c, h1, h2, h3, h4⟩ := hr
    refine ⟨A, c, h1, h2, h3, ?_⟩
    rcases h4 with h4 | ⟨hc0, g, cur, rfl, h5, h6, h7⟩
    · exact .inl h4
    · exact .inr ⟨hc0, g, cur, rfl, h5, h6, h7.keeps hg.keeps fun vs o x => x⟩
  | var e cs =>
    obtain ⟨g, cur, h1, h2, h3⟩ := hr
    exact ⟨g, cur, h1, h2, h3.cut hg ht⟩
  | map kd kvs =>
    obtain ⟨hp, g, es, clk, h1, h2, h3, h4⟩ := hr
    simp only [AObj.tagsLt, List.all_eq_true, Bool.and_eq_true] at ht
    exact ⟨hp, g, es, clk, h1, h2, h3, fun i kv e a b => ⟨RepV.cut hg _ _ (h4 i kv e a b).1 (ht kv (List.mem_of_getElem? a)).1, RepV.cut hg _ _ (h4 i kv e a b).2 (ht kv (List.mem_of_getElem? a)).2⟩⟩
theorem subSlots_lookS : ∀ (l : List (Nat × AV)) (i : Nat) (v : AV), subSlots σ m l → lookS l i = some v → lookS σ.slots i = some v ∧ v.tagsLt m = true
  | [], i, v, _, h => by simp [lookS] at h
  | (j, u) :: l, i, v, hs, h => by
    simp only [lookS] at h
    split at h
    · rename_i hj
      subst hj
      cases h
      exact hs.1
    · exact subSlots_lookS l i v hs.2 h
theorem subH_get : ∀ (os ps : List AObj) (t : Nat) (p : AObj), subH m os ps → ps[t]? = some p → ∃ o, os[t]? = some o ∧ subObj m o p
  | _, [], t, p, _, h => by simp at h
  | [], q :: ps, t, p, hs, _ => hs.elim
  | o :: os, q :: ps, t, p, hs, h => by
    cases t with
    | zero => simp at h; subst h; exact ⟨o, rfl, hs.1⟩
    | succ t => simpa using subH_get os ps t p hs.2 (by simpa using h)
theorem subH_length : ∀ (os ps : List AObj), subH m os ps → ps.length ≤ os.length
  | _, [], _ => Nat.zero_le _
  | [], q :: ps, h => h.elim
  | o :: os, q :: ps, h => by simpa using subH_length os ps h.2
theorem Sim.sub (h : Sim W0 M0 F σ a w β) (hs : SubA σ τ) : ∃ β', Sim W0 M0 F τ a w β' := by
  obtain ⟨⟨hn, ⟨hp1, hp2⟩, hsl⟩, hH⟩ := hs
  have hlen := subH_length _ _ hH
  have hown : ∀ g, owned (β.take τ.H.length) g → owned β g := by
    rintro g ⟨t, x, h1, h2⟩
    rw [List.getElem?_take] at h1
    split at h1
    · exact ⟨t, x, h1, h2⟩
    · cases h1
  have hC : Cut w (Mof M0 β) β τ.H.length (Mof M0 (β.take τ.H.length)) (β.take τ.H.length) := by
    refine ⟨⟨Nat.le_refl _, fun _ _ _ => rfl, fun g _ hm hm' => hm ?_⟩, fun t x ht hx => by rw [List.getElem?_take, if_pos ht]; exact hx⟩
    rcases hm' with hm' | hm'
    · exact .inl hm'
    · exact .inr (hown g hm')
  refine ⟨β.take τ.H.length, h.below, h.m0, by rw [List.length_take, h.len]; omega, ?_, fun g hg => h.fresh g (hown g hg), ?_, fun i v hv => ?_, by rw [h.size, hn], h.defers, h.out, by rw [← hp1]; exact h.pins.1, fun t ht => ?_⟩
  · intro t p x hp hx
    rw [List.getElem?_take] at hx
    split at hx
    · obtain ⟨o, ho, hso⟩ := subH_get _ _ t p hH hp
      cases p with
      | gone => exact trivial
      | _ =>
        obtain ⟨rfl, ht⟩ := hso
        exact (h.objs t _ x ho hx).cut hC ht
    · cases hx
  · intro t t' x x' g h1 h2 h3 h4
    rw [List.getElem?_take] at h1 h2
    split at h1 <;> split at h2 <;> first | (cases h1; done) | (cases h2; done) | exact h.dist t t' x x' g h1 h2 h3 h4
  · obtain ⟨h1, h2⟩ := subSlots_lookS _ _ _ hsl hv
    obtain ⟨x, hx, hr⟩ := h.slots i v h1
    exact ⟨x, hx, RepV.cut hC v x hr h2⟩
  · rw [List.getElem?_take, if_pos (Nat.lt_of_lt_of_le ht hp2)]
    exact h.pins.2 t (by rw [hp1]; exact ht)
theorem Sim.weaken (h : Sim W0 M0 F σ a w β) {l : List (Nat × AV)} (hl : ∀ i v, lookS l i = some v → lookS σ.slots i = some v) : Sim W0 M0 F { n := σ.n, slots := l, H := σ.H, pin := σ.pin } a w β :=
  ⟨h.below, h.m0, h.len, h.objs, h.fresh, h.dist, fun i v hv => h.slots i v (hl i v hv), h.size, h.defers, h.out, h.pins⟩
theorem pickS_look : ∀ (is : List Nat) (i : Nat) (v : AV), lookS (pickS σ is) i = some v → lookS σ.slots i = some v
  | [], i, v, h => by cases h
  | j :: is, i, v, h => by
    simp only [pickS] at h
    cases hj : lookS σ.slots j with
    | none => rw [hj] at h; exact pickS_look is i v h
    | some u =>
      rw [hj] at h
      simp only [lookS] at h
      split at h
      · rename_i e; subst e; cases h; exact hj
      · exact pickS_look is i v h
theorem Sim.pare (h : Sim W0 M0 F σ a w β) (m : Nat) (is : List Nat) : ∃ β', Sim W0 M0 F (σ.pare m is) a w β' := Sim.freezeAll _ _ β (h.weaken (pickS_look is))
theorem Sim.subF (h : Sim W0 M0 F σ a w β) (hs : SubF σ τ) : ∃ β', Sim W0 M0 F τ a w β' := by
  obtain ⟨β1, h1⟩ := h.pare τ.H.length (slotIds τ.slots)
  exact h1.sub hs
theorem Sim.thaw1 (h : Sim W0 M0 F σ a w β) (t : Thaw) (ht : thawOk σ t) : ∃ β', Sim W0 M0 F (σ.thaw1 t) a w β' := by
  have push : ∀ (e sz : Nat) (A : Option Addr), Sim W0 M0 F { σ with H := σ.H ++ [.row e sz []] } a w (β ++ [.slice A 0 0]) := fun e sz A =>
    h.push (Hn := [.row e sz []]) (βn := [.slice A 0 0]) (Below.refl w.heap.size w) rfl (fun g ⟨t, y, hy, hg⟩ => by
      cases t with
      | zero => simp at hy; subst hy; rw [hblk_zero] at hg; cases hg
      | succ t => simp at hy) (fun t t' y y' g hy hy' _ _ => by
      cases t <;> cases t' <;> first | rfl | (simp at hy; done) | (simp at hy'; done)) (fun t o' y ho' hy => by
      cases t with
      | zero => simp at ho' hy; subst ho'; subst hy; exact ⟨A, 0, rfl, Nat.le_refl _, Nat.zero_le _, .inl rfl⟩
      | succ t => simp at hy)
  have last : ∀ A : Option Addr, (β ++ [Value.slice A 0 0])[σ.H.length]? = some (.slice A 0 0) := fun A => by rw [← h.len]; simp
  cases t with
  | slot i e sz =>
    obtain ⟨x, h1, h2⟩ := h.slots i _ ht
    obtain ⟨A, rfl⟩ : ∃ A, x = .slice A 0 0 := h2
    have hp := push e sz A
    refine ⟨_, ⟨hp.below, hp.m0, hp.len, hp.objs, hp.fresh, hp.dist, fun j v hv => ?_, hp.size, hp.defers, hp.out, hp.pins⟩⟩
    simp only [AState.thaw1, lookS] at hv
    split at hv
    · rename_i hij
      subst hij
      cases hv
      exact ⟨_, h1, .inl (last A), rfl⟩
    · exact hp.slots j v hv
  | cell o off e sz =>
    simp only [thawOk] at ht
    cases hH : σ.H[o]? with
    | none => rw [hH] at ht; exact ht.elim
    | some ob =>
      rw [hH] at ht
      cases ob with
      | var et cs =>
        simp only at ht
        have hol : o < β.length := by rw [h.len]; exact (List.getElem?_eq_some_iff.1 hH).1
        obtain ⟨g, cur, h1, h2, h3⟩ := h.objs o _ _ hH (List.getElem?_eq_getElem hol)
        have hlt : off < cur.toList.length := by rw [← h3.1]; exact (List.getElem?_eq_some_iff.1 ht).1
        obtain ⟨A, hA⟩ : ∃ A, cur.toList[off] = .slice A 0 0 := h3.2 off _ _ ht (List.getElem?_eq_getElem hlt)
        have hp := push e sz A
        have hoA : (β ++ [Value.slice A 0 0])[o]? = some β[o] := by rw [List.getElem?_append_left hol, List.getElem?_eq_getElem hol]
        obtain ⟨g', cur', k1, k2, k3⟩ := hp.objs o (.var et cs) _ (by rw [List.getElem?_append_left (by rw [← h.len]; exact hol)]; exact hH) hoA
        have e1 : g' = g := by rw [h1] at k1; cases k1; rfl
        subst e1
        have e2 : cur' = cur := by rw [h2] at k2; cases k2; rfl
        subst e2
        have hw := hp.write (t := o) (hd := β[o]) (o' := .var et (cs.set off (.own σ.H.length))) hoA (w' := w) (grownBy_refl w _) ⟨g', cur', h1, h2, by
          have := k3.set off (d := .own σ.H.length) (v := .slice A 0 0) ⟨.inl (last A), rfl⟩
          rw [show cur'.toList.set off (.slice A 0 0) = cur'.toList by rw [← hA]; exact List.set_getElem_self hlt] at this
          exact this⟩
        refine ⟨β ++ [.slice A 0 0], ?_⟩
        simp only [AState.thaw1, hH]
        have e3 : (σ.H ++ [AObj.row e sz []]).set o (.var et (cs.set off (.own σ.H.length))) = σ.H.set o (.var et (cs.set off (.own σ.H.length))) ++ [.row e sz []] := List.set_append_left _ _ (by rw [← h.len]; exact hol)
        rw [← e3]
        exact hw
      | _ => exact ht.elim
theorem Sim.thaw : ∀ (ts : List Thaw) (σ : AState) (β : List Value), Sim W0 M0 F σ a w β → thawsOk ts σ → ∃ β', Sim W0 M0 F (AState.thaw ts σ) a w β'
  | [], σ, β, h, _ => ⟨β, h⟩
  | t :: ts, σ, β, h, hs => by
    obtain ⟨β1, h1⟩ := h.thaw1 t hs.1
    exact Sim.thaw ts _ _ h1 hs.2
end

abbrev APost := Exit → AState → Prop
def APost.then (K : AState → Prop) (Q : APost) : APost := fun e σ => match e with | .normal => K σ | e => Q e σ
def APost.blk (id : Nat) (Q : APost) : APost := fun e σ => match e with | .exit id' => if id' = id then Q .normal σ else Q (.exit id') σ | e => Q e σ
/-- a loop: what holds at its head is told by 'f s', 's' the loop's own data with 'I s'; each round lowers 'μ' -/
def ALoop (body : AState → APost → Prop) (σ : AState) (Q : APost) : Prop :=
  ∃ (S : Type) (I : S → Prop) (f : S → AState) (μ : S → Nat) (s0 : S) (ths : List Thaw), I s0 ∧ (thawsOk ths σ ∧ SubF (AState.thaw ths σ) (f s0)) ∧ ∀ s, I s → body (f s) (APost.then (fun σ' => ∃ s', I s' ∧ SubF σ' (f s') ∧ μ s' < μ s) Q)
/-- a region that draws its order, shown by whatever means -/
def SemReg (P : Program) (ops : Array Oper) (σ : AState) (K : AState → Prop) : Prop :=
  ∀ (W0 : World) (M0 : Nat → Prop) (F : List Value) (a : Act) (w : World) (Q : Exit → Act → World → Prop) (id : Nat), SimS W0 M0 F σ a w → (∀ σ' a' w', K σ' → SimS W0 M0 F σ' a' w' → Q .normal a' w') → (Code.region id ops true).wp P Q a w
/-- which slots are looked at further on: those below 'n0' and those of 'xs'; of each the newest alone -/
def keepL (n0 : Nat) (xs : List Nat) : List Nat → List (Nat × AV) → List (Nat × AV)
  | _, [] => []
  | seen, s :: l => if ((decide (s.1 < n0) || memN s.1 xs) && !memN s.1 seen) = true then s :: keepL n0 xs (s.1 :: seen) l else keepL n0 xs seen l
def AState.keepS (σ : AState) (n0 : Nat) (xs : List Nat) : AState := { n := σ.n, slots := keepL n0 xs [] σ.slots, H := σ.H, pin := σ.pin }
def condHead : Code → List Nat
  | .cond (.tmp t) _ _ => [t]
  | .seq a _ => condHead a
  | .block _ a => condHead a
  | .loop a => condHead a
  | _ => []
theorem keepL_none (n0 : Nat) (xs : List Nat) (i : Nat) : ∀ (l : List (Nat × AV)) (seen : List Nat), i ∈ seen ∨ (decide (i < n0) || memN i xs) = false → lookS (keepL n0 xs seen l) i = none
  | [], _, _ => rfl
  | s :: l, seen, h => by
    simp only [keepL]
    split
    · rename_i hc
      simp only [Bool.and_eq_true, Bool.not_eq_true'] at hc
      simp only [lookS]
      split
      · rename_i e
        subst e
        rcases h with h | h
        · rw [memN_iff.2 h] at hc; cases hc.2
        · rw [h] at hc; cases hc.1
      · exact keepL_none n0 xs i l _ (h.imp (fun h => by simp [h]) id)
    · exact keepL_none n0 xs i l _ h
theorem keepL_look (n0 : Nat) (xs : List Nat) (i : Nat) (v : AV) : ∀ (l : List (Nat × AV)) (seen : List Nat), i ∉ seen → lookS (keepL n0 xs seen l) i = some v → lookS l i = some v
  | [], _, _, h => by cases h
  | s :: l, seen, hn, h => by
    simp only [keepL] at h
    split at h
    · simp only [lookS] at h ⊢
      split
      · rename_i e; rw [if_pos e] at h; exact h
      · rename_i e
        rw [if_neg e] at h
        exact keepL_look n0 xs i v l _ (by simp only [List.mem_cons, not_or]; exact ⟨fun e' => e e'.symm, hn⟩) h
    · rename_i hc
      simp only [lookS]
      split
      · rename_i e
        subst e
        have hm : memN s.1 seen = false := by
          cases hb : memN s.1 seen with
          | false => rfl
          | true => exact absurd (memN_iff.1 hb) hn
        rw [hm] at hc
        have : (decide (s.1 < n0) || memN s.1 xs) = false := by simpa using hc
        rw [keepL_none n0 xs s.1 l seen (.inr this)] at h
        cases h
      · exact keepL_look n0 xs i v l seen hn h
def awp (P : Program) (T : Tab) : Code → AState → APost → Prop
  | .skip, σ, Q => Q .normal σ
  | .region _ ops draw, σ, Q => if draw then dops P T ops σ (Q .normal) ∨ (∃ is hd tl K, (∀ σ τ, Like σ τ → K σ → K τ) ∧ (∀ σ, K σ → ∃ τ, Like τ σ ∧ Q .normal τ) ∧ edops P T ops is hd tl σ K) ∨ SemReg P ops σ (Q .normal) else aops P T ops ops.toList σ (Q .normal)
  | .seq x y, σ, Q => awp P T x σ (APost.then (fun σ' => ∃ n0 xs, awp P T y (σ'.keepS n0 xs) Q) Q)
  | .cond c x y, σ, Q => match σ.evs c with
    | .one (.bool b) => (σ.ev c).need ∧ (b = true → awp P T x σ Q) ∧ (b = false → awp P T y σ Q)
    | _ => False
  | .block id c, σ, Q => awp P T c σ (APost.blk id Q)
  | .loop c, σ, Q => ALoop (fun σ Q => awp P T c σ Q) σ Q
  | .exit id, σ, Q => Q (.exit id) σ
  | .ret, σ, Q => Q .ret σ
  | _, _, _ => False
/-- the concrete side of a post -/
def conc (W0 : World) (M0 : Nat → Prop) (F : List Value) (Q : APost) : Exit → Act → World → Prop := fun e a w => ∃ σ, Q e σ ∧ SimS W0 M0 F σ a w

section
variable {P : Program} {T : Tab} {W0 w : World} {M0 : Nat → Prop} {F : List Value} {σ : AState} {a : Act}
theorem awp_sound (hT : TabOk P T) (hm : P.follows .mixedOrders = true) : ∀ (c : Code) (σ : AState) (Q : APost) (a : Act) (w : World), SimS W0 M0 F σ a w → awp P T c σ Q → c.wp P (conc W0 M0 F Q) a w
  | .skip, σ, Q, a, w, h, hc => wp_skip ⟨σ, hc, h⟩
  | .region id ops draw, σ, Q, a, w, h, hc => by
    cases draw with
    | true =>
      simp only [awp, if_true] at hc
      rcases hc with hc | ⟨is, hd, tl, K, hKl, hKQ, hc⟩ | hc
      · exact dops_sound hT hm h hc fun σ' a' w' h1 h2 => ⟨σ', h1, h2⟩
      · exact edops_sound hT hm hKl h hc fun σ' a' w' h1 h2 => by
          obtain ⟨τ, k1, k2⟩ := hKQ σ' h1
          exact ⟨τ, k2, h2.like k1.symm⟩
      · exact hc W0 M0 F a w _ id h fun σ' a' w' h1 h2 => ⟨σ', h1, h2⟩
    | false =>
      simp only [awp, Bool.false_eq_true, if_false] at hc
      exact wp_region_list (aops_sound hT ops.toList σ a w h hc fun σ' a' w' h1 h2 => ⟨σ', h1, h2⟩)
  | .seq x y, σ, Q, a, w, h, hc => by
    refine wp_seq (wp_mono (awp_sound hT hm x σ _ a w h hc) ?_)
    rintro e a' w' ⟨σ', h1, h2⟩
    cases e <;> first | exact ⟨σ', h1, h2⟩ | skip
    obtain ⟨n0, xs, h1⟩ := h1
    obtain ⟨β, h2⟩ := h2
    exact awp_sound hT hm y (σ'.keepS n0 xs) Q a' w' ⟨β, h2.weaken (fun i v hv => keepL_look n0 xs i v σ'.slots [] (by simp) hv)⟩ h1
  | .cond c x y, σ, Q, a, w, h, hc => by
    simp only [awp] at hc
    split at hc
    · rename_i b hev
      obtain ⟨hn, h1, h2⟩ := hc
      obtain ⟨β, h⟩ := h
      have hv := h.evs hn
      rw [hev] at hv
      exact wp_cond_split (rep_bool_inv hv) (fun hb => awp_sound hT hm x σ Q a w ⟨β, h⟩ (h1 hb)) (fun hb => awp_sound hT hm y σ Q a w ⟨β, h⟩ (h2 hb))
    · exact hc.elim
  | .block id c, σ, Q, a, w, h, hc => by
    refine wp_block (wp_mono (awp_sound hT hm c σ _ a w h hc) ?_)
    rintro e a' w' ⟨σ', h1, h2⟩
    cases e <;> first | exact ⟨σ', h1, h2⟩ | skip
    rename_i id'
    simp only [Exit.inBlock, APost.blk] at h1 ⊢
    by_cases hid : id' = id
    · subst hid
      simp only [if_true] at h1
      simp
      exact ⟨σ', h1, h2⟩
    · rw [if_neg hid] at h1
      simp [hid]
      exact ⟨σ', h1, h2⟩
  | .loop c, σ, Q, a, w, h, hc => by
    obtain ⟨S, I, f, μ, s0, ths, hI0, hs0, hround⟩ := hc
    refine wp_loop_ghost (fun n a w => ∃ s, μ s = n ∧ I s ∧ SimS W0 M0 F (f s) a w) (μ s0) ⟨s0, rfl, hI0, by obtain ⟨β, h⟩ := h; obtain ⟨β1, h1⟩ := Sim.thaw ths σ β h hs0.1; exact h1.subF hs0.2⟩ ?_
    rintro n a' w' ⟨s, rfl, hI, hs⟩
    refine wp_mono (awp_sound hT hm c (f s) _ a' w' hs (hround s hI)) ?_
    rintro e a2 w2 ⟨σ', h1, h2⟩
    cases e <;> first | exact ⟨σ', h1, h2⟩ | skip
    obtain ⟨s', h3, h4, h5⟩ := h1
    exact ⟨μ s', h5, s', rfl, h3, by obtain ⟨β, h2⟩ := h2; exact h2.subF h4⟩
  | .exit id, σ, Q, a, w, h, hc => wp_exit ⟨σ, hc, h⟩
  | .ret, σ, Q, a, w, h, hc => wp_ret ⟨σ, hc, h⟩
  | .rangeFunc .., _, _, _, _, _, hc => hc.elim
  | .scope _, _, _, _, _, _, hc => hc.elim
  | .label _, _, _, _, _, _, hc => hc.elim
  | .goto _, _, _, _, _, _, hc => hc.elim
  | .refuse _, _, _, _, _, _, hc => hc.elim

/-! ### contracts out of bodies -/
def slotsOf : Nat → List AV → List (Nat × AV)
  | _, [] => []
  | i, v :: vs => (i, v) :: slotsOf (i + 1) vs
theorem lookS_slotsOf : ∀ (l : List AV) (k i : Nat) (v : AV), lookS (slotsOf k l) i = some v → ∃ j, i = k + j ∧ l[j]? = some v
  | [], k, i, v, h => by simp [slotsOf, lookS] at h
  | u :: l, k, i, v, h => by
    simp only [slotsOf, lookS] at h
    split at h
    · rename_i hk
      cases h
      exact ⟨0, by omega, rfl⟩
    · obtain ⟨j, h1, h2⟩ := lookS_slotsOf l (k + 1) i v h
      exact ⟨j + 1, by omega, by simpa using h2⟩
/-- a result -/
def resW (T : Tab) (σ : AState) : ResultVar → Prop × AV
  | .tmp t => ((σ.ev (.tmp t)).need, σ.evs (.tmp t))
  | .cell a t => ((σ.ev (.tmp a)).need ∧ (loadAtV T σ.H t (σ.evs (.tmp a))).1, (loadAtV T σ.H t (σ.evs (.tmp a))).2)
/-- .. frozen -/
def resV (T : Tab) (σ : AState) (x : ResultVar) : Prop × AV := ((resW T σ x).1, (resW T σ x).2.bor σ.H)
def resAV (σ : AState) (t : Tmp) : AV := (σ.evs (.tmp t)).bor σ.H
def retL (f : ResultVar → Prop × AV) (rs : List ResultVar) (r : AV) : Prop :=
  match rs with
  | [] => .tup [] = r
  | [x] => (f x).1 ∧ (f x).2 = r
  | [x, y] => (f x).1 ∧ (f y).1 ∧ .tup [(f x).2, (f y).2] = r
  | [x, y, z] => (f x).1 ∧ (f y).1 ∧ (f z).1 ∧ .tup [(f x).2, (f y).2, (f z).2] = r
  | [x, y, z, u] => (f x).1 ∧ (f y).1 ∧ (f z).1 ∧ (f u).1 ∧ .tup [(f x).2, (f y).2, (f z).2, (f u).2] = r
  | _ => False
def retF (T : Tab) (rs : List ResultVar) (r : AV) : APost := fun e σ =>
  match e with
  | .ret | .normal => retL (resV T σ) rs r
  | _ => False
def resIds : List ResultVar → List Nat
  | [] => []
  | .tmp t :: l => t :: resIds l
  | .cell a _ :: l => a :: resIds l
def AState.withObjs (σ : AState) (H : List AObj) : AState := { n := σ.n, slots := σ.slots, H := H, pin := σ.pin }
/-- the results of a call that turned what it was handed: 'Hout' is what that reads as now -/
def retM (T : Tab) (p : Nat) (rs : List ResultVar) (r : AV) (Hout : List AObj) : APost := fun e σ =>
  match e with
  | .ret | .normal => σ.pin = p ∧ SubA (σ.pare Hout.length (resIds rs)) ((σ.pare Hout.length (resIds rs)).withObjs Hout) ∧ retL (resW T ((σ.pare Hout.length (resIds rs)).withObjs Hout)) rs r
  | _ => False
/-- the result is a slice that the call owns (and, perhaps, a number behind it) -/
def retO (rs : List ResultVar) (r : AV) (o : AObj) : APost := fun e σ =>
  match e with
  | .ret | .normal => match rs with
    | [.tmp t] => match lookS σ.slots t with | some (.one (.own k)) => .one (.own 0) = r ∧ σ.H[k]? = some o ∧ isRow o = true | _ => False
    | [.tmp t, .tmp u] => match lookS σ.slots t with | some (.one (.own k)) => (σ.ev (.tmp u)).need ∧ (resAV σ u).flatOwn = true ∧ (resAV σ u).tagged = false ∧ .tup [.one (.own 0), resAV σ u] = r ∧ σ.H[k]? = some o ∧ isRow o = true | _ => False
    | _ => False
  | _ => False
theorem enter_sim {args : List AV} {vs : List Value} {n : Nat} (hM : MOk w M0 []) (hv : RepVL w M0 [] args vs) (hn : args.length ≤ n) :
    SimS w M0 [] ⟨n, slotsOf 0 args, [], 0⟩ { tmps := (⟨vs⟩ : Array Value) ++ Array.replicate (n - (⟨vs⟩ : Array Value).size) undef, defers := [] } w := by
  have hg := RepVL.get args vs hv
  have hMof : ∀ g, Mof M0 [] g ↔ M0 g := fun g => ⟨fun h => by rcases h with h | ⟨t, x, h, _⟩; exact h; simp at h, fun h => .inl h⟩
  refine ⟨[], BelowX.refl _ _, hM, rfl, fun t o h ho => by simp at ho, fun g ⟨t, x, h, _⟩ => by simp at h, fun t t' h h' g h1 => by simp at h1, fun i v hv' => ?_, ?_, rfl, fun g ⟨t, x, h, _⟩ => by simp at h, Nat.le_refl _, fun t ht => by cases ht⟩
  · obtain ⟨j, rfl, hj⟩ := lookS_slotsOf _ _ _ _ hv'
    rw [Nat.zero_add]
    have hjl : j < vs.length := by rw [← hg.1]; exact (List.getElem?_eq_some_iff.1 hj).1
    refine ⟨vs[j], ?_, RepV.grow (w := w) (M := M0) (β := []) ⟨⟨Nat.le_refl _, fun _ _ _ => rfl, fun g _ hm hm' => hm ((hMof g).1 hm')⟩, fun _ _ x => x⟩ v _ (hg.2 j v _ hj (List.getElem?_eq_getElem hjl))⟩
    show ((⟨vs⟩ : Array Value) ++ Array.replicate (n - vs.length) undef)[j]? = some vs[j]
    rw [Array.getElem?_append_left (by exact hjl)]
    simp [List.getElem?_eq_getElem hjl]
  · have : vs.length = args.length := hg.1.symm
    simp
    omega
theorem enter_simM {F : List Value} {Hin : List AObj} {args : List AV} {vs : List Value} {n p : Nat} (hM : MOk w M0 F) (hpre : MPre w M0 F Hin) (hp : p ≤ Hin.length) (hv : RepVL w (Mof M0 F) F args vs) (hn : args.length ≤ n) :
    SimS w M0 F ⟨n, slotsOf 0 args, Hin, p⟩ { tmps := (⟨vs⟩ : Array Value) ++ Array.replicate (n - (⟨vs⟩ : Array Value).size) undef, defers := [] } w := by
  have hg := RepVL.get args vs hv
  refine ⟨F, BelowX.refl _ _, hM, hpre.len, hpre.objs, fun g hg => ⟨.inl hg, (hpre.out g hg).2⟩, hpre.dist, fun i v hv' => ?_, ?_, rfl, hpre.out, by rw [hpre.len]; exact hp, fun t _ => rfl⟩
  · obtain ⟨j, rfl, hj⟩ := lookS_slotsOf _ _ _ _ hv'
    rw [Nat.zero_add]
    have hjl : j < vs.length := by rw [← hg.1]; exact (List.getElem?_eq_some_iff.1 hj).1
    refine ⟨vs[j], ?_, hg.2 j v _ hj (List.getElem?_eq_getElem hjl)⟩
    show ((⟨vs⟩ : Array Value) ++ Array.replicate (n - vs.length) undef)[j]? = some vs[j]
    rw [Array.getElem?_append_left (by exact hjl)]
    simp [List.getElem?_eq_getElem hjl]
  · have : vs.length = args.length := hg.1.symm
    simp
    omega
def resSem (tmps : Array Value) : ResultVar → Sem Value
  | .tmp t => pure (tmps.getD t undef)
  | .cell a t => do loadVar t (← asAddr (tmps.getD a undef))
theorem resW_run (hT : TabOk P T) {w0 w1 : World} {β : List Value} (h : Sim w0 M0 F σ a w1 β) {x : ResultVar} (hx : (resW T σ x).1) : ∃ u, (resSem a.tmps x).run P w1 = .ok u w1 ∧ RepV w1 (Mof M0 β) β (resW T σ x).2 u := by
  cases x with
  | tmp t => exact ⟨a.eval (.tmp t), by simp [resSem, Act.eval], h.evs hx⟩
  | cell c t =>
    obtain ⟨hn, hl⟩ := hx
    obtain ⟨u, h1, h2⟩ := loadAtV_sound (P := P) hT h.len h.objs t _ _ (h.evs hn) hl
    refine ⟨u, ?_, h2⟩
    have hv : a.eval (.tmp c) = a.tmps.getD c undef := rfl
    rw [hv] at h1
    simp only [resSem]
    cases hu : a.tmps.getD c undef with
    | pointer pp =>
      rw [hu] at h1
      cases pp with
      | none => simp [Instr.loadAt, Instr.sureAddr] at h1
      | some ad => simpa [Instr.loadAt, Instr.sureAddr, asAddr] using h1
    | _ => rw [hu] at h1; simp [Instr.loadAt, Instr.sureAddr] at h1
theorem results_run {fn : Func} {rs : List ResultVar} (hrs : fn.results.toList = rs) {tmps : Array Value} {us : List Value} {w1 : World} (hl : rs.length = us.length) (h : ∀ (i : Nat) (x : ResultVar) (u : Value), rs[i]? = some x → us[i]? = some u → (resSem tmps x).run P w1 = .ok u w1) :
    (results fn tmps).run P w1 = .ok (if h : us.length = 1 then us[0] else .tuple ⟨us⟩) w1 := by
  have key : ∀ (rs : List ResultVar) (us : List Value), rs.length = us.length → (∀ (i : Nat) (x : ResultVar) (u : Value), rs[i]? = some x → us[i]? = some u → (resSem tmps x).run P w1 = .ok u w1) → (rs.mapM (resSem tmps)).run P w1 = .ok us w1 := by
    intro rs
    induction rs with
    | nil => intro us hl _; cases us with | nil => simp | cons u us => simp at hl
    | cons x rs ih =>
      intro us hl h
      cases us with
      | nil => simp at hl
      | cons u us =>
        have h0 := h 0 x u rfl rfl
        have h1 := ih us (by simpa using hl) fun i y v a b => h (i + 1) y v (by simpa using a) (by simpa using b)
        simp [List.mapM_cons, h0, h1]
  have hres : fn.results = ⟨rs⟩ := Array.ext' (by simpa using hrs)
  have hk := key rs us hl h
  have e : (fn.results.mapM (resSem tmps)).run P w1 = .ok ⟨us⟩ w1 := by
    rw [hres, List.mapM_toArray]
    simp [hk]
  have e' : results fn tmps = (do let vs ← fn.results.mapM (resSem tmps); pure (if h : vs.size = 1 then vs[0] else .tuple vs)) := by
    unfold results
    congr 1
  rw [e', Sem.run_bind, e]
  simp only [Result.andThen_ok, Sem.run_pure]
  rfl
theorem retL_run {fn : Func} {rs : List ResultVar} (hrs : fn.results.toList = rs) {g : ResultVar → Prop × AV} {r : AV} {tmps : Array Value} {w1 : World} {M : Nat → Prop} {β : List Value} (hg : ∀ x, (g x).1 → ∃ u, (resSem tmps x).run P w1 = .ok u w1 ∧ RepV w1 M β (g x).2 u) (hq : retL g rs r) :
    ∃ v, (results fn tmps).run P w1 = .ok v w1 ∧ RepV w1 M β r v := by
  unfold retL at hq
  split at hq
  · subst hq
    exact ⟨_, results_run (P := P) hrs (us := []) rfl (fun i x u hx => by simp at hx), [], rfl, rfl⟩
  · rename_i x
    obtain ⟨h1, rfl⟩ := hq
    obtain ⟨u, r1, r2⟩ := hg x h1
    exact ⟨_, results_run (P := P) hrs (us := [u]) rfl (fun i x' u' hx hu => by cases i <;> simp_all), r2⟩
  · rename_i x y
    obtain ⟨h1, h2, rfl⟩ := hq
    obtain ⟨u1, r1, s1⟩ := hg x h1
    obtain ⟨u2, r2, s2⟩ := hg y h2
    exact ⟨_, results_run (P := P) hrs (us := [u1, u2]) rfl (fun i x' u' hx hu => by rcases i with _ | _ | i <;> simp_all), [_, _], rfl, _, _, rfl, s1, _, _, rfl, s2, rfl⟩
  · rename_i x y z
    obtain ⟨h1, h2, h3, rfl⟩ := hq
    obtain ⟨u1, r1, s1⟩ := hg x h1
    obtain ⟨u2, r2, s2⟩ := hg y h2
    obtain ⟨u3, r3, s3⟩ := hg z h3
    exact ⟨_, results_run (P := P) hrs (us := [u1, u2, u3]) rfl (fun i x' u' hx hu => by rcases i with _ | _ | _ | i <;> simp_all), [_, _, _], rfl, _, _, rfl, s1, _, _, rfl, s2, _, _, rfl, s3, rfl⟩
  · rename_i x y z t
    obtain ⟨h1, h2, h3, h4, rfl⟩ := hq
    obtain ⟨u1, r1, s1⟩ := hg x h1
    obtain ⟨u2, r2, s2⟩ := hg y h2
    obtain ⟨u3, r3, s3⟩ := hg z h3
    obtain ⟨u4, r4, s4⟩ := hg t h4
    exact ⟨_, results_run (P := P) hrs (us := [u1, u2, u3, u4]) rfl (fun i x' u' hx hu => by rcases i with _ | _ | _ | _ | i <;> simp_all), [_, _, _, _], rfl, _, _, rfl, s1, _, _, rfl, s2, _, _, rfl, s3, _, _, rfl, s4, rfl⟩
  · exact hq.elim
theorem Sim.bor {w1 : World} {β : List Value} (h : Sim w M0 [] σ a w1 β) {t : Tmp} (hn : (σ.ev (.tmp t)).need) : RepV w1 M0 [] (resAV σ t) (a.tmps.getD t undef) := borV_sound h.lend _ _ (h.evs hn)
theorem owned_nil {g : Nat} : ¬ owned [] g := fun ⟨t, x, h, _⟩ => by simp at h
theorem res_nil {w1 : World} {r : AV} {v : Value} {β : List Value} (h : Sim w M0 [] σ a w1 β) (hr : RepV w1 M0 [] r v) : Res w w1 M0 r [] v [] :=
  ⟨h.below.below fun _ => owned_nil, rfl, fun t o x ho => by simp at ho, fun g ⟨t, x, h, _⟩ => by simp at h, fun t t' x x' g h1 => by simp at h1,
    RepV.grow (w := w1) (M := M0) (β := []) ⟨⟨Nat.le_refl _, fun _ _ _ => rfl, fun g _ hm hm' => hm (by rcases hm' with h | ⟨t, x, h, _⟩; exact h; simp at h)⟩, fun _ _ x => x⟩ r v hr⟩
theorem retF_sound (hT : TabOk P T) {fn : Func} {r : AV} (e : Exit) (σ : AState) (a : Act) (w1 : World) (hs : SimS w M0 [] σ a w1) (hq : retF T fn.results.toList r e σ) : bodyPost P fn (fun e w' => ∃ v β, e = .returned v ∧ Res w w' M0 r [] v β) e a w1 := by
  obtain ⟨β, hs⟩ := hs
  have main : retL (resV T σ) fn.results.toList r → a.defers = [] ∧ ∃ v, (results fn a.tmps).run P w1 = .ok v w1 ∧ ∃ v' β, Ending.returned v = .returned v' ∧ Res w w1 M0 r [] v' β := by
    intro hq
    obtain ⟨v, h1, h2⟩ := retL_run (P := P) rfl (M := M0) (β := []) (fun x hx => by
      obtain ⟨u, k1, k2⟩ := resW_run (P := P) hT hs hx
      exact ⟨u, k1, borV_sound hs.lend _ _ k2⟩) hq
    exact ⟨hs.defers, v, h1, v, [], rfl, res_nil hs h2⟩
  cases e <;> simp only [retF] at hq <;> first | exact hq.elim | exact main hq
/-- A CONTRACT OUT OF THE BODY; the results frozen -/
theorem ACalls.of_body (hT : TabOk P T) (hm : P.follows .mixedOrders = true) {f : FuncId} {fn : Func} {c : Code} {args : List AV} {r : AV} (hf : P.funcs[f]? = some fn) (hb : fn.body = some c) (hok : okFn P f = true) {n : Nat} (hnt : fn.ntmps = n) (hn : args.length ≤ n) {rs : List ResultVar} (hrs : fn.results.toList = rs)
    (h : awp P T c ⟨n, slotsOf 0 args, [], 0⟩ (retF T rs r)) : ACalls P f args r [] := by
  subst hnt; subst hrs
  refine ⟨hok, fun w M vs hM hv => calls_of_wp hf hb ?_⟩
  refine wp_mono (awp_sound hT hm c _ _ _ _ (enter_sim hM hv hn) h) ?_
  rintro e a' w' ⟨σ, hq, hs⟩
  exact retF_sound hT e σ a' w' hs hq
theorem retM_sound (hT : TabOk P T) {F : List Value} {p : Nat} {fn : Func} {r : AV} {Hout : List AObj} (hp : p ≤ Hout.length) (e : Exit) (σ : AState) (a : Act) (w1 : World) (hs : SimS w M0 F σ a w1) (hq : retM T p fn.results.toList r Hout e σ) : bodyPost P fn (fun e w' => ∃ v β, e = .returned v ∧ ResM w w' M0 F p r Hout v β) e a w1 := by
  obtain ⟨β, hs⟩ := hs
  have main : σ.pin = p ∧ SubA (σ.pare Hout.length (resIds fn.results.toList)) ((σ.pare Hout.length (resIds fn.results.toList)).withObjs Hout) ∧ retL (resW T ((σ.pare Hout.length (resIds fn.results.toList)).withObjs Hout)) fn.results.toList r → a.defers = [] ∧ ∃ v, (results fn a.tmps).run P w1 = .ok v w1 ∧ ∃ v' β, Ending.returned v = .returned v' ∧ ResM w w1 M0 F p r Hout v' β := by
    rintro ⟨hpin, hsub, hq⟩
    obtain ⟨β1, h1⟩ := hs.pare Hout.length (resIds fn.results.toList)
    have hpp : (σ.pare Hout.length (resIds fn.results.toList)).pin = p := by
      rw [← hpin]
      unfold AState.pare
      generalize newTags Hout.length (slotTags (pickS σ (resIds fn.results.toList)) ++ objTags σ.H) σ.H = l
      have : ∀ (l : List Nat) (σ : AState), (AState.freezeAll l σ).pin = σ.pin := by
        intro l
        induction l with
        | nil => intro σ; rfl
        | cons t l ih =>
          intro σ
          simp only [AState.freezeAll]
          rw [ih]
          split <;> rfl
      rw [this]
    obtain ⟨β2, h2⟩ := h1.sub hsub
    obtain ⟨v, k1, k2⟩ := retL_run (P := P) rfl (fun x hx => resW_run (P := P) hT h2 hx) hq
    exact ⟨h2.defers, v, k1, v, β2, rfl, h2.below, h2.len, fun t ht => h2.pins.2 t (by show t < (σ.pare Hout.length (resIds fn.results.toList)).pin; rw [hpp]; exact ht), h2.objs, h2.fresh, h2.dist, k2⟩
  cases e <;> simp only [retM] at hq <;> first | exact hq.elim | exact main hq
theorem retO_sound {fn : Func} {r : AV} {o : AObj} (e : Exit) (σ : AState) (a : Act) (w1 : World) (hs : SimS w M0 [] σ a w1) (hq : retO fn.results.toList r o e σ) : bodyPost P fn (fun e w' => ∃ v β, e = .returned v ∧ Res w w' M0 r [o] v β) e a w1 := by
  obtain ⟨β, hs⟩ := hs
  have mk : ∀ (k : Nat) (t : Tmp) (r : AV) (v : Value), lookS σ.slots t = some (.one (.own k)) → σ.H[k]? = some o → isRow o = true → (∀ hd, a.tmps.getD t undef = hd → RepV w1 (Mof M0 [hd]) [hd] r v) → Res w w1 M0 r [o] v [a.tmps.getD t undef] := by
    intro k t r v hl hH hp hr
    obtain ⟨x, hx, hv⟩ := hs.slots t _ hl
    have hone := hv.2
    have hpl : o.plain = true := by cases o <;> first | rfl | cases hp
    have hβ : β[k]? = some x := by
      cases o with
      | row e sz rows => exact own_live hv fun y hy => hs.objs k _ y hH hy
      | _ => cases hp
    have hxd : a.tmps.getD t undef = x := by simp [Array.getD_eq_getD_getElem?, hx]
    rw [hxd]
    have hown : ∀ g, owned [x] g → owned β g := by
      rintro g ⟨t', y, h1, h2⟩
      cases t' with
      | zero => simp at h1; subst h1; exact ⟨k, _, hβ, h2⟩
      | succ t' => simp at h1
    have hkeep : Keeps w1 (Mof M0 β) w1 (Mof M0 [x]) := ⟨Nat.le_refl _, fun _ _ _ => rfl, fun g _ hm hm' => hm (by rcases hm' with hm' | hm'; exact .inl hm'; exact .inr (hown g hm'))⟩
    refine ⟨hs.below.below fun _ => owned_nil, rfl, fun t' p y hp' hy => ?_, fun g hg => ⟨(hs.fresh g (hown g hg)).1.resolve_left owned_nil, (hs.fresh g (hown g hg)).2⟩, fun t1 t2 y1 y2 g h1 h2 _ _ => ?_, hr x hxd⟩
    · cases t' with
      | zero =>
        simp at hp' hy
        subst hp'; subst hy
        exact (hs.objs k _ _ hH hβ).plainMove hkeep hpl
      | succ t' => simp at hy
    · have z1 : t1 = 0 := by cases t1 with | zero => rfl | succ n => simp at h1
      have z2 : t2 = 0 := by cases t2 with | zero => rfl | succ n => simp at h2
      rw [z1, z2]
  have ownRep : ∀ (k : Nat) (t : Tmp) (hd : Value), lookS σ.slots t = some (.one (.own k)) → a.tmps.getD t undef = hd → RepV w1 (Mof M0 [hd]) [hd] (.one (.own 0)) hd := by
    intro k t hd hl hh
    obtain ⟨x, hx, _, hone⟩ := hs.slots t _ hl
    have hxd : a.tmps.getD t undef = x := by simp [Array.getD_eq_getD_getElem?, hx]
    rw [hxd] at hh
    subst hh
    exact ⟨.inl rfl, hone⟩
  have main : (match fn.results.toList with
    | [.tmp t] => match lookS σ.slots t with | some (.one (.own k)) => .one (.own 0) = r ∧ σ.H[k]? = some o ∧ isRow o = true | _ => False
    | [.tmp t, .tmp u] => match lookS σ.slots t with | some (.one (.own k)) => (σ.ev (.tmp u)).need ∧ (resAV σ u).flatOwn = true ∧ (resAV σ u).tagged = false ∧ .tup [.one (.own 0), resAV σ u] = r ∧ σ.H[k]? = some o ∧ isRow o = true | _ => False
    | _ => False) → a.defers = [] ∧ ∃ v, (results fn a.tmps).run P w1 = .ok v w1 ∧ ∃ v' β, Ending.returned v = .returned v' ∧ Res w w1 M0 r [o] v' β := by
    intro hq
    refine ⟨hs.defers, ?_⟩
    split at hq
    · rename_i t ht
      split at hq
      · rename_i k hl
        obtain ⟨rfl, hH, hp⟩ := hq
        have hres : fn.results = #[.tmp t] := Array.ext' ht
        exact ⟨_, results_tmp hres _ _ _, _, _, rfl, mk k t _ _ hl hH hp fun hd hh => by rw [hh]; exact ownRep k t hd hl hh⟩
      · exact hq.elim
    · rename_i t u ht
      split at hq
      · rename_i k hl
        obtain ⟨hn, hfl, htg, rfl, hH, hp⟩ := hq
        have hres : fn.results = #[.tmp t, .tmp u] := Array.ext' ht
        refine ⟨_, results_tmp2 hres _ _ _, _, _, rfl, mk k t _ _ hl hH hp fun hd hh => ?_⟩
        rw [hh]
        refine ⟨[_, _], rfl, _, _, rfl, ownRep k t hd hl hh, _, _, rfl, ?_, rfl⟩
        have hb := hs.bor hn
        generalize resAV σ u = ru at *
        generalize a.tmps.getD u undef = uv at *
        have hflat : ∀ (d : D) (v : Value), RepC w1 M0 [] d v → d.flatOwn = true → d.tagged = false → RepC w1 (Mof M0 [hd]) [hd] d v := by
          intro d v h1 h2 h3
          cases d <;> first | (cases h2; done) | (cases h3; done) | skip
          all_goals (simp only [RepC, RepC0] at h1 ⊢; exact RepD.flat h1 rfl)
        cases ru with
        | one d => exact hflat d _ hb hfl htg
        | agg ds =>
          obtain ⟨vs, e1, e2⟩ := hb
          simp only [AV.flatOwn, List.all_eq_true] at hfl
          simp only [AV.tagged, List.any_eq_false] at htg
          exact ⟨vs, e1, e2.1, fun i d x hd' hx => hflat d x (e2.2 i d x hd' hx) (hfl d (List.mem_of_getElem? hd')) (by simpa using htg d (List.mem_of_getElem? hd'))⟩
        | _ => cases htg
      · exact hq.elim
    · exact hq.elim
  cases e <;> simp only [retO] at hq <;> first | exact hq.elim | exact main hq
/-- A CONTRACT OUT OF THE BODY; the (first) result is a slice of the call's own -/
theorem ACalls.of_body_own (hT : TabOk P T) (hm : P.follows .mixedOrders = true) {f : FuncId} {fn : Func} {c : Code} {args : List AV} {r : AV} {o : AObj} (hf : P.funcs[f]? = some fn) (hb : fn.body = some c) (hok : okFn P f = true) {n : Nat} (hnt : fn.ntmps = n) (hn : args.length ≤ n) {rs : List ResultVar} (hrs : fn.results.toList = rs)
    (h : awp P T c ⟨n, slotsOf 0 args, [], 0⟩ (retO rs r o)) : ACalls P f args r [o] := by
  subst hnt; subst hrs
  refine ⟨hok, fun w M vs hM hv => calls_of_wp hf hb ?_⟩
  refine wp_mono (awp_sound hT hm c _ _ _ _ (enter_sim hM hv hn) h) ?_
  rintro e a' w' ⟨σ, hq, hs⟩
  exact retO_sound e σ a' w' hs hq
/-- A CONTRACT OUT OF THE BODY; it turns what it is handed -/
theorem MCalls.of_body (hT : TabOk P T) (hm : P.follows .mixedOrders = true) {f : FuncId} {fn : Func} {c : Code} {args : List AV} {r : AV} {p : Nat} {Hin Hout : List AObj} (hf : P.funcs[f]? = some fn) (hb : fn.body = some c) (hok : okFn P f = true) {n : Nat} (hnt : fn.ntmps = n) (hn : args.length ≤ n) {rs : List ResultVar} (hrs : fn.results.toList = rs)
    (hp : p ≤ Hin.length) (hl : Hout.length = Hin.length) (h : awp P T c ⟨n, slotsOf 0 args, Hin, p⟩ (retM T p rs r Hout)) : MCalls P f p Hin args r Hout := by
  subst hnt; subst hrs
  refine ⟨hok, hl, fun w M0 F vs hM hpre hv => calls_of_wp hf hb ?_⟩
  refine wp_mono (awp_sound hT hm c _ _ _ _ (enter_simM hM hpre hp hv hn) h) ?_
  rintro e a' w' ⟨σ, hq, hs⟩
  exact retM_sound hT (by rw [hl]; exact hp) e σ a' w' hs hq
/-- a slice of the call's own, taken as one that nobody writes -/
theorem ACalls.frozen {f : FuncId} {args : List AV} {e : TypeId} {sz : Nat} {rows : List (List D)} (h : ACalls P f args (.one (.own 0)) [.row e sz rows]) : ACalls P f args (.one (.list rows)) [] := by
  refine ⟨h.1, fun w M vs hM hv => (h.2 w M vs hM hv).mono ?_⟩
  rintro en w' ⟨v, β, rfl, hR⟩
  refine ⟨v, [], rfl, hR.below, rfl, fun t o x ho => by simp at ho, fun g hg => (owned_nil hg).elim, fun t t' x x' g h1 => by simp at h1, ?_⟩
  have hβ := own_live (e := e) (sz := sz) (rows := rows) hR.val fun y hy => hR.objs 0 _ y rfl hy
  obtain ⟨A, c, h1, h2, h3, h4⟩ := hR.objs 0 _ v rfl hβ
  refine ⟨A, c, h1, h2, h3, ?_⟩
  rcases h4 with rfl | ⟨hc0, g, cur, rfl, h5, h6, h7⟩
  · left; exact List.eq_nil_of_length_eq_zero (by omega)
  · have hf := hR.fresh g ⟨0, v, hβ, by rw [h1]; exact hblk_row hc0⟩
    have hMof : ∀ g, Mof M [] g → M g := fun g hm => by rcases hm with hm | hm; exact hm; exact (owned_nil hm).elim
    refine .inr ⟨⟨g, 0, none⟩, sz, rfl, hf.2, fun hm => ?_, h7.keeps ⟨Nat.le_refl _, fun _ _ _ => rfl, fun g _ hm hm' => hm (.inl (hMof g hm'))⟩ fun _ _ x => x⟩
    have := hM.1 g (hMof g hm)
    have := hf.1
    omega
end
end Go.Eng
