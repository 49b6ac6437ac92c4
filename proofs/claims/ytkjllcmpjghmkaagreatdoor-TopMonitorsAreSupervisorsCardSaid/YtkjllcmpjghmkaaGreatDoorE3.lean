/-
 The abstract machine over data, part 3: see the headings.
-/
import Derived.Test.YtkjllcmpjghmkaaGreatDoorE2
set_option linter.unusedSimpArgs false
set_option linter.unusedVariables false
namespace Go.Eng
open Go.RowKit
def Ext (H H' : List AObj) : Prop := ∀ (t : Nat) (o : AObj), H[t]? = some o → o ≠ .gone → H'[t]? = some o
theorem Ext.refl (H : List AObj) : Ext H H := fun _ _ h _ => h
theorem Ext.trans {H H' H'' : List AObj} (h : Ext H H') (k : Ext H' H'') : Ext H H'' := fun t o a b => k t o (h t o a b) b
section
variable {T : Tab} {H H' : List AObj}
theorem Ext.look (h : Ext H H') {α : Type} {t : Nat} (f : AObj → Option α) (hf : f .gone = none) {r : α} (hr : (H[t]?).bind f = some r) : (H'[t]?).bind f = some r := by
 cases ho : H[t]? with
 | none => rw [ho] at hr; cases hr
 | some o =>
  rw [ho] at hr
  rw [h t o ho (fun e => by subst e; rw [Option.bind_some, hf] at hr; cases hr)]
  exact hr
theorem z5u (h : Ext H H') {t : Nat} (hv : z38 H t) : z38 H' t := by
 obtain ⟨e, cs, ho⟩ := z3V hv
 unfold z38
 rw [h t _ ho (by simp)]
 trivial
theorem z5v (h : Ext H H') {t : Nat} (hv : z3a H t) : z3a H' t := by
 obtain ⟨e, sz, rows, ho⟩ := z3W hv
 unfold z3a
 rw [h t _ ho (by simp)]
 trivial
theorem z6V (h : Ext H H') (r : TyRow) (f : Nat) (x : AV) (hv : (z0h r H f x).1) : (z0h r H' f x).1 ∧ (z0h r H' f x).2 = (z0h r H f x).2 := by
 unfold z0h at hv ⊢
 split
 ·exact ⟨trivial, rfl⟩
 ·rename_i o t off ho
  rw [ho] at hv
  exact ⟨z5u h hv, rfl⟩
 ·rename_i o t i sz sub ho
  rw [ho] at hv
  exact ⟨z5v h hv, rfl⟩
 ·exact (by simp_all : False).elim
theorem z6L (h : Ext H H') (t : TypeId) (x i : AV) (hv : (z0M T H t x i).1) : (z0M T H' t x i).1 ∧ (z0M T H' t x i).2 = (z0M T H t x i).2 := by
 unfold z0M at hv ⊢
 split
 ·rename_i hd
  simp only [hd] at hv
  exact ⟨hv, rfl⟩
 ·rename_i e o k z hd
  rw [hd] at hv
  simp only at hv
  split at hv
  ·rename_i e' sz rows ho
   rw [h o _ ho (by simp)]
   exact ⟨hv, rfl⟩
  ·exact hv.elim
 ·rename_i hd
  simp only [hd] at hv
  exact ⟨hv, rfl⟩
 ·rename_i n e o off k z hd
  simp only [hd] at hv
  exact ⟨⟨hv.1, hv.2.1, z5u h hv.2.2⟩, rfl⟩
 ·rename_i n e o r sz sub k z hd
  simp only [hd] at hv
  exact ⟨⟨hv.1, hv.2.1, z5v h hv.2.2⟩, rfl⟩
 ·exact (by simp_all : False).elim
theorem za0 (h : Ext H H') (t : TypeId) (x : AV) (hv : (z29 T H t x).1) : z29 T H' t x = z29 T H t x := by
 unfold z29 at hv ⊢
 split
 ·rfl
 ·rename_i o off
  simp only at hv
  split at hv
  ·rename_i e cs ho
   rw [h o _ ho (by simp)]
  ·exact hv.elim
 ·rename_i o i sz sub
  simp only at hv
  split at hv
  ·rename_i e sz' rows ho
   rw [h o _ ho (by simp)]
  ·exact hv.elim
 ·rfl
theorem zfc (h : Ext H H') (t : TypeId) (x : AV) (hv : (lenV T H t x).1) : lenV T H' t x = lenV T H t x := by
 unfold lenV at hv ⊢
 split
 ·rfl
 ·rename_i e o hd
  rw [hd] at hv
  simp only at hv
  split at hv
  ·rename_i e' sz rows ho
   rw [h o _ ho (by simp)]
  ·exact hv.elim
 ·rfl
 ·rfl
 ·rename_i kt et o hd
  rw [hd] at hv
  simp only at hv
  split at hv
  ·rename_i kd kvs ho
   rw [h o _ ho (by simp)]
  ·exact hv.elim
 ·rfl
theorem z9Y (h : Ext H H') (t : TypeId) (x k : AV) (ok : Bool) (hv : (z2G T H t x k ok).1) : z2G T H' t x k ok = z2G T H t x k ok := by
 unfold z2G at hv ⊢
 split
 ·rename_i kt et o hd
  rw [hd] at hv
  simp only at hv
  split at hv
  ·rename_i kd kvs ho
   rw [h o _ ho (by simp)]
  ·exact hv.elim
 ·rfl
 ·rfl
theorem z5j (h : Ext H H') (x : AV) {rows : List (List D)} (hv : z0J H x = some rows) : z0J H' x = some rows := by
 unfold z0J at hv ⊢
 split at hv
 ·exact hv
 ·exact hv
 ·rename_i o
  split at hv
  ·rename_i e sz rs ho
   rw [h o _ ho (by simp)]
   exact hv
  ·cases hv
 ·cases hv
theorem zdU (h : Ext H H') (s d : TypeId) (x : AV) (hv : (convV T H s d x).1) : convV T H' s d x = convV T H s d x := by
 unfold convV at hv ⊢
 split
 ·rfl
 ·rename_i x _ _ hd
  simp only [hd] at hv
  cases hx : AV.str? x with
  | some z => rfl
  | none =>
   simp only [hx] at hv ⊢
   cases hs : z0J H x with
   | none =>
    rw [hs] at hv
    unfold z4v at hv
    split at hv
    ·rename_i h1; cases h1
    ·exact hv.elim
   | some r => rw [z5j h x hs]
 ·rfl
theorem zeW (h : Ext H H') (x : AV) (hv : (nilV H x).1) : nilV H' x = nilV H x := by
 unfold nilV at hv ⊢
 split
 ·rename_i t off
  simp only at hv
  split at hv
  ·rename_i e cs ho
   rw [h t _ ho (by simp)]
  ·exact hv.elim
 ·rename_i t i sz sub
  simp only at hv
  split at hv
  ·rename_i e sz' rows ho
   rw [h t _ ho (by simp)]
  ·exact hv.elim
 ·rfl
 ·rfl
theorem of_eq {p q : Prop × AV} (h : p = q) (hq : q.1) : p.1 ∧ p.2 = q.2 := by subst h; exact ⟨hq, rfl⟩
theorem zg4 (h : Ext H H') (op : Op) (ev : Operand → AV) (hv : (aval T H op ev).1) : (aval T H' op ev).1 ∧ (aval T H' op ev).2 = (aval T H op ev).2 := by
 cases op
 case fieldAddr => exact z6V h _ _ _ hv
 case indexAddr => exact z6L h _ _ _ hv
 case load => exact of_eq (za0 h _ _ hv) hv
 case lookup => exact of_eq (z9Y h _ _ _ _ hv) hv
 case convert => exact of_eq (zdU h _ _ _ hv) hv
 case nilCheck => exact of_eq (zeW h _ hv) hv
 case call c =>
  simp only [aval] at hv ⊢
  split
  ·rename_i hc ha ht
   simp only [hc, ha, ht] at hv
   exact of_eq (zfc h _ _ hv) hv
  ·rename_i hc ha
   simp only [hc, ha] at hv
   exact ⟨hv, rfl⟩
  ·rename_i hc ha
   simp only [hc, ha] at hv
   exact ⟨hv, rfl⟩
  ·exact (by simp_all : False).elim
 all_goals exact ⟨hv, rfl⟩
end
def AState.pinned (σ : AState) : AState := { σ with pin := σ.H.length }
section
variable {P : Program} {T : Tab} {W0 w w' : World} {M0 : Nat → Prop} {F β : List Value} {σ σ' : AState} {a a' : Act}
theorem Sim.rebase (h : Sim W0 M0 F σ a w β) : Sim w M0 β σ.pinned a w β := by
 refine ⟨BelowX.refl _ _, h.mok, h.len, h.objs, fun g hg => ⟨.inl hg, (h.fresh g hg).2⟩, h.dist, h.slots, h.size, h.defers, fun g hg => ⟨fun hm => ?_, (h.fresh g hg).2⟩, ⟨Nat.le_of_eq h.len.symm, fun t _ => rfl⟩⟩
 rcases (h.fresh g hg).1 with h1 | h1
 ·exact (h.out g h1).1 hm
 ·exact absurd (h.m0.1 g hm) (by omega)
theorem z3C {α : Type} : ∀ (l m : List α), (∀ t, t < m.length → l[t]? = m[t]?) → ∃ r, l = m ++ r
 | l, [], _ => ⟨l, rfl⟩
 | [], y :: m, h => by have := h 0 (by simp); simp at this
 | x :: l, y :: m, h => by
  have h0 := h 0 (by simp)
  simp at h0
  subst h0
  obtain ⟨r, hr⟩ := z3C l m fun t ht => by simpa using h (t + 1) (by simp; omega)
  exact ⟨r, by rw [hr]; rfl⟩
theorem Sim.unbase {β' : List Value} (h : Sim W0 M0 F σ a w β) (hp : σ'.pin = σ.H.length) (k : Sim w M0 β σ' a' w' β') : ∃ r, β' = β ++ r ∧ Sim W0 M0 F { σ' with pin := σ.pin } a' w' β' := by
 have hk := k.pins
 rw [hp, ← h.len] at hk
 obtain ⟨r, rfl⟩ := z3C β' β hk.2
 refine ⟨r, rfl, h.below.trans k.below fun i hi ho => ?_, h.m0, k.len, k.objs, fun g hg => ⟨?_, (k.fresh g hg).2⟩, k.dist, k.slots, k.size, k.defers, h.out, ⟨h.pins.1, fun t ht0 => ?_⟩⟩
 ·rcases (h.fresh i ho).1 with h1 | h1
  ·exact h1
  ·omega
 ·rcases (k.fresh g hg).1 with h1 | h1
  ·exact (h.fresh g h1).1
  ·exact .inr (Nat.le_trans h.below.size h1)
 ·have ht : t < σ.pin := ht0
  have hl : t < β.length := by
   rw [h.len]
   have h2 := h.pins.2 t ht
   have h3 : t < F.length := by have := h.pins.1; omega
   rw [List.getElem?_eq_getElem h3] at h2
   obtain ⟨h4, _⟩ := List.getElem?_eq_some_iff.1 h2
   rw [← h.len]; exact h4
  rw [List.getElem?_append_left hl]
  exact h.pins.2 t ht
end
def dummy : Value := .tuple ⟨[]⟩
theorem z9S {v : Value} (h : v.oneCell' = true) : v ≠ dummy := by rintro rfl; cases h
theorem z1P : dead ≠ dummy := by intro h; cases h
structure Mv (w : World) (M : Nat → Prop) (β γ : List Value) (N : Nat → Prop) (δ : List Value) : Prop where
 keeps : Keeps w M w N
 tags : ∀ (s : Nat) (h0 h : Value), β[s]? = some h0 → h0 ≠ dummy → γ[s]? = some h → δ[s]? = some h
section
variable {P : Program} {T : Tab} {W0 w w' : World} {M0 M M' N : Nat → Prop} {F β γ δ : List Value} {σ σ' : AState} {a a' : Act}
theorem Mv.spoken (hm : Mv w' M' β γ N δ) {t : Nat} {v0 : Value} (h0 : RepC0 w M β (.own t) v0) {h : Value} (h1 : γ[t]? = some h) : δ[t]? = some h := by
 rcases h0.1 with k | k
 ·exact hm.tags _ _ _ k (z9S h0.2) h1
 ·exact hm.tags _ _ _ k z1P h1
theorem RepC0.mv (hm : Mv w' M' β γ N δ) {d : D} {v0 v : Value} (h0 : RepC0 w M β d v0) (h : RepC0 w' M' γ d v) : RepC0 w' N δ d v := by
 cases d
 case unk => exact h
 case own t => exact ⟨h.1.imp (hm.spoken h0) (hm.spoken h0), h.2⟩
 case vp t off =>
  have sp : ∀ x, γ[t]? = some x → δ[t]? = some x := fun x hx => by
   rcases h0 with ⟨g0, k, _⟩ | ⟨k, _⟩
   ·exact hm.tags _ _ _ k (by intro e; cases e) hx
   ·exact hm.tags _ _ _ k z1P hx
  rcases h with ⟨g, h1, h2⟩ | ⟨h1, h2⟩
  ·exact .inl ⟨g, sp _ h1, h2⟩
  ·exact .inr ⟨sp _ h1, h2⟩
 case rp t i sz sub =>
  have sp : ∀ x, γ[t]? = some x → δ[t]? = some x := fun x hx => by
   rcases h0 with ⟨g0, n0, c0, k, _⟩ | ⟨k, _⟩
   ·exact hm.tags _ _ _ k (by intro e; cases e) hx
   ·exact hm.tags _ _ _ k z1P hx
  rcases h with ⟨g, n, c, h1, h2⟩ | ⟨h1, h2⟩
  ·exact .inl ⟨g, n, c, sp _ h1, h2⟩
  ·exact .inr ⟨sp _ h1, h2⟩
 case mp t =>
  have sp : ∀ x, γ[t]? = some x → δ[t]? = some x := fun x hx => by
   rcases h0 with ⟨g0, k, _⟩ | ⟨k, _⟩
   ·exact hm.tags _ _ _ k (by intro e; cases e) hx
   ·exact hm.tags _ _ _ k z1P hx
  rcases h with ⟨g, h1, h2⟩ | ⟨h1, h2⟩
  ·exact .inl ⟨g, sp _ h1, h2⟩
  ·exact .inr ⟨sp _ h1, h2⟩
 all_goals (simp only [RepC0] at h ⊢; exact RepD.keep hm.keeps _ _ h)
theorem RepC.mv (hm : Mv w' M' β γ N δ) {d : D} {v0 v : Value} (h0 : RepC w M β d v0) (h : RepC w' M' γ d v) : RepC w' N δ d v := by
 cases d
 case clo f caps =>
  obtain ⟨us, _, k2, k3⟩ := h0
  obtain ⟨vs, h1, h2, h3⟩ := h
  refine ⟨vs, h1, h2, fun i d u a b => ?_⟩
  have hi : i < us.length := by rw [← k2]; exact (List.getElem?_eq_some_iff.1 a).1
  exact (k3 i d _ a (List.getElem?_eq_getElem hi)).mv hm (h3 i d u a b)
 all_goals (simp only [RepC] at h h0 ⊢; exact RepC0.mv hm h0 h)
theorem RepCL.mv (hm : Mv w' M' β γ N δ) {ds : List D} {us vs : List Value} (h0 : RepCL w M β ds us) (h : RepCL w' M' γ ds vs) : RepCL w' N δ ds vs :=
 ⟨h.1, fun i d u a b => by
  have hi : i < us.length := by rw [← h0.1]; exact (List.getElem?_eq_some_iff.1 a).1
  exact (h0.2 i d _ a (List.getElem?_eq_getElem hi)).mv hm (h.2 i d u a b)⟩
mutual
theorem RepV.mv (hm : Mv w' M' β γ N δ) : ∀ (x : AV) (v0 v : Value), RepV w M β x v0 → RepV w' M' γ x v → RepV w' N δ x v
 | .one d, v0, v, h0, h => by simp only [RepV] at h0 h ⊢; exact h0.mv hm h
 | .agg ds, v0, v, h0, h => by simp only [RepV] at h0 h ⊢; obtain ⟨us, _, k⟩ := h0; obtain ⟨vs, h1, h2⟩ := h; exact ⟨vs, h1, k.mv hm h2⟩
 | .tup avs, v0, v, h0, h => by simp only [RepV] at h0 h ⊢; obtain ⟨us, _, k⟩ := h0; obtain ⟨vs, h1, h2⟩ := h; exact ⟨vs, h1, RepVL.mv hm avs us vs k h2⟩
 | .cond g av, v0, v, h0, h => by simp only [RepV] at h0 h ⊢; exact ⟨fun hg => RepV.mv hm av v0 v (h0.1 hg) (h.1 hg), h.2⟩
 | .any, _, _, _, _ => by simp only [RepV]
theorem RepVL.mv (hm : Mv w' M' β γ N δ) : ∀ (xs : List AV) (us vs : List Value), RepVL w M β xs us → RepVL w' M' γ xs vs → RepVL w' N δ xs vs
 | [], us, vs, _, h => by simpa only [RepVL] using h
 | x :: xs, us, vs, h0, h => by
  simp only [RepVL] at h0 h ⊢
  obtain ⟨u, r0, _, k1, k2⟩ := h0
  obtain ⟨v, r, h1, h2, h3⟩ := h
  exact ⟨v, r, h1, RepV.mv hm x u v k1 h2, RepVL.mv hm xs r0 r k2 h3⟩
end
theorem ObjRep.mv (hm : Mv w' M' β γ N δ) {o : AObj} {h0 h : Value} (hr0 : ObjRep w M β o h0) (hr : ObjRep w' M' γ o h) : ObjRep w' N δ o h := by
 cases o with
 | gone => exact trivial
 | row e sz rows =>
  obtain ⟨A, c, h1, h2, h3, h4⟩ := hr
  refine ⟨A, c, h1, h2, h3, ?_⟩
  rcases h4 with h4 | ⟨hc0, g, cur, rfl, h5, h6, h7⟩
  ·exact .inl h4
  ·exact .inr ⟨hc0, g, cur, rfl, h5, h6, h7.keeps hm.keeps fun vs o x => x⟩
 | var e cs =>
  obtain ⟨g0, cur0, _, _, k⟩ := hr0
  obtain ⟨g, cur, h1, h2, h3⟩ := hr
  exact ⟨g, cur, h1, h2, k.mv hm h3⟩
 | map kd kvs =>
  obtain ⟨_, g0, es0, clk0, _, _, k3, k4⟩ := hr0
  obtain ⟨hp, g, es, clk, h1, h2, h3, h4⟩ := hr
  refine ⟨hp, g, es, clk, h1, h2, h3, fun i kv e a b => ?_⟩
  have hi : i < es0.size := by rw [← k3]; exact (List.getElem?_eq_some_iff.1 a).1
  have q := k4 i kv es0[i] a (by simp [hi])
  exact ⟨RepV.mv hm _ _ _ q.1 (h4 i kv e a b).1, RepV.mv hm _ _ _ q.2 (h4 i kv e a b).2⟩
end
inductive HdK where | own | vp | mp
def hdl : HdK → Nat → AV
 | .own, t => .one (.own t)
 | .vp, t => .one (.vp t 0)
 | .mp, t => .one (.mp t)
section
variable {P : Program} {T : Tab} {W0 w w' : World} {M0 : Nat → Prop} {F β : List Value} {σ σ' : AState} {a a' : Act}
theorem owned_dummies {k g : Nat} : owned (β ++ List.replicate k dummy) g ↔ owned β g := by
 constructor
 ·rintro ⟨t, h, h1, h2⟩
  rw [List.getElem?_append] at h1
  split at h1
  ·exact ⟨t, h, h1, h2⟩
  ·rw [List.getElem?_replicate] at h1
   split at h1
   ·cases h1; cases h2
   ·cases h1
 ·rintro ⟨t, h, h1, h2⟩
  exact ⟨t, h, by rw [List.getElem?_append_left (List.getElem?_eq_some_iff.1 h1).1]; exact h1, h2⟩
theorem Sim.reserve (h : Sim W0 M0 F σ a w β) (k : Nat) : Sim W0 M0 F { σ with H := σ.H ++ List.replicate k .gone } a w (β ++ List.replicate k dummy) := by
 have hM : Mof M0 (β ++ List.replicate k dummy) = Mof M0 β := by
  funext g; simp only [Mof, owned_dummies]
 have hm : Mv w (Mof M0 β) β β (Mof M0 β) (β ++ List.replicate k dummy) := ⟨Keeps.refl _ _, fun s h0 h1 _ _ e => by rw [List.getElem?_append_left (List.getElem?_eq_some_iff.1 e).1]; exact e⟩
 have back : ∀ t x, (β ++ List.replicate k dummy)[t]? = some x → (t < β.length ∧ β[t]? = some x) ∨ (β.length ≤ t ∧ x = dummy) := by
  intro t x hx
  rw [List.getElem?_append] at hx
  split at hx
  ·rename_i hl; exact .inl ⟨hl, hx⟩
  ·rename_i hl
   rw [List.getElem?_replicate] at hx
   split at hx
   ·cases hx; exact .inr ⟨by omega, rfl⟩
   ·cases hx
 refine ⟨h.below, h.m0, by simp [h.len], fun t o x ho hx => ?_, fun g hg => h.fresh g (owned_dummies.1 hg), fun t t' x x' g hx hx' e e' => ?_, fun i v hv => ?_, h.size, h.defers, h.out, ⟨h.pins.1, fun t ht0 => ?_⟩⟩
 ·rw [hM]
  rcases back t x hx with ⟨hl, hx⟩ | ⟨hl, rfl⟩
  ·have ho' : σ.H[t]? = some o := by
    have : (σ.H ++ List.replicate k .gone)[t]? = some o := ho
    rwa [List.getElem?_append_left (by rw [← h.len]; exact hl)] at this
   exact (h.objs t o x ho' hx).mv hm (h.objs t o x ho' hx)
  ·have : (σ.H ++ List.replicate k .gone)[t]? = some o := ho
   rw [List.getElem?_append_right (by rw [← h.len]; exact hl), List.getElem?_replicate] at this
   split at this
   ·cases this; exact trivial
   ·cases this
 ·rcases back t x hx with ⟨hl, hx⟩ | ⟨hl, rfl⟩
  ·rcases back t' x' hx' with ⟨hl', hx'⟩ | ⟨hl', rfl⟩
   ·exact h.dist t t' x x' g hx hx' e e'
   ·cases e'
  ·cases e
 ·rw [hM]
  obtain ⟨x, h1, h2⟩ := h.slots i v hv
  exact ⟨x, h1, RepV.mv hm v x x h2 h2⟩
 ·have ht : t < σ.pin := ht0
  have h2 := h.pins.2 t ht
  have h3 : t < F.length := by have := h.pins.1; omega
  rw [List.getElem?_eq_getElem h3] at h2
  rw [List.getElem?_append_left (List.getElem?_eq_some_iff.1 h2).1, h2, List.getElem?_eq_getElem h3]
theorem z7W {t g : Nat} {hd : Value} (ht : β[t]? = some dummy) : owned (β.set t hd) g ↔ owned (β ++ [hd]) g := by
 have hl : t < β.length := (List.getElem?_eq_some_iff.1 ht).1
 constructor
 ·rintro ⟨s, h, h1, h2⟩
  by_cases hs : s = t
  ·subst hs
   rw [List.getElem?_set_self hl] at h1
   cases h1
   exact ⟨β.length, _, by simp, h2⟩
  ·rw [List.getElem?_set_ne (Ne.symm hs)] at h1
   exact ⟨s, h, by rw [List.getElem?_append_left (List.getElem?_eq_some_iff.1 h1).1]; exact h1, h2⟩
 ·rintro ⟨s, h, h1, h2⟩
  rw [List.getElem?_append] at h1
  split at h1
  ·rename_i hsl
   refine ⟨s, h, ?_, h2⟩
   rw [List.getElem?_set_ne]
   ·exact h1
   ·rintro rfl
    rw [ht] at h1; cases h1; cases h2
  ·rename_i hsl
   have : s - β.length = 0 := by
    have := (List.getElem?_eq_some_iff.1 h1).1
    simp at this; omega
   rw [this] at h1
   simp at h1
   subst h1
   exact ⟨t, hd, List.getElem?_set_self hl, h2⟩
theorem zex {t s : Nat} {hd x : Value} (hl : t < β.length) (h : (β.set t hd)[s]? = some x) : (β ++ [hd])[if s = t then β.length else s]? = some x := by
 split
 ·rename_i hs
  subst hs
  rw [List.getElem?_set_self hl] at h
  simpa using h
 ·rename_i hs
  rw [List.getElem?_set_ne (Ne.symm hs)] at h
  rw [List.getElem?_append_left (List.getElem?_eq_some_iff.1 h).1]
  exact h
theorem Sim.move (h : Sim W0 M0 F σ a w β) {t d : Nat} {p : HdK} {obj : AObj} {hd : Value} (ht : β[t]? = some dummy) (hpin : σ.pin ≤ t) (hob : obj.tagsLt 0 = true)
  (k : Sim W0 M0 F ⟨σ.n, (d, hdl p σ.H.length) :: σ.slots, σ.H ++ [obj], σ.pin⟩ a' w' (β ++ [hd])) : Sim W0 M0 F ⟨σ.n, (d, hdl p t) :: σ.slots, σ.H.set t obj, σ.pin⟩ a' w' (β.set t hd) := by
 have hl : t < β.length := (List.getElem?_eq_some_iff.1 ht).1
 have hlH : t < σ.H.length := by rw [← h.len]; exact hl
 have hM : Mof M0 (β.set t hd) = Mof M0 (β ++ [hd]) := by
  funext g; simp only [Mof, z7W ht]
 have hm : Mv w' (Mof M0 (β ++ [hd])) β (β ++ [hd]) (Mof M0 (β ++ [hd])) (β.set t hd) := ⟨Keeps.refl _ _, fun s h0 h1 e0 q e => by
  have hs : s < β.length := (List.getElem?_eq_some_iff.1 e0).1
  rw [List.getElem?_append_left hs] at e
  rw [List.getElem?_set_ne]
  ·exact e
  ·rintro rfl
   rw [ht] at e0; cases e0; exact q rfl⟩
 refine ⟨k.below, k.m0, by simp [h.len], fun s o x ho hx => ?_, fun g hg => k.fresh g ((z7W ht).1 hg), fun s s' x x' g hx hx' e e' => ?_, fun i v hv => ?_, k.size, k.defers, k.out, ⟨k.pins.1, fun s hs0 => ?_⟩⟩
 ·rw [hM]
  by_cases hs : s = t
  ·subst hs
   have h1 : (σ.H.set s obj)[s]? = some o := ho
   rw [List.getElem?_set_self hlH] at h1
   cases h1
   rw [List.getElem?_set_self hl] at hx
   cases hx
   have q := k.objs σ.H.length obj hd (by simp) (by rw [← h.len]; simp)
   exact q.cut (m := 0) ⟨Keeps.refl _ _, fun t h0 hz => by omega⟩ hob
  ·have h1 : (σ.H.set t obj)[s]? = some o := ho
   rw [List.getElem?_set_ne (Ne.symm hs)] at h1
   rw [List.getElem?_set_ne (Ne.symm hs)] at hx
   have hsl : s < β.length := (List.getElem?_eq_some_iff.1 hx).1
   have q := k.objs s o x (by rw [List.getElem?_append_left (List.getElem?_eq_some_iff.1 h1).1]; exact h1) (by rw [List.getElem?_append_left hsl]; exact hx)
   exact (h.objs s o x h1 hx).mv hm q
 ·have q := k.dist _ _ _ _ g (zex hl hx) (zex hl hx') e e'
  have hsl : s < β.length := by have := (List.getElem?_eq_some_iff.1 hx).1; simpa using this
  have hsl' : s' < β.length := by have := (List.getElem?_eq_some_iff.1 hx').1; simpa using this
  split at q <;> split at q <;> omega
 ·rw [hM]
  simp only [lookS] at hv
  split at hv
  ·rename_i hi
   subst hi
   cases hv
   obtain ⟨x, h1, h2⟩ := k.slots d (hdl p σ.H.length) (by simp [lookS])
   refine ⟨x, h1, ?_⟩
   have e : (β ++ [hd])[σ.H.length]? = some hd := by rw [← h.len]; simp
   cases p with
   | vp =>
    rcases h2 with ⟨g, k1, k2⟩ | ⟨k1, k2⟩
    ·rw [e] at k1
     cases k1
     exact .inl ⟨g, List.getElem?_set_self hl, k2⟩
    ·rw [e] at k1
     cases k1
     exact .inr ⟨List.getElem?_set_self hl, k2⟩
   | mp =>
    rcases h2 with ⟨g, k1, k2⟩ | ⟨k1, k2⟩
    ·rw [e] at k1
     cases k1
     exact .inl ⟨g, List.getElem?_set_self hl, k2⟩
    ·rw [e] at k1
     cases k1
     exact .inr ⟨List.getElem?_set_self hl, k2⟩
   | own =>
    refine ⟨?_, h2.2⟩
    rcases h2.1 with k1 | k1
    ·rw [e] at k1
     cases k1
     exact .inl (List.getElem?_set_self hl)
    ·rw [e] at k1
     cases k1
     exact .inr (List.getElem?_set_self hl)
  ·rename_i hi
   obtain ⟨x0, _, q0⟩ := h.slots i v hv
   obtain ⟨x, h1, h2⟩ := k.slots i v (by simp only [lookS]; rw [if_neg hi]; exact hv)
   exact ⟨x, h1, RepV.mv hm v x0 x q0 h2⟩
 ·have hs : s < σ.pin := hs0
  rw [List.getElem?_set_ne (by omega)]
  exact h.pins.2 s hs
end
section
variable {P : Program} {T : Tab} {W0 w w' : World} {M0 : Nat → Prop} {F β : List Value} {σ σ' : AState} {a a' : Act}
theorem z7q (hT : TabOk P T) {t e ty : TypeId} (hdesc : (T t).desc = .slice e) (h : Sim W0 M0 F σ a w β) (A : Option Addr) {x : AV} {v2 : Value} {news : List (List D)} (hv : RepV w (Mof M0 β) β x v2) (hs : z0J σ.H x = some news)
  (hk : (T e).desc ≠ .other) (hsz : 0 < (T e).size) (hrl : ∀ r ∈ news, r.length = (T e).size) (hby : news.length * (T e).bytes ≤ 140737488355328) (hmx : news.length ≤ 9223372036854775807) :
  ∃ v' w', (Builtin.append_ #[t, t] ty #[.slice A 0 0, v2]).run P w = .ok v' w' ∧ Below w.heap.size w w' ∧ (∀ g, hblk v' = some g → w.heap.size ≤ g ∧ g < w'.heap.size) ∧ v'.oneCell' = true ∧ ObjRep w' (Mof M0 (β ++ [v'])) (β ++ [v']) (.row e (T e).size news) v' := by
 obtain ⟨A2, c2, vs, rfl, hvl, hvr, hsrc⟩ := z0I h hv hs hrl
 obtain ⟨i, z, hinfo, hi1, hi2, hi3, hi4⟩ := (hT e).info hk
 have hzr := z0C (w := w) (M := fun _ => False) _ _ hi4.1
 have hzs : z.cells.size = (T e).size := by
  have := RepL.length_eq _ _ hzr
  simp at this
  have := hi4.2.2
  omega
 by_cases hm0 : news.length = 0
 ·have hn0 : news = [] := List.eq_nil_of_length_eq_zero hm0
  subst hn0
  have hrun : (Builtin.append_ #[t, t] ty #[.slice A 0 0, .slice A2 0 c2]).run P w = .ok (.slice A 0 0) w := by
   cases A <;> cases A2 <;> simp [Builtin.append_, run_underlying (z06 hT hdesc), sizeOf, typeInfo, hinfo, Builtin.lenOf, Builtin.firstCells, storeCells, loadCells, loadCellsFrom]
  exact ⟨_, w, hrun, Below.refl _ _, fun g hg => (by rw [z4q] at hg; cases hg), rfl, A, 0, rfl, Nat.le_refl _, Nat.zero_le _, .inl rfl⟩
 ·rcases hsrc with ⟨rfl, hn0⟩ | ⟨ad, rfl, hcell⟩
  ·exact absurd (by rw [hn0]; rfl) hm0
  ·have hcap := grownCap_ge w news.length 0 e
   have hcapm := grownCap_le_maxLen w news.length 0 e (by simp only [maxLen]; omega)
   have hnc : Builtin.nextslicecap news.length 0 = news.length := nextslicecap_zero (by omega)
   have hzc : (Builtin.zeroCells z.cells (grownCap w news.length 0 e - news.length)).size = (grownCap w news.length 0 e - news.length) * (T e).size := by rw [size_zeroCells, hzs]
   have hrun : (Builtin.append_ #[t, t] ty #[.slice A 0 0, .slice (some ad) news.length c2]).run P w = .ok (.slice (some ⟨w.heap.size, 0, none⟩) news.length (grownCap w news.length 0 e)) (w.drew.alloc (.cells (vs.toArray ++ Builtin.zeroCells z.cells (grownCap w news.length 0 e - news.length)) e)) := by
    cases A with
    | none => exact run_append_nil (P := P) w t ty e i z (z06 hT hdesc) hinfo hi3 ad news.length c2 vs (by rw [hvl, hi1]) hcell (by omega) (by omega) (by rw [hi2]; omega)
    | some b =>
     have := run_append_grow (P := P) w t ty e i z (z06 hT hdesc) hinfo hi3 b 0 0 [] (by simp) (fun j v hv => by simp at hv) ad news.length c2 vs (by rw [hvl, hi1]) hcell (by omega) (by omega) (by rw [Nat.zero_add, hnc, hi2]; omega)
     simpa using this
   have hb : Below w.heap.size w (w.drew.alloc (.cells (vs.toArray ++ Builtin.zeroCells z.cells (grownCap w news.length 0 e - news.length)) e)) := (Below.drew (Below.refl _ _)).alloc (Nat.le_refl _) _
   have hcap0 : 0 < grownCap w news.length 0 e := by omega
   have hnew : ∀ g, hblk (Value.slice (some ⟨w.heap.size, 0, none⟩) news.length (grownCap w news.length 0 e)) = some g → w.heap.size ≤ g ∧ g < (w.drew.alloc (.cells (vs.toArray ++ Builtin.zeroCells z.cells (grownCap w news.length 0 e - news.length)) e)).heap.size := fun g hg => by
    have := z0N hg
    simp at this
    subst this
    exact ⟨Nat.le_refl _, by simp⟩
   refine ⟨_, _, hrun, hb, hnew, rfl, some ⟨w.heap.size, 0, none⟩, _, rfl, by omega, hcapm, .inr ⟨hcap0, w.heap.size, _, rfl, heap_alloc_new w.drew _, ?_, ?_⟩⟩
   ·simp only [Array.size_append, List.size_toArray, hzc, hvl, ← Nat.add_mul]
    congr 1
    omega
   ·have hkeep := z1V h hb (hd := .slice (some ⟨w.heap.size, 0, none⟩) news.length (grownCap w news.length 0 e)) fun g hg => (hnew g hg).1
    have hch := RepRows.of_cells (w := w.drew.alloc (.cells (vs.toArray ++ Builtin.zeroCells z.cells (grownCap w news.length 0 e - news.length)) e)) (ad := ⟨w.heap.size, 0, none⟩) (sz := (T e).size) (n := news.length) (RepL.keep hkeep _ _ hvr) hvl (by
     intro j u hu
     refine z0l (heap_alloc_new w.drew _) j u ?_
     simp only [Array.toList_append]
     rw [List.getElem?_append_left (List.getElem?_eq_some_iff.1 hu).1]
     exact hu)
    rwa [z13 _ hrl] at hch
end
section
variable {P : Program} {T : Tab} {H H' : List AObj} {w : World} {M : Nat → Prop}
theorem zaF (h : Ext H H') (d : D) : d.bor0 H' = d.bor0 H ∨ (d.bor0 H = .unk ∧ ∃ rows, d.bor0 H' = .list rows) := by
 cases d
 case own t =>
  simp only [D.bor0]
  cases ho : H[t]? with
  | none =>
   simp only
   split
   ·exact .inr ⟨trivial, _, rfl⟩
   ·exact .inl rfl
  | some o =>
   cases o with
   | row e sz rows => rw [h t _ ho (by simp)]; exact .inl rfl
   | var e cs => rw [h t _ ho (by simp)]; exact .inl rfl
   | map kd kvs => rw [h t _ ho (by simp)]; exact .inl rfl
   | gone =>
    simp only
    split
    ·exact .inr ⟨trivial, _, rfl⟩
    ·exact .inl rfl
 all_goals exact .inl rfl
theorem zbH (h : Ext H H') {d : D} {v : Value} (hr : RepC0 w M [] (d.bor0 H') v) : RepC0 w M [] (d.bor0 H) v := by
 rcases zaF h d with e | ⟨e, rows, e'⟩
 ·rwa [e] at hr
 ·rw [e]
  rw [e'] at hr
  obtain ⟨A, c, rfl, _⟩ : ∃ A c, v = .slice A rows.length c ∧ _ := hr
  exact rfl
theorem zfZ (K : List AObj) (d : D) : (d.bor0 K).pure = true := by
 cases d
 case own t => simp only [D.bor0]; split <;> rfl
 case clo f caps => cases caps <;> rfl
 all_goals rfl
theorem zcO (K : List AObj) (cs : List D) : (cs.map (D.bor0 K)).all D.pure = true := by
 rw [List.all_map, List.all_eq_true]
 exact fun d _ => zfZ K d
theorem zaE (h : Ext H H') {d : D} {v : Value} (hr : RepD w M (d.bor0 H') v) : RepD w M (d.bor0 H) v := by
 rcases zaF h d with e | ⟨e, rows, e'⟩
 ·rwa [e] at hr
 ·rw [e]
  have := hr.one_cell
  exact this
theorem zaG (h : Ext H H') : ∀ (cs : List D) (vs : List Value), RepL w M (cs.map (D.bor0 H')) vs → RepL w M (cs.map (D.bor0 H)) vs
 | [], vs, hr => hr
 | c :: cs, vs, hr => by
  obtain ⟨v, rest, h1, h2, h3⟩ := hr
  exact ⟨v, rest, h1, zaE h h2, zaG h cs rest h3⟩
theorem z7f (h : Ext H H') {d : D} {v : Value} (hr : RepC0 w M [] (d.bor1 H') v) : RepC0 w M [] (d.bor1 H) v := by
 cases d
 case vp t off =>
  have weak : ∀ o : Option AObj, RepC0 w M [] (match o with | some (.var _ cs) => if (cs.map (D.bor0 H')).all D.pure then .ref ((cs.map (D.bor0 H')).drop off) else .unk | _ => .unk) v → v.oneCell' = true := by
   intro o hr
   split at hr
   ·split at hr
    ·obtain ⟨ad, rfl, _⟩ : ∃ ad, v = .pointer (some ad) ∧ _ := hr
     rfl
    ·exact hr
   ·exact hr
  have hw := weak _ hr
  simp only [D.bor1] at hr ⊢
  cases ho : H[t]? with
  | none => exact hw
  | some o =>
   cases o with
   | var e cs =>
    rw [h t _ ho (by simp)] at hr
    simp only at hr ⊢
    rw [if_pos (zcO H' cs)] at hr
    rw [if_pos (zcO H cs)]
    obtain ⟨ad, h1, h2, h3, vs, h4, h5⟩ : ∃ ad, v = .pointer (some ad) ∧ ad.block < w.heap.size ∧ ¬ M ad.block ∧ ∃ vs, reads w ad 0 vs ∧ RepL w M ((cs.map (D.bor0 H')).drop off) vs := hr
    rw [← List.map_drop] at h5
    exact ⟨ad, h1, h2, h3, vs, h4, by rw [← List.map_drop]; exact zaG h _ _ h5⟩
   | _ => exact hw
 all_goals (simp only [D.bor1] at hr ⊢; exact zbH h hr)
theorem z8j (K : List AObj) (d : D) (hd : ∀ f caps, d ≠ .clo f caps) : ∀ f caps, d.bor1 K ≠ .clo f caps := by
 intro f caps
 cases d <;> simp only [D.bor1, D.bor0] <;> first | (intro hh; cases hh; done) | (split <;> first | (intro hh; cases hh; done) | (split <;> intro hh <;> cases hh)) | exact absurd rfl (hd _ _)
theorem zce {d : D} {v : Value} (hd : ∀ f caps, d ≠ .clo f caps) : RepC w M [] d v ↔ RepC0 w M [] d v := by
 cases d <;> first | exact Iff.rfl | exact absurd rfl (hd _ _)
theorem zfX (h : Ext H H') {d : D} (hd : ∀ f caps, d ≠ .clo f caps) {v : Value} (hr : RepC w M [] (d.bor1 H') v) : RepC w M [] (d.bor1 H) v :=
 (zce (z8j H d hd)).2 (z7f h ((zce (z8j H' d hd)).1 hr))
theorem z4Z (h : Ext H H') {d : D} {v : Value} (hr : RepC w M [] (d.bor H') v) : RepC w M [] (d.bor H) v := by
 cases d
 case clo f caps =>
  obtain ⟨vs, h1, h2, h3⟩ := hr
  refine ⟨vs, h1, by simpa using h2, fun i d u a b => ?_⟩
  rw [List.getElem?_map] at a
  cases hc : caps[i]? with
  | none => rw [hc] at a; cases a
  | some c =>
   rw [hc] at a
   cases a
   exact z7f h (h3 i (c.bor1 H') u (by rw [List.getElem?_map, hc]; rfl) b)
 all_goals (simp only [D.bor] at hr ⊢; exact zfX h (fun f caps hh => by cases hh) hr)
theorem z7e (h : Ext H H') {ds : List D} {vs : List Value} (hr : RepCL w M [] (ds.map (D.bor H')) vs) : RepCL w M [] (ds.map (D.bor H)) vs :=
 ⟨by simpa using hr.1, fun i d u a b => by
  rw [List.getElem?_map] at a
  cases hc : ds[i]? with
  | none => rw [hc] at a; cases a
  | some c =>
   rw [hc] at a
   cases a
   exact z4Z h (hr.2 i (c.bor H') u (by rw [List.getElem?_map, hc]; rfl) b)⟩
theorem zbG (h : Ext H H') {x : AV} {v : Value} (hr : RepV w M [] (x.bor H') v) : RepV w M [] (x.bor H) v := by
 cases x with
 | one d => exact z4Z h hr
 | agg ds => obtain ⟨vs, h1, h2⟩ := hr; exact ⟨vs, h1, z7e h h2⟩
 | tup xs =>
  obtain ⟨vs, h1, h2⟩ := hr
  obtain ⟨k1, k2⟩ := RepVL.get _ _ h2
  refine ⟨vs, h1, RepVL.mk _ _ (by simpa using k1) fun i a u ha hu => ?_⟩
  rw [List.getElem?_map] at ha
  cases hc : xs[i]? with
  | none => rw [hc] at ha; cases ha
  | some c =>
   rw [hc] at ha
   cases ha
   have q := k2 i _ u (by rw [List.getElem?_map, hc]; rfl) hu
   cases c with
   | one d => exact z4Z h q
   | agg ds => obtain ⟨us, h3, h4⟩ := q; exact ⟨us, h3, z7e h h4⟩
   | _ => exact trivial
 | cond g y => exact trivial
 | any => exact trivial
theorem ACalls.more (h : Ext H H') {f : FuncId} {as : List AV} {r : AV} {Hn : List AObj} (hc : ACalls P f (as.map (AV.bor H)) r Hn) : ACalls P f (as.map (AV.bor H')) r Hn :=
 ⟨hc.ok, fun w M vs hM hr => hc.run w M vs hM (by
  obtain ⟨k1, k2⟩ := RepVL.get _ _ hr
  refine RepVL.mk _ _ (by simpa using k1) fun i a u ha hu => ?_
  rw [List.getElem?_map] at ha
  cases hc : as[i]? with
  | none => rw [hc] at ha; cases ha
  | some c =>
   rw [hc] at ha
   cases ha
   exact zbG h (k2 i _ u (by rw [List.getElem?_map, hc]; rfl) hu))⟩
end
end Go.Eng
namespace Go.Eng
open Go.RowKit
structure GrowD (w : World) (M : Nat → Prop) (β : List Value) (w' : World) (M' : Nat → Prop) (β' : List Value) : Prop where
 keeps : Keeps w M w' M'
 tags : ∀ (t : Nat) (h : Value), β[t]? = some h → β'[t]? = some h ∨ β'[t]? = some dead
section
variable {w w' : World} {M M' : Nat → Prop} {β β' : List Value}
theorem GrowD.dead (hg : GrowD w M β w' M' β') {t : Nat} (h : β[t]? = some dead) : β'[t]? = some Eng.dead := (hg.tags t _ h).elim id id
theorem RepC0.growD (hg : GrowD w M β w' M' β') {d : D} {v : Value} (h : RepC0 w M β d v) : RepC0 w' M' β' d v := by
 have hone := h.oneCell
 cases d
 case unk => exact h
 case own t =>
  refine ⟨?_, hone⟩
  rcases h.1 with k | k
  ·exact hg.tags _ _ k
  ·exact .inr (hg.dead k)
 case vp t off =>
  rcases h with ⟨g, h1, h2⟩ | ⟨h1, h2⟩
  ·rcases hg.tags _ _ h1 with k | k
   ·exact .inl ⟨g, k, h2⟩
   ·exact .inr ⟨k, hone⟩
  ·exact .inr ⟨hg.dead h1, h2⟩
 case rp t i sz sub =>
  rcases h with ⟨g, n, c, h1, h2⟩ | ⟨h1, h2⟩
  ·rcases hg.tags _ _ h1 with k | k
   ·exact .inl ⟨g, n, c, k, h2⟩
   ·exact .inr ⟨k, hone⟩
  ·exact .inr ⟨hg.dead h1, h2⟩
 case mp t =>
  rcases h with ⟨g, h1, h2⟩ | ⟨h1, h2⟩
  ·rcases hg.tags _ _ h1 with k | k
   ·exact .inl ⟨g, k, h2⟩
   ·exact .inr ⟨k, hone⟩
  ·exact .inr ⟨hg.dead h1, h2⟩
 all_goals (simp only [RepC0] at h ⊢; exact RepD.keep hg.keeps _ _ h)
theorem RepC.growD (hg : GrowD w M β w' M' β') {d : D} {v : Value} (h : RepC w M β d v) : RepC w' M' β' d v := by
 cases d
 case clo f caps => obtain ⟨vs, h1, h2, h3⟩ := h; exact ⟨vs, h1, h2, fun i d u a b => (h3 i d u a b).growD hg⟩
 all_goals (simp only [RepC] at h ⊢; exact h.growD hg)
theorem RepCL.growD (hg : GrowD w M β w' M' β') {ds : List D} {vs : List Value} (h : RepCL w M β ds vs) : RepCL w' M' β' ds vs := ⟨h.1, fun i d u a b => (h.2 i d u a b).growD hg⟩
mutual
theorem RepV.growD (hg : GrowD w M β w' M' β') : ∀ (a : AV) (v : Value), RepV w M β a v → RepV w' M' β' a v
 | .one d, v, h => by simp only [RepV] at h ⊢; exact h.growD hg
 | .agg ds, v, h => by simp only [RepV] at h ⊢; obtain ⟨vs, h1, h2⟩ := h; exact ⟨vs, h1, h2.growD hg⟩
 | .tup avs, v, h => by simp only [RepV] at h ⊢; obtain ⟨vs, h1, h2⟩ := h; exact ⟨vs, h1, RepVL.growD hg avs vs h2⟩
 | .cond g av, v, h => by simp only [RepV] at h ⊢; exact ⟨fun hh => RepV.growD hg av v (h.1 hh), h.2⟩
 | .any, _, _ => by simp only [RepV]
theorem RepVL.growD (hg : GrowD w M β w' M' β') : ∀ (as : List AV) (vs : List Value), RepVL w M β as vs → RepVL w' M' β' as vs
 | [], vs, h => by simpa only [RepVL] using h
 | a :: as, vs, h => by
  simp only [RepVL] at h ⊢
  obtain ⟨v, rest, h1, h2, h3⟩ := h
  exact ⟨v, rest, h1, RepV.growD hg a v h2, RepVL.growD hg as rest h3⟩
end
theorem ObjRep.growD (hg : GrowD w M β w' M' β') {o : AObj} {h : Value} (hb : ∀ g, hblk h = some g → w'.heap[g]? = w.heap[g]?) (hr : ObjRep w M β o h) : ObjRep w' M' β' o h := by
 cases o with
 | gone => exact hr
 | row e sz rows =>
  obtain ⟨A, c, h1, h2, h3, h4⟩ := hr
  refine ⟨A, c, h1, h2, h3, ?_⟩
  rcases h4 with h4 | ⟨hc0, g, cur, rfl, h5, h6, h7⟩
  ·exact .inl h4
  ·have hgg := hb g (by rw [h1]; exact hblk_row hc0)
   exact .inr ⟨hc0, g, cur, rfl, hgg.trans h5, h6, h7.keeps hg.keeps fun vs o => z21 (by exact hgg)⟩
 | var e cs =>
  obtain ⟨g, cur, h1, h2, h3⟩ := hr
  exact ⟨g, cur, h1, (hb g (by rw [h1]; rfl)).trans h2, h3.growD hg⟩
 | map kd kvs =>
  obtain ⟨hp, g, es, clk, h1, h2, h3, h4⟩ := hr
  exact ⟨hp, g, es, clk, h1, (hb g (by rw [h1]; rfl)).trans h2, h3, fun i kv e a b => ⟨RepV.growD hg _ _ (h4 i kv e a b).1, RepV.growD hg _ _ (h4 i kv e a b).2⟩⟩
end
def killH : Option Nat → List AObj → List AObj
 | none, H => H
 | some k, H => H.set k .gone
def killB : Option Nat → List Value → List Value
 | none, β => β
 | some k, β => β.set k dead
theorem z2f (k : Option Nat) (H : List AObj) : (killH k H).length = H.length := by cases k <;> simp [killH]
section
variable {P : Program} {T : Tab} {W0 w w' : World} {M0 : Nat → Prop} {F β : List Value} {σ σ' : AState} {a a' : Act}
theorem z7X {k g : Nat} (h : owned (β.set k dead) g) : ∃ (t : Nat) (x : Value), t ≠ k ∧ β[t]? = some x ∧ hblk x = some g := by
 rcases z2r h with h | h
 ·cases h
 ·exact h
theorem Sim.kill (h : Sim W0 M0 F σ a w β) {k : Nat} (hpin : σ.pin ≤ k) : Sim W0 M0 F (σ.setObj k .gone) a w (β.set k dead) := by
 have hG : GrowD w (Mof M0 β) β w (Mof M0 (β.set k dead)) (β.set k dead) := ⟨⟨Nat.le_refl _, fun _ _ _ => rfl, fun g _ hm hm' => hm (by
  rcases hm' with hm' | hm'
  ·exact .inl hm'
  ·obtain ⟨t, x, _, h1, h2⟩ := z7X hm'
   exact .inr ⟨t, x, h1, h2⟩)⟩, fun t x hx => by
  by_cases htk : k = t
  ·subst htk
   right
   rw [List.getElem?_set_self (List.getElem?_eq_some_iff.1 hx).1]
  ·left
   rw [List.getElem?_set_ne htk]; exact hx⟩
 have back : ∀ t x, (β.set k dead)[t]? = some x → x = dead ∨ (t ≠ k ∧ β[t]? = some x) := fun t x hx => by
  by_cases htk : k = t
  ·subst htk
   rw [List.getElem?_set_self (by have := (List.getElem?_eq_some_iff.1 hx).1; simpa using this)] at hx
   cases hx; exact .inl rfl
  ·rw [List.getElem?_set_ne htk] at hx; exact .inr ⟨fun e => htk e.symm, hx⟩
 refine ⟨h.below, h.m0, by simp [AState.setObj, h.len], fun t o x ho hx => ?_, fun g hg => ?_, fun t t' x x' g hx hx' e e' => ?_, fun i v hv => ?_, h.size, h.defers, h.out, ⟨h.pins.1, fun t ht => ?_⟩⟩
 ·have ho' : (σ.H.set k .gone)[t]? = some o := ho
  by_cases htk : k = t
  ·subst htk
   have hl : k < σ.H.length := by have := (List.getElem?_eq_some_iff.1 ho').1; simpa using this
   rw [List.getElem?_set_self hl] at ho'
   cases ho'; exact trivial
  ·rw [List.getElem?_set_ne htk] at ho' hx
   exact (h.objs t o x ho' hx).growD hG fun _ _ => rfl
 ·obtain ⟨t, x, _, h1, h2⟩ := z7X hg
  exact h.fresh g ⟨t, x, h1, h2⟩
 ·rcases back t x hx with rfl | ⟨_, hx⟩
  ·cases e
  ·rcases back t' x' hx' with rfl | ⟨_, hx'⟩
   ·cases e'
   ·exact h.dist t t' x x' g hx hx' e e'
 ·obtain ⟨x, h1, h2⟩ := h.slots i v hv
  exact ⟨x, h1, RepV.growD hG v x h2⟩
 ·have ht' : t < σ.pin := ht
  rw [List.getElem?_set_ne (by omega)]
  exact h.pins.2 t ht'
theorem Sim.use (h : Sim W0 M0 F σ a w β) {k d : Nat} {hd hd' : Value} {o' : AObj} (hpin : σ.pin ≤ k) (hβ : β[k]? = some hd) (hdn : d < σ.n) (hg : w.grownBy w' (hblk hd)) (hdr : w.drawn ≤ w'.drawn) (hnew : ∀ g, hblk hd' = some g → hblk hd = some g ∨ (w.heap.size ≤ g ∧ g < w'.heap.size))
  (hpl : o'.plain = true) (hone : hd'.oneCell' = true) (ho : ObjRep w' (Mof M0 (β.set k hd')) (β.set k hd') o' hd') : Sim W0 M0 F ((σ.setObj k .gone).pushObj d o' (.one (.own σ.H.length))) (a.put (some d) hd') w' (β.set k dead ++ [hd']) := by
 have hkl : k < β.length := (List.getElem?_eq_some_iff.1 hβ).1
 have get2 : ∀ t x, (β.set k dead ++ [hd'])[t]? = some x → x = dead ∨ (t ≠ k ∧ t < β.length ∧ β[t]? = some x) ∨ (t = β.length ∧ x = hd') := fun t x hx => by
  rw [List.getElem?_append] at hx
  split at hx
  ·by_cases htk : k = t
   ·subst htk
    rw [List.getElem?_set_self hkl] at hx
    cases hx; exact .inl rfl
   ·rw [List.getElem?_set_ne htk] at hx; exact .inr (.inl ⟨fun e => htk e.symm, (List.getElem?_eq_some_iff.1 hx).1, hx⟩)
  ·rename_i hl
   have hl0 := (List.getElem?_eq_some_iff.1 hx).1
   simp at hl hl0
   have : t - (β.set k dead).length = 0 := by simp; omega
   rw [this] at hx
   simp at hx
   exact .inr (.inr ⟨by omega, hx.symm⟩)
 have own2 : ∀ g, owned (β.set k dead ++ [hd']) g → (∃ (t : Nat) (x : Value), t ≠ k ∧ β[t]? = some x ∧ hblk x = some g) ∨ hblk hd' = some g := fun g ⟨t, x, h1, h2⟩ => by
  rcases get2 t x h1 with rfl | ⟨k1, _, k2⟩ | ⟨_, rfl⟩
  ·cases h2
  ·exact .inl ⟨t, x, k1, k2, h2⟩
  ·exact .inr h2
 have hkeep : Keeps w (Mof M0 β) w' (Mof M0 (β.set k dead ++ [hd'])) := by
  refine ⟨hg.size, fun g hlt hm => hg.block g hlt fun e => hm (.inr ⟨k, hd, hβ, e.symm⟩), fun g hlt hm hm' => ?_⟩
  rcases hm' with hm' | hm'
  ·exact hm (.inl hm')
  ·rcases own2 g hm' with ⟨t, x, _, h1, h2⟩ | hb
   ·exact hm (.inr ⟨t, x, h1, h2⟩)
   ·rcases hnew g hb with hb | hb
    ·exact hm (.inr ⟨k, hd, hβ, hb⟩)
    ·omega
 have hG : GrowD w (Mof M0 β) β w' (Mof M0 (β.set k dead ++ [hd'])) (β.set k dead ++ [hd']) := ⟨hkeep, fun t x hx => by
  have hl := (List.getElem?_eq_some_iff.1 hx).1
  rw [List.getElem?_append_left (by simpa using hl)]
  by_cases htk : k = t
  ·subst htk
   exact .inr (List.getElem?_set_self hl)
  ·exact .inl (by rw [List.getElem?_set_ne htk]; exact hx)⟩
 have main : Sim W0 M0 F { (σ.setObj k .gone) with H := (σ.setObj k .gone).H ++ [o'] } a w' (β.set k dead ++ [hd']) := by
  refine ⟨?_, h.m0, by simp [AState.setObj, h.len], fun t o x ho' hx => ?_, fun g hgo => ?_, fun t t' x x' g h1 h2 h3 h4 => ?_, fun i v hv => ?_, h.size, h.defers, h.out, ⟨h.pins.1, fun t ht => ?_⟩⟩
  ·refine h.below.trans (Y := fun i => hblk hd = some i) ⟨hg.os, hg.tape, hg.output, hg.size, fun i hi hy => hg.block i hi (fun e => hy e.symm), hdr⟩ fun i hi hy => ?_
   rcases (h.fresh i ⟨k, hd, hβ, hy⟩).1 with hk' | hk'
   ·exact hk'
   ·omega
  ·have ho2 : ((σ.H.set k .gone) ++ [o'])[t]? = some o := ho'
   have hlen : (σ.H.set k AObj.gone).length = β.length := by simp [h.len]
   rcases get2 t x hx with rfl | ⟨k1, k2, k3⟩ | ⟨rfl, rfl⟩
   ·have ht : t < (β.set k dead ++ [hd']).length := (List.getElem?_eq_some_iff.1 hx).1
    by_cases htk : t = k
    ·subst htk
     rw [List.getElem?_append_left (by omega), List.getElem?_set_self (by rw [← h.len]; exact hkl)] at ho2
     cases ho2; exact trivial
    ·by_cases htl : t < β.length
     ·rw [List.getElem?_append_left (by omega), List.getElem?_set_ne (Ne.symm htk)] at ho2
      rw [List.getElem?_append_left (by simpa using htl), List.getElem?_set_ne (Ne.symm htk)] at hx
      exact (h.objs t o _ ho2 hx).growD hG fun g hgb => by cases hgb
     ·have : t = β.length := by simp at ht; omega
      subst this
      rw [List.getElem?_append_right (by simp)] at hx
      simp at hx
      subst hx
      cases hone
   ·rw [List.getElem?_append_left (by omega), List.getElem?_set_ne (Ne.symm k1)] at ho2
    exact (h.objs t o x ho2 k3).growD hG fun g hgb => hg.block g (h.fresh g ⟨t, x, k3, hgb⟩).2 fun e => k1 (h.dist t k x hd g k3 hβ hgb e.symm)
   ·rw [List.getElem?_append_right (by omega), hlen] at ho2
    simp at ho2
    subst ho2
    refine ho.plainMove ⟨Nat.le_refl _, fun _ _ _ => rfl, fun g _ hm hm' => hm ?_⟩ hpl
    rcases hm' with hm' | hm'
    ·exact .inl hm'
    ·rcases own2 g hm' with ⟨t, y, k1, h1, h2⟩ | hb
     ·exact .inr ⟨t, y, by rw [List.getElem?_set_ne (Ne.symm k1)]; exact h1, h2⟩
     ·exact .inr ⟨k, x, List.getElem?_set_self hkl, hb⟩
  ·rcases own2 g hgo with ⟨t, x, _, h1, h2⟩ | hb
   ·have := h.fresh g ⟨t, x, h1, h2⟩
    exact ⟨this.1, Nat.lt_of_lt_of_le this.2 hg.size⟩
   ·rcases hnew g hb with hb | hb
    ·have := h.fresh g ⟨k, hd, hβ, hb⟩
     exact ⟨this.1, Nat.lt_of_lt_of_le this.2 hg.size⟩
    ·exact ⟨.inr (Nat.le_trans h.below.size hb.1), hb.2⟩
  ·rcases get2 t x h1 with rfl | ⟨k1, k2, k3⟩ | ⟨k2, rfl⟩
   ·cases h3
   ·rcases get2 t' x' h2 with rfl | ⟨l1, l2, l3⟩ | ⟨l2, rfl⟩
    ·cases h4
    ·exact h.dist t t' x x' g k3 l3 h3 h4
    ·rcases hnew g h4 with hb | hb
     ·exact absurd (h.dist t k x hd g k3 hβ h3 hb) k1
     ·have := (h.fresh g ⟨t, x, k3, h3⟩).2; omega
   ·rcases get2 t' x' h2 with rfl | ⟨l1, l2, l3⟩ | ⟨l2, rfl⟩
    ·cases h4
    ·rcases hnew g h3 with hb | hb
     ·exact absurd (h.dist t' k x' hd g l3 hβ h4 hb) l1
     ·have := (h.fresh g ⟨t', x', l3, h4⟩).2; omega
    ·omega
  ·obtain ⟨x, h1, h2⟩ := h.slots i v hv
   exact ⟨x, h1, RepV.growD hG v x h2⟩
  ·have ht' : t < σ.pin := ht
   have := h.pins.2 t ht'
   have htF : t < F.length := by have := h.pins.1; omega
   rw [List.getElem?_eq_getElem htF] at this
   rw [List.getElem?_append_left (by have := (List.getElem?_eq_some_iff.1 this).1; simpa using this), List.getElem?_set_ne (by omega), this, List.getElem?_eq_getElem htF]
 have hlast : (β.set k dead ++ [hd'])[σ.H.length]? = some hd' := by rw [← h.len]; simp
 exact main.put hdn ⟨.inl hlast, hone⟩
end
section
variable {P : Program} {T : Tab} {W0 w w' : World} {M0 : Nat → Prop} {F β : List Value} {σ σ' : AState} {a a' : Act}
theorem Sim.pin_le (h : Sim W0 M0 F σ a w β) : σ.pin ≤ σ.H.length := by
 rcases Nat.eq_zero_or_pos σ.pin with h0 | h0
 ·omega
 ·have h1 := h.pins.2 (σ.pin - 1) (by omega)
  have h2 : σ.pin - 1 < F.length := by have := h.pins.1; omega
  rw [List.getElem?_eq_getElem h2] at h1
  have := (List.getElem?_eq_some_iff.1 h1).1
  rw [h.len] at this
  omega
theorem Sim.popFrozen (h : Sim W0 M0 F σ a w β) {d : Nat} {e : TypeId} {sz : Nat} {rows : List (List D)} {hd : Value}
  (k : Sim W0 M0 F ⟨σ.n, (d, .one (.own σ.H.length)) :: σ.slots, σ.H ++ [.row e sz rows], σ.pin⟩ a' w' (β ++ [hd])) : Sim W0 M0 F ⟨σ.n, (d, .one (.list rows)) :: σ.slots, σ.H, σ.pin⟩ a' w' β := by
 have sub : ∀ g, owned β g → owned (β ++ [hd]) g := fun g ⟨t, x, h1, h2⟩ => ⟨t, x, by rw [List.getElem?_append_left (List.getElem?_eq_some_iff.1 h1).1]; exact h1, h2⟩
 have hkeep : Keeps w' (Mof M0 (β ++ [hd])) w' (Mof M0 β) := ⟨Nat.le_refl _, fun _ _ _ => rfl, fun g _ hm hm' => hm (hm'.imp id (sub g))⟩
 have hm : Mv w' (Mof M0 (β ++ [hd])) β (β ++ [hd]) (Mof M0 β) β := ⟨hkeep, fun s h0 h1 e0 _ e => by
  rw [List.getElem?_append_left (List.getElem?_eq_some_iff.1 e0).1] at e; exact e⟩
 have hlast : (β ++ [hd])[σ.H.length]? = some hd := by rw [← h.len]; simp
 have hob := k.objs σ.H.length (.row e sz rows) hd (by simp) hlast
 refine ⟨k.below, k.m0, h.len, fun t o x ho hx => ?_, fun g hg => k.fresh g (sub g hg), fun t t' x x' g h1 h2 h3 h4 => ?_, fun i v hv => ?_, k.size, k.defers, k.out, ⟨k.pins.1, fun t ht => ?_⟩⟩
 ·have hl := (List.getElem?_eq_some_iff.1 hx).1
  exact (h.objs t o x ho hx).mv hm (k.objs t o x (by rw [List.getElem?_append_left (by rw [← h.len]; exact hl)]; exact ho) (by rw [List.getElem?_append_left hl]; exact hx))
 ·exact k.dist t t' x x' g (by rw [List.getElem?_append_left (List.getElem?_eq_some_iff.1 h1).1]; exact h1) (by rw [List.getElem?_append_left (List.getElem?_eq_some_iff.1 h2).1]; exact h2) h3 h4
 ·simp only [lookS] at hv
  split at hv
  ·rename_i hi
   subst hi
   cases hv
   obtain ⟨x, h1, h2⟩ := k.slots d (.one (.own σ.H.length)) (by simp [lookS])
   refine ⟨x, h1, ?_⟩
   have hx := z0u h2 fun y hy => k.objs σ.H.length (.row e sz rows) y (by simp) hy
   rw [hlast] at hx
   cases hx
   obtain ⟨A, c, rfl, q2, q3, q4⟩ := hob
   refine ⟨A, c, rfl, q2, q3, ?_⟩
   rcases q4 with rfl | ⟨hc0, g, cur, rfl, q5, q6, q7⟩
   ·left; exact List.eq_nil_of_length_eq_zero (by omega)
   ·have hown : owned (β ++ [Value.slice (some ⟨g, 0, none⟩) rows.length c]) g := ⟨σ.H.length, _, hlast, hblk_row hc0⟩
    refine .inr ⟨⟨g, 0, none⟩, sz, rfl, (k.fresh g hown).2, fun hm' => ?_, q7.keeps hkeep fun _ _ x => x⟩
    rcases hm' with hm' | ⟨t, y, h3, h4⟩
    ·exact (k.lend.out g hown).1 hm'
    ·have hl := (List.getElem?_eq_some_iff.1 h3).1
     have := k.dist t σ.H.length y _ g (by rw [List.getElem?_append_left hl]; exact h3) hlast h4 (hblk_row hc0)
     rw [h.len] at hl
     omega
  ·rename_i hi
   obtain ⟨x0, _, q0⟩ := h.slots i v hv
   obtain ⟨x, h1, h2⟩ := k.slots i v (by simp only [lookS]; rw [if_neg hi]; exact hv)
   exact ⟨x, h1, RepV.mv hm v x0 x q0 h2⟩
 ·have ht' : t < σ.pin := ht
  have h1 := k.pins.2 t ht'
  rw [List.getElem?_append_left (by rw [h.len]; exact Nat.lt_of_lt_of_le ht' h.pin_le)] at h1
  exact h1
end
def z5D (T : Tab) (H : List AObj) (t t' e : TypeId) (x : AV) : Option (List (List D)) :=
 if t = t' then z0J H x else match (T t').desc, x with
  | .int _, .one (.int _ z) => some (List.replicate z.toNat (T e).zero)
  | _, _ => none
def numOf : AV → Int
 | .one (.int _ z) => z
 | _ => 0
theorem zbO {T : Tab} {H H' : List AObj} (h : Ext H H') {t t' e : TypeId} (x : AV) {rows : List (List D)} (hv : z5D T H t t' e x = some rows) : z5D T H' t t' e x = some rows := by
 unfold z5D at hv ⊢
 split
 ·rename_i ht
  rw [if_pos ht] at hv
  exact z5j h x hv
 ·rename_i ht
  rw [if_neg ht] at hv
  exact hv
def aVal (P : Program) (T : Tab) (o : Oper) (p : HdK) (obj : AObj) (kill : Option Nat) (σ : AState) : Prop :=
 match o.op with
 | .alloc e => (T e).desc ≠ .other ∧ p = .vp ∧ obj = .var e (T e).zero ∧ kill = none
 | .box e x => (σ.ev x).need ∧ (∃ cs, (σ.evs x).cells? = some cs ∧ obj = .var e cs) ∧ p = .vp ∧ kill = none
 | .makeSlice t l c => ∃ e n m, (T t).desc = .slice e ∧ σ.evs l = .one (.int .i64 n) ∧ σ.evs c = .one (.int .i64 m) ∧ ((σ.ev l).need ∧ (σ.ev c).need ∧ (T e).desc ≠ .other ∧ 0 < (T e).size ∧ 0 ≤ n ∧ n ≤ m ∧ m ≤ 9223372036854775807 ∧ (T e).bytes * m ≤ 281474976710656) ∧
   p = .own ∧ obj = .row e (T e).size (List.replicate n.toNat (T e).zero) ∧ kill = none
 | .makeMap t none => p = .mp ∧ kill = none ∧ ∃ kt et, (T t).desc = .map kt et ∧ (((T kt).desc = .string ∧ obj = .map .str []) ∨ ∃ k, (T kt).desc = .int k ∧ obj = .map (.int k) [])
 | .call c => match c.callee with
  | .value fo => ∃ f as, callee σ fo c.args.toList = some (f, as) ∧ needs σ (fo :: c.args.toList) ∧ ACalls P f (as.map (AV.bor σ.H)) (.one (.own 0)) [obj] ∧ z0d as (.one (.own 0)) [obj] ∧ p = .own ∧ kill = none
  | .builtin .append => ∃ s x t t' e rows news, c = { callee := .builtin .append, args := #[s, x], argTypes := #[t, t'] } ∧ (T t).desc = .slice e ∧ z5D T σ.H t t' e (σ.evs x) = some news ∧ 0 ≤ numOf (σ.evs x) ∧ (σ.ev s).need ∧ (σ.ev x).need ∧
    (T e).desc ≠ .other ∧ 0 < (T e).size ∧ (∀ r ∈ news, r.length = (T e).size) ∧ (rows.length + news.length) * (T e).bytes ≤ 140737488355328 ∧ rows.length + news.length ≤ 9223372036854775807 ∧ p = .own ∧ obj = .row e (T e).size (rows ++ news) ∧
    ((σ.evs s = .one .nil ∧ rows = [] ∧ kill = none ∧ t = t') ∨ ∃ k, σ.evs s = .one (.own k) ∧ σ.H[k]? = some (.row e (T e).size rows) ∧ kill = some k)
  | _ => False
 | _ => False
section
variable {P : Program} {T : Tab} {W0 w : World} {M0 : Nat → Prop} {F β : List Value} {σ τ : AState} {a : Act} {ops : Array Oper} {Kc : Act → World → Prop} {Q : Exit → Act → World → Prop}
theorem evs_H (H' : List AObj) (x : Operand) : AState.evs { σ with H := H' } x = σ.evs x := by cases x <;> rfl
theorem ev_H (H' : List AObj) (x : Operand) : AState.ev { σ with H := H' } x = σ.ev x := by cases x <;> rfl
theorem z5X (H' : List AObj) (fo : Operand) (args : List Operand) : callee { σ with H := H' } fo args = callee σ fo args := by
 unfold callee
 rw [evs_H]
 rw [show (AState.evs { σ with H := H' }) = σ.evs from funext fun x => evs_H H' x]
theorem z27 (H' : List AObj) : ∀ (xs : List Operand), needs σ xs → needs { σ with H := H' } xs
 | [], h => h
 | x :: xs, h => ⟨by rw [ev_H]; exact h.1, z27 H' xs h.2⟩
theorem zhM {o : Oper} {p : HdK} {obj : AObj} {kill : Option Nat} {H' : List AObj} (hx : Ext σ.H H') (h : aVal P T o p obj kill σ) : aVal P T o p obj kill { σ with H := H' } := by
 unfold aVal at h ⊢
 split
 ·rename_i e ho
  simp only [ho] at h
  exact h
 ·rename_i e x ho
  simp only [ho] at h
  rw [ev_H, evs_H]
  exact h
 ·rename_i t l c ho
  simp only [ho] at h
  rw [ev_H, evs_H, ev_H, evs_H]
  exact h
 ·rename_i t ho
  simp only [ho] at h
  exact h
 ·rename_i c ho
  simp only [ho] at h
  split
  ·rename_i fo hc
   simp only [hc] at h
   obtain ⟨f, as, h1, h2, h3, h4, h5⟩ := h
   exact ⟨f, as, by rw [z5X]; exact h1, z27 _ _ h2, h3.more hx, h4, h5⟩
  ·rename_i hc
   simp only [hc] at h
   obtain ⟨s, x, t, t', e, rows, news, h1, h2, h3, h0, h4, h5, h6, h7, h8, h9, h10, h11, h12, h13⟩ := h
   refine ⟨s, x, t, t', e, rows, news, h1, h2, by rw [evs_H]; exact zbO hx _ h3, by rw [evs_H]; exact h0, by rw [ev_H]; exact h4, by rw [ev_H]; exact h5, h6, h7, h8, h9, h10, h11, h12, ?_⟩
   rw [evs_H]
   rcases h13 with h13 | ⟨k, k1, k2, k3⟩
   ·exact .inl h13
   ·exact .inr ⟨k, k1, hx k _ k2 (by simp), k3⟩
  ·rename_i h1 h2
   split at h
   ·exact absurd ‹_› (h1 _)
   ·exact absurd ‹_› h2
   ·exact h
 ·rename_i h1 h2 h3 h4 h5
  split at h
  ·exact absurd ‹_› (h1 _)
  ·exact absurd ‹_› (h2 _ _)
  ·exact absurd ‹_› (h3 _ _ _)
  ·exact absurd ‹_› (h4 _)
  ·exact absurd ‹_› (h5 _)
  ·exact h
theorem zeb {o : Oper} {p : HdK} {obj : AObj} {kill : Option Nat} (h : Agree ops o σ τ) (hv : aVal P T o p obj kill σ) : aVal P T o p obj kill τ := by
 have hev : ∀ x ∈ o.op.operands.toList, σ.ev x = τ.ev x := fun x hx => h.ev hx
 have hevs : ∀ x ∈ o.op.operands.toList, σ.evs x = τ.evs x := fun x hx => by simp only [AState.evs]; rw [hev x hx]
 unfold aVal at hv ⊢
 split
 ·rename_i e ho
  simp only [ho] at hv
  exact hv
 ·rename_i e x ho
  simp only [ho, Op.operands] at hv hev hevs
  rw [← hev x (by simp), ← hevs x (by simp)]
  exact hv
 ·rename_i t l c ho
  simp only [ho, Op.operands] at hv hev hevs
  rw [← hev l (by simp), ← hevs l (by simp), ← hev c (by simp), ← hevs c (by simp)]
  exact hv
 ·rename_i t ho
  simp only [ho] at hv
  exact hv
 ·rename_i c ho
  simp only [ho] at hv
  simp only [ho, Op.operands, Call.operands] at hev hevs
  split
  ·rename_i fo hc
   simp only [hc] at hv hev hevs
   obtain ⟨f, as, h1, h2, h3, h4, h5⟩ := hv
   have hfo := hevs fo (by simp)
   have hargs : c.args.toList.map σ.evs = c.args.toList.map τ.evs := List.map_congr_left fun x hx => hevs x (by simp at hx ⊢; exact .inr hx)
   refine ⟨f, as, ?_, z0X _ (fun x hx => hev x (by simpa using hx)) h2, by rw [← h.H]; exact h3, h4, h5⟩
   unfold callee at h1 ⊢
   rw [← hfo, ← hargs]
   exact h1
  ·rename_i hc
   simp only [hc] at hv
   obtain ⟨s, x, t, t', e, rows, news, rfl, h2, h3, h0, h4, h5, h6, h7, h8, h9, h10, h11, h12, h13⟩ := hv
   have hs := hevs s (by simp)
   have hx := hevs x (by simp)
   have ks := hev s (by simp)
   have kx := hev x (by simp)
   exact ⟨s, x, t, t', e, rows, news, rfl, h2, by rw [← hx, ← h.H]; exact h3, by rw [← hx]; exact h0, by rw [← ks]; exact h4, by rw [← kx]; exact h5, h6, h7, h8, h9, h10, h11, h12, by rw [← hs, ← h.H]; exact h13⟩
  ·rename_i h1 h2
   split at hv
   ·exact absurd ‹_› (h1 _)
   ·exact absurd ‹_› h2
   ·exact hv
 ·rename_i h1 h2 h3 h4 h5
  split at hv
  ·exact absurd ‹_› (h1 _)
  ·exact absurd ‹_› (h2 _ _)
  ·exact absurd ‹_› (h3 _ _ _)
  ·exact absurd ‹_› (h4 _)
  ·exact absurd ‹_› (h5 _)
  ·exact hv
theorem zea (hT : TabOk P T) {o : Oper} {p : HdK} {obj : AObj} {kill : Option Nat} {d : Nat} (h : Sim W0 M0 F σ a w β) (hd : o.dst = some d) (hdn : d < σ.n) (hpin : ∀ k, kill = some k → σ.pin ≤ k) (hv : aVal P T o p obj kill σ)
  (hK : ∀ a' w' x, Sim W0 M0 F { n := σ.n, slots := (d, hdl p σ.H.length) :: σ.slots, H := killH kill σ.H ++ [obj], pin := σ.pin } a' w' (killB kill β ++ [x]) → Kc a' w') : o.wp P a w Kc Q := by
 have one : ∀ {τ : AState} {a' : Act} {w' : World}, τ.pin = σ.H.length → τ.H.length = σ.H.length + 1 → SimS w M0 β τ a' w' → ∃ x, Sim W0 M0 F { τ with pin := σ.pin } a' w' (β ++ [x]) := by
  rintro τ a' w' hp hl ⟨β', hs⟩
  obtain ⟨r, rfl, hs'⟩ := h.unbase hp hs
  have hlen := hs.len
  rw [hl, List.length_append, h.len] at hlen
  match r, hlen with
  | [x], _ => exact ⟨x, hs'⟩
  | [], hh => simp at hh
  | _ :: _ :: _, hh => simp at hh
 unfold aVal at hv
 split at hv
 ·rename_i e ho
  obtain ⟨hk, rfl, rfl, rfl⟩ := hv
  refine z5h (K := fun σ' => σ' = σ.pinned.pushObj d (.var e (T e).zero) (.one (.vp σ.H.length 0))) hT ho hd h.rebase ⟨⟨hk, hdn⟩, rfl⟩ ?_
  rintro σ' a' w' rfl hs
  obtain ⟨x, hs⟩ := one rfl (by simp [AState.pushObj, AState.pinned]) hs
  exact hK _ _ x hs
 ·rename_i e x ho
  obtain ⟨hn, ⟨cs, hcs, rfl⟩, rfl, rfl⟩ := hv
  have ht : tBox e x d σ.pinned (fun σ' => σ' = σ.pinned.pushObj d (.var e cs) (.one (.vp σ.H.length 0))) := by
   unfold tBox
   rw [show σ.pinned.evs x = σ.evs x from by cases x <;> rfl, hcs]
   exact ⟨⟨by rw [show σ.pinned.ev x = σ.ev x from by cases x <;> rfl]; exact hn, hdn⟩, rfl⟩
  refine z7N ho hd h.rebase ht ?_
  rintro σ' a' w' rfl hs
  obtain ⟨y, hs⟩ := one rfl (by simp [AState.pushObj, AState.pinned]) hs
  exact hK _ _ y hs
 ·rename_i t l c ho
  obtain ⟨e, n, m, h1, h2, h3, ⟨k1, k2, k3, k4, k5, k6, k7, k8⟩, rfl, rfl, rfl⟩ := hv
  have ht : tMake T t l c d σ.pinned (fun σ' => σ' = σ.pinned.pushObj d (.row e (T e).size (List.replicate n.toNat (T e).zero)) (.one (.own σ.H.length))) := by
   unfold tMake
   rw [h1, show σ.pinned.evs l = σ.evs l from by cases l <;> rfl, show σ.pinned.evs c = σ.evs c from by cases c <;> rfl, h2, h3]
   exact ⟨⟨by rw [show σ.pinned.ev l = σ.ev l from by cases l <;> rfl]; exact k1, by rw [show σ.pinned.ev c = σ.ev c from by cases c <;> rfl]; exact k2, k3, k4, k5, k6, k7, k8, hdn⟩, rfl⟩
  refine z6e hT ho hd h.rebase ht ?_
  rintro σ' a' w' rfl hs
  obtain ⟨y, hs⟩ := one rfl (by simp [AState.pushObj, AState.pinned]) hs
  exact hK _ _ y hs
 ·rename_i t ho
  obtain ⟨rfl, rfl, kt, et, h1, h2⟩ := hv
  have ht : z3m T t d σ.pinned (fun σ' => σ' = σ.pinned.pushObj d obj (.one (.mp σ.H.length))) := by
   unfold z3m
   rw [h1]
   rcases h2 with ⟨h2, rfl⟩ | ⟨k, h2, rfl⟩
   ·simp only [h2]; exact ⟨hdn, rfl⟩
   ·simp only [h2]; exact ⟨hdn, rfl⟩
  refine z3D ho hd h.rebase ht ?_
  rintro σ' a' w' rfl hs
  obtain ⟨y, hs⟩ := one rfl (by simp [AState.pushObj, AState.pinned]) hs
  exact hK _ _ y hs
 ·rename_i c ho
  obtain ⟨cal, args, ats⟩ := c
  simp only at hv
  split at hv
  ·rename_i fo
   obtain ⟨f, as, h1, h2, h3, h4, rfl, rfl⟩ := hv
   have hop : aop1 P T o σ.pinned (fun σ' => σ' = AState.put { n := σ.n, slots := σ.slots, H := σ.H ++ [obj], pin := σ.H.length } d (.one (.own σ.H.length))) := by
    unfold aop1
    simp only [hd, ho]
    unfold cstep
    have hc : callee σ.pinned fo args.toList = some (f, as) := h1
    rw [hc]
    exact ⟨.inl ⟨_, [obj], ⟨⟨z0X _ (fun x _ => by cases x <;> rfl) h2, hdn⟩, h3, h4⟩, rfl⟩⟩
   refine z3A hT h.rebase hop ?_
   rintro σ' a' w' rfl hs
   obtain ⟨y, hs⟩ := one rfl (by simp [AState.put]) hs
   exact hK _ _ y hs
  ·obtain ⟨s, x, t, t', e, rows, news, hc, hdesc, hsrc, hnn, n1, n2, hk, hsz, hrl, hby, hmx, rfl, rfl, hcase⟩ := hv
   have e1 := h.evs n1
   rcases hcase with ⟨hsn, rfl, rfl, rfl⟩ | ⟨k, hsk, hHk, rfl⟩
   ·unfold z5D at hsrc
    rw [if_pos rfl] at hsrc
    rw [hsn] at e1
    obtain ⟨A, hA⟩ : ∃ A, a.eval s = .slice A 0 0 := e1
    obtain ⟨v', w', r1, r2, r3, r4, r5⟩ := z7q (P := P) (ty := o.type) hT hdesc h A (h.evs n2) hsrc hk hsz hrl (by simpa using hby) (by simpa using hmx)
    refine upon_value (u := v') (w' := w') ?_ ?_
    ·rw [← hA] at r1
     simp [execOp, ho, hc, resolve, invoke, builtin, r1]
    ·rw [hd]
     exact hK _ _ v' (h.pushObj hdn r2 r3 r5 ⟨.inl (z1N h _), r4⟩)
   ·rw [hsk] at e1
    have hβ : β[k]? = some (a.eval s) := z0u e1 fun y hy => h.objs k _ y hHk hy
    obtain ⟨v', w', r1, r3, hnew, ⟨A', c', hv'⟩, hobj⟩ : ∃ v' w', (Builtin.append_ #[t, t'] o.type #[a.eval s, a.eval x]).run P w = .ok v' w' ∧ w.grownBy w' (hblk (a.eval s)) ∧ (∀ g, hblk v' = some g → hblk (a.eval s) = some g ∨ (w.heap.size ≤ g ∧ g < w'.heap.size)) ∧ (∃ A' c', v' = .slice A' (rows.length + news.length) c') ∧ ObjRep w' (Mof M0 (β.set k v')) (β.set k v') (.row e (T e).size (rows ++ news)) v' := by
     unfold z5D at hsrc
     split at hsrc
     ·rename_i htt
      subst htt
      exact z3z (P := P) (ty := o.type) hT hdesc h hβ hHk (fun sz hsz => z0I h (h.evs n2) hsrc hsz) hk hsz rfl hrl hby hmx
     ·split at hsrc
      ·rename_i kn kq z hdn hex
       cases hsrc
       rw [hex] at hnn
       have e2 := h.evs n2
       rw [hex] at e2
       have e2' := z03 e2
       obtain ⟨m, rfl⟩ : ∃ m : Nat, z = m := ⟨z.toNat, by have : 0 ≤ z := hnn; omega⟩
       rw [e2']
       exact z7p (P := P) (ty := o.type) hT hdesc hdn h hβ hHk hk hsz rfl (by simpa using hby) (by simpa using hmx)
      ·cases hsrc
    refine upon_value (u := v') (w' := w') ?_ ?_
    ·simp [execOp, ho, hc, resolve, invoke, builtin, r1]
    ·rw [hd]
     exact hK _ _ v' (h.use (hpin k rfl) hβ hdn r3 (drawn_run r1) hnew rfl (by rw [hv']; rfl) hobj)
  ·exact hv.elim
 ·exact hv.elim
end
end Go.Eng
namespace Go.Eng
open Go.RowKit
def dValS (P : Program) (T : Tab) (o : Oper) (v : AV) (σ : AState) : Prop :=
 match o.op with
 | .pick c x y => (pickV σ c x y).1 ∧ v = (pickV σ c x y).2
 | .call c => match c.callee with
  | .value fo => ∃ f as, callee σ fo c.args.toList = some (f, as) ∧ needs σ (fo :: c.args.toList) ∧ ACalls P f (as.map (AV.bor σ.H)) v [] ∧ z0d as v [] ∧ ∀ n, v.shift n = v
  | _ => needs σ o.op.operands.toList ∧ (aval T σ.H o.op σ.evs).1 ∧ v = (aval T σ.H o.op σ.evs).2
 | op => needs σ op.operands.toList ∧ (aval T σ.H op σ.evs).1 ∧ v = (aval T σ.H op σ.evs).2
def dYS (P : Program) (T : Tab) (ops : Array Oper) (o : Oper) (d : Nat) (v : AV) (σ : AState) : Prop :=
 o.dst = some d ∧ d < σ.n ∧
 match o.guard with
 | none => dValS P T o v σ
 | some (j, want) => (z0m ops σ j).isB = true ∧ ∃ v0, v = .cond ((z0m ops σ j).says want) v0 ∧ ((z0m ops σ j).says want = true → dValS P T o v0 σ)
def AState.at (σ : AState) (H0 : List AObj) : AState := { n := σ.n, slots := σ.slots, H := H0, pin := σ.pin }
section
variable {P : Program} {T : Tab} {W0 w : World} {M0 : Nat → Prop} {F β : List Value} {σ τ : AState} {a : Act} {ops : Array Oper} {Kc : Act → World → Prop} {Q : Exit → Act → World → Prop}
theorem zar {o : Oper} {v : AV} (h : dValS P T o v σ) : dVal P T o v σ := by
 unfold dValS at h
 unfold dVal
 split
 ·rename_i c x y ho
  simp only [ho] at h
  exact h
 ·rename_i c ho
  simp only [ho] at h
  split
  ·rename_i fo hc
   simp only [hc] at h
   obtain ⟨f, as, h1, h2, h3, h4, h5⟩ := h
   exact ⟨f, as, v, h1, h2, h3, h4, (h5 _).symm⟩
  ·rename_i hc
   split at h
   ·exact absurd ‹_› (hc _)
   ·rw [ho]; exact h
 ·rename_i h1 h2
  split at h
  ·exact absurd ‹_› (h1 _ _ _)
  ·exact absurd ‹_› (h2 _)
  ·exact h
theorem dYS_y {o : Oper} {d : Nat} {v : AV} (h : dYS P T ops o d v σ) : dY P T ops o d v σ := by
 obtain ⟨h1, h2, h3⟩ := h
 refine ⟨h1, h2, ?_⟩
 split
 ·rename_i hg
  simp only [hg] at h3
  exact zar h3
 ·rename_i j want hg
  simp only [hg] at h3
  obtain ⟨k1, v0, k2, k3⟩ := h3
  exact ⟨k1, v0, k2, fun hh => .inl (zar (k3 hh))⟩
theorem zas {o : Oper} {v : AV} {H' : List AObj} (hx : Ext σ.H H') (h : dValS P T o v σ) : dValS P T o v (σ.at H') := by
 have he : (AState.evs (σ.at H')) = σ.evs := funext fun x => evs_H H' x
 have plain : needs σ o.op.operands.toList ∧ (aval T σ.H o.op σ.evs).1 ∧ v = (aval T σ.H o.op σ.evs).2 → needs (σ.at H') o.op.operands.toList ∧ (aval T H' o.op (AState.evs (σ.at H'))).1 ∧ v = (aval T H' o.op (AState.evs (σ.at H'))).2 := by
  rintro ⟨h1, h2, h3⟩
  rw [he]
  obtain ⟨k1, k2⟩ := zg4 hx o.op σ.evs h2
  exact ⟨z27 H' _ h1, k1, by rw [k2]; exact h3⟩
 unfold dValS at h ⊢
 split
 ·rename_i c x y ho
  simp only [ho] at h
  have e : pickV (σ.at H') c x y = pickV σ c x y := by
   unfold pickV
   simp only [he]
   rw [show (σ.at H').ev c = σ.ev c from ev_H H' c, show (σ.at H').ev x = σ.ev x from ev_H H' x, show (σ.at H').ev y = σ.ev y from ev_H H' y]
  rw [e]
  exact h
 ·rename_i c ho
  simp only [ho] at h
  split
  ·rename_i fo hc
   simp only [hc] at h
   obtain ⟨f, as, h1, h2, h3, h4, h5⟩ := h
   exact ⟨f, as, by rw [show callee (σ.at H') fo c.args.toList = callee σ fo c.args.toList from z5X H' _ _]; exact h1, z27 _ _ h2, h3.more hx, h4, h5⟩
  ·rename_i hc
   split at h
   ·exact absurd ‹_› (hc _)
   ·have := plain (by rw [ho]; exact h)
    rw [ho] at this ⊢
    exact this
 ·rename_i h1 h2
  split at h
  ·exact absurd ‹_› (h1 _ _ _)
  ·exact absurd ‹_› (h2 _)
  ·exact plain h
theorem zfM {o : Oper} {d : Nat} {v : AV} {H' : List AObj} (hx : Ext σ.H H') (h : dYS P T ops o d v σ) : dYS P T ops o d v (σ.at H') := by
 obtain ⟨h1, h2, h3⟩ := h
 refine ⟨h1, h2, ?_⟩
 split
 ·rename_i hg
  simp only [hg] at h3
  exact zas hx h3
 ·rename_i j want hg
  simp only [hg] at h3
  obtain ⟨k1, v0, k2, k3⟩ := h3
  exact ⟨k1, v0, k2, fun hh => zas hx (k3 hh)⟩
theorem z75 {o : Oper} {v : AV} (h : Agree ops o σ τ) (hv : dValS P T o v σ) : dValS P T o v τ := by
 have hev : ∀ x ∈ o.op.operands.toList, σ.ev x = τ.ev x := fun x hx => h.ev hx
 have hevs : ∀ x ∈ o.op.operands.toList, σ.evs x = τ.evs x := fun x hx => by simp only [AState.evs]; rw [hev x hx]
 have plain : needs σ o.op.operands.toList ∧ (aval T σ.H o.op σ.evs).1 ∧ v = (aval T σ.H o.op σ.evs).2 → needs τ o.op.operands.toList ∧ (aval T τ.H o.op τ.evs).1 ∧ v = (aval T τ.H o.op τ.evs).2 := by
  rintro ⟨h1, h2, h3⟩
  rw [h.H, z56 _ _ _ _ hevs] at h2 h3
  exact ⟨z0X _ hev h1, h2, h3⟩
 unfold dValS at hv ⊢
 split at hv
 ·rename_i c x y ho
  simp only [ho, Op.operands] at hev hevs
  have e : pickV σ c x y = pickV τ c x y := by
   unfold pickV
   rw [hevs c (by simp), hevs x (by simp), hevs y (by simp), hev c (by simp), hev x (by simp), hev y (by simp)]
  rw [← e]
  exact hv
 ·rename_i c ho
  obtain ⟨cal, args, ats⟩ := c
  simp only at hv ⊢
  split at hv
  ·rename_i fo
   obtain ⟨f, as, h1, h2, h3, h4, h5⟩ := hv
   simp only [ho, Op.operands, Call.operands] at hev hevs
   have hfo := hevs fo (by simp)
   have hargs : args.toList.map σ.evs = args.toList.map τ.evs := List.map_congr_left fun x hx => hevs x (by simp at hx ⊢; exact .inr hx)
   refine ⟨f, as, ?_, z0X _ (fun x hx => hev x (by simpa using hx)) h2, by rw [← h.H]; exact h3, h4, h5⟩
   unfold callee at h1 ⊢
   rw [← hfo, ← hargs]
   exact h1
  ·exact plain hv
 ·exact plain hv
theorem zfN {o : Oper} {d : Nat} {v : AV} (h : Agree ops o σ τ) (hv : dYS P T ops o d v σ) : dYS P T ops o d v τ := by
 obtain ⟨h1, h2, h3⟩ := hv
 refine ⟨h1, by rw [← h.n]; exact h2, ?_⟩
 split
 ·rename_i hg
  rw [hg] at h3
  exact z75 h h3
 ·rename_i j want hg
  rw [hg] at h3
  simp only at h3
  rw [← z4r hg h]
  obtain ⟨k1, v0, k2, k3⟩ := h3
  exact ⟨k1, v0, k2, fun hh => z75 h (k3 hh)⟩
theorem zj0 (hT : TabOk P T) {o : Oper} {d : Nat} {v : AV} (h : Sim W0 M0 F σ a w β) (hv : dY P T ops o d v σ) (hK : ∀ a' w', Sim W0 M0 F (σ.put d v) a' w' β → Kc a' w') :
  if Region.wanted o (yielded ops a.tmps) = true then o.wp P a w Kc Q else Kc (a.put o.dst undef) w := by
 refine z96 (Q := Q) hT ⟨β, h.rebase⟩ (z2P (σ := σ) (τ := σ.pinned) ⟨rfl, rfl, fun _ _ => rfl⟩ hv) ?_
 rintro a' w' ⟨β', hs⟩
 obtain ⟨r, rfl, hs'⟩ := h.unbase (σ' := σ.pinned.put d v) rfl hs
 have hlen := hs.len
 have : (σ.pinned.put d v).H.length = σ.H.length := rfl
 rw [this, List.length_append, h.len] at hlen
 have : r = [] := List.eq_nil_of_length_eq_zero (by omega)
 subst this
 rw [List.append_nil] at hs'
 exact hK _ _ hs'
end
structure Up where
 d : Nat
 v : AV
 obj : Option AObj
 kill : Option Nat
def makeH (t : Nat) : Option AObj → List AObj → List AObj
 | none, H => H
 | some o, H => H.set t o
def AState.up (σ : AState) (t : Nat) (u : Up) : AState := { n := σ.n, slots := (u.d, u.v) :: σ.slots, H := makeH t u.obj (killH u.kill σ.H), pin := σ.pin }
def mY (P : Program) (T : Tab) (ops : Array Oper) (V : List AObj) (tg : Nat) (ks : List Nat) (o : Oper) (u : Up) (σ : AState) : Prop :=
 (u.obj = none ∧ u.kill = none ∧ dYS P T ops o u.d u.v (σ.at V)) ∨
 (o.guard = none ∧ o.dst = some u.d ∧ u.d < σ.n ∧ (∀ k, u.kill = some k → k ∈ ks) ∧ ∃ p obj, aVal P T o p obj u.kill (σ.at V) ∧ obj.tagsLt 0 = true ∧ ((u.v = hdl p tg ∧ u.obj = some obj) ∨ ∃ e sz rows, p = .own ∧ obj = .row e sz rows ∧ u.v = .one (.list rows) ∧ u.obj = none))
structure Free (σ : AState) (β : List Value) (t : Nat) : Prop where
 gone : σ.H[t]? = some .gone
 dum : β[t]? = some dummy
 pin : σ.pin ≤ t
section
variable {P : Program} {T : Tab} {W0 w : World} {M0 : Nat → Prop} {F β : List Value} {σ τ : AState} {a : Act} {ops : Array Oper} {V : List AObj} {Kc : Act → World → Prop} {Q : Exit → Act → World → Prop}
theorem zi2 {tg : Nat} {ks : List Nat} {o : Oper} {u : Up} (h : mY P T ops V tg ks o u σ) : o.dst = some u.d := by
 rcases h with ⟨_, _, h⟩ | ⟨_, h, _⟩
 ·exact h.1
 ·exact h
theorem zh9 {tg : Nat} {ks : List Nat} {o : Oper} {u : Up} (hn : σ.n = τ.n) (hs : ∀ i, i ∈ o.looksAt ops → lookS σ.slots i = lookS τ.slots i) (h : mY P T ops V tg ks o u σ) : mY P T ops V tg ks o u τ := by
 have ha : Agree ops o (σ.at V) (τ.at V) := ⟨hn, rfl, hs⟩
 rcases h with ⟨h1, h2, h3⟩ | ⟨h1, h2, h3, h4, p, obj, h5, h6⟩
 ·exact .inl ⟨h1, h2, zfN ha h3⟩
 ·exact .inr ⟨h1, h2, by rw [← hn]; exact h3, h4, p, obj, zeb ha h5, h6⟩
theorem zh8 (hT : TabOk P T) {o : Oper} {u : Up} {t : Nat} {ks : List Nat} (h : Sim W0 M0 F σ a w β) (hx : Ext V σ.H) (hfu : u.obj ≠ none → Free σ β t) (hks : ∀ k ∈ ks, σ.pin ≤ k ∧ k ≠ t) (hm : mY P T ops V t ks o u σ)
  (hK : ∀ a' w' β', Sim W0 M0 F (σ.up t u) a' w' β' → (∀ s, (u.obj = none ∨ s ≠ t) → (∀ k, u.kill = some k → s ≠ k) → β[s]? = some dummy → β'[s]? = some dummy) → Kc a' w') :
  if Region.wanted o (yielded ops a.tmps) = true then o.wp P a w Kc Q else Kc (a.put o.dst undef) w := by
 rcases hm with ⟨h1, h2, h3⟩ | ⟨h1, h2, h3, h4, p, obj, h5, h6, h7⟩
 ·have h3' : dY P T ops o u.d u.v σ := dYS_y (zfM (σ := σ.at V) (H' := σ.H) hx h3)
  refine zj0 (Q := Q) hT h h3' fun a' w' hs => ?_
  have e : σ.up t u = σ.put u.d u.v := by unfold AState.up; rw [h1, h2]; rfl
  exact hK a' w' β (by rw [e]; exact hs) fun s _ _ hf => hf
 ·have h5' : aVal P T o p obj u.kill σ := zhM (σ := σ.at V) (H' := σ.H) hx h5
  rw [if_pos (by simp [Region.wanted, h1])]
  refine zea hT h h2 h3 (fun k hk => (hks k (h4 k hk)).1) h5' fun a' w' x hs => ?_
  have base : Sim W0 M0 F { n := σ.n, slots := σ.slots, H := killH u.kill σ.H, pin := σ.pin } a w (killB u.kill β) := by
   cases hk : u.kill with
   | none => exact h
   | some k => exact h.kill (hks k (h4 k hk)).1
  have keepD : ∀ s, (∀ k, u.kill = some k → s ≠ k) → β[s]? = some dummy → (killB u.kill β)[s]? = some dummy := fun s hsk hfs => by
   cases hk : u.kill with
   | none => exact hfs
   | some k =>
    show (β.set k dead)[s]? = _
    rw [List.getElem?_set_ne (Ne.symm (hsk k hk))]; exact hfs
  rcases h7 with ⟨h7, h8⟩ | ⟨e, sz, rows, rfl, rfl, h7, h8⟩
  ·have hf : Free σ β t := hfu (by rw [h8]; simp)
   have hd : (killB u.kill β)[t]? = some dummy := keepD t (fun k hk => (hks k (h4 k hk)).2.symm) hf.dum
   have hs2 := base.move (d := u.d) (p := p) (obj := obj) (hd := x) hd hf.pin h6 (by
    show Sim W0 M0 F ⟨σ.n, (u.d, hdl p (killH u.kill σ.H).length) :: σ.slots, killH u.kill σ.H ++ [obj], σ.pin⟩ a' w' _
    rw [z2f]; exact hs)
   have e : σ.up t u = { n := σ.n, slots := (u.d, hdl p t) :: σ.slots, H := (killH u.kill σ.H).set t obj, pin := σ.pin } := by unfold AState.up; rw [h8, h7]; rfl
   refine hK a' w' _ (by rw [e]; exact hs2) fun s hst hsk hfs => ?_
   have hst' : s ≠ t := hst.resolve_left (by rw [h8]; simp)
   rw [List.getElem?_set_ne (Ne.symm hst')]
   exact keepD s hsk hfs
  ·have hs2 := base.popFrozen (d := u.d) (e := e) (sz := sz) (rows := rows) (hd := x) (by
    show Sim W0 M0 F ⟨σ.n, (u.d, .one (.own (killH u.kill σ.H).length)) :: σ.slots, killH u.kill σ.H ++ [.row e sz rows], σ.pin⟩ a' w' _
    rw [z2f]; exact hs)
   have e : σ.up t u = { n := σ.n, slots := (u.d, .one (.list rows)) :: σ.slots, H := killH u.kill σ.H, pin := σ.pin } := by unfold AState.up; rw [h8, h7]; rfl
   exact hK a' w' _ (by rw [e]; exact hs2) fun s _ hsk hfs => keepD s hsk hfs
end
end Go.Eng
namespace Go.Eng
open Go.RowKit
inductive Anc (md : Region.Mode) (ops : Array Oper) : Nat → Nat → Prop
 | one {j i : Nat} : Region.waitsFor md ops j i = true → Anc md ops j i
 | more {j k i : Nat} : Region.waitsFor md ops j k = true → Anc md ops k i → Anc md ops j i
def Closed (md : Region.Mode) (ops : Array Oper) (listed : Array Bool) : Prop := ∀ j oj, ops[j]? = some oj → listed.getD j false = true → ∀ e ∈ oj.after, Region.binds md e = true → listed.getD e.on false = true
section
variable {md : Region.Mode} {ops : Array Oper} {listed : Array Bool}
theorem z5f (hc : Closed md ops listed) {j i : Nat} (h : Region.waitsFor md ops j i = true) (hj : listed.getD j false = true) : listed.getD i false = true := by
 obtain ⟨oj, hoj, e, he, hb, rfl⟩ := Region.waitsFor_spec h
 exact hc j oj hoj hj e he hb
theorem Anc.lst (hc : Closed md ops listed) {j i : Nat} (h : Anc md ops j i) : listed.getD j false = true → listed.getD i false = true := by
 induction h with
 | one h => exact z5f hc h
 | more h _ ih => exact fun hj => ih (z5f hc h hj)
theorem z63 {j i : Nat} (h : Region.waitsFor md ops j i = true) (hj : j ∈ Region.ready md ops listed) : listed.getD i false = true := by
 obtain ⟨oj, hoj, e, he, hb, rfl⟩ := Region.waitsFor_spec h
 obtain ⟨_, o, ho, hall⟩ := mem_ready.1 hj
 have : o = oj := Option.some.inj (ho.symm.trans hoj)
 subst this
 exact hall e he hb
theorem Anc.ready (hc : Closed md ops listed) {j i : Nat} (h : Anc md ops j i) (hj : j ∈ Region.ready md ops listed) : listed.getD i false = true := by
 cases h with
 | one h => exact z63 h hj
 | more h h2 => exact h2.lst hc (z63 h hj)
theorem Closed.set (hc : Closed md ops listed) {i : Nat} (hi : i ∈ Region.ready md ops listed) : Closed md ops (listed.setIfInBounds i true) := by
 obtain ⟨_, oi, hoi, hall⟩ := mem_ready.1 hi
 intro j oj hj hl e he hb
 by_cases hij : i = j
 ·subst hij
  have : oj = oi := Option.some.inj (hj.symm.trans hoi)
  subst this
  exact getD_set_true (hall e he hb)
 ·rw [getD_set_ne false hij] at hl
  exact getD_set_true (hc j oj hj hl e he hb)
end
def ancUp (md : Region.Mode) (ops : Array Oper) (i : Nat) : List (Nat × List Nat) → List Nat
 | [] => []
 | jp :: A => bif Region.waitsFor md ops i jp.1 then jp.1 :: (jp.2 ++ ancUp md ops i A) else ancUp md ops i A
def zbQ (md : Region.Mode) (ops : Array Oper) : List Nat → List (Nat × List Nat) → List (Nat × List Nat)
 | [], A => A
 | i :: is, A => zbQ md ops is ((i, ancUp md ops i A) :: A)
def ancOf : List (Nat × List Nat) → Nat → List Nat
 | [], _ => []
 | jp :: A, j => if jp.1 = j then jp.2 else ancOf A j
def ancB (A : List (Nat × List Nat)) (j i : Nat) : Bool := memN i (ancOf A j)
def AncOk (md : Region.Mode) (ops : Array Oper) (A : List (Nat × List Nat)) : Prop := ∀ jp ∈ A, ∀ i ∈ jp.2, Anc md ops jp.1 i
section
variable {md : Region.Mode} {ops : Array Oper}
theorem z9j (i : Nat) : ∀ (A : List (Nat × List Nat)), AncOk md ops A → ∀ k ∈ ancUp md ops i A, Anc md ops i k
 | [], _, k, hk => by cases hk
 | jp :: A, h, k, hk => by
  simp only [ancUp] at hk
  cases hw : Region.waitsFor md ops i jp.1 with
  | false => rw [hw] at hk; exact z9j i A (fun x hx => h x (by simp [hx])) k hk
  | true =>
   rw [hw] at hk
   simp only [cond_true, List.mem_cons, List.mem_append] at hk
   rcases hk with rfl | hk | hk
   ·exact .one hw
   ·exact .more hw (h jp (by simp) k hk)
   ·exact z9j i A (fun x hx => h x (by simp [hx])) k hk
theorem z59 : ∀ (is : List Nat) (A : List (Nat × List Nat)), AncOk md ops A → AncOk md ops (zbQ md ops is A)
 | [], _, h => h
 | i :: is, A, h => z59 is _ fun jp hjp k hk => by
  simp only [List.mem_cons] at hjp
  rcases hjp with rfl | hjp
  ·exact z9j i A h k hk
  ·exact h jp hjp k hk
theorem zaP : ∀ (A : List (Nat × List Nat)) (j : Nat), ancOf A j = [] ∨ (j, ancOf A j) ∈ A
 | [], _ => .inl rfl
 | jp :: A, j => by
  simp only [ancOf]
  split
  ·rename_i h; right; simp [← h]
  ·exact (zaP A j).imp id fun h => by simp [h]
theorem z5a {A : List (Nat × List Nat)} (hA : AncOk md ops A) {j i : Nat} (h : ancB A j i = true) : Anc md ops j i := by
 have hm := memN_iff.1 h
 rcases zaP A j with h0 | h0
 ·rw [h0] at hm; cases hm
 ·exact hA _ h0 i hm
end
structure PE where
 i : Nat
 c : Nat
 mkr : Bool
 tk : Bool
 fz : Bool
 hs : List Nat
 ks : List Nat
def pe (i : Nat) : PE := ⟨i, 0, false, false, false, [], []⟩
structure Ent where
 e : PE
 u : Up
def hideH : List Nat → List AObj → List AObj
 | [], H => H
 | t :: ts, H => hideH ts (H.set t .gone)
theorem zab : ∀ (ts : List Nat) (H : List AObj) (t : Nat) (o : AObj), (hideH ts H)[t]? = some o → o ≠ .gone → H[t]? = some o ∧ t ∉ ts
 | [], _, _, _, h, _ => ⟨h, by simp⟩
 | s :: ts, H, t, o, h, hg => by
  obtain ⟨h1, h2⟩ := zab ts _ t o h hg
  by_cases hst : s = t
  ·subst hst
   rw [List.getElem?_set_self (by have := (List.getElem?_eq_some_iff.1 h1).1; simpa using this)] at h1
   cases h1; exact absurd rfl hg
  ·rw [List.getElem?_set_ne hst] at h1
   exact ⟨h1, by simp only [List.mem_cons, not_or]; exact ⟨fun e => hst e.symm, h2⟩⟩
def mkB : Op → Bool
 | .alloc _ => true
 | .box .. => true
 | .makeSlice .. => true
 | .makeMap .. => true
 | .call c => match c.callee with | .value _ => true | .builtin .append => true | _ => false
 | _ => false
theorem zje {P : Program} {T : Tab} {o : Oper} {p : HdK} {obj : AObj} {kill : Option Nat} {σ : AState} (h : aVal P T o p obj kill σ) : mkB o.op = true := by
 unfold aVal at h
 split at h
 ·rename_i ho; rw [ho]; rfl
 ·rename_i ho; rw [ho]; rfl
 ·rename_i ho; rw [ho]; rfl
 ·rename_i ho; rw [ho]; rfl
 ·rename_i c ho
  rw [ho]
  split at h
  ·rename_i hc; simp [mkB, hc]
  ·rename_i hc; simp [mkB, hc]
  ·exact h.elim
 ·exact h.elim
def AState.reserve (σ : AState) (m : Nat) : AState := { n := σ.n, slots := σ.slots, H := σ.H ++ List.replicate m .gone, pin := σ.pin }
structure JS (n0 : Nat) (σ0 : AState) (L : List Ent) (S : Nat → Prop) (σ : AState) : Prop where
 n : σ.n = σ0.n
 pin : σ.pin = σ0.pin
 len : σ.H.length = σ0.H.length
 done : ∀ x ∈ L, S x.e.i → lookS σ.slots x.u.d = some x.u.v
 rest : ∀ s, (∀ x ∈ L, S x.e.i → x.u.d ≠ s) → lookS σ.slots s = lookS σ0.slots s
 old : ∀ t, t < n0 → σ.H[t]? = σ0.H[t]?
 made : ∀ x ∈ L, S x.e.i → ∀ o, x.u.obj = some o → (∀ y ∈ L, S y.e.i → y.u.kill ≠ some (n0 + x.e.c)) → σ.H[n0 + x.e.c]? = some o
 new : ∀ t o, n0 ≤ t → σ.H[t]? = some o → o = .gone ∨ ∃ x ∈ L, S x.e.i ∧ t = n0 + x.e.c ∧ x.u.obj = some o ∧ ∀ y ∈ L, S y.e.i → y.u.kill ≠ some t
structure PlanOk (md : Region.Mode) (ops : Array Oper) (n0 : Nat) (len : Nat) (L : List Ent) : Prop where
 dst : ∀ x ∈ L, ∀ y ∈ L, x.u.d = y.u.d → x = y
 idx : ∀ x ∈ L, ∀ y ∈ L, x.e.i = y.e.i → x = y
 tag : ∀ x ∈ L, ∀ y ∈ L, x.e.mkr = true → y.e.mkr = true → x.e.c = y.e.c → x = y
 made : ∀ x ∈ L, x.u.obj ≠ none → x.e.mkr = true
 room : ∀ x ∈ L, n0 + x.e.c < len ∨ x.u.obj = none
 kill : ∀ x ∈ L, ∀ k, x.u.kill = some k → ∃ y ∈ L, k = n0 + y.e.c ∧ y.e.mkr = true ∧ y ≠ x ∧ Anc md ops x.e.i y.e.i
section
variable {md : Region.Mode} {ops : Array Oper} {n0 : Nat} {σ0 σ τ : AState} {L : List Ent} {S : Nat → Prop}
theorem z6D {t s : Nat} {o : Option AObj} {H : List AObj} (h : o = none ∨ s ≠ t) : (makeH t o H)[s]? = H[s]? := by
 cases o with
 | none => rfl
 | some x => exact List.getElem?_set_ne (Ne.symm (h.resolve_left (by simp)))
theorem z6H {k : Option Nat} {s : Nat} {H : List AObj} (h : k ≠ some s) : (killH k H)[s]? = H[s]? := by
 cases k with
 | none => rfl
 | some x => exact List.getElem?_set_ne (fun e => h (by rw [e]))
theorem z5s (t : Nat) (o : Option AObj) (H : List AObj) : (makeH t o H).length = H.length := by cases o <;> simp [makeH]
theorem JS.congr {S' : Nat → Prop} (h : JS n0 σ0 L S σ) (hS : ∀ x ∈ L, S x.e.i ↔ S' x.e.i) : JS n0 σ0 L S' σ :=
 ⟨h.n, h.pin, h.len, fun x hx hs => h.done x hx ((hS x hx).2 hs), fun s hs => h.rest s fun x hx hs' => hs x hx ((hS x hx).1 hs'), h.old,
  fun x hx hs o ho hk => h.made x hx ((hS x hx).2 hs) o ho fun y hy hy' => hk y hy ((hS y hy).1 hy'),
  fun t o ht ho => (h.new t o ht ho).imp id fun ⟨x, hx, h1, h2, h3, h4⟩ => ⟨x, hx, (hS x hx).1 h1, h2, h3, fun y hy hy' => h4 y hy ((hS y hy).2 hy')⟩⟩
theorem JS.init (hr : ∀ t o, n0 ≤ t → σ0.H[t]? = some o → o = .gone) : JS n0 σ0 L (fun _ => False) σ0 :=
 ⟨rfl, rfl, rfl, fun _ _ h => h.elim, fun _ _ => rfl, fun _ _ => rfl, fun _ _ h => h.elim, fun t o ht ho => .inl (hr t o ht ho)⟩
theorem JS.step (G : PlanOk md ops n0 σ0.H.length L) (h : JS n0 σ0 L S σ) {x : Ent} (hx : x ∈ L) (hn : ¬ S x.e.i) (hpre : ∀ y ∈ L, Anc md ops x.e.i y.e.i → S y.e.i) (hcl : ∀ y ∈ L, S y.e.i → ∀ z ∈ L, Anc md ops y.e.i z.e.i → S z.e.i) :
  JS n0 σ0 L (fun i => S i ∨ i = x.e.i) (σ.up (n0 + x.e.c) x.u) := by
 have isx : ∀ y ∈ L, y.e.i = x.e.i → y = x := fun y hy e => G.idx y hy x hx e
 refine ⟨h.n, h.pin, ?_, fun y hy hs => ?_, fun s hs => ?_, fun t ht => ?_, fun y hy hs o ho hk => ?_, fun t o ht ho => ?_⟩
 ·show (makeH _ _ (killH _ _)).length = _
  rw [z5s, z2f, h.len]
 ·show lookS ((x.u.d, x.u.v) :: σ.slots) y.u.d = _
  simp only [lookS]
  split
  ·rename_i e
   rw [G.dst x hx y hy e]
  ·rename_i hne
   rcases hs with hs | hs
   ·exact h.done y hy hs
   ·exact absurd (by rw [isx y hy hs]) hne
 ·show lookS ((x.u.d, x.u.v) :: σ.slots) s = _
  simp only [lookS]
  rw [if_neg (hs x hx (.inr rfl))]
  exact h.rest s fun y hy hs' => hs y hy (.inl hs')
 ·show (makeH _ _ (killH _ _))[t]? = _
  rw [z6D (.inr (by omega)), z6H, h.old t ht]
  intro e
  obtain ⟨y, _, rfl, _⟩ := G.kill x hx _ e
  omega
 ·show (makeH _ _ (killH _ _))[n0 + y.e.c]? = _
  by_cases hyx : y = x
  ·subst hyx
   rw [ho]
   have := (G.room y hy).resolve_right (by rw [ho]; simp)
   exact List.getElem?_set_self (by rw [z2f, h.len]; exact this)
  ·have hsy : S y.e.i := hs.resolve_right fun e => hyx (isx y hy e)
   rw [z6D, z6H]
   ·exact h.made y hy hsy o ho fun z hz hz' => hk z hz (.inl hz')
   ·exact hk x hx (.inr rfl)
   ·cases hxo : x.u.obj with
    | none => exact .inl rfl
    | some o' => exact .inr fun e => hyx (G.tag y hy x hx (G.made y hy (by rw [ho]; simp)) (G.made x hx (by rw [hxo]; simp)) (by omega))
 ·have ho' : (makeH (n0 + x.e.c) x.u.obj (killH x.u.kill σ.H))[t]? = some o := ho
  by_cases hxo : x.u.obj = none ∨ t ≠ n0 + x.e.c
  ·rw [z6D hxo] at ho'
   by_cases hkt : x.u.kill = some t
   ·left
    rw [hkt] at ho'
    have hl := (List.getElem?_eq_some_iff.1 ho').1
    rw [show killH (some t) σ.H = σ.H.set t .gone from rfl, List.getElem?_set_self (by simpa [killH] using hl)] at ho'
    cases ho'; rfl
   ·rw [z6H hkt] at ho'
    refine (h.new t o ht ho').imp id fun ⟨y, hy, h1, h2, h3, h4⟩ => ⟨y, hy, .inl h1, h2, h3, fun z hz hz' => ?_⟩
    rcases hz' with hz' | hz'
    ·exact h4 z hz hz'
    ·rw [isx z hz hz']; exact hkt
  ·have hxn : x.u.obj ≠ none := fun e => hxo (.inl e)
   have htx : t = n0 + x.e.c := Classical.byContradiction fun e => hxo (.inr e)
   right
   refine ⟨x, hx, .inr rfl, htx, ?_, fun z hz hz' hzk => ?_⟩
   ·cases hob : x.u.obj with
    | none => exact absurd hob hxn
    | some o' =>
     rw [hob, htx] at ho'
     have hl : n0 + x.e.c < (killH x.u.kill σ.H).length := by
      have := (List.getElem?_eq_some_iff.1 ho').1
      rwa [z5s] at this
     rw [show makeH (n0 + x.e.c) (some o') (killH x.u.kill σ.H) = (killH x.u.kill σ.H).set (n0 + x.e.c) o' from rfl, List.getElem?_set_self hl] at ho'
     exact ho'
   ·obtain ⟨y, hy, e1, e2, e3, e4⟩ := G.kill z hz _ hzk
    have hyx : y = x := G.tag y hy x hx e2 (G.made x hx hxn) (by omega)
    subst hyx
    rcases hz' with hz' | hz'
    ·exact hn (hcl z hz hz' y hy e4)
    ·exact e3 (isx z hz hz').symm
theorem JS.like (h : JS n0 σ0 L S σ) (k : JS n0 σ0 L S τ) : Like σ τ := by
 have half : ∀ (σ τ : AState), JS n0 σ0 L S σ → JS n0 σ0 L S τ → ∀ (t : Nat) (o : AObj), σ.H[t]? = some o → o ≠ .gone → τ.H[t]? = some o := by
  intro σ τ h k t o ho hg
  by_cases ht : t < n0
  ·rw [k.old t ht, ← h.old t ht]; exact ho
  ·rcases h.new t o (by omega) ho with h0 | ⟨x, hx, h1, rfl, h3, h4⟩
   ·exact absurd h0 hg
   ·exact k.made x hx h1 o h3 h4
 refine ⟨h.n.trans k.n.symm, List.ext_getElem? fun t => ?_, h.pin.trans k.pin.symm, fun s => ?_⟩
 ·have hlen : σ.H.length = τ.H.length := h.len.trans k.len.symm
  by_cases ht : t < σ.H.length
  ·have e1 := List.getElem?_eq_getElem ht
   have e2 := List.getElem?_eq_getElem (hlen ▸ ht : t < τ.H.length)
   by_cases g1 : σ.H[t] = .gone
   ·by_cases g2 : τ.H[t]'(hlen ▸ ht) = .gone
    ·rw [e1, e2, g1, g2]
    ·rw [half τ σ k h t _ e2 g2, e2]
   ·rw [half σ τ h k t _ e1 g1, e1]
  ·rw [List.getElem?_eq_none (by omega), List.getElem?_eq_none (by omega)]
 ·by_cases hs : ∃ x ∈ L, S x.e.i ∧ x.u.d = s
  ·obtain ⟨x, hx, h1, rfl⟩ := hs
   rw [h.done x hx h1, k.done x hx h1]
  ·have hs' : ∀ x ∈ L, S x.e.i → x.u.d ≠ s := fun x hx h1 h2 => hs ⟨x, hx, h1, h2⟩
   rw [h.rest s hs', k.rest s hs']
end
structure Seen (P : Program) (T : Tab) (md : Region.Mode) (ops : Array Oper) (n0 : Nat) (σ0 : AState) (L : List Ent) (x : Ent) : Prop where
 out : ∃ (o : Oper) (σx : AState) (Sx : Nat → Prop), ops[x.e.i]? = some o ∧ JS n0 σ0 L Sx σx ∧ mY P T ops (hideH (x.e.hs.map (n0 + ·)) σx.H) (n0 + x.e.c) (x.e.ks.map (n0 + ·)) o x.u σx ∧
  (∀ s ∈ o.looksAt ops, ∀ y ∈ L, y.u.d = s → Sx y.e.i ∧ Region.waitsFor md ops x.e.i y.e.i = true) ∧
  (∀ y ∈ L, Sx y.e.i → y.e.mkr = true → y.e.c ∉ x.e.hs → Anc md ops x.e.i y.e.i ∧ ∀ z ∈ L, z.u.kill = some (n0 + y.e.c) → z = x ∨ Anc md ops z.e.i x.e.i)
section
variable {P : Program} {T : Tab} {W0 w : World} {M0 : Nat → Prop} {F β : List Value} {σ τ σ0 : AState} {a : Act} {md : Region.Mode} {ops : Array Oper} {Q : Exit → Act → World → Prop} {L : List Ent} {n0 : Nat}
theorem Seen.now {S : Nat → Prop} (G : PlanOk md ops n0 σ0.H.length L) {x : Ent} (hx : x ∈ L) (hs : Seen P T md ops n0 σ0 L x) (h : JS n0 σ0 L S σ) (hn : ¬ S x.e.i) (hw : ∀ y ∈ L, Anc md ops x.e.i y.e.i → S y.e.i) (hcl : ∀ y ∈ L, S y.e.i → ∀ z ∈ L, Anc md ops y.e.i z.e.i → S z.e.i) :
  ∃ (o : Oper) (V : List AObj), ops[x.e.i]? = some o ∧ Ext V σ.H ∧ mY P T ops V (n0 + x.e.c) (x.e.ks.map (n0 + ·)) o x.u σ := by
 obtain ⟨o, σx, Sx, ho, hj, hm, hl, hv⟩ := hs.out
 refine ⟨o, _, ho, ?_, zh9 (hj.n.trans h.n.symm) (fun s hs => ?_) hm⟩
 ·intro t ob ht hg
  obtain ⟨h1, h2⟩ := zab _ _ _ _ ht hg
  by_cases hlt : t < n0
  ·rw [h.old t hlt, ← hj.old t hlt]; exact h1
  ·rcases hj.new t ob (by omega) h1 with h0 | ⟨y, hy, k1, rfl, k3, k4⟩
   ·exact absurd h0 hg
   ·have hmk := G.made y hy (by rw [k3]; simp)
    obtain ⟨q1, q2⟩ := hv y hy k1 hmk fun hin => h2 (List.mem_map.2 ⟨_, hin, rfl⟩)
    refine h.made y hy (hw y hy q1) ob k3 fun z hz hzs hzk => ?_
    rcases q2 z hz hzk with rfl | hanc
    ·exact hn hzs
    ·exact hn (hcl z hz hzs x hx hanc)
 ·by_cases hd : ∃ y ∈ L, y.u.d = s
  ·obtain ⟨y, hy, hys⟩ := hd
   obtain ⟨q1, q2⟩ := hl s hs y hy hys
   subst hys
   rw [hj.done y hy q1, h.done y hy (hw y hy (.one q2))]
  ·have hd' : ∀ y ∈ L, y.u.d ≠ s := fun y hy e => hd ⟨y, hy, e⟩
   rw [hj.rest s fun y hy _ => hd' y hy, h.rest s fun y hy _ => hd' y hy]
def takeB (o : Oper) : Bool := o.guard.isNone && match o.op with | .move _ => true | .assign _ => true | .extract .. => true | .fieldAddr .. => true | .slice .. => true | _ => false
theorem zd7 (hT : TabOk P T) {V : List AObj} {o : Oper} {u : Up} {t : Nat} {ks : List Nat} (h : Sim W0 M0 F σ a w β) (hx : Ext V σ.H) (htk : takeB o = true) (hm : mY P T ops V t ks o u σ) : ∃ x, Yields P ops o x a ∧ Sim W0 M0 F (σ.up t u) (a.put o.dst x) w β := by
 simp only [takeB, Bool.and_eq_true, Option.isNone_iff_eq_none] at htk
 obtain ⟨hg, hop⟩ := htk
 have hw : Region.wanted o (yielded ops a.tmps) = true := by simp [Region.wanted, hg]
 rcases hm with ⟨h1, h2, h3⟩ | ⟨_, _, _, _, p, obj, h5, _⟩
 ·have h3' : dYS P T ops o u.d u.v σ := zfM (σ := σ.at V) (H' := σ.H) hx h3
  obtain ⟨hd, hdn, hv⟩ := h3'
  rw [hg] at hv
  have e : σ.up t u = σ.put u.d u.v := by unfold AState.up; rw [h1, h2]; rfl
  rw [e, hd]
  simp only at hv
  unfold dValS at hv
  split at hv
  ·rename_i ho; rw [ho] at hop; cases hop
  ·rename_i ho; rw [ho] at hop; cases hop
  ·obtain ⟨hn, hav, hve⟩ := hv
   rw [hve]
   split at hop
   ·rename_i x ho
    rw [ho] at hn ⊢
    exact ⟨a.eval x, .inl ⟨hw, fun w' => by simp [execOp, ho]⟩, h.put hdn (h.evs (z0W _ _ hn x (by simp [Op.operands])))⟩
   ·rename_i x ho
    rw [ho] at hn ⊢
    exact ⟨a.eval x, .inl ⟨hw, fun w' => by simp [execOp, ho]⟩, h.put hdn (h.evs (z0W _ _ hn x (by simp [Op.operands])))⟩
   ·rename_i x i ho
    rw [ho] at hn hav ⊢
    have hr := h.evs (z0W _ _ hn x (by simp [Op.operands]))
    simp only [aval] at hav ⊢
    unfold z3t at hav ⊢
    split at hav
    ·rename_i vs hev
     rw [hev] at hr
     obtain ⟨us, hus, hl⟩ := hr
     have hgv := RepVL.get vs us hl
     have hlt : i < us.length := by rw [← hgv.1]; exact hav
     exact ⟨us.getD i undef, .inl ⟨hw, fun w' => by simp [execOp, ho, hus, Instr.extract, List.getElem?_eq_getElem hlt]⟩, h.put hdn (hgv.2 i _ _ (getD_some hav _) (getD_some hlt _))⟩
    ·exact hav.elim
   ·rename_i t' x f ho
    rw [ho] at hn hav ⊢
    obtain ⟨y, k1, k2⟩ := z1p (P := P) hT h.objs t' f _ _ (h.evs (z0W _ _ hn x (by simp [Op.operands]))) hav
    exact ⟨y, .inl ⟨hw, fun w' => by simp [execOp, ho, k1]⟩, h.put hdn k2⟩
   ·rename_i t' x lo hi mx ho
    rw [ho] at hn hav ⊢
    have hev : ∀ y, y ∈ (Op.slice t' x lo hi mx).operands.toList → RepV w (Mof M0 β) β (σ.evs y) (a.eval y) := fun y hy => h.evs (z0W _ _ hn y hy)
    obtain ⟨l1, l2⟩ := optEv (w := w) (M := Mof M0 β) (β := β) (ev := σ.evs) (ρ := a.eval) (lo := lo) (fun x hx => hev x (by simp [Op.operands, hx]))
    obtain ⟨h1', h2'⟩ := optEv (w := w) (M := Mof M0 β) (β := β) (ev := σ.evs) (ρ := a.eval) (lo := hi) (fun x hx => hev x (by simp [Op.operands, hx]))
    obtain ⟨m1, m2⟩ := optEv (w := w) (M := Mof M0 β) (β := β) (ev := σ.evs) (ρ := a.eval) (lo := mx) (fun x hx => hev x (by simp [Op.operands, hx]))
    obtain ⟨y, k1, k2⟩ := z4h (P := P) hT t' _ _ _ _ _ _ _ _ (hev x (by simp [Op.operands])).denil l1 l2 h1' h2' m2 m1 hav
    exact ⟨y, .inl ⟨hw, fun w' => by simp [execOp, ho, k1]⟩, h.put hdn k2⟩
   ·cases hop
 ·exfalso
  unfold aVal at h5
  split at hop
  ·rename_i ho; rw [ho] at h5; exact h5
  ·rename_i ho; rw [ho] at h5; exact h5
  ·rename_i ho; rw [ho] at h5; exact h5
  ·rename_i ho; rw [ho] at h5; exact h5
  ·rename_i ho; rw [ho] at h5; exact h5
  ·cases hop
structure Mid (md : Region.Mode) (ops : Array Oper) (L : List Ent) (later : List Nat) (LF : Array Bool) (rem : List Nat) (listed : Array Bool) : Prop where
 size : listed.size = ops.size
 closed : Closed md ops listed
 look : ∀ j, listed.getD j true = if j ∈ rem then false else LF.getD j true
 cover : ∀ j, j < ops.size → listed.getD j true = false → j ∈ rem ∨ j ∈ later
theorem ziK (hT : TabOk P T) (hsel : Region.noSelect ops = true) (hQp : ∀ c a w, ¬ Q (.panic c) a w) {later : List Nat} {LF : Array Bool} {g : Nat} (G : PlanOk md ops n0 σ0.H.length L) (hseen : ∀ x ∈ L, Seen P T md ops n0 σ0 L x) (hpin : σ0.pin ≤ n0)
  (hLF : LF.size = ops.size) (hin : ∀ x ∈ L, x.e.i < ops.size ∧ LF.getD x.e.i true = true) (hlater : ∀ t ∈ later, ∀ x ∈ L, x.e.tk = false → Anc md ops t x.e.i)
  (htk : ∀ x ∈ L, x.e.tk = true → ∃ o, ops[x.e.i]? = some o ∧ takeB o = true ∧ ∀ j, (j ∈ later ∨ ∃ y ∈ L, y.e.i = j) → j = x.e.i ∨ Region.waitsFor md ops j x.e.i = true ∨ Anc md ops x.e.i j ∨ ∀ oj, ops[j]? = some oj → o.apart ops oj = true)
  (hfirst : ∀ rem listed, rem ≠ [] → (∀ i ∈ rem, ∃ x ∈ L, x.e.i = i) → Mid md ops L later LF rem listed → ∃ i ∈ rem, i ∈ Region.ready md ops listed)
  (hks : ∀ x ∈ L, ∀ c ∈ x.e.ks, c ≠ x.e.c)
  (hend : ∀ σ a w, JS n0 σ0 L (fun _ => True) σ → SimS W0 M0 F σ a w → wpAny P md ops Q g LF a w) :
  ∀ (f : Nat) (rem : List Nat) (listed : Array Bool) (σ : AState) (a : Act) (w : World) (β : List Value), rem.length = f → rem.Nodup → (∀ i ∈ rem, ∃ x ∈ L, x.e.i = i) → Sim W0 M0 F σ a w β → JS n0 σ0 L (fun i => i ∉ rem) σ →
   (∀ x ∈ L, x.e.i ∈ rem → x.e.mkr = true → β[n0 + x.e.c]? = some dummy) → Mid md ops L later LF rem listed → wpAny P md ops Q (f + g) listed a w := by
 intro f
 induction f with
 | zero =>
  intro rem listed σ a w β hl hnd hrem hs hj _ hm
  have h0 : rem = [] := List.eq_nil_of_length_eq_zero hl
  subst h0
  have : listed = LF := by
   apply Array.ext_getElem?
   intro j
   have hlook := hm.look j
   simp only [List.not_mem_nil, if_false] at hlook
   by_cases hjs : j < ops.size
   ·have h1 : j < listed.size := by rw [hm.size]; exact hjs
    have h2 : j < LF.size := by rw [hLF]; exact hjs
    simp [h1, h2] at hlook ⊢
    exact hlook
   ·rw [Array.getElem?_eq_none (by rw [hm.size]; omega), Array.getElem?_eq_none (by rw [hLF]; omega)]
  rw [this, Nat.zero_add]
  exact hend σ a w (hj.congr fun x _ => by simp) ⟨β, hs⟩
 | succ f ih =>
  intro rem listed σ a w β hl hnd hrem hs hj hdum hm
  rw [show f + 1 + g = (f + g) + 1 by omega]
  have hne : rem ≠ [] := by intro e; rw [e] at hl; simp at hl
  have unl : ∀ j ∈ rem, listed.getD j true = false := fun j hj => by rw [hm.look j, if_pos hj]
  have lst : ∀ x ∈ L, x.e.i ∉ rem → listed.getD x.e.i false = true := fun x hx hr => by
   have h1 := hm.look x.e.i
   rw [if_neg hr, (hin x hx).2] at h1
   have h2 : x.e.i < listed.size := by rw [hm.size]; exact (hin x hx).1
   simp [h2] at h1 ⊢
   exact h1
  have unl2 : ∀ x ∈ L, listed.getD x.e.i false = true → x.e.i ∉ rem := fun x hx h1 h2 => by
   rw [getD_both (unl _ h2)] at h1; cases h1
  have next : ∀ x ∈ L, x.e.i ∈ rem → x.e.i ∈ Region.ready md ops listed → ∀ a' w' β', Sim W0 M0 F (σ.up (n0 + x.e.c) x.u) a' w' β' → (∀ s, (x.u.obj = none ∨ s ≠ n0 + x.e.c) → (∀ k, x.u.kill = some k → s ≠ k) → β[s]? = some dummy → β'[s]? = some dummy) →
    wpAny P md ops Q (f + g) (listed.setIfInBounds x.e.i true) a' w' := by
   intro x hx hir hi a' w' β' hs' hd'
   have his : x.e.i < ops.size := (hin x hx).1
   have hw : ∀ y ∈ L, Anc md ops x.e.i y.e.i → y.e.i ∉ rem := fun y hy ha => unl2 y hy (ha.ready hm.closed hi)
   have hcl : ∀ y ∈ L, y.e.i ∉ rem → ∀ z ∈ L, Anc md ops y.e.i z.e.i → z.e.i ∉ rem := fun y hy hyr z hz ha => unl2 z hz (ha.lst hm.closed (lst y hy hyr))
   have hj' := hj.step G hx (fun h => h hir) hw hcl
   have hmem : ∀ j, j ∈ rem.erase x.e.i ↔ j ≠ x.e.i ∧ j ∈ rem := fun j => hnd.mem_erase_iff
   refine ih (rem.erase x.e.i) _ (σ.up (n0 + x.e.c) x.u) a' w' β' (by rw [List.length_erase_of_mem hir, hl]; rfl) (hnd.erase _) (fun j hjm => hrem j ((hmem j).1 hjm).2) hs' (hj'.congr fun y _ => ?_) (fun y hy hyr hmk => ?_) ⟨by simp [hm.size], hm.closed.set hi, fun j => ?_, fun j hjs hju => ?_⟩
   ·rw [hmem]
    constructor
    ·rintro (h1 | h1)
     ·exact fun h2 => h1 h2.2
     ·exact fun h2 => h2.1 h1
    ·intro h1
     by_cases h2 : y.e.i ∈ rem
     ·exact .inr (Classical.byContradiction fun h3 => h1 ⟨h3, h2⟩)
     ·exact .inl h2
   ·obtain ⟨k1, k2⟩ := (hmem _).1 hyr
    refine hd' _ ?_ (fun k hk e => ?_) (hdum y hy k2 hmk)
    ·by_cases hob : x.u.obj = none
     ·exact .inl hob
     ·exact .inr fun e => k1 (by rw [G.tag y hy x hx hmk (G.made x hx hob) (by omega)])
    ·obtain ⟨z, hz, z1, z2, z3, z4⟩ := G.kill x hx k hk
     have : y = z := G.tag y hy z hz hmk z2 (by omega)
     subst this
     exact hw y hy z4 k2
   ·by_cases hjx : x.e.i = j
    ·subst hjx
     rw [if_neg (by rw [hmem]; exact fun h => h.1 rfl), (hin x hx).2]
     have : x.e.i < listed.size := by rw [hm.size]; exact his
     simp [this]
    ·rw [getD_set_ne true hjx, hm.look j]
     by_cases hjr : j ∈ rem
     ·rw [if_pos hjr, if_pos ((hmem j).2 ⟨fun e => hjx e.symm, hjr⟩)]
     ·rw [if_neg hjr, if_neg (fun h => hjr ((hmem j).1 h).2)]
   ·by_cases hjx : x.e.i = j
    ·subst hjx
     have : x.e.i < listed.size := by rw [hm.size]; exact his
     simp [this] at hju
    ·rw [getD_set_ne true hjx] at hju
     rcases hm.cover j hjs hju with h | h
     ·exact .inl ((hmem j).2 ⟨fun e => hjx e.symm, h⟩)
     ·exact .inr h
  have facts : ∀ x ∈ L, x.e.i ∈ rem → x.e.i ∈ Region.ready md ops listed → ∃ (o : Oper) (V : List AObj), ops[x.e.i]? = some o ∧ Ext V σ.H ∧ mY P T ops V (n0 + x.e.c) (x.e.ks.map (n0 + ·)) o x.u σ := by
   intro x hx hir hi
   exact (hseen x hx).now G hx hj (fun h => h hir) (fun y hy ha => unl2 y hy (ha.ready hm.closed hi)) (fun y hy hyr z hz ha => unl2 z hz (ha.lst hm.closed (lst y hy hyr)))
  by_cases htake : ∃ x ∈ L, x.e.tk = true ∧ x.e.i ∈ rem ∧ x.e.i ∈ Region.ready md ops listed
  ·obtain ⟨x, hx, hxt, hir, hi⟩ := htake
   obtain ⟨o, ho, ht, hap⟩ := htk x hx hxt
   obtain ⟨o', V, ho', hext, hmy⟩ := facts x hx hir hi
   have : o' = o := Option.some.inj (ho'.symm.trans ho)
   subst this
   obtain ⟨v, hy, hs'⟩ := zd7 hT hs hext ht hmy
   refine wpAny_first ho (Region.noSelect_spec hsel) (fun c a w hq => (hQp c _ w hq).elim) (f + g) listed a w (fun j oj hoj hne' hun hno => ?_) hi hy (next x hx hir hi _ _ β hs' fun s _ _ h => h)
   have hjs : j < ops.size := (Array.getElem?_eq_some_iff.1 hoj).1
   have hjm : j ∈ later ∨ ∃ y ∈ L, y.e.i = j := by
    rcases hm.cover j hjs hun with h | h
    ·exact .inr (hrem j h)
    ·exact .inl h
   rcases hap j hjm with h | h | h | h
   ·exact absurd h hne'
   ·obtain ⟨oj', hoj', e, he, hb, hon⟩ := Region.waitsFor_spec h
    have : oj' = oj := Option.some.inj (hoj'.symm.trans hoj)
    subst this
    exact absurd hon (hno e he hb)
   ·have := h.ready hm.closed hi
    rw [getD_both hun] at this
    cases this
   ·exact h oj hoj
  obtain ⟨i0, hi0r, hi0⟩ := hfirst rem listed hne hrem hm
  refine ⟨fun h0 => (by rw [h0] at hi0; cases hi0), fun i hi => ?_⟩
  have hir : i ∈ rem := by
   obtain ⟨hiu, oi, hoi, _⟩ := mem_ready.1 hi
   have his : i < ops.size := (Array.getElem?_eq_some_iff.1 hoi).1
   rcases hm.cover i his hiu with h | h
   ·exact h
   ·exfalso
    obtain ⟨x, hx, rfl⟩ := hrem i0 hi0r
    have hxt : x.e.tk = false := by
     cases hb : x.e.tk with
     | false => rfl
     | true => exact absurd ⟨x, hx, hb, hi0r, hi0⟩ htake
    have := (hlater i h x hx hxt).ready hm.closed hi
    exact unl2 x hx this hi0r
  obtain ⟨x, hx, rfl⟩ := hrem i hir
  obtain ⟨o, V, ho, hext, hmy⟩ := facts x hx hir hi
  have := zh8 (Q := Q) hT (t := n0 + x.e.c) hs hext (fun hob => ?_) (fun k hk => ?_) hmy (Kc := wpAny P md ops Q (f + g) (listed.setIfInBounds x.e.i true)) fun a' w' β' hs' hd' => ?_
  ·unfold wpOp
   rw [ho]
   simp only
   split
   ·rename_i hw'; rw [if_pos hw'] at this; exact .inl this
   ·rename_i hw'; rw [if_neg hw'] at this; exact this
  ·have hmk := G.made x hx hob
   have hroom := (G.room x hx).resolve_right hob
   refine ⟨?_, hdum x hx hir hmk, by rw [hj.pin]; omega⟩
   have e := List.getElem?_eq_getElem (show n0 + x.e.c < σ.H.length by rw [hj.len]; exact hroom)
   rcases hj.new _ _ (by omega) e with h0 | ⟨y, hy, k1, k2, k3, _⟩
   ·rw [e, h0]
   ·exfalso
    have : y = x := G.tag y hy x hx (G.made y hy (by rw [k3]; simp)) hmk (by omega)
    subst this
    exact k1 hir
  ·obtain ⟨c, hc, rfl⟩ := List.mem_map.1 hk
   exact ⟨by rw [hj.pin]; omega, fun e => hks x hx c hc (by omega)⟩
  ·exact next x hx hir hi a' w' β' hs' hd'
end
end Go.Eng
namespace Go.Eng
open Go.RowKit
structure OCallAt (P : Program) (f : FuncId) (as as' : List AV) (nd : Prop) (d tg : Nat) (σ : AState) (K : AState → Prop) : Prop where
 out : (∃ r, (d < σ.n ∧ nd ∧ ACalls P f as' r [] ∧ z0d as r [] ∧ ∀ n, r.shift n = r) ∧ K (σ.put d r)) ∨
  ∃ obj, (d < σ.n ∧ nd ∧ ACalls P f as' (.one (.own 0)) [obj] ∧ z0d as (.one (.own 0)) [obj] ∧ obj.tagsLt 0 = true) ∧ K ⟨σ.n, (d, .one (.own tg)) :: σ.slots, σ.H.set tg obj, σ.pin⟩
structure MGCallAt (P : Program) (g : Bool) (f : FuncId) (as as' : List AV) (nd : Prop) (d : Nat) (σ : AState) (K : AState → Prop) : Prop where
 out : ∃ r, (d < σ.n ∧ (g = true → nd ∧ ACalls P f as' r [] ∧ z0d as r [] ∧ ∀ n, r.shift n = r)) ∧ K (σ.put d (.cond g r))
def zcn (T : Tab) (op : Op) (d : Nat) (V : List AObj) (σ : AState) (K : AState → Prop) : Prop :=
 (needs σ op.operands.toList ∧ d < σ.n ∧ (aval T V op σ.evs).1) ∧ K (σ.put d (aval T V op σ.evs).2)
def z92 (T : Tab) (g : Bool) (op : Op) (d : Nat) (V : List AObj) (σ : AState) (K : AState → Prop) : Prop :=
 (d < σ.n ∧ (g = true → needs σ op.operands.toList ∧ (aval T V op σ.evs).1)) ∧ K (σ.put d (.cond g (aval T V op σ.evs).2))
def zbh (T : Tab) (s x : Operand) (t t' : TypeId) (d tg : Nat) (fz : Bool) (ks : List Nat) (V : List AObj) (σ : AState) (K : AState → Prop) : Prop :=
 match (T t).desc with
 | .slice e => (match σ.evs s, z5D T V t t' e (σ.evs x) with
 | .one .nil, some news => (t = t' ∧ 0 ≤ numOf (σ.evs x) ∧ (σ.ev s).need ∧ (σ.ev x).need ∧ (T e).desc ≠ .other ∧ 0 < (T e).size ∧ (∀ r ∈ news, r.length = (T e).size) ∧ news.length * (T e).bytes ≤ 140737488355328 ∧ news.length ≤ 9223372036854775807 ∧ d < σ.n) ∧
   (match fz with | true => K ⟨σ.n, (d, .one (.list news)) :: σ.slots, σ.H, σ.pin⟩ | false => K ⟨σ.n, (d, .one (.own tg)) :: σ.slots, σ.H.set tg (.row e (T e).size news), σ.pin⟩)
 | .one (.own k), some news => match V[k]? with
  | some (.row e' sz rows) => (0 ≤ numOf (σ.evs x) ∧ e' = e ∧ sz = (T e).size ∧ memN k ks = true ∧ (σ.ev s).need ∧ (σ.ev x).need ∧ (T e).desc ≠ .other ∧ 0 < (T e).size ∧ (∀ r ∈ news, r.length = (T e).size) ∧ (rows.length + news.length) * (T e).bytes ≤ 140737488355328 ∧ rows.length + news.length ≤ 9223372036854775807 ∧ d < σ.n) ∧
    (match fz with | true => K ⟨σ.n, (d, .one (.list (rows ++ news))) :: σ.slots, σ.H.set k .gone, σ.pin⟩ | false => K ⟨σ.n, (d, .one (.own tg)) :: σ.slots, (σ.H.set k .gone).set tg (.row e (T e).size (rows ++ news)), σ.pin⟩)
  | _ => False
 | _, _ => False)
 | _ => False
def mMake (T : Tab) (t : TypeId) (l c : Operand) (d tg : Nat) (σ : AState) (K : AState → Prop) : Prop :=
 match (T t).desc, σ.evs l, σ.evs c with
 | .slice e, .one (.int .i64 n), .one (.int .i64 m) =>
  ((σ.ev l).need ∧ (σ.ev c).need ∧ (T e).desc ≠ .other ∧ 0 < (T e).size ∧ 0 ≤ n ∧ n ≤ m ∧ m ≤ 9223372036854775807 ∧ (T e).bytes * m ≤ 281474976710656 ∧ d < σ.n) ∧ K ⟨σ.n, (d, .one (.own tg)) :: σ.slots, σ.H.set tg (.row e (T e).size (List.replicate n.toNat (T e).zero)), σ.pin⟩
 | _, _, _ => False
def mMap (T : Tab) (t : TypeId) (d tg : Nat) (σ : AState) (K : AState → Prop) : Prop :=
 match (T t).desc with
 | .map kt _ => match (T kt).desc with
  | .string => d < σ.n ∧ K ⟨σ.n, (d, .one (.mp tg)) :: σ.slots, σ.H.set tg (.map .str []), σ.pin⟩
  | .int k => d < σ.n ∧ K ⟨σ.n, (d, .one (.mp tg)) :: σ.slots, σ.H.set tg (.map (.int k) []), σ.pin⟩
  | _ => False
 | _ => False
def mBox (e : TypeId) (x : Operand) (d tg : Nat) (σ : AState) (K : AState → Prop) : Prop :=
 match (σ.evs x).cells? with
 | some cs => ((σ.ev x).need ∧ d < σ.n ∧ cs.all (D.tagsLt 0) = true) ∧ K ⟨σ.n, (d, .one (.vp tg 0)) :: σ.slots, σ.H.set tg (.var e cs), σ.pin⟩
 | none => False
def zi4 (T : Tab) (e : TypeId) (d tg : Nat) (σ : AState) (K : AState → Prop) : Prop :=
 ((T e).desc ≠ .other ∧ d < σ.n ∧ (T e).zero.all (D.tagsLt 0) = true) ∧ K ⟨σ.n, (d, .one (.vp tg 0)) :: σ.slots, σ.H.set tg (.var e (T e).zero), σ.pin⟩
def zf1 (P : Program) (fo : Operand) (args : List Operand) (d tg : Nat) (V : List AObj) (σ : AState) (K : AState → Prop) : Prop :=
 match callee σ fo args with
 | some (f, as) => OCallAt P f as (as.map (AV.bor V)) (needs σ (fo :: args)) d tg σ K
 | none => False
def zbg (P : Program) (g : Bool) (fo : Operand) (args : List Operand) (d : Nat) (V : List AObj) (σ : AState) (K : AState → Prop) : Prop :=
 match callee σ fo args with
 | some (f, as) => MGCallAt P g f as (as.map (AV.bor V)) (needs σ (fo :: args)) d σ K
 | none => False
def mop1 (P : Program) (T : Tab) (o : Oper) (tg : Nat) (fz : Bool) (ks : List Nat) (V : List AObj) (σ : AState) (K : AState → Prop) : Prop :=
 match o.dst with
 | none => False
 | some d => match o.op with
  | .alloc e => zi4 T e d tg σ K
  | .box e x => mBox e x d tg σ K
  | .makeSlice t l c => mMake T t l c d tg σ K
  | .makeMap t none => mMap T t d tg σ K
  | .pick c x y => pstep c x y d σ K
  | .call c => match c.callee with
   | .value fo => zf1 P fo c.args.toList d tg V σ K
   | .builtin .append => match c.args.toList, c.argTypes.toList with
    | [s, x], [t, t'] => zbh T s x t t' d tg fz ks V σ K
    | _, _ => False
   | _ => zcn T o.op d V σ K
  | op => zcn T op d V σ K
def mopG (P : Program) (T : Tab) (g : Bool) (o : Oper) (V : List AObj) (σ : AState) (K : AState → Prop) : Prop :=
 match o.dst with
 | none => False
 | some d => match o.op with
  | .pick c x y => zcD g c x y d σ K
  | .call c => match c.callee with
   | .value fo => zbg P g fo c.args.toList d V σ K
   | _ => z92 T g o.op d V σ K
  | op => z92 T g op d V σ K
def mop (P : Program) (T : Tab) (ops : Array Oper) (o : Oper) (tg : Nat) (fz : Bool) (ks : List Nat) (V : List AObj) (σ : AState) (K : AState → Prop) : Prop :=
 match o.guard with
 | none => mop1 P T o tg fz ks V σ K
 | some (j, want) => (z0m ops σ j).isB = true ∧ mopG P T ((z0m ops σ j).says want) o V σ K
section
variable {P : Program} {T : Tab} {ops : Array Oper} {σ : AState} {K : AState → Prop}
theorem z4A (V : List AObj) : (σ.at V).evs = σ.evs := funext fun x => evs_H V x
theorem at_ev (V : List AObj) (x : Operand) : (σ.at V).ev x = σ.ev x := ev_H V x
theorem zg8 (V : List AObj) (c x y : Operand) : pickV (σ.at V) c x y = pickV σ c x y := by
 unfold pickV
 rw [z4A, at_ev, at_ev, at_ev]
theorem zeZ {o : Oper} {tg : Nat} {fz : Bool} {ks : List Nat} {V : List AObj} (h : mop P T ops o tg fz ks V σ K) : ∃ u, mY P T ops V tg ks o u σ ∧ K (σ.up tg u) := by
 unfold mop at h
 split at h
 ·rename_i hg
  have plain : ∀ (d : Nat) (v : AV), o.dst = some d → d < σ.n → dValS P T o v (σ.at V) → K (σ.put d v) → ∃ u, mY P T ops V tg ks o u σ ∧ K (σ.up tg u) := fun d v hd hdn hv hk =>
   ⟨⟨d, v, none, none⟩, .inl ⟨rfl, rfl, hd, hdn, by rw [hg]; exact hv⟩, hk⟩
  have make : ∀ (d : Nat) (p : HdK) (obj : AObj) (kill : Option Nat), o.dst = some d → d < σ.n → (∀ k, kill = some k → k ∈ ks) → aVal P T o p obj kill (σ.at V) → obj.tagsLt 0 = true → K ⟨σ.n, (d, hdl p tg) :: σ.slots, (killH kill σ.H).set tg obj, σ.pin⟩ → ∃ u, mY P T ops V tg ks o u σ ∧ K (σ.up tg u) := fun d p obj kill hd hdn hks hv ht hk =>
   ⟨⟨d, hdl p tg, some obj, kill⟩, .inr ⟨hg, hd, hdn, hks, p, obj, hv, ht, .inl ⟨rfl, rfl⟩⟩, hk⟩
  have makeF : ∀ (d : Nat) (e : TypeId) (sz : Nat) (rows : List (List D)) (kill : Option Nat), o.dst = some d → d < σ.n → (∀ k, kill = some k → k ∈ ks) → aVal P T o .own (.row e sz rows) kill (σ.at V) → K ⟨σ.n, (d, .one (.list rows)) :: σ.slots, killH kill σ.H, σ.pin⟩ → ∃ u, mY P T ops V tg ks o u σ ∧ K (σ.up tg u) := fun d e sz rows kill hd hdn hks hv hk =>
   ⟨⟨d, .one (.list rows), none, kill⟩, .inr ⟨hg, hd, hdn, hks, .own, .row e sz rows, hv, rfl, .inr ⟨e, sz, rows, rfl, rfl, rfl, rfl⟩⟩, hk⟩
  unfold mop1 at h
  split at h
  ·exact h.elim
  ·rename_i d hd
   have neut : (∀ c x y, o.op ≠ .pick c x y) → (∀ c, o.op = .call c → ∀ fo, c.callee ≠ .value fo) → zcn T o.op d V σ K → ∃ u, mY P T ops V tg ks o u σ ∧ K (σ.up tg u) := by
    rintro h1 h2 ⟨⟨k1, k2, k3⟩, k4⟩
    refine plain d _ hd k2 ?_ k4
    unfold dValS
    split
    ·rename_i c x y ho; exact absurd ho (h1 c x y)
    ·rename_i c ho
     split
     ·rename_i fo hc; exact absurd hc (h2 c ho fo)
     ·rw [z4A]; exact ⟨z27 V _ k1, k3, rfl⟩
    ·rw [z4A]; exact ⟨z27 V _ k1, k3, rfl⟩
   split at h
   ·rename_i e ho
    obtain ⟨⟨h1, h2, h3⟩, h4⟩ := h
    exact make d .vp (.var e (T e).zero) none hd h2 (fun _ e => by cases e) (by unfold aVal; rw [ho]; exact ⟨h1, rfl, rfl, rfl⟩) h3 h4
   ·rename_i e x ho
    unfold mBox at h
    split at h
    ·rename_i cs hcs
     obtain ⟨⟨h1, h2, h3⟩, h4⟩ := h
     exact make d .vp (.var e cs) none hd h2 (fun _ e => by cases e) (by unfold aVal; rw [ho]; dsimp only; rw [at_ev, z4A]; exact ⟨h1, ⟨cs, hcs, rfl⟩, rfl, rfl⟩) h3 h4
    ·exact h.elim
   ·rename_i t l c ho
    unfold mMake at h
    split at h
    ·rename_i e n m k1 k2 k3
     obtain ⟨⟨h1, h2, h3, h4, h5, h6, h7, h8, h9⟩, h10⟩ := h
     exact make d .own (.row e (T e).size (List.replicate n.toNat (T e).zero)) none hd h9 (fun _ e => by cases e) (by unfold aVal; rw [ho]; dsimp only; rw [at_ev, z4A, at_ev]; exact ⟨e, n, m, k1, k2, k3, ⟨h1, h2, h3, h4, h5, h6, h7, h8⟩, rfl, rfl, rfl⟩) rfl h10
    ·exact h.elim
   ·rename_i t ho
    unfold mMap at h
    split at h
    ·rename_i kt et hdesc
     split at h
     ·rename_i hk
      exact make d .mp (.map .str []) none hd h.1 (fun _ e => by cases e) (by unfold aVal; rw [ho]; exact ⟨rfl, rfl, kt, et, hdesc, .inl ⟨hk, rfl⟩⟩) rfl h.2
     ·rename_i k hk
      exact make d .mp (.map (.int k) []) none hd h.1 (fun _ e => by cases e) (by unfold aVal; rw [ho]; exact ⟨rfl, rfl, kt, et, hdesc, .inr ⟨k, hk, rfl⟩⟩) rfl h.2
     ·exact h.elim
    ·exact h.elim
   ·rename_i c x y ho
    obtain ⟨⟨h1, h2⟩, h3⟩ := h
    exact plain d _ hd h1 (by unfold dValS; rw [ho]; dsimp only; rw [zg8]; exact ⟨h2, rfl⟩) h3
   ·rename_i c ho
    obtain ⟨cal, args, ats⟩ := c
    simp only at h
    split at h
    ·rename_i fo
     unfold zf1 at h
     split at h
     ·rename_i f as hc
      have hc' : callee (σ.at V) fo args.toList = some (f, as) := by rw [show callee (σ.at V) fo args.toList = callee σ fo args.toList from z5X V _ _]; exact hc
      rcases h.out with ⟨r, ⟨h1, h2, h3, h4, h5⟩, h6⟩ | ⟨obj, ⟨h1, h2, h3, h4, h5⟩, h6⟩
      ·exact plain d r hd h1 (by unfold dValS; rw [ho]; exact ⟨f, as, hc', z27 V _ h2, h3, h4, h5⟩) h6
      ·exact make d .own obj none hd h1 (fun _ e => by cases e) (by unfold aVal; rw [ho]; exact ⟨f, as, hc', z27 V _ h2, h3, h4, rfl, rfl⟩) h5 h6
     ·exact h.elim
    ·split at h
     ·rename_i s x t t' ha hat
      have e1 : args = #[s, x] := Array.ext' ha
      have e2 : ats = #[t, t'] := Array.ext' hat
      subst e1; subst e2
      unfold zbh at h
      split at h
      ·rename_i e k1
       split at h
       ·rename_i news k2 k3
        obtain ⟨⟨htt, h0, h1, h2, h3, h4, h5, h6, h7, h8⟩, h9⟩ := h
        have hv : aVal P T o .own (.row e (T e).size news) none (σ.at V) := by
         unfold aVal; rw [ho]; dsimp only; rw [z4A]
         exact ⟨s, x, t, t', e, [], news, rfl, k1, k3, h0, by rw [at_ev]; exact h1, by rw [at_ev]; exact h2, h3, h4, h5, by simpa using h6, by simpa using h7, rfl, rfl, .inl ⟨k2, rfl, rfl, htt⟩⟩
        cases fz with
        | true => exact makeF d e _ news none hd h8 (fun _ e => by cases e) hv h9
        | false => exact make d .own _ none hd h8 (fun _ e => by cases e) hv rfl h9
       ·rename_i k news k2 k3
        split at h
        ·rename_i e' sz rows hV
         obtain ⟨⟨h0, rfl, rfl, hm, h1, h2, h3, h4, h5, h6, h7, h8⟩, h9⟩ := h
         have hv : aVal P T o .own (.row e' (T e').size (rows ++ news)) (some k) (σ.at V) := by
          unfold aVal; rw [ho]; dsimp only; rw [z4A]
          exact ⟨s, x, t, t', _, rows, news, rfl, k1, k3, h0, by rw [at_ev]; exact h1, by rw [at_ev]; exact h2, h3, h4, h5, h6, h7, rfl, rfl, .inr ⟨k, k2, hV, rfl⟩⟩
         cases fz with
         | true => exact makeF d _ _ _ (some k) hd h8 (fun k' e => by cases e; exact memN_iff.1 hm) hv h9
         | false => exact make d .own _ (some k) hd h8 (fun k' e => by cases e; exact memN_iff.1 hm) hv rfl h9
        ·exact h.elim
       ·exact h.elim
      ·exact h.elim
     ·exact h.elim
    ·rename_i hnv hna
     refine neut (fun c x y e => by rw [ho] at e; cases e) (fun c e fo hcf => ?_) h
     rw [ho] at e
     cases e
     exact hnv fo hcf
   ·rename_i hnp hnc
    exact neut (fun c x y e => hnp c x y e) (fun c e => absurd e (hnc c)) h
 ·rename_i j want hg
  obtain ⟨hb, h⟩ := h
  have fin : ∀ (d : Nat) (v : AV), o.dst = some d → d < σ.n → ((z0m ops σ j).says want = true → dValS P T o v (σ.at V)) → K (σ.put d (.cond ((z0m ops σ j).says want) v)) → ∃ u, mY P T ops V tg ks o u σ ∧ K (σ.up tg u) := fun d v hd hdn hv hk =>
   ⟨⟨d, _, none, none⟩, .inl ⟨rfl, rfl, hd, hdn, by rw [hg]; exact ⟨hb, v, rfl, hv⟩⟩, hk⟩
  unfold mopG at h
  split at h
  ·exact h.elim
  ·rename_i d hd
   have neut : (∀ c x y, o.op ≠ .pick c x y) → (∀ c, o.op = .call c → ∀ fo, c.callee ≠ .value fo) → z92 T ((z0m ops σ j).says want) o.op d V σ K → ∃ u, mY P T ops V tg ks o u σ ∧ K (σ.up tg u) := by
    rintro h1 h2 ⟨⟨k1, k2⟩, k4⟩
    refine fin d _ hd k1 (fun hh => ?_) k4
    obtain ⟨q1, q2⟩ := k2 hh
    unfold dValS
    split
    ·rename_i c x y ho; exact absurd ho (h1 c x y)
    ·rename_i c ho
     split
     ·rename_i fo hc; exact absurd hc (h2 c ho fo)
     ·rw [z4A]; exact ⟨z27 V _ q1, q2, rfl⟩
    ·rw [z4A]; exact ⟨z27 V _ q1, q2, rfl⟩
   split at h
   ·rename_i c x y ho
    obtain ⟨⟨h1, h2⟩, h3⟩ := h
    exact fin d _ hd h1 (fun hh => by unfold dValS; rw [ho]; dsimp only; rw [zg8]; exact ⟨h2 hh, rfl⟩) h3
   ·rename_i c ho
    obtain ⟨cal, args, ats⟩ := c
    simp only at h
    split at h
    ·rename_i fo
     unfold zbg at h
     split at h
     ·rename_i f as hc
      have hc' : callee (σ.at V) fo args.toList = some (f, as) := by rw [show callee (σ.at V) fo args.toList = callee σ fo args.toList from z5X V _ _]; exact hc
      obtain ⟨r, ⟨h1, h2⟩, h3⟩ := h.out
      exact fin d r hd h1 (fun hh => by
       obtain ⟨q1, q2, q3, q4⟩ := h2 hh
       unfold dValS; rw [ho]; exact ⟨f, as, hc', z27 V _ q1, q2, q3, q4⟩) h3
     ·exact h.elim
    ·rename_i hnv
     refine neut (fun c x y e => by rw [ho] at e; cases e) (fun c e fo hcf => ?_) h
     rw [ho] at e
     cases e
     exact hnv fo hcf
   ·rename_i hnp hnc
    exact neut (fun c x y e => hnp c x y e) (fun c e => absurd e (hnc c)) h
end
def mWalk (P : Program) (T : Tab) (ops : Array Oper) (n0 : Nat) : List PE → AState → (AState → Prop) → Prop
 | [], σ, K => K σ
 | e :: l, σ, K => match ops[e.i]? with
  | none => False
  | some o => mop P T ops o (n0 + e.c) e.fz (e.ks.map (n0 + ·)) (hideH (e.hs.map (n0 + ·)) σ.H) σ fun σ' => mWalk P T ops n0 l σ' K
def stF (n0 : Nat) : AState → List Ent → AState
 | σ, [] => σ
 | σ, x :: l => stF n0 (σ.up (n0 + x.e.c) x.u) l
theorem z7O (n0 : Nat) : ∀ (l m : List Ent) (σ : AState), stF n0 σ (l ++ m) = stF n0 (stF n0 σ l) m
 | [], _, _ => rfl
 | x :: l, m, σ => z7O n0 l m _
def zia (P : Program) (T : Tab) (ops : Array Oper) (n0 : Nat) (σ : AState) (L : List Ent) : Prop :=
 ∀ L1 x L2, L = L1 ++ x :: L2 → ∃ o, ops[x.e.i]? = some o ∧ mY P T ops (hideH (x.e.hs.map (n0 + ·)) (stF n0 σ L1).H) (n0 + x.e.c) (x.e.ks.map (n0 + ·)) o x.u (stF n0 σ L1)
theorem z83 {P : Program} {T : Tab} {ops : Array Oper} {n0 : Nat} {K : AState → Prop} : ∀ (l : List PE) (σ : AState), mWalk P T ops n0 l σ K → ∃ L : List Ent, L.map Ent.e = l ∧ K (stF n0 σ L) ∧ zia P T ops n0 σ L
 | [], σ, h => ⟨[], rfl, h, fun L1 x L2 e => by cases L1 <;> cases e⟩
 | e :: l, σ, h => by
  simp only [mWalk] at h
  cases ho : ops[e.i]? with
  | none => rw [ho] at h; exact h.elim
  | some o =>
   rw [ho] at h
   obtain ⟨u, h1, h2⟩ := zeZ h
   obtain ⟨L, k1, k2, k3⟩ := z83 l _ h2
   refine ⟨⟨e, u⟩ :: L, by simp [k1], k2, fun L1 x L2 he => ?_⟩
   cases L1 with
   | nil =>
    simp only [List.nil_append, List.cons.injEq] at he
    obtain ⟨rfl, rfl⟩ := he
    exact ⟨o, ho, h1⟩
   | cons y L1 =>
    simp only [List.cons_append, List.cons.injEq] at he
    obtain ⟨rfl, rfl⟩ := he
    exact k3 L1 x L2 rfl
def dstOf (ops : Array Oper) (i : Nat) : Option Nat := (ops[i]?).bind (·.dst)
def chk (A : List (Nat × List Nat)) (md : Region.Mode) (ops : Array Oper) (m : Nat) (all pre : List PE) (e : PE) (post : List PE) : Bool :=
 match ops[e.i]? with
 | none => false
 | some o => match o.dst with
  | none => false
  | some d =>
   (e.mkr == mkB o.op) && (!e.mkr || decide (e.c < m)) && pre.all (fun p => dstOf ops p.i != some d) &&
   (o.looksAt ops).all (fun s => (e :: post).all (fun q => dstOf ops q.i != some s) && pre.all (fun p => dstOf ops p.i != some s || Region.waitsFor md ops e.i p.i)) &&
   pre.all (fun p => !p.mkr || memN p.c e.hs || (ancB A e.i p.i && all.all (fun z => !memN p.c z.ks || z.i == e.i || ancB A z.i e.i))) &&
   e.ks.all (fun c => c != e.c && pre.any (fun p => p.c == c && p.mkr && Region.waitsFor md ops e.i p.i)) &&
   (!e.mkr || pre.all (fun p => !p.mkr || p.c != e.c)) &&
   (!e.tk || (takeB o && all.all (fun p => p.i == e.i || Region.waitsFor md ops p.i e.i || ancB A e.i p.i || match ops[p.i]? with | some oj => o.apart ops oj | none => true)))
def planB (A : List (Nat × List Nat)) (md : Region.Mode) (ops : Array Oper) (m : Nat) (all : List PE) : List PE → List PE → Bool
 | _, [] => true
 | pre, e :: l => chk A md ops m all pre e l && planB A md ops m all (e :: pre) l
theorem zck {A : List (Nat × List Nat)} {md : Region.Mode} {ops : Array Oper} {m : Nat} {all : List PE} : ∀ (l pre l1 : List PE) (e : PE) (l2 : List PE), planB A md ops m all pre l = true → l = l1 ++ e :: l2 → chk A md ops m all (l1.reverse ++ pre) e l2 = true
 | [], _, l1, e, l2, _, h => by cases l1 <;> cases h
 | e0 :: l, pre, [], e, l2, h, he => by
  simp only [List.nil_append, List.cons.injEq] at he
  obtain ⟨rfl, rfl⟩ := he
  simp only [planB, Bool.and_eq_true] at h
  exact h.1
 | e0 :: l, pre, x :: l1, e, l2, h, he => by
  simp only [List.cons_append, List.cons.injEq] at he
  obtain ⟨rfl, rfl⟩ := he
  simp only [planB, Bool.and_eq_true] at h
  have := zck _ (e0 :: pre) l1 e l2 h.2 rfl
  simpa using this
theorem z7J {α : Type} {L : List α} {x y : α} (hx : x ∈ L) (hy : y ∈ L) : x = y ∨ (∃ L1 L2, L = L1 ++ x :: L2 ∧ y ∈ L1) ∨ (∃ L1 L2, L = L1 ++ y :: L2 ∧ x ∈ L1) := by
 obtain ⟨A, B, rfl⟩ := List.append_of_mem hx
 rcases List.mem_append.1 hy with h | h
 ·exact .inr (.inl ⟨A, B, rfl, h⟩)
 ·rcases List.mem_cons.1 h with rfl | h
  ·exact .inl rfl
  ·obtain ⟨C, D, rfl⟩ := List.append_of_mem h
   exact .inr (.inr ⟨A ++ x :: C, D, by simp, by simp⟩)
theorem ziq {α : Type} {C : List α → Prop} (h0 : C []) (h1 : ∀ l x, C l → C (l ++ [x])) (l : List α) : C l := by
 have : ∀ l : List α, C l.reverse := fun l => by
  induction l with
  | nil => exact h0
  | cons x l ih => rw [List.reverse_cons]; exact h1 _ x ih
 have := this l.reverse
 rwa [List.reverse_reverse] at this
def lexR (md : Region.Mode) (ops : Array Oper) : List Nat → Array Bool → Bool
 | [], _ => true
 | i :: is, l => (Region.ready md ops l).contains i && lexR md ops is (l.setIfInBounds i true)
section
variable {P : Program} {T : Tab} {md : Region.Mode} {ops : Array Oper} {n0 m : Nat} {σ0 : AState} {L : List Ent} {A : List (Nat × List Nat)} {listed0 : Array Bool}
theorem z85 : ∀ (is1 : List Nat) (i : Nat) (is2 : List Nat) (l : Array Bool), Closed md ops l → lexR md ops (is1 ++ i :: is2) l = true → i ∈ Region.ready md ops (z0a is1 l) ∧ Closed md ops (z0a is1 l)
 | [], i, is2, l, hc, h => by
  simp only [List.nil_append, lexR, Bool.and_eq_true] at h
  exact ⟨by simpa [z0a] using h.1, hc⟩
 | j :: is1, i, is2, l, hc, h => by
  simp only [List.cons_append, lexR, Bool.and_eq_true] at h
  exact z85 is1 i is2 _ (hc.set (by simpa using h.1)) h.2
theorem z9A : ∀ (is : List Nat) (l : Array Bool) (j : Nat), l.getD j true = false → (z0a is l).getD j false = true → j ∈ is
 | [], l, j, h1, h2 => by rw [show z0a [] l = l from rfl, getD_both h1] at h2; cases h2
 | i :: is, l, j, h1, h2 => by
  by_cases hij : i = j
  ·simp [hij]
  ·exact List.mem_cons_of_mem _ (z9A is _ j (by rw [getD_set_ne true hij]; exact h1) h2)
theorem zdl (hA : AncOk md ops A) (hlen : σ0.H.length = n0 + m) (hr : ∀ t o, n0 ≤ t → σ0.H[t]? = some o → o = .gone) (hB : planB A md ops m (L.map Ent.e) [] (L.map Ent.e) = true) (hseen : zia P T ops n0 σ0 L)
  (hlex : lexR md ops (L.map fun x => x.e.i) listed0 = true) (hcl0 : Closed md ops listed0) (hun : ∀ x ∈ L, listed0.getD x.e.i true = false) (hsz : ∀ x ∈ L, x.e.i < listed0.size) :
  PlanOk md ops n0 σ0.H.length L ∧ (∀ x ∈ L, Seen P T md ops n0 σ0 L x) ∧ (∀ x ∈ L, ∀ c ∈ x.e.ks, c ≠ x.e.c) ∧ JS n0 σ0 L (fun _ => True) (stF n0 σ0 L) ∧ (∀ x ∈ L, x.e.mkr = true → x.e.c < m) ∧
  (∀ x ∈ L, x.e.tk = true → ∃ o, ops[x.e.i]? = some o ∧ takeB o = true ∧ ∀ y ∈ L, y.e.i = x.e.i ∨ Region.waitsFor md ops y.e.i x.e.i = true ∨ Anc md ops x.e.i y.e.i ∨ ∀ oj, ops[y.e.i]? = some oj → o.apart ops oj = true) := by
 have hmy : ∀ x ∈ L, ∃ o V σ, ops[x.e.i]? = some o ∧ mY P T ops V (n0 + x.e.c) (x.e.ks.map (n0 + ·)) o x.u σ := fun x hx => by
  obtain ⟨L1, L2, rfl⟩ := List.append_of_mem hx
  obtain ⟨o, h1, h2⟩ := hseen L1 x L2 rfl
  exact ⟨o, _, _, h1, h2⟩
 have hdst : ∀ x ∈ L, dstOf ops x.e.i = some x.u.d := fun x hx => by
  obtain ⟨o, V, σ, h1, h2⟩ := hmy x hx
  simp [dstOf, h1, zi2 h2]
 have hchk : ∀ L1 x L2, L = L1 ++ x :: L2 → ∃ o, ops[x.e.i]? = some o ∧ o.dst = some x.u.d ∧ x.e.mkr = mkB o.op ∧ (x.e.mkr = true → x.e.c < m) ∧ (∀ y ∈ L1, y.u.d ≠ x.u.d) ∧
   (∀ s ∈ o.looksAt ops, (∀ y ∈ x :: L2, y.u.d ≠ s) ∧ ∀ y ∈ L1, y.u.d = s → Region.waitsFor md ops x.e.i y.e.i = true) ∧
   (∀ y ∈ L1, y.e.mkr = true → y.e.c ∉ x.e.hs → Anc md ops x.e.i y.e.i ∧ ∀ z ∈ L, y.e.c ∈ z.e.ks → z.e.i = x.e.i ∨ Anc md ops z.e.i x.e.i) ∧
   (∀ c ∈ x.e.ks, c ≠ x.e.c ∧ ∃ y ∈ L1, y.e.c = c ∧ y.e.mkr = true ∧ Region.waitsFor md ops x.e.i y.e.i = true) ∧
   (x.e.mkr = true → ∀ y ∈ L1, y.e.mkr = true → y.e.c ≠ x.e.c) ∧
   (x.e.tk = true → takeB o = true ∧ ∀ y ∈ L, y.e.i = x.e.i ∨ Region.waitsFor md ops y.e.i x.e.i = true ∨ Anc md ops x.e.i y.e.i ∨ ∀ oj, ops[y.e.i]? = some oj → o.apart ops oj = true) := by
  intro L1 x L2 he
  have hx : x ∈ L := by rw [he]; simp
  have h := zck (L.map Ent.e) [] (L1.map Ent.e) x.e (L2.map Ent.e) hB (by rw [he]; simp)
  obtain ⟨o, V, σ, h1, h2⟩ := hmy x hx
  have hd := zi2 h2
  unfold chk at h
  simp only [h1, hd, Bool.and_eq_true, List.append_nil, List.all_eq_true, List.mem_reverse, List.any_eq_true, beq_iff_eq, bne_iff_ne, ne_eq, Bool.or_eq_true, Bool.not_eq_true', decide_eq_true_eq, memN_iff, List.mem_map, forall_exists_index, and_imp, forall_apply_eq_imp_iff₂, List.mem_cons, forall_eq_or_imp] at h
  obtain ⟨⟨⟨⟨⟨⟨⟨k1, k2⟩, k3⟩, k4⟩, k5⟩, k6⟩, k7⟩, k8⟩ := h
  have hL1 : ∀ y ∈ L1, y ∈ L := fun y hy => by rw [he]; simp [hy]
  refine ⟨o, h1, hd, k1, fun hm => k2.resolve_left (by rw [hm]; simp), fun y hy e => k3 y hy (by rw [hdst y (hL1 y hy), e]), fun s hs => ⟨fun y hy e => ?_, fun y hy e => ?_⟩, fun y hy hm hc => ?_, fun c hc => ?_, fun hm y hy hym => ?_, fun hm => ?_⟩
  ·obtain ⟨q1, _⟩ := k4 s hs
   rcases List.mem_cons.1 hy with rfl | hy
   ·exact q1.1 (by rw [hdst y hx, e])
   ·exact q1.2 y hy (by rw [hdst y (by rw [he]; simp [hy]), e])
  ·obtain ⟨_, q2⟩ := k4 s hs
   exact (q2 y hy).resolve_left fun h => h (by rw [hdst y (hL1 y hy), e])
  ·rcases k5 y hy with (q | q) | q
   ·rw [hm] at q; cases q
   ·exact absurd q hc
   ·refine ⟨z5a hA q.1, fun z hz hzk => ?_⟩
    rcases q.2 z hz with (q2 | q2) | q2
    ·exact absurd (memN_iff.2 hzk) (by rw [q2]; simp)
    ·exact .inl q2
    ·exact .inr (z5a hA q2)
  ·obtain ⟨q1, p, ⟨y, hy, rfl⟩, q2⟩ := k6 c hc
   exact ⟨q1, y, hy, q2.1.1, q2.1.2, q2.2⟩
  ·rcases k7 with q | q
   ·rw [hm] at q; cases q
   ·exact (q y hy).resolve_left (by rw [hym]; simp)
  ·rcases k8 with q | ⟨q1, q2⟩
   ·rw [hm] at q; cases q
   ·refine ⟨q1, fun y hy => ?_⟩
    rcases q2 y hy with ((q | q) | q) | q
    ·exact .inl q
    ·exact .inr (.inl q)
    ·exact .inr (.inr (.inl (z5a hA q)))
    ·refine .inr (.inr (.inr fun oj hoj => ?_))
     rw [hoj] at q
     exact q
 have dst : ∀ x ∈ L, ∀ y ∈ L, x.u.d = y.u.d → x = y := fun x hx y hy e => by
  rcases z7J hx hy with h | ⟨L1, L2, h, hm⟩ | ⟨L1, L2, h, hm⟩
  ·exact h
  ·obtain ⟨_, _, _, _, _, q, _⟩ := hchk L1 x L2 h
   exact absurd e.symm (q y hm)
  ·obtain ⟨_, _, _, _, _, q, _⟩ := hchk L1 y L2 h
   exact absurd e (q x hm)
 have idx : ∀ x ∈ L, ∀ y ∈ L, x.e.i = y.e.i → x = y := fun x hx y hy e => dst x hx y hy (by
  have h1 := hdst x hx
  rw [e, hdst y hy] at h1
  exact (Option.some.inj h1).symm)
 have made : ∀ x ∈ L, x.u.obj ≠ none → x.e.mkr = true := fun x hx hob => by
  obtain ⟨L1, L2, he⟩ := List.append_of_mem hx
  obtain ⟨o, h1, h2, h3, _⟩ := hchk L1 x L2 he
  obtain ⟨o', V, σ, k1, k2⟩ := hmy x hx
  have : o' = o := Option.some.inj (k1.symm.trans h1)
  subst this
  rw [h3]
  rcases k2 with ⟨q, _⟩ | ⟨_, _, _, _, p, obj, q, _⟩
  ·exact absurd q hob
  ·exact zje q
 have ksOf : ∀ x ∈ L, ∀ k, x.u.kill = some k → ∃ c ∈ x.e.ks, k = n0 + c := fun x hx k hk => by
  obtain ⟨o', V, σ, k1, k2⟩ := hmy x hx
  rcases k2 with ⟨_, q, _⟩ | ⟨_, _, _, q, _⟩
  ·rw [hk] at q; cases q
  ·obtain ⟨c, hc, rfl⟩ := List.mem_map.1 (q k hk)
   exact ⟨c, hc, rfl⟩
 have room : ∀ x ∈ L, x.e.mkr = true → x.e.c < m := fun x hx => by
  obtain ⟨L1, L2, he⟩ := List.append_of_mem hx
  obtain ⟨_, _, _, _, q, _⟩ := hchk L1 x L2 he
  exact q
 have G : PlanOk md ops n0 σ0.H.length L := by
  refine ⟨dst, idx, fun x hx y hy hxm hym e => ?_, made, fun x hx => ?_, fun x hx k hk => ?_⟩
  ·rcases z7J hx hy with h | ⟨L1, L2, h, hm⟩ | ⟨L1, L2, h, hm⟩
   ·exact h
   ·obtain ⟨_, _, _, _, _, _, _, _, _, q, _⟩ := hchk L1 x L2 h
    exact absurd e.symm (q hxm y hm hym)
   ·obtain ⟨_, _, _, _, _, _, _, _, _, q, _⟩ := hchk L1 y L2 h
    exact absurd e (q hym x hm hxm)
  ·by_cases hob : x.u.obj = none
   ·exact .inr hob
   ·left
    have := room x hx (made x hx hob)
    rw [hlen]; omega
  ·obtain ⟨c, hc, rfl⟩ := ksOf x hx k hk
   obtain ⟨L1, L2, he⟩ := List.append_of_mem hx
   obtain ⟨o, h1, h2, _, _, hne, _, _, q, _⟩ := hchk L1 x L2 he
   obtain ⟨_, y, hy, rfl, q2, q3⟩ := q c hc
   exact ⟨y, by rw [he]; simp [hy], rfl, q2, fun e => hne y hy (by rw [e]), .one q3⟩
 have prefixJS : ∀ L1 L2, L = L1 ++ L2 → JS n0 σ0 L (fun i => ∃ y ∈ L1, y.e.i = i) (stF n0 σ0 L1) := by
  refine ziq (fun L2 _ => (JS.init hr).congr fun x _ => by simp) fun L1 x ih L2 he => ?_
  ·skip
   have he' : L = L1 ++ x :: L2 := by rw [he]; simp
   have hj := ih (x :: L2) he'
   have hx : x ∈ L := by rw [he']; simp
   obtain ⟨r1, r2⟩ := z85 (md := md) (ops := ops) (L1.map fun x => x.e.i) x.e.i (L2.map fun x => x.e.i) listed0 hcl0 (by rw [he'] at hlex; simpa using hlex)
   have isIn : ∀ y ∈ L, (z0a (L1.map fun x => x.e.i) listed0).getD y.e.i false = true → ∃ z ∈ L1, z.e.i = y.e.i := fun y hy h => by
    have := z9A _ _ _ (hun y hy) h
    simpa using this
   have inIs : ∀ y ∈ L, (∃ z ∈ L1, z.e.i = y.e.i) → (z0a (L1.map fun x => x.e.i) listed0).getD y.e.i false = true := fun y hy h => z4N _ _ _ (hsz y hy) (by simpa using h)
   have hs := hj.step G hx (fun h => ?_) (fun y hy ha => isIn y hy (ha.ready r2 r1)) (fun y hy hys z hz ha => isIn z hz (ha.lst r2 (inIs y hy hys)))
   ·rw [z7O]
    exact hs.congr fun y _ => by
     simp only [List.mem_append, List.mem_singleton]
     constructor
     ·rintro (⟨z, hz, e⟩ | e)
      ·exact ⟨z, .inl hz, e⟩
      ·exact ⟨x, .inr rfl, e.symm⟩
     ·rintro ⟨z, hz | rfl, e⟩
      ·exact .inl ⟨z, hz, e⟩
      ·exact .inr e.symm
   ·obtain ⟨z, hz, e⟩ := h
    obtain ⟨_, _, _, _, _, q, _⟩ := hchk L1 x L2 he'
    have : z = x := idx z (by rw [he']; simp [hz]) x hx e
    exact q z hz (by rw [this])
 refine ⟨G, fun x hx => ?_, fun x hx c hc => ?_, ?_, room, fun x hx ht => ?_⟩
 ·obtain ⟨L1, L2, he⟩ := List.append_of_mem hx
  obtain ⟨o, h1, h2, h3, h4, h5, h6, h7, h8, h9⟩ := hchk L1 x L2 he
  obtain ⟨o', k1, k2⟩ := hseen L1 x L2 he
  have : o' = o := Option.some.inj (k1.symm.trans h1)
  subst this
  refine ⟨o', _, _, h1, prefixJS L1 (x :: L2) he, k2, fun s hs y hy e => ?_, fun y hy hys hm hc => ?_⟩
  ·obtain ⟨q1, q2⟩ := h6 s hs
   rw [he] at hy
   rcases List.mem_append.1 hy with hy | hy
   ·exact ⟨⟨y, hy, rfl⟩, q2 y hy e⟩
   ·exact absurd e (q1 y hy)
  ·obtain ⟨z, hz, e⟩ := hys
   have : z = y := idx z (by rw [he]; simp [hz]) y hy e
   subst this
   obtain ⟨q1, q2⟩ := h7 z hz hm hc
   refine ⟨q1, fun v hv hk => ?_⟩
   obtain ⟨c, hc, hk'⟩ := ksOf v hv _ hk
   have : z.e.c = c := by omega
   subst this
   exact (q2 v hv hc).imp (fun e => idx v hv x hx e) id
 ·obtain ⟨L1, L2, he⟩ := List.append_of_mem hx
  obtain ⟨o, h1, h2, h3, h4, h5, h6, h7, h8, h9⟩ := hchk L1 x L2 he
  exact (h8 c hc).1
 ·exact (prefixJS L [] (by simp)).congr fun x hx => ⟨fun _ => trivial, fun _ => ⟨x, hx, rfl⟩⟩
 ·obtain ⟨L1, L2, he⟩ := List.append_of_mem hx
  obtain ⟨o, h1, _, _, _, _, _, _, _, _, q⟩ := hchk L1 x L2 he
  exact ⟨o, h1, q ht⟩
end
end Go.Eng
namespace Go.Eng
open Go.RowKit
inductive Ph where
 | mid (l : List PE) (m : Nat)
 | one (i : Nat)
def Ph.ids : Ph → List Nat
 | .mid l _ => l.map PE.i
 | .one i => [i]
def idsOf : List Ph → List Nat
 | [] => []
 | p :: ps => p.ids ++ idsOf ps
def phB (A : List (Nat × List Nat)) (md : Region.Mode) (ops : Array Oper) (later : List Nat) (listed : Array Bool) : Ph → Bool
 | .one i => (Region.ready md ops listed).contains i && later.all (fun t => ancB A t i)
 | .mid l m => lexR md ops (l.map PE.i) listed && planB A md ops m l [] l && later.all (fun t => l.all fun e => e.tk || ancB A t e.i) && l.all (fun e => !e.tk || later.all fun t => Region.waitsFor md ops t e.i || ancB A e.i t || match ops[e.i]?, ops[t]? with | some o, some oj => o.apart ops oj | _, _ => true)
def phsB (A : List (Nat × List Nat)) (md : Region.Mode) (ops : Array Oper) : List Ph → Array Bool → Bool
 | [], listed => (Region.ready md ops listed).isEmpty
 | p :: ps, listed => phB A md ops (idsOf ps) listed p && phsB A md ops ps (z0a p.ids listed)
def z9U : List Nat → Bool
 | [] => true
 | i :: is => !memN i is && z9U is
def pWalk (P : Program) (T : Tab) (ops : Array Oper) : List Ph → AState → (AState → Prop) → Prop
 | [], σ, K => K σ
 | .one i :: ps, σ, K => match ops[i]? with | some o => aop P T ops o σ (fun σ' => pWalk P T ops ps σ' K) | none => False
 | .mid l m :: ps, σ, K => mWalk P T ops σ.H.length l (σ.reserve m) fun σ' => pWalk P T ops ps σ' K
theorem z4Q : ∀ {l : List Nat}, z9U l = true → l.Nodup
 | [], _ => List.nodup_nil
 | i :: l, h => by
  simp only [z9U, Bool.and_eq_true, Bool.not_eq_true'] at h
  exact List.nodup_cons.2 ⟨fun hm => absurd h.1 (by rw [memN_iff.2 hm]; simp), z4Q h.2⟩
section
variable {P : Program} {T : Tab} {W0 w : World} {M0 : Nat → Prop} {F β : List Value} {σ τ σ0 : AState} {a : Act} {md : Region.Mode} {ops : Array Oper} {Q : Exit → Act → World → Prop} {K : AState → Prop} {A : List (Nat × List Nat)}
theorem za1 : ∀ (ids : List Nat) (l0 listed : Array Bool) (rem : List Nat), lexR md ops ids l0 = true → (∀ j, l0.getD j false = true → listed.getD j false = true) → (∀ i ∈ ids, i ∉ rem → listed.getD i false = true) → (∀ i ∈ rem, listed.getD i true = false) → (∃ i ∈ rem, i ∈ ids) → ∃ i ∈ rem, i ∈ Region.ready md ops listed
 | [], _, _, _, _, _, _, _, h => by obtain ⟨i, _, hi⟩ := h; cases hi
 | i :: ids, l0, listed, rem, hl, h1, h2, h3, h4 => by
  simp only [lexR, Bool.and_eq_true] at hl
  by_cases hir : i ∈ rem
  ·have hr : i ∈ Region.ready md ops l0 := by simpa using hl.1
   obtain ⟨_, o, ho, hall⟩ := mem_ready.1 hr
   exact ⟨i, hir, mem_ready.2 ⟨h3 i hir, o, ho, fun e he hb => h1 _ (hall e he hb)⟩⟩
  ·refine za1 ids _ listed rem hl.2 (fun j hj => ?_) (fun j hj => h2 j (by simp [hj])) h3 ?_
   ·by_cases hij : i = j
    ·subst hij; exact h2 i (by simp) hir
    ·rw [getD_set_ne false hij] at hj; exact h1 j hj
   ·obtain ⟨j, hj, hji⟩ := h4
    rcases List.mem_cons.1 hji with rfl | hji
    ·exact absurd hj hir
    ·exact ⟨j, hj, hji⟩
theorem z2C : ∀ (is : List Nat) (l : Array Bool) (j : Nat), (z0a is l).getD j true = if j ∈ is then true else l.getD j true
 | [], _, _ => by simp [z0a]
 | i :: is, l, j => by
  simp only [z0a]
  rw [z2C is _ j]
  by_cases hj : j ∈ is
  ·rw [if_pos hj, if_pos (by simp [hj])]
  ·rw [if_neg hj]
   by_cases hij : i = j
   ·subst hij
    rw [if_pos (by simp)]
    rcases Nat.lt_or_ge i l.size with h | h
    ·simp [h]
    ·simp [Array.getElem?_eq_none h]
   ·rw [getD_set_ne true hij, if_neg (by simp [hj, Ne.symm hij])]
structure Head (md : Region.Mode) (ops : Array Oper) (ids : List Nat) (listed : Array Bool) : Prop where
 size : listed.size = ops.size
 closed : Closed md ops listed
 un : ∀ j ∈ ids, j < ops.size ∧ listed.getD j true = false
 cover : ∀ j, j < ops.size → listed.getD j true = false → j ∈ ids
theorem z8J (hT : TabOk P T) (hsel : Region.noSelect ops = true) (hQp : ∀ c a w, ¬ Q (.panic c) a w) (hA : AncOk md ops A) : ∀ (ps : List Ph) (listed : Array Bool) (σ : AState) (a : Act) (w : World), SimS W0 M0 F σ a w → Head md ops (idsOf ps) listed → (idsOf ps).Nodup → phsB A md ops ps listed = true → pWalk P T ops ps σ K →
  (∀ σ' a' w', K σ' → SimS W0 M0 F σ' a' w' → Q .normal a' w') → wpAny P md ops Q (idsOf ps).length listed a w
 | [], listed, σ, a, w, hs, _, _, hB, hw, hk => ⟨by simpa [phsB] using hB, hk _ _ _ hw hs⟩
 | .one i :: ps, listed, σ, a, w, hs, hh, hnd, hB, hw, hk => by
  simp only [phsB, phB, Bool.and_eq_true, List.all_eq_true] at hB
  obtain ⟨⟨hr, hlater⟩, hB'⟩ := hB
  have hr' : i ∈ Region.ready md ops listed := by simpa using hr
  simp only [idsOf, Ph.ids, List.cons_append, List.nil_append, List.length_cons] at hh hnd ⊢
  have hiu := hh.un i (by simp)
  refine ⟨fun h0 => (by rw [h0] at hr'; cases hr'), fun j hj => ?_⟩
  have hji : j = i := by
   obtain ⟨hju, oj, hoj, _⟩ := mem_ready.1 hj
   have hjs := (Array.getElem?_eq_some_iff.1 hoj).1
   rcases List.mem_cons.1 (hh.cover j hjs hju) with h | h
   ·exact h
   ·have := (z5a hA (hlater j h)).ready hh.closed hj
    rw [getD_both hiu.2] at this
    cases this
  subst hji
  simp only [pWalk] at hw
  cases ho : ops[j]? with
  | none => rw [ho] at hw; exact hw.elim
  | some o =>
   rw [ho] at hw
   rw [List.nodup_cons] at hnd
   have hh' : Head md ops (idsOf ps) (listed.setIfInBounds j true) := ⟨by simp [hh.size], hh.closed.set hj, fun k hk => ⟨(hh.un k (by simp [hk])).1, by rw [getD_set_ne true (fun (e : j = k) => hnd.1 (by rw [e]; exact hk))]; exact (hh.un k (by simp [hk])).2⟩, fun k hks hku => by
    by_cases hjk : j = k
    ·subst hjk
     have : j < listed.size := by rw [hh.size]; exact hks
     simp [this] at hku
    ·rw [getD_set_ne true hjk] at hku
     rcases List.mem_cons.1 (hh.cover k hks hku) with h | h
     ·exact absurd h.symm hjk
     ·exact h⟩
   have := z2y (Q := Q) hT hs hw (Kc := wpAny P md ops Q (idsOf ps).length (listed.setIfInBounds j true)) fun σ' a' w' h1 h2 => z8J hT hsel hQp hA ps _ σ' a' w' h2 hh' hnd.2 hB' h1 hk
   unfold wpOp
   rw [ho]
   simp only
   split
   ·rename_i hw'; rw [if_pos hw'] at this; exact .inl this
   ·rename_i hw'; rw [if_neg hw'] at this; exact this
 | .mid l m :: ps, listed, σ, a, w, hs, hh, hnd, hB, hw, hk => by
  simp only [phsB, phB, Bool.and_eq_true, List.all_eq_true] at hB
  obtain ⟨⟨⟨⟨hlex, hplan⟩, hlater⟩, htake⟩, hB'⟩ := hB
  obtain ⟨L, hL, hwk, hseen⟩ := z83 l _ hw
  subst hL
  obtain ⟨β, hs⟩ := hs
  have hids : Ph.ids (.mid (L.map Ent.e) m) = L.map fun x => x.e.i := by simp [Ph.ids]
  have hlist : (L.map Ent.e).map PE.i = L.map fun x => x.e.i := by simp
  simp only [idsOf] at hh hnd ⊢
  rw [hids] at hh hnd hB' ⊢
  rw [hlist] at hlex
  have hmem : ∀ x ∈ L, x.e.i ∈ L.map fun x => x.e.i := fun x hx => List.mem_map.2 ⟨x, hx, rfl⟩
  have hun : ∀ x ∈ L, x.e.i < ops.size ∧ listed.getD x.e.i true = false := fun x hx => hh.un _ (by simp only [List.mem_append]; exact .inl (hmem x hx))
  obtain ⟨G, hsn, hks, hall, hroom, htk⟩ := zdl (σ0 := σ.reserve m) (n0 := σ.H.length) (m := m) (listed0 := listed) hA (by simp [AState.reserve]) (fun t o ht ho => by
   have ho' : (σ.H ++ List.replicate m AObj.gone)[t]? = some o := ho
   rw [List.getElem?_append_right ht, List.getElem?_replicate] at ho'
   split at ho'
   ·cases ho'; rfl
   ·cases ho') hplan hseen hlex hh.closed (fun x hx => (hun x hx).2) (fun x hx => by rw [hh.size]; exact (hun x hx).1)
  have hndL := (List.nodup_append.1 hnd).1
  have hdisj : ∀ j ∈ idsOf ps, j ∉ L.map fun x => x.e.i := fun j hj hm => (List.nodup_append.1 hnd).2.2 _ hm _ hj rfl
  have hLFl : ∀ j, (z0a (L.map fun x => x.e.i) listed).getD j true = if j ∈ (L.map fun x => x.e.i) then true else listed.getD j true := fun j => z2C _ _ j
  have hin : ∀ x ∈ L, x.e.i < ops.size ∧ (z0a (L.map fun x => x.e.i) listed).getD x.e.i true = true := fun x hx => ⟨(hun x hx).1, by rw [hLFl, if_pos (hmem x hx)]⟩
  rw [List.length_append, List.length_map]
  have closedLF : Closed md ops (z0a (L.map fun x => x.e.i) listed) := by
   have go : ∀ (is : List Nat) (l : Array Bool), Closed md ops l → lexR md ops is l = true → Closed md ops (z0a is l) := by
    intro is
    induction is with
    | nil => exact fun l h _ => h
    | cons i is ih =>
     intro l hc hl
     simp only [lexR, Bool.and_eq_true] at hl
     exact ih _ (hc.set (by simpa using hl.1)) hl.2
   exact go _ _ hh.closed hlex
  have hh' : Head md ops (idsOf ps) (z0a (L.map fun x => x.e.i) listed) := by
   refine ⟨by rw [z17, hh.size], closedLF, fun j hj => ⟨(hh.un j (by simp [hj])).1, ?_⟩, fun j hjs hju => ?_⟩
   ·rw [hLFl, if_neg (hdisj j hj)]; exact (hh.un j (by simp [hj])).2
   ·rw [hLFl] at hju
    by_cases hjm : j ∈ (L.map fun x => x.e.i)
    ·rw [if_pos hjm] at hju; cases hju
    ·rw [if_neg hjm] at hju
     exact (List.mem_append.1 (hh.cover j hjs hju)).resolve_left hjm
  refine ziK hT hsel hQp (later := idsOf ps) (LF := z0a (L.map fun x => x.e.i) listed) (σ0 := σ.reserve m) G hsn hs.pin_le (by rw [z17, hh.size]) hin (fun t ht x hx hxt => by
   have := hlater t ht x.e (List.mem_map.2 ⟨x, hx, rfl⟩)
   rw [hxt, Bool.false_or] at this
   exact z5a hA this) (fun x hx hxt => ?_) (fun rem listed' hne hrem hm => ?_) hks (fun σ1 a1 w1 hj1 hs1 => ?_) L.length (L.map fun x => x.e.i) listed (σ.reserve m) a w _ (by simp) hndL (fun i hi => by simpa using hi) (hs.reserve m)
   ((JS.init (fun t o ht ho => by
   have ho' : (σ.H ++ List.replicate m AObj.gone)[t]? = some o := ho
   rw [List.getElem?_append_right ht, List.getElem?_replicate] at ho'
   split at ho'
   ·cases ho'; rfl
   ·cases ho')).congr fun x hx => ⟨fun h => h.elim, fun h => h (hmem x hx)⟩) (fun x hx _ hmk => ?_) ⟨hh.size, hh.closed, fun j => ?_, fun j hjs hju => by simpa using hh.cover j hjs hju⟩
  ·obtain ⟨o, ho, h1, h2⟩ := htk x hx hxt
   refine ⟨o, ho, h1, fun j hj => ?_⟩
   rcases hj with hj | ⟨y, hy, rfl⟩
   ·have := htake x.e (List.mem_map.2 ⟨x, hx, rfl⟩)
    simp only [hxt, Bool.not_true, Bool.false_or, List.all_eq_true, Bool.or_eq_true] at this
    rcases this j hj with (h | h) | h
    ·exact .inr (.inl h)
    ·exact .inr (.inr (.inl (z5a hA h)))
    ·refine .inr (.inr (.inr fun oj hoj => ?_))
     rw [ho, hoj] at h
     exact h
   ·exact h2 y hy
  ·obtain ⟨j, hj⟩ := List.exists_mem_of_ne_nil rem hne
   refine za1 _ listed listed' rem hlex (fun k hk => ?_) (fun i hi hir => ?_) (fun i hi => by rw [hm.look i, if_pos hi]) ⟨j, hj, ?_⟩
   ·have hkl : k < listed.size := by
     rcases Nat.lt_or_ge k listed.size with h | h
     ·exact h
     ·simp [Array.getElem?_eq_none h] at hk
    have hkt : listed.getD k true = true := by simp [hkl] at hk ⊢; exact hk
    have hkr : k ∉ rem := fun hkr => by
     obtain ⟨x, hx, rfl⟩ := hrem k hkr
     rw [(hun x hx).2] at hkt; cases hkt
    have := hm.look k
    rw [if_neg hkr, hLFl] at this
    have hk2 : listed'.getD k true = true := by
     rw [this, hkt]
     split <;> rfl
    have hkl' : k < listed'.size := by rw [hm.size, ← hh.size]; exact hkl
    simp [hkl'] at hk2 ⊢; exact hk2
   ·have := hm.look i
    rw [if_neg hir, hLFl, if_pos hi] at this
    obtain ⟨x, hx, rfl⟩ := List.mem_map.1 hi
    have hil : x.e.i < listed'.size := by rw [hm.size]; exact (hun x hx).1
    simp [hil] at this ⊢; exact this
   ·obtain ⟨x, hx, rfl⟩ := hrem j hj
    exact hmem x hx
  ·exact z8J hT hsel hQp hA ps _ _ a1 w1 (hs1.like (hj1.like hall)) hh' (List.nodup_append.1 hnd).2.1 hB' hwk hk
  ·have := hroom x hx hmk
   rw [← hs.len, List.getElem?_append_right (by omega), List.getElem?_replicate, if_pos (by omega)]
  ·rw [hLFl]
   by_cases hj : j ∈ (L.map fun x => x.e.i)
   ·rw [if_pos hj]
    obtain ⟨x, hx, rfl⟩ := List.mem_map.1 hj
    exact (hun x hx).2
   ·rw [if_neg hj, if_neg hj]
end
def zcX (ops : Array Oper) : List (Nat × List Nat) := zbQ .any ops (List.range ops.size) []
def dregB (ops : Array Oper) (is : List Nat) (ps : List Ph) : Bool :=
 Region.noSelect ops && lexI .any ops is (Array.replicate ops.size false) && phsB (zcX ops) .any ops ps (z0a is (Array.replicate ops.size false)) &&
 (List.range ops.size).all (fun i => memN i is || memN i (idsOf ps)) && z9U (idsOf ps) && (idsOf ps).all (fun i => decide (i < ops.size) && !memN i is) && decide ((idsOf ps).length + is.length = ops.size)
section
variable {P : Program} {T : Tab} {σ : AState} {ops : Array Oper} {K : AState → Prop}
theorem zdQ (hT : TabOk P T) (hm : P.follows .mixedOrders = true) {is : List Nat} {ps : List Ph} (hB : dregB ops is ps = true) (hw : iWalk T ops is σ fun σ1 => pWalk P T ops ps σ1 K) : zgg P ops σ K := by
 intro W0 M0 F a w Q id h hq
 simp only [dregB, Bool.and_eq_true, decide_eq_true_eq, List.all_eq_true, Bool.or_eq_true, memN_iff, Bool.not_eq_true'] at hB
 obtain ⟨⟨⟨⟨⟨⟨hsel, hli⟩, hph⟩, hcov⟩, hnd⟩, hin⟩, hnum⟩ := hB
 obtain ⟨Q', hQ'⟩ : ∃ Q' : Exit → Act → World → Prop, Q' = fun e a w => e = .normal ∧ Q .normal a w := ⟨_, rfl⟩
 have hmono : ∀ e a w, Q' e a w → Q e a w := fun e a w hh => by rw [hQ'] at hh; obtain ⟨rfl, h2⟩ := hh; exact h2
 have hnp : ∀ c a w, ¬ Q' (.panic c) a w := fun c a w hh => by rw [hQ'] at hh; cases hh.1
 have hdrew : SimS W0 M0 F σ a { w with drawn := w.drawn + 1 } := by
  obtain ⟨β, h⟩ := h
  exact ⟨β, h.ext (w' := w.drew) (Below.drew (Below.refl _ _))⟩
 have hun0 : ∀ j, (Array.replicate ops.size false).getD j false = false := fun j => getD_replicate_false _ _
 have hA : AncOk .any ops (zcX ops) := z59 _ _ fun jp hjp => by cases hjp
 have key : wpAny P .any ops Q' ((idsOf ps).length + is.length) (Array.replicate ops.size false) a { w with drawn := w.drawn + 1 } := by
  refine z2K (K := fun σ1 => pWalk P T ops ps σ1 K) hT hsel hnp is _ σ a _ hli hdrew hw fun σ1 a1 hw1 hs1 => ?_
  refine z8J hT hsel hnp hA ps _ σ1 a1 _ hs1 ⟨by rw [z17]; simp, z3w is _ hli (fun j oj _ hl => by rw [hun0] at hl; cases hl), fun j hj => ?_, fun j hjs hju => ?_⟩ (z4Q hnd) hph hw1 (fun σ' a' w' k3 k4 => by rw [hQ']; exact ⟨rfl, hq σ' a' w' k3 k4⟩)
  ·obtain ⟨h1, h2⟩ := hin j hj
   refine ⟨h1, ?_⟩
   rw [z2C, if_neg (fun hm => by rw [memN_iff.2 hm] at h2; cases h2)]
   simp [h1]
  ·rcases hcov j (List.mem_range.2 hjs) with h1 | h1
   ·rw [z2C, if_pos h1] at hju; cases hju
   ·exact h1
 rw [hnum] at key
 exact wp_mono (wp_region_any hm key) hmono
end
end Go.Eng
namespace Go.Eng
open Go.RowKit
def z8F : List Oper → List Nat
 | [] => []
 | o :: os => match o.dst with | some d => d :: z8F os | none => z8F os
def z1w : Code → List Nat
 | .region _ ops _ => z8F ops.toList
 | .seq a b => z1w a ++ z1w b
 | .cond _ a b => z1w a ++ z1w b
 | .block _ a => z1w a
 | .loop a => z1w a
 | .scope a => z1w a
 | _ => []
def z35 (ds : List Nat) : List (Nat × AV) → List (Nat × AV)
 | [] => []
 | s :: l => if memN s.1 ds = true then z35 ds l else s :: z35 ds l
section
variable {P : Program} {T : Tab} {σ : AState} {Q : APost}
theorem aSq (n0 : Nat) (xs : List Nat) {x y : Code} (h : ∀ K : AState → Prop, (∀ σ' τ, σ'.keepS n0 xs = τ → awp P T y τ Q → K σ') → awp P T x σ (APost.then K Q)) : awp P T (.seq x y) σ Q := h _ (fun _ _ e h => ⟨_, _, by rw [e]; exact h⟩)
theorem aRg {id : Nat} {l : List Oper} (h : aops P T l.toArray l σ (Q .normal)) : awp P T (.region id l.toArray false) σ Q := by
 simp only [awp, Bool.false_eq_true, if_false]
 exact .inl (by simpa using h)
theorem zj6 {id : Nat} {l : List Oper} (hB : Region.lexB .any l.toArray = true) (h : dopsF P T l.toArray l σ (Q .normal)) : awp P T (.region id l.toArray true) σ Q := by
 simp only [awp, if_true]
 exact .inl ⟨hB, zcL _ _ _ h⟩
def LikeK (Q : APost) (σ : AState) : Prop := ∃ τ, Like τ σ ∧ Q .normal τ
theorem aLk (h : Q .normal σ) : LikeK Q σ := ⟨σ, Like.refl σ, h⟩
theorem zfp {ops : Array Oper} {K : AState → Prop} : iWalk T ops [] σ K = K σ := rfl
def zi5 (T : Tab) (ops : Array Oper) (is : List Nat) (K : AState → Prop) (σ : AState) : Prop := iWalk T ops is σ K
def zi7 (P : Program) (T : Tab) (ops : Array Oper) (is : List Nat) (K : AState → Prop) (σ : AState) : Prop := hWalk P T ops is σ K
def zhW (P : Program) (T : Tab) (ops : Array Oper) (is : List Nat) (K : AState → Prop) (σ : AState) : Prop := tWalk P T ops is σ K
theorem zdI {ops : Array Oper} {K : AState → Prop} {i : Nat} {is : List Nat} : iWalk T ops (i :: is) σ K = match ops[i]? with | some o => o.guard = none ∧ iStep T o σ (zi5 T ops is K) | none => False := rfl
theorem zfq {ops : Array Oper} {K : AState → Prop} : hWalk P T ops [] σ K = K σ := rfl
theorem zdJ {ops : Array Oper} {K : AState → Prop} {i : Nat} {is : List Nat} : hWalk P T ops (i :: is) σ K = match ops[i]? with | some o => dop P T ops o σ (zi7 P T ops is K) | none => False := rfl
theorem zes {ops : Array Oper} {K : AState → Prop} : tWalk P T ops [] σ K = K σ := rfl
theorem zd9 {ops : Array Oper} {K : AState → Prop} {i : Nat} {is : List Nat} : tWalk P T ops (i :: is) σ K = match ops[i]? with | some o => aop P T ops o σ (zhW P T ops is K) | none => False := rfl
theorem zhH (hT : TabOk P T) (hm : P.follows .mixedOrders = true) (id : Nat) {l : List Oper} (is : List Nat) (ps : List Ph) (hB : dregB l.toArray is ps = true) (h : iWalk T l.toArray is σ fun σ1 => pWalk P T l.toArray ps σ1 (Q .normal)) : awp P T (.region id l.toArray true) σ Q := by
 simp only [awp, if_true]
 exact .inr (.inr (zdQ hT hm hB h))
def zeL (P : Program) (T : Tab) (ops : Array Oper) (ps : List Ph) (K : AState → Prop) (σ : AState) : Prop := pWalk P T ops ps σ K
def zi3 (P : Program) (T : Tab) (ops : Array Oper) (n0 : Nat) (l : List PE) (K : AState → Prop) (σ : AState) : Prop := mWalk P T ops n0 l σ K
theorem zeJ {ops : Array Oper} {K : AState → Prop} : pWalk P T ops [] σ K = K σ := rfl
theorem zeI {ops : Array Oper} {K : AState → Prop} {i : Nat} {ps : List Ph} : pWalk P T ops (.one i :: ps) σ K = match ops[i]? with | some o => aop P T ops o σ (zeL P T ops ps K) | none => False := rfl
theorem zeK {ops : Array Oper} {K : AState → Prop} {l : List PE} {m : Nat} {ps : List Ph} : pWalk P T ops (.mid l m :: ps) σ K = mWalk P T ops σ.H.length l (σ.reserve m) (zeL P T ops ps K) := rfl
theorem zf2 {ops : Array Oper} {n0 : Nat} {K : AState → Prop} : mWalk P T ops n0 [] σ K = K σ := rfl
theorem zdA {ops : Array Oper} {n0 : Nat} {K : AState → Prop} {i c : Nat} {b b1 b2 : Bool} {hs ks : List Nat} {l : List PE} : mWalk P T ops n0 (⟨i, c, b, b1, b2, hs, ks⟩ :: l) σ K = match ops[i]? with | none => False | some o => mop P T ops o (n0 + c) b2 (ks.map (n0 + ·)) (hideH (hs.map (n0 + ·)) σ.H) σ (zi3 P T ops n0 l K) := rfl
theorem zee {f : FuncId} {as as' : List AV} {nd : Prop} {d tg : Nat} {K : AState → Prop} {r : AV} (hc : ACalls P f as' r []) (hnd : nd) (hd : d < σ.n) (hs : z0d as r []) (hr : ∀ n, r.shift n = r) (hK : K (σ.put d r)) : OCallAt P f as as' nd d tg σ K := ⟨.inl ⟨r, ⟨hd, hnd, hc, hs, hr⟩, hK⟩⟩
theorem zed {f : FuncId} {as as' : List AV} {nd : Prop} {d tg : Nat} {K : AState → Prop} {obj : AObj} (hc : ACalls P f as' (.one (.own 0)) [obj]) (hnd : nd) (hd : d < σ.n) (hs : z0d as (.one (.own 0)) [obj]) (ht : obj.tagsLt 0 = true) (hK : K ⟨σ.n, (d, .one (.own tg)) :: σ.slots, σ.H.set tg obj, σ.pin⟩) : OCallAt P f as as' nd d tg σ K := ⟨.inr ⟨obj, ⟨hd, hnd, hc, hs, ht⟩, hK⟩⟩
theorem aSk (h : Q .normal σ) : awp P T .skip σ Q := h
theorem aEx {id : Nat} (h : Q (.exit id) σ) : awp P T (.exit id) σ Q := h
theorem aRt (h : Q .ret σ) : awp P T .ret σ Q := h
theorem aBl {id : Nat} {c : Code} (h : awp P T c σ (APost.blk id Q)) : awp P T (.block id c) σ Q := h
theorem zhI {c : Operand} {x y : Code} (b : Bool) (hc : σ.evs c = .one (.bool b)) (hn : (σ.ev c).need) (h1 : b = true → awp P T x σ Q) (h2 : b = false → awp P T y σ Q) : awp P T (.cond c x y) σ Q := by
 simp only [awp, hc]
 exact ⟨hn, h1, h2⟩
def AV.theB : AV → Bool | .one (.bool b) => b | _ => false
theorem aCd {c : Operand} {x y : Code} (hc : σ.evs c = .one (.bool (σ.evs c).theB)) (hn : (σ.ev c).need) (h1 : (σ.evs c).theB = true → awp P T x σ Q) (h2 : (σ.evs c).theB = false → awp P T y σ Q) : awp P T (.cond c x y) σ Q :=
 zhI _ hc hn h1 h2
theorem z02 {c : Code} (ks : List (Nat × AV)) (hks : z35 (z1w c) σ.slots = ks) (S : Type) (I : S → Prop) (u : S → List (Nat × AV)) (hh : S → List AObj → List AObj) (μ : S → Nat) (s0 : S) (h0 : I s0)
  (hs : SubF σ ⟨σ.n, u s0 ++ ks, hh s0 σ.H, σ.pin⟩)
  (h : ∀ s, I s → ∀ K : AState → Prop, (∀ σ' s', I s' → SubF σ' ⟨σ.n, u s' ++ ks, hh s' σ.H, σ.pin⟩ → μ s' < μ s → K σ') → awp P T c ⟨σ.n, u s ++ ks, hh s σ.H, σ.pin⟩ (APost.then K Q)) : awp P T (.loop c) σ Q :=
 ⟨S, I, fun s => ⟨σ.n, u s ++ ks, hh s σ.H, σ.pin⟩, μ, s0, [], h0, ⟨trivial, hs⟩, fun s hI => h s hI _ fun σ' s' h1 h2 h3 => ⟨s', h1, h2, h3⟩⟩
theorem z14 {c : Code} (ths : List Thaw) (ks : List (Nat × AV)) (hks : z35 (z1w c) σ.slots = ks) (S : Type) (I : S → Prop) (u : S → List (Nat × AV)) (hh : S → List AObj) (μ : S → Nat) (s0 : S) (h0 : I s0)
  (hs : z4J ths σ ∧ SubF (AState.thaw ths σ) ⟨σ.n, u s0 ++ ks, hh s0, σ.pin⟩)
  (h : ∀ s, I s → ∀ K : AState → Prop, (∀ σ' s', I s' → SubF σ' ⟨σ.n, u s' ++ ks, hh s', σ.pin⟩ → μ s' < μ s → K σ') → awp P T c ⟨σ.n, u s ++ ks, hh s, σ.pin⟩ (APost.then K Q)) : awp P T (.loop c) σ Q :=
 ⟨S, I, fun s => ⟨σ.n, u s ++ ks, hh s, σ.pin⟩, μ, s0, ths, h0, hs, fun s hI => h s hI _ fun σ' s' h1 h2 h3 => ⟨s', h1, h2, h3⟩⟩
def aopsR (P : Program) (T : Tab) (ops : Array Oper) (rest : List Oper) (K : AState → Prop) (σ : AState) : Prop := aops P T ops rest σ K
def dopsR (P : Program) (T : Tab) (ops : Array Oper) (rest : List Oper) (K : AState → Prop) (σ : AState) : Prop := dopsF P T ops rest σ K
theorem zhL {ops : Array Oper} {K : AState → Prop} : aops P T ops [] σ K = K σ := rfl
theorem zgd {ops : Array Oper} {K : AState → Prop} {o : Oper} {rest : List Oper} : aops P T ops (o :: rest) σ K = aop P T ops o σ (aopsR P T ops rest K) := rfl
theorem zfK {ops : Array Oper} {K : AState → Prop} : dopsF P T ops [] σ K = K σ := rfl
theorem zdS {ops : Array Oper} {K : AState → Prop} {o : Oper} {rest : List Oper} : dopsF P T ops (o :: rest) σ K = dop P T ops o σ (dopsR P T ops rest K) := rfl
theorem zhS {f : FuncId} {as as' : List AV} {nd : Prop} {fo : Operand} {args : List Operand} {d : Nat} {K : AState → Prop} {r : AV} {Hn : List AObj} (hc : ACalls P f as' r Hn) (hnd : nd) (hd : d < σ.n) (hs : z0d as r Hn)
  (hK : K ⟨σ.n, (d, r.shift σ.H.length) :: σ.slots, σ.H ++ Hn, σ.pin⟩) : CallAt P f as as' nd fo args d σ K := ⟨.inl ⟨r, Hn, ⟨⟨hnd, hd⟩, hc, hs⟩, hK⟩⟩
def mside (σ : AState) (fo : Operand) (args : List Operand) (ts : List Nat) (p : Nat) (f : FuncId) (as' : List AV) (Hin : List AObj) (d : Nat) : Prop :=
 (match callee σ fo args with | some (f', as) => f' = f ∧ as.map (AV.ren (idxIn ts)) = as' | none => False) ∧ needs σ (fo :: args) ∧ d < σ.n ∧ z2a σ ts p ∧ z5w ts σ.H = Hin
theorem z0Z (frz ts : List Nat) {f f' : FuncId} {as as' args1 : List AV} {nd : Prop} {fo : Operand} {args : List Operand} {d p : Nat} {K : AState → Prop} {r : AV} {Hin Hout : List AObj} (hc : MCalls P f' p Hin args1 r Hout)
  (hm : mside (AState.freezeAll frz σ) fo args ts p f' args1 Hin d) (hK : K (((AState.freezeAll frz σ).handed ts p Hout).put d (r.ren (nthT ts)))) : CallAt P f as as' nd fo args d σ K := by
 obtain ⟨h1, h2, h3, h4, h5⟩ := hm
 split at h1
 ·rename_i g as1 he
  obtain ⟨rfl, rfl⟩ := h1
  subst h5
  exact ⟨.inr ⟨_, ts, p, g, as1, r, Hout, fun _ _ _ _ _ β h => Sim.freezeAll frz σ β h, ⟨he, h2, h3, h4⟩, hc, hK⟩⟩
 ·exact h1.elim
theorem zgj (ths : List Thaw) (frz ts : List Nat) {f f' : FuncId} {as as' args1 : List AV} {nd : Prop} {fo : Operand} {args : List Operand} {d p : Nat} {K : AState → Prop} {r : AV} {Hin Hout : List AObj} (hc : MCalls P f' p Hin args1 r Hout) (ht : z4J ths σ)
  (hm : mside (AState.freezeAll frz (AState.thaw ths σ)) fo args ts p f' args1 Hin d) (hK : K (((AState.freezeAll frz (AState.thaw ths σ)).handed ts p Hout).put d (r.ren (nthT ts)))) : CallAt P f as as' nd fo args d σ K := by
 obtain ⟨h1, h2, h3, h4, h5⟩ := hm
 split at h1
 ·rename_i g as1 he
  obtain ⟨rfl, rfl⟩ := h1
  subst h5
  exact ⟨.inr ⟨_, ts, p, g, as1, r, Hout, fun _ _ _ _ _ β h => by obtain ⟨β1, h1⟩ := Sim.thaw ths σ β h ht; exact Sim.freezeAll frz _ β1 h1, ⟨he, h2, h3, h4⟩, hc, hK⟩⟩
 ·exact h1.elim
theorem zgk {g : Bool} {f : FuncId} {as as' : List AV} {nd : Prop} {fo : Operand} {args : List Operand} {d : Nat} {K : AState → Prop} {r : AV} (hc : g = true → ACalls P f as' r []) (hnd : g = true → nd) (hd : d < σ.n) (hs : z0d as r [])
  (hK : K (σ.put d (.cond g (r.shift σ.H.length)))) : GCallAt P g f as as' nd fo args d σ K := ⟨.inl ⟨r, ⟨hd, fun h => ⟨hnd h, hc h, hs⟩⟩, hK⟩⟩
theorem z1T (v : AV) {g : Bool} {f : FuncId} {as as' : List AV} {nd : Prop} {fo : Operand} {args : List Operand} {d : Nat} {K : AState → Prop} (h1 : g = true → CallAt P f as as' nd fo args d σ K) (h2 : g = false → d < σ.n ∧ K (σ.put d (.cond false v))) : GCallAt P g f as as' nd fo args d σ K := ⟨.inr ⟨h1, fun h => ⟨v, h2 h⟩⟩⟩
theorem aNk {rows : List (List D)} {t : Bool} {k : Bool → Prop} (h : ∀ b, (b = t → rows = []) → k b) : NilK rows t k := h
theorem zaY (K : AState → Prop) (σ : AState) : APost.then K Q .normal σ = K σ := rfl
theorem zgx (K : AState → Prop) (σ : AState) : APost.then K Q .ret σ = Q .ret σ := rfl
theorem zer (K : AState → Prop) (σ : AState) (id : Nat) : APost.then K Q (.exit id) σ = Q (.exit id) σ := rfl
theorem zdZ (id : Nat) (σ : AState) : APost.blk id Q .normal σ = Q .normal σ := rfl
theorem zj1 (id : Nat) (σ : AState) : APost.blk id Q .ret σ = Q .ret σ := rfl
theorem zhC (id id' : Nat) (σ : AState) : APost.blk id Q (.exit id') σ = if id' = id then Q .normal σ else Q (.exit id') σ := rfl
theorem bls : ((¬True) = False) ∧ (∀ p : Prop, (p ∨ p) = p) ∧ (∀ p : Prop, (False ∨ p) = p) ∧ (∀ p : Prop, (p ∨ False) = p) ∧ (∀ (p : Prop) [Decidable p], (decide p = true) = p) ∧ (∀ (p : Prop) [Decidable p], (decide p = false) = ¬p) ∧
  (∀ a b : Bool, ((a && b) = true) = (a = true ∧ b = true)) ∧ (∀ a b : Bool, ((a || b) = true) = (a = true ∨ b = true)) ∧ (∀ a b : Bool, ((a && b) = false) = (a = false ∨ b = false)) ∧ (∀ a b : Bool, ((a || b) = false) = (a = false ∧ b = false)) ∧
  (∀ b : Bool, ((!b) = true) = (b = false)) ∧ (∀ b : Bool, ((!b) = false) = (b = true)) ∧ (∀ (α : Type) [BEq α] [LawfulBEq α] (a b : α), ((a == b) = true) = (a = b)) ∧ (∀ (α : Type) [BEq α] [LawfulBEq α] (a b : α), ((a != b) = true) = (¬ a = b)) ∧
  (∀ (α : Type) [BEq α] [LawfulBEq α] (a b : α), ((a == b) = false) = (¬ a = b)) ∧ (∀ (α : Type) [BEq α] [LawfulBEq α] (a b : α), ((a != b) = false) = (a = b)) ∧ (∀ a b : Int, (¬ a < b) = (b ≤ a)) ∧ (∀ a b : Int, (¬ a ≤ b) = (b < a)) ∧ (∀ (α : Type) (a b : α), (a ≠ b) = ¬ a = b) := by
 refine ⟨by simp, by simp, by simp, by simp, fun p _ => by simp, fun p _ => by simp, by simp, by simp, by simp, by simp, by simp, by simp, fun α _ _ a b => by simp, fun α _ _ a b => by simp, fun α _ _ a b => by simp, fun α _ _ a b => by simp, fun a b => propext Int.not_lt, fun a b => propext Int.not_le, fun _ _ _ => rfl⟩
theorem zj2 (b c : Bool) : (bif b then c else false) = (b && c) := by cases b <;> rfl
theorem zjW (b c : Bool) : (bif b then true else c) = (b || c) := by cases b <;> rfl
theorem zg2 (b : Bool) : (b == true) = b := by cases b <;> rfl
theorem ze1 (b : Bool) : (b == false) = !b := by cases b <;> rfl
end
def hInR (f : Nat → Option Nat) (H : List AObj) : List Nat → List AObj
 | [] => []
 | t :: ts => (H.getD t .gone).ren f :: hInR f H ts
theorem zhj (ts : List Nat) (H : List AObj) : z5w ts H = hInR (idxIn ts) H ts := by
 have : ∀ (f : Nat → Option Nat) (l : List Nat), l.map (fun t => (H.getD t .gone).ren f) = hInR f H l := by
  intro f l
  induction l with
  | nil => rfl
  | cons t l ih => rw [List.map_cons, ih]; rfl
 exact this _ _
def ints (xs : List Int) : List (List D) := xs.map fun z => [.int .i64 z]
theorem z0r (xs : List Int) : (ints xs).length = xs.length := by simp [ints]
theorem zfn (xs : List Int) (k : Nat) : (ints xs).getD k [.int .i64 0] = [.int .i64 (xs.getD k 0)] := by
 simp only [ints, List.getD, List.getElem?_map]
 cases xs[k]? <;> rfl
theorem z0f (xs ys : List Int) : ints xs ++ ints ys = ints (xs ++ ys) := by simp [ints]
theorem zhi : ([] : List (List D)) = ints [] := rfl
theorem z0e (z : Int) : [[D.int .i64 z]] = ints [z] := rfl
theorem zfm (xs : List Int) : ∀ r ∈ ints xs, r.length = 1 := by
 intro r hr
 obtain ⟨z, _, rfl⟩ := List.mem_map.1 hr
 rfl
theorem ziP (xs : List Int) : (∀ r : List D, r ∈ ints xs → r.length = 1) ↔ True := ⟨fun _ => trivial, fun _ => zfm xs⟩
theorem zfl (xs : List Int) (k : Nat) : (ints xs).take k = ints (xs.take k) := by simp [ints]
theorem zfo (xs : List Int) (k : Nat) : (ints xs).drop k = ints (xs.drop k) := by simp [ints]
theorem z2t (xs : List Int) : ∀ r ∈ ints xs, r.all D.flat = true := by
 intro r hr
 obtain ⟨z, _, rfl⟩ := List.mem_map.1 hr
 rfl
theorem zdp (m : Nat) : AObj.gone.tagsLt m = true := rfl
theorem objLt_row (m : Nat) (e : TypeId) (sz : Nat) (rows : List (List D)) : (AObj.row e sz rows).tagsLt m = true := rfl
theorem zeO (m : Nat) (e : TypeId) (cs : List D) : (AObj.var e cs).tagsLt m = cs.all (D.tagsLt m) := rfl
theorem zeP (m : Nat) (kd : KeyKind) (kvs : List (AV × AV)) : (AObj.map kd kvs).tagsLt m = kvs.all fun kv => kv.1.tagsLt m && kv.2.tagsLt m := rfl
theorem zb9 {α : Type} : (none : Option α).toArray.toList = [] := rfl
theorem zb8 {α : Type} (a : α) : (some a).toArray.toList = [a] := rfl
attribute [go_sem] Nat.reduceLeDiff Nat.reduceSub Int.reduceLT Int.reduceLE Int.reduceAdd Int.reduceSub Int.reduceMul Int.reduceNeg Int.reduceToNat Int.cast_ofNat_Int Int.reduceEq Int.reduceBEq Int.reduceNe Nat.reduceBEq decide_true decide_false
attribute [go_sem] D.pure
attribute [go_sem] zb9 zb8 ziP zfl zfo
attribute [go_sem] AState.keepS keepL
attribute [go_sem ↓] reduceIte reduceDIte
attribute [go_sem] zeJ zeI zeK zeL zf2 zdA zi3 AState.reserve hideH mop mop1 mopG zi4 mBox mMake mMap zbh z5D numOf zf1 zbg zcn z92 z38 z3a Nat.add_zero Nat.zero_add Bool.true_eq_false ite_true ite_false
attribute [go_sem] zfp zdI zfq zdJ zes zd9 zi5 zi7 zhW iStep
attribute [go_sem] D.tags0 D.tags AV.tags AObj.tags z5N z8L AState.pare zbd z9t z5W pickS z8z isRow isVar AState.thaw AState.thaw1 zc0 z4J AState.handed z2L zhj hInR idxIn nthT keepT AV.ren D.ren D.ren0 AObj.ren z0U z6d z2q AState.withObjs Nat.zero_le
attribute [go_sem] gfull zbo zae appOk z8q nilV aop aop1 aopG z0m nstep z3K pstep zcD cstep zfw callee zet tBox tNil z16 tMake zc4 z8s z5K z3P fullV z0J aval maxV minV z3h z4v zfk AV.str? pickV binV za8 z52 z9y unV z0h z5T z0M z29 loadV zaa zak partV z3t lenV z0Q z6l convV capsV z6E zaC fillD Eng.setAt z1b z1f z2p AV.cells? AV.denil AV.strip AV.need AV.says AV.isB needs AState.ev AState.evs AState.put AState.pushObj AState.setObj AState.fz AState.freezeAll AState.freeze lookS z98 List.append_toArray Array.toList_append TyRow.isAgg Op.operands Call.operands D.fz D.fz0 AV.fz AObj.fz D.owns AV.owns zaY zgx zer zdZ zj1 zhC zj2 zjW zg2 ze1 z3r ziR zhq ziS Nat.reduceEqDiff reduceCtorEq if_true if_false Option.getD_some Option.getD_none Option.bind_some Option.bind_none Option.map_some Option.map_none List.map_cons List.map_nil List.cons_append List.nil_append List.append_nil List.length_cons List.length_nil List.getElem?_cons_zero List.getElem?_cons_succ List.getElem?_nil List.getElem?_toArray List.toList_toArray List.flatMap_cons List.flatMap_nil List.replicate List.flatten_cons List.flatten_nil List.take_succ_cons List.take_zero List.drop_succ_cons List.drop_zero List.take_nil List.drop_nil List.headD_cons List.getD_cons_zero List.getD_cons_succ List.set_cons_zero List.set_cons_succ List.all_cons List.all_nil and_true true_and ne_eq not_false_eq_true Nat.reduceLT Nat.reduceAdd Nat.reduceMul Nat.zero_lt_succ Int.toNat_natCast z0r zfn forall_const z1w z8F memN z35 SubA z5M subH zeu AV.tagsLt D.tagsLt D.tagsLt0 zdp objLt_row zeO zeP z00 Bool.false_eq_true Option.some.injEq AV.one.injEq AV.agg.injEq AV.tup.injEq D.int.injEq D.bool.injEq D.str.injEq D.list.injEq D.own.injEq List.cons.injEq AObj.row.injEq implies_true imp_self and_self Bool.not_eq_eq_eq_not Bool.not_true Bool.not_false z3m z6c z2G keyOk z0c TyRow.zeroV Option.isSome_some Option.isSome_none z6h eqRow eqD z0L likeD beq_self_eq_true Bool.true_and Bool.and_true Bool.and_self zhL zgd aopsR zfK zdS dopsR dop dop1 dopG zbu zfL AV.bor D.bor D.bor1 D.bor0 AV.shift D.shift D.shift0 List.isEmpty_nil List.map_map List.mem_cons List.not_mem_nil or_false forall_eq forall_eq_or_imp false_or List.forall_mem_cons
end Go.Eng
namespace Go.Eng
theorem zgp (z : Int) (h0 : 0 ≤ z) (h1 : z < 18446744073709551616) : IntKind.u64.wrap z = z := by
 have : IntKind.u64.wrap z = z % 18446744073709551616 := rfl
 rw [this]; omega
theorem zhr (m j : Nat) : ((m : Int).fdiv (2 ^ j)) = ((m / 2 ^ j : Nat) : Int) := by
 rw [Int.fdiv_eq_ediv_of_nonneg _ (Int.le_of_lt (Int.pow_pos (by omega)))]
 simp
theorem z1r {as : List AV} {r : AV} (h : r.flatOwn = true) : z0d as r [] := .inr ⟨h, fun o ho => by cases ho⟩
theorem z1q {as : List AV} {r : AV} {e : TypeId} {sz : Nat} {rows : List (List D)} (h : r.flatOwn = true) (hr : ∀ row ∈ rows, row.all D.flat = true) : z0d as r [.row e sz rows] := .inr ⟨h, fun o ho => by
 rcases List.mem_singleton.1 ho with rfl
 exact hr⟩
attribute [go_sem] Bool.false_or Bool.or_false Bool.true_or Bool.or_true Bool.and_false Bool.false_and or_false or_true true_or and_false false_and
end Go.Eng
namespace Go.Eng
open Go.RowKit
def LeD (d e : D) : Prop := ∀ (w : World) (M : Nat → Prop) (v : Value), RepD w M d v → RepD w M e v
def LeL (ds es : List D) : Prop := ∀ (w : World) (M : Nat → Prop) (vs : List Value), RepL w M ds vs → RepL w M es vs
def LeR : List (List D) → List (List D) → Prop
 | [], [] => True
 | r :: rs, q :: qs => LeL r q ∧ LeR rs qs
 | _, _ => False
theorem LeD.refl (d : D) : LeD d d := fun _ _ _ h => h
theorem LeL.refl (ds : List D) : LeL ds ds := fun _ _ _ h => h
theorem LeR.refl : ∀ rs : List (List D), LeR rs rs
 | [] => trivial
 | r :: rs => ⟨LeL.refl r, LeR.refl rs⟩
theorem LeL.cons {d e : D} {ds es : List D} (h : LeD d e) (k : LeL ds es) : LeL (d :: ds) (e :: es) := fun w M vs hv => by
 simp only [RepL] at hv ⊢
 obtain ⟨v, rest, e1, h1, h2⟩ := hv
 exact ⟨v, rest, e1, h w M v h1, k w M rest h2⟩
theorem LeR.length : ∀ {rs qs : List (List D)}, LeR rs qs → rs.length = qs.length
 | [], [], _ => rfl
 | _ :: rs, _ :: qs, h => by rw [List.length_cons, List.length_cons, LeR.length h.2]
theorem LeR.rows {w : World} {M : Nat → Prop} {ad : Addr} {sz : Nat} : ∀ {rs qs : List (List D)} {o : Nat}, LeR rs qs → RepRows w M ad sz o rs → RepRows w M ad sz o qs
 | [], [], _, _, h => h
 | r :: rs, q :: qs, o, h, k => by
  simp only [RepRows] at k ⊢
  obtain ⟨⟨vs, h1, h2, h3⟩, h4⟩ := k
  exact ⟨⟨vs, h1, h2, h.1 w M vs h3⟩, LeR.rows h.2 h4⟩
def D.plainD : D → Bool
 | .int .. => true
 | .bool .. => true
 | .str .. => true
 | .raw .. => true
 | .nil => true
 | .list .. => true
 | .ref .. => true
 | _ => false
theorem RepC.plainD {w : World} {M : Nat → Prop} {β : List Value} {d : D} {v : Value} (hd : d.plainD = true) : RepC w M β d v ↔ RepD w M d v := by
 cases d <;> first | (cases hd; done) | exact Iff.rfl
def LeV (a b : AV) : Prop := ∀ (w : World) (M : Nat → Prop) (β : List Value) (v : Value), RepV w M β a v → RepV w M β b v
theorem LeV.refl (a : AV) : LeV a a := fun _ _ _ _ h => h
def LeC : List D → List D → Prop
 | [], [] => True
 | d :: ds, e :: es => (d.plainD = true ∧ e.plainD = true ∧ LeD d e) ∧ LeC ds es
 | _, _ => False
theorem LeC.at : ∀ {ds es : List D}, LeC ds es → ds.length = es.length ∧ ∀ (i : Nat) (d e : D), ds[i]? = some d → es[i]? = some e → d.plainD = true ∧ e.plainD = true ∧ LeD d e
 | [], [], _ => ⟨rfl, fun i d e h => by simp at h⟩
 | d :: ds, e :: es, h => by
  obtain ⟨h1, h2⟩ := LeC.at h.2
  refine ⟨by simp [h1], fun i x y hx hy => ?_⟩
  cases i with
  | zero => simp at hx hy; subst hx; subst hy; exact h.1
  | succ i => exact h2 i x y (by simpa using hx) (by simpa using hy)
def LeVs : List AV → List AV → Prop
 | [], [] => True
 | a :: as, b :: bs => LeV a b ∧ LeVs as bs
 | _, _ => False
theorem LeVs.rep {w : World} {M : Nat → Prop} {β : List Value} : ∀ {us ts : List AV} {vs : List Value}, LeVs us ts → RepVL w M β us vs → RepVL w M β ts vs
 | [], [], _, _, h => h
 | a :: us, b :: ts, vs, h, k => by
  simp only [RepVL] at k ⊢
  obtain ⟨v, rest, e, h1, h2⟩ := k
  exact ⟨v, rest, e, h.1 w M β v h1, LeVs.rep h.2 h2⟩
theorem ACalls.le {P : Program} {f : FuncId} {us ts : List AV} {r : AV} {Hn : List AObj} (h : LeVs us ts) (hc : ACalls P f ts r Hn) : ACalls P f us r Hn := ⟨hc.ok, fun w M vs hM hv => hc.run w M vs hM (LeVs.rep h hv)⟩
theorem zh2 (M0 : Nat → Prop) : Mof M0 [] = M0 := funext fun g => propext ⟨fun h => h.resolve_right z0j, .inl⟩
theorem zfS {P : Program} {f : FuncId} {args : List AV} {r : AV} (h : ACalls P f args r []) : MCalls P f 0 [] args r [] := by
 refine ⟨h.ok, rfl, fun w M0 F vs hM hp hv => ?_⟩
 have hF : F = [] := List.eq_nil_of_length_eq_zero hp.len
 subst hF
 rw [zh2] at hv
 refine (h.run w M0 vs hM hv).mono ?_
 rintro e w' ⟨v, β, rfl, hR⟩
 have hβ : β = [] := List.eq_nil_of_length_eq_zero hR.len
 subst hβ
 exact ⟨v, [], rfl, .of hR.below, rfl, fun t ht => by omega, fun t o x ho => by simp at ho, fun g hg => (z0j hg).elim, fun t t' x x' g h1 => by simp at h1, hR.val⟩
attribute [go_sem] List.append_eq
section
variable {P : Program} {T : Tab} {σ : AState} {Q : APost} {g : Bool} {f : FuncId} {as as' : List AV} {nd : Prop} {fo : Operand} {args : List Operand} {d tg : Nat} {K : AState → Prop} {r : AV} {Hn : List AObj} {obj : AObj}
theorem cA (hc : ACalls P f as' r Hn) (hK : K ⟨σ.n, (d, r.shift σ.H.length) :: σ.slots, σ.H ++ Hn, σ.pin⟩) (hnd : nd := by (simp only [go_sem]; done)) (hd : d < σ.n := by (simp only [go_sem]; done)) (hs : z0d as r Hn := by (with_unfolding_all first | exact .inl ⟨rfl, rfl⟩ | exact z1r rfl | exact z1q rfl (z2t _) | exact z1q rfl (by assumption))) : CallAt P f as as' nd fo args d σ K := zhS hc hnd hd hs hK
theorem cO (hc : ACalls P f as' r []) (hK : K (σ.put d r)) (hnd : nd := by (simp only [go_sem]; done)) (hd : d < σ.n := by (simp only [go_sem]; done)) (hs : z0d as r [] := by (with_unfolding_all first | exact .inl ⟨rfl, rfl⟩ | exact z1r rfl)) (hr : ∀ n, r.shift n = r := by with_unfolding_all exact fun n => rfl) : OCallAt P f as as' nd d tg σ K := zee hc hnd hd hs hr hK
theorem cR (hc : ACalls P f as' (.one (.own 0)) [obj]) (hK : K ⟨σ.n, (d, .one (.own tg)) :: σ.slots, σ.H.set tg obj, σ.pin⟩) (hnd : nd := by (simp only [go_sem]; done)) (hd : d < σ.n := by (simp only [go_sem]; done)) (hs : z0d as (.one (.own 0)) [obj] := by (with_unfolding_all first | exact z1q rfl (z2t _) | exact z1q rfl (by assumption))) (ht : obj.tagsLt 0 = true := by with_unfolding_all rfl) : OCallAt P f as as' nd d tg σ K := zed hc hnd hd hs ht hK
theorem cG (hc : g = true → ACalls P f as' r []) (hK : K (σ.put d (.cond g (r.shift σ.H.length)))) (hnd : g = true → nd := by (intro hg; first | exact hg | (with_reducible exact absurd hg Bool.false_ne_true) | ((try simp only [bls] at hg); (try simp only [go_sem]); (try simp only [bls]); first | done | omega | exact hg))) (hd : d < σ.n := by (simp only [go_sem]; done)) (hs : z0d as r [] := by (with_unfolding_all first | exact .inl ⟨rfl, rfl⟩ | exact z1r rfl)) : GCallAt P g f as as' nd fo args d σ K := zgk hc hnd hd hs hK
theorem xA (hK : K ⟨σ.n, (d, r.shift σ.H.length) :: σ.slots, σ.H ++ Hn, σ.pin⟩) (hc : ACalls P f as' r Hn := by assumption) (hnd : nd := by (simp only [go_sem]; done)) (hd : d < σ.n := by (simp only [go_sem]; done)) (hs : z0d as r Hn := by (with_unfolding_all first | exact .inl ⟨rfl, rfl⟩ | exact z1r rfl | exact z1q rfl (z2t _) | exact z1q rfl (by assumption))) : CallAt P f as as' nd fo args d σ K := cA hc hK hnd hd hs
theorem xO (hK : K (σ.put d r)) (hc : ACalls P f as' r [] := by assumption) (hnd : nd := by (simp only [go_sem]; done)) (hd : d < σ.n := by (simp only [go_sem]; done)) (hs : z0d as r [] := by (with_unfolding_all first | exact .inl ⟨rfl, rfl⟩ | exact z1r rfl)) (hr : ∀ n, r.shift n = r := by with_unfolding_all exact fun n => rfl) : OCallAt P f as as' nd d tg σ K := cO hc hK hnd hd hs hr
theorem xG (hK : K (σ.put d (.cond g (r.shift σ.H.length)))) (hc : g = true → ACalls P f as' r [] := by (intro hg; assumption)) (hnd : g = true → nd := by (intro hg; first | exact hg | (with_reducible exact absurd hg Bool.false_ne_true) | ((try simp only [bls] at hg); (try simp only [go_sem]); (try simp only [bls]); first | done | omega | exact hg))) (hd : d < σ.n := by (simp only [go_sem]; done)) (hs : z0d as r [] := by (with_unfolding_all first | exact .inl ⟨rfl, rfl⟩ | exact z1r rfl)) : GCallAt P g f as as' nd fo args d σ K := cG hc hK hnd hd hs
theorem gA (h : CallAt P f as as' nd fo args d σ K) : CallAt P f as as' nd fo args d σ K := h
theorem gG (h : GCallAt P g f as as' nd fo args d σ K) : GCallAt P g f as as' nd fo args d σ K := h
theorem rD {id : Nat} {l : List Oper} (h : dopsF P T l.toArray l σ (Q .normal)) (hB : Region.lexB .any l.toArray = true := by kernel_rfl) (he : zi6 l = false := by kernel_rfl) : awp P T (.region id l.toArray true) σ Q := zj6 hB h
theorem rP (hT : TabOk P T) (hm : P.follows .mixedOrders = true) (id : Nat) {l : List Oper} (is : List Nat) (ps : List Ph) (h : iWalk T l.toArray is σ fun σ1 => pWalk P T l.toArray ps σ1 (Q .normal)) (hB : dregB l.toArray is ps = true := by kernel_rfl) : awp P T (.region id l.toArray true) σ Q := zhH hT hm id is ps hB h
end
attribute [go_sem] retF retM retL resV resW retO resAV D.bor1 D.bor0 AV.flatOwn D.flatOwn D.flat AV.tagged D.tagged AObj.plain
attribute [go_sem] AV.theB pe
theorem aZ {p : Prop} (h : p := by first | (omega; done) | (intro hv; (try simp only [bls] at hv); (try simp only [bls]); omega) | (intro hg; (simp only [hg, Bool.true_and, true_and, implies_true]; try (intro hg2; simp only [hg2, Bool.not_false, Bool.not_true])); first | done | fail)) : p := h
class Sg (A : Prop) (B : outParam Prop) : Prop where
 go : B → A
theorem aGo {A B : Prop} [h : Sg A B] (b : B) : A := h.go b
class Hd (y : Code) (xs : List Nat) (l : outParam (List Nat)) : Prop where
 ok : True
section
variable {P : Program} {T : Tab} {σ : AState} {Q : APost} {id : Nat} {l : List Oper} {t : Nat} {a b c x y : Code} {xs : List Nat}
instance sgRg : Sg (awp P T (.region id l.toArray false) σ Q) (aops P T l.toArray l σ (Q .normal)) := ⟨aRg⟩
instance sgEx : Sg (awp P T (.exit id) σ Q) (Q (.exit id) σ) := ⟨aEx⟩
instance sgSk : Sg (awp P T .skip σ Q) (Q .normal σ) := ⟨aSk⟩
instance sgRt : Sg (awp P T .ret σ Q) (Q .ret σ) := ⟨aRt⟩
instance sgLk : Sg (LikeK Q σ) (Q .normal σ) := ⟨aLk⟩
instance (priority := low) hd0 : Hd y xs xs := ⟨trivial⟩
instance hd1 : Hd (.cond (.tmp t) a b) xs (t :: xs) := ⟨trivial⟩
instance hd2 : Hd (.seq (.cond (.tmp t) a b) c) xs (t :: xs) := ⟨trivial⟩
instance hd3 : Hd (.seq (.block id (.cond (.tmp t) a b)) c) xs (t :: xs) := ⟨trivial⟩
instance hd4 : Hd (.block id (.cond (.tmp t) a b)) xs (t :: xs) := ⟨trivial⟩
theorem aS (n0 : Nat) (xs : List Nat) {x y : Code} {l : List Nat} [Hd y xs l] (h : ∀ K : AState → Prop, (∀ σ' τ, σ'.keepS n0 l = τ → awp P T y τ Q → K σ') → awp P T x σ (APost.then K Q)) : awp P T (.seq x y) σ Q := aSq n0 l h
end
end Go.Eng
