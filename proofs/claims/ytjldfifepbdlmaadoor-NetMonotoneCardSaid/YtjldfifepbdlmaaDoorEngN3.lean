/-
  The abstract machine: regions that draw their order and make objects in the middle: the objects' tags are kept free beforehand, so that the order does not matter.
-/
import Derived.Test.YtjldfifepbdlmaaDoorEngN2
import Derived.Test.YtjldfifepbdlmaaDoorEngO
set_option linter.unusedSimpArgs false
set_option linter.unusedVariables false
namespace Go.Eng
open Go.RowKit

/-- 'H' with some of its free tags taken, and perhaps longer -/
def Ext (H H' : List AObj) : Prop := ∀ (t : Nat) (o : AObj), H[t]? = some o → o ≠ .gone → H'[t]? = some o
theorem Ext.refl (H : List AObj) : Ext H H := fun _ _ h _ => h
theorem Ext.trans {H H' H'' : List AObj} (h : Ext H H') (k : Ext H' H'') : Ext H H'' := fun t o a b => k t o (h t o a b) b
section
variable {T : Tab} {H H' : List AObj}
theorem Ext.look (h : Ext H H') {α : Type} {t : Nat} (f : AObj → Option α) (hf : f .gone = none) {r : α} (hr : (H[t]?).bind f = some r) : (H'[t]?).bind f = some r := by
  cases ho : H[t]? with
  | none => rw [ho] at hr; cases hr
  | some o =>
    rw [ho] at hr
    rw [h t o ho (fun e => by subst e; rw [Option.bind_some, hf] at hr; cases hr)]
    exact hr
theorem isVarAt_mono (h : Ext H H') {t : Nat} (hv : isVarAt H t) : isVarAt H' t := by
  obtain ⟨e, cs, ho⟩ := isVarAt_iff hv
  unfold isVarAt
  rw [h t _ ho (by simp)]
  trivial
theorem isRowAt_mono (h : Ext H H') {t : Nat} (hv : isRowAt H t) : isRowAt H' t := by
  obtain ⟨e, sz, rows, ho⟩ := isRowAt_iff hv
  unfold isRowAt
  rw [h t _ ho (by simp)]
  trivial
theorem fieldAddrV_mono (h : Ext H H') (r : TyRow) (f : Nat) (x : AV) (hv : (fieldAddrV r H f x).1) : (fieldAddrV r H' f x).1 ∧ (fieldAddrV r H' f x).2 = (fieldAddrV r H f x).2 := by
  unfold fieldAddrV at hv ⊢
  split
  · exact ⟨trivial, rfl⟩
  · rename_i o t off ho
    rw [ho] at hv
    exact ⟨isVarAt_mono h hv, rfl⟩
  · rename_i o t i sz sub ho
    rw [ho] at hv
    exact ⟨isRowAt_mono h hv, rfl⟩
  · exact (by simp_all : False).elim
theorem indexAddrV_mono (h : Ext H H') (t : TypeId) (x i : AV) (hv : (indexAddrV T H t x i).1) : (indexAddrV T H' t x i).1 ∧ (indexAddrV T H' t x i).2 = (indexAddrV T H t x i).2 := by
  unfold indexAddrV at hv ⊢
  split
  · rename_i hd
    simp only [hd] at hv
    exact ⟨hv, rfl⟩
  · rename_i e o k z hd
    rw [hd] at hv
    simp only at hv
    split at hv
    · rename_i e' sz rows ho
      rw [h o _ ho (by simp)]
      exact ⟨hv, rfl⟩
    · exact hv.elim
  · rename_i hd
    simp only [hd] at hv
    exact ⟨hv, rfl⟩
  · rename_i n e o off k z hd
    simp only [hd] at hv
    exact ⟨⟨hv.1, hv.2.1, isVarAt_mono h hv.2.2⟩, rfl⟩
  · exact (by simp_all : False).elim
theorem loadAtV_mono (h : Ext H H') (t : TypeId) (x : AV) (hv : (loadAtV T H t x).1) : loadAtV T H' t x = loadAtV T H t x := by
  unfold loadAtV at hv ⊢
  split
  · rfl
  · rename_i o off
    simp only at hv
    split at hv
    · rename_i e cs ho
      rw [h o _ ho (by simp)]
    · exact hv.elim
  · rename_i o i sz sub
    simp only at hv
    split at hv
    · rename_i e sz' rows ho
      rw [h o _ ho (by simp)]
    · exact hv.elim
  · rfl
theorem lenV_mono (h : Ext H H') (t : TypeId) (x : AV) (hv : (lenV T H t x).1) : lenV T H' t x = lenV T H t x := by
  unfold lenV at hv ⊢
  split
  · rfl
  · rename_i e o hd
    rw [hd] at hv
    simp only at hv
    split at hv
    · rename_i e' sz rows ho
      rw [h o _ ho (by simp)]
    · exact hv.elim
  · rfl
  · rfl
  · rename_i kt et o hd
    rw [hd] at hv
    simp only at hv
    split at hv
    · rename_i kd kvs ho
      rw [h o _ ho (by simp)]
    · exact hv.elim
  · rfl
theorem lookupV_mono (h : Ext H H') (t : TypeId) (x k : AV) (ok : Bool) (hv : (lookupV T H t x k ok).1) : lookupV T H' t x k ok = lookupV T H t x k ok := by
  unfold lookupV at hv ⊢
  split
  · rename_i kt et o hd
    rw [hd] at hv
    simp only at hv
    split at hv
    · rename_i kd kvs ho
      rw [h o _ ho (by simp)]
    · exact hv.elim
  · rfl
theorem srcRows_mono (h : Ext H H') (x : AV) {rows : List (List D)} (hv : srcRows H x = some rows) : srcRows H' x = some rows := by
  unfold srcRows at hv ⊢
  split at hv
  · exact hv
  · exact hv
  · rename_i o
    split at hv
    · rename_i e sz rs ho
      rw [h o _ ho (by simp)]
      exact hv
    · cases hv
  · cases hv
theorem convV_mono (h : Ext H H') (s d : TypeId) (x : AV) (hv : (convV T H s d x).1) : convV T H' s d x = convV T H s d x := by
  unfold convV at hv ⊢
  split
  · rfl
  · rename_i x _ _ hd
    simp only [hd] at hv
    cases hx : AV.str? x with
    | some z => rfl
    | none =>
      simp only [hx] at hv ⊢
      cases hs : srcRows H x with
      | none =>
        rw [hs] at hv
        unfold convBytes at hv
        split at hv
        · rename_i h1; cases h1
        · exact hv.elim
      | some r => rw [srcRows_mono h x hs]
  · rfl
theorem nilV_mono (h : Ext H H') (x : AV) (hv : (nilV H x).1) : nilV H' x = nilV H x := by
  unfold nilV at hv ⊢
  split
  · rename_i t off
    simp only at hv
    split at hv
    · rename_i e cs ho
      rw [h t _ ho (by simp)]
    · exact hv.elim
  · rename_i t i sz sub
    simp only at hv
    split at hv
    · rename_i e sz' rows ho
      rw [h t _ ho (by simp)]
    · exact hv.elim
  · rfl
  · rfl
theorem of_eq {p q : Prop × AV} (h : p = q) (hq : q.1) : p.1 ∧ p.2 = q.2 := by subst h; exact ⟨hq, rfl⟩
theorem aval_mono (h : Ext H H') (op : Op) (ev : Operand → AV) (hv : (aval T H op ev).1) : (aval T H' op ev).1 ∧ (aval T H' op ev).2 = (aval T H op ev).2 := by
  cases op
  case fieldAddr => exact fieldAddrV_mono h _ _ _ hv
  case indexAddr => exact indexAddrV_mono h _ _ _ hv
  case load => exact of_eq (loadAtV_mono h _ _ hv) hv
  case lookup => exact of_eq (lookupV_mono h _ _ _ _ hv) hv
  case convert => exact of_eq (convV_mono h _ _ _ hv) hv
  case nilCheck => exact of_eq (nilV_mono h _ hv) hv
  case call c =>
    simp only [aval] at hv ⊢
    split
    · rename_i hc ha ht
      simp only [hc, ha, ht] at hv
      exact of_eq (lenV_mono h _ _ hv) hv
    · rename_i hc ha
      simp only [hc, ha] at hv
      exact ⟨hv, rfl⟩
    · rename_i hc ha
      simp only [hc, ha] at hv
      exact ⟨hv, rfl⟩
    · exact (by simp_all : False).elim
  all_goals exact ⟨hv, rfl⟩
end

/-! ### the world now as the base: the handles stay -/
def AState.pinned (σ : AState) : AState := { σ with pin := σ.H.length }
section
variable {P : Program} {T : Tab} {W0 w w' : World} {M0 : Nat → Prop} {F β : List Value} {σ σ' : AState} {a a' : Act}
theorem Sim.rebase (h : Sim W0 M0 F σ a w β) : Sim w M0 β σ.pinned a w β := by
  refine ⟨BelowX.refl _ _, h.mok, h.len, h.objs, fun g hg => ⟨.inl hg, (h.fresh g hg).2⟩, h.dist, h.slots, h.size, h.defers, fun g hg => ⟨fun hm => ?_, (h.fresh g hg).2⟩, ⟨Nat.le_of_eq h.len.symm, fun t _ => rfl⟩⟩
  rcases (h.fresh g hg).1 with h1 | h1
  · exact (h.out g h1).1 hm
  · exact absurd (h.m0.1 g hm) (by omega)
theorem take_eq_of_get {α : Type} : ∀ (l m : List α), (∀ t, t < m.length → l[t]? = m[t]?) → ∃ r, l = m ++ r
  | l, [], _ => ⟨l, rfl⟩
  | [], y :: m, h => by have := h 0 (by simp); simp at this
  | x :: l, y :: m, h => by
    have h0 := h 0 (by simp)
    simp at h0
    subst h0
    obtain ⟨r, hr⟩ := take_eq_of_get l m fun t ht => by simpa using h (t + 1) (by simp; omega)
    exact ⟨r, by rw [hr]; rfl⟩
/-- .. and back: the handles that were there are there, new ones stand behind -/
theorem Sim.unbase {β' : List Value} (h : Sim W0 M0 F σ a w β) (hp : σ'.pin = σ.H.length) (k : Sim w M0 β σ' a' w' β') : ∃ r, β' = β ++ r ∧ Sim W0 M0 F { σ' with pin := σ.pin } a' w' β' := by
  have hk := k.pins
  rw [hp, ← h.len] at hk
  obtain ⟨r, rfl⟩ := take_eq_of_get β' β hk.2
  refine ⟨r, rfl, h.below.trans k.below fun i hi ho => ?_, h.m0, k.len, k.objs, fun g hg => ⟨?_, (k.fresh g hg).2⟩, k.dist, k.slots, k.size, k.defers, h.out, ⟨h.pins.1, fun t ht0 => ?_⟩⟩
  · rcases (h.fresh i ho).1 with h1 | h1
    · exact h1
    · omega
  · rcases (k.fresh g hg).1 with h1 | h1
    · exact (h.fresh g h1).1
    · exact .inr (Nat.le_trans h.below.size h1)
  · have ht : t < σ.pin := ht0
    have hl : t < β.length := by
      rw [h.len]
      have h2 := h.pins.2 t ht
      have h3 : t < F.length := by have := h.pins.1; omega
      rw [List.getElem?_eq_getElem h3] at h2
      obtain ⟨h4, _⟩ := List.getElem?_eq_some_iff.1 h2
      rw [← h.len]; exact h4
    rw [List.getElem?_append_left hl]
    exact h.pins.2 t ht
end

/-! ### an object moves to the tag kept free for it -/
def dummy : Value := .tuple ⟨[]⟩
theorem one_ne_dummy {v : Value} (h : v.oneCell' = true) : v ≠ dummy := by rintro rfl; cases h
theorem dead_ne_dummy : dead ≠ dummy := by intro h; cases h
/-- from 'γ' to 'δ': what was spoken of under 'β' is there as it was -/
structure Mv (w : World) (M : Nat → Prop) (β γ : List Value) (N : Nat → Prop) (δ : List Value) : Prop where
  keeps : Keeps w M w N
  tags : ∀ (s : Nat) (h0 h : Value), β[s]? = some h0 → h0 ≠ dummy → γ[s]? = some h → δ[s]? = some h
section
variable {P : Program} {T : Tab} {W0 w w' : World} {M0 M M' N : Nat → Prop} {F β γ δ : List Value} {σ σ' : AState} {a a' : Act}
theorem Mv.spoken (hm : Mv w' M' β γ N δ) {t : Nat} {v0 : Value} (h0 : RepC0 w M β (.own t) v0) {h : Value} (h1 : γ[t]? = some h) : δ[t]? = some h := by
  rcases h0.1 with k | k
  · exact hm.tags _ _ _ k (one_ne_dummy h0.2) h1
  · exact hm.tags _ _ _ k dead_ne_dummy h1
theorem RepC0.mv (hm : Mv w' M' β γ N δ) {d : D} {v0 v : Value} (h0 : RepC0 w M β d v0) (h : RepC0 w' M' γ d v) : RepC0 w' N δ d v := by
  cases d
  case unk => exact h
  case own t => exact ⟨h.1.imp (hm.spoken h0) (hm.spoken h0), h.2⟩
  case vp t off =>
    have sp : ∀ x, γ[t]? = some x → δ[t]? = some x := fun x hx => by
      rcases h0 with ⟨g0, k, _⟩ | ⟨k, _⟩
      · exact hm.tags _ _ _ k (by intro e; cases e) hx
      · exact hm.tags _ _ _ k dead_ne_dummy hx
    rcases h with ⟨g, h1, h2⟩ | ⟨h1, h2⟩
    · exact .inl ⟨g, sp _ h1, h2⟩
    · exact .inr ⟨sp _ h1, h2⟩
  case rp t i sz sub =>
    have sp : ∀ x, γ[t]? = some x → δ[t]? = some x := fun x hx => by
      rcases h0 with ⟨g0, n0, c0, k, _⟩ | ⟨k, _⟩
      · exact hm.tags _ _ _ k (by intro e; cases e) hx
      · exact hm.tags _ _ _ k dead_ne_dummy hx
    rcases h with ⟨g, n, c, h1, h2⟩ | ⟨h1, h2⟩
    · exact .inl ⟨g, n, c, sp _ h1, h2⟩
    · exact .inr ⟨sp _ h1, h2⟩
  case mp t =>
    have sp : ∀ x, γ[t]? = some x → δ[t]? = some x := fun x hx => by
      rcases h0 with ⟨g0, k, _⟩ | ⟨k, _⟩
      · exact hm.tags _ _ _ k (by intro e; cases e) hx
      · exact hm.tags _ _ _ k dead_ne_dummy hx
    rcases h with ⟨g, h1, h2⟩ | ⟨h1, h2⟩
    · exact .inl ⟨g, sp _ h1, h2⟩
    · exact .inr ⟨sp _ h1, h2⟩
  all_goals (simp only [RepC0] at h ⊢; exact RepD.keep hm.keeps _ _ h)
theorem RepC.mv (hm : Mv w' M' β γ N δ) {d : D} {v0 v : Value} (h0 : RepC w M β d v0) (h : RepC w' M' γ d v) : RepC w' N δ d v := by
  cases d
  case clo f caps =>
    obtain ⟨us, _, k2, k3⟩ := h0
    obtain ⟨vs, h1, h2, h3⟩ := h
    refine ⟨vs, h1, h2, fun i d u a b => ?_⟩
    have hi : i < us.length := by rw [← k2]; exact (List.getElem?_eq_some_iff.1 a).1
    exact (k3 i d _ a (List.getElem?_eq_getElem hi)).mv hm (h3 i d u a b)
  all_goals (simp only [RepC] at h h0 ⊢; exact RepC0.mv hm h0 h)
theorem RepCL.mv (hm : Mv w' M' β γ N δ) {ds : List D} {us vs : List Value} (h0 : RepCL w M β ds us) (h : RepCL w' M' γ ds vs) : RepCL w' N δ ds vs :=
  ⟨h.1, fun i d u a b => by
    have hi : i < us.length := by rw [← h0.1]; exact (List.getElem?_eq_some_iff.1 a).1
    exact (h0.2 i d _ a (List.getElem?_eq_getElem hi)).mv hm (h.2 i d u a b)⟩
mutual
theorem RepV.mv (hm : Mv w' M' β γ N δ) : ∀ (x : AV) (v0 v : Value), RepV w M β x v0 → RepV w' M' γ x v → RepV w' N δ x v
  | .one d, v0, v, h0, h => by simp only [RepV] at h0 h ⊢; exact h0.mv hm h
  | .agg ds, v0, v, h0, h => by simp only [RepV] at h0 h ⊢; obtain ⟨us, _, k⟩ := h0; obtain ⟨vs, h1, h2⟩ := h; exact ⟨vs, h1, k.mv hm h2⟩
  | .tup avs, v0, v, h0, h => by simp only [RepV] at h0 h ⊢; obtain ⟨us, _, k⟩ := h0; obtain ⟨vs, h1, h2⟩ := h; exact ⟨vs, h1, RepVL.mv hm avs us vs k h2⟩
  | .cond g av, v0, v, h0, h => by simp only [RepV] at h0 h ⊢; exact ⟨fun hg => RepV.mv hm av v0 v (h0.1 hg) (h.1 hg), h.2⟩
  | .any, _, _, _, _ => by simp only [RepV]
theorem RepVL.mv (hm : Mv w' M' β γ N δ) : ∀ (xs : List AV) (us vs : List Value), RepVL w M β xs us → RepVL w' M' γ xs vs → RepVL w' N δ xs vs
  | [], us, vs, _, h => by simpa only [RepVL] using h
  | x :: xs, us, vs, h0, h => by
    simp only [RepVL] at h0 h ⊢
    obtain ⟨u, r0, _, k1, k2⟩ := h0
    obtain ⟨v, r, h1, h2, h3⟩ := h
    exact ⟨v, r, h1, RepV.mv hm x u v k1 h2, RepVL.mv hm xs r0 r k2 h3⟩
end
theorem ObjRep.mv (hm : Mv w' M' β γ N δ) {o : AObj} {h0 h : Value} (hr0 : ObjRep w M β o h0) (hr : ObjRep w' M' γ o h) : ObjRep w' N δ o h := by
  cases o with
  | gone => exact trivial
  | row e sz rows =>
    obtain ⟨A, c, h1, h2, h3, h4⟩ := hr
    refine ⟨A, c, h1, h2, h3, ?_⟩
    rcases h4 with h4 | ⟨hc0, g, cur, rfl, h5, h6, h7⟩
    · exact .inl h4
    · exact .inr ⟨hc0, g, cur, rfl, h5, h6, h7.keeps hm.keeps fun vs o x => x⟩
  | var e cs =>
    obtain ⟨g0, cur0, _, _, k⟩ := hr0
    obtain ⟨g, cur, h1, h2, h3⟩ := hr
    exact ⟨g, cur, h1, h2, k.mv hm h3⟩
  | map kd kvs =>
    obtain ⟨_, g0, es0, clk0, _, _, k3, k4⟩ := hr0
    obtain ⟨hp, g, es, clk, h1, h2, h3, h4⟩ := hr
    refine ⟨hp, g, es, clk, h1, h2, h3, fun i kv e a b => ?_⟩
    have hi : i < es0.size := by rw [← k3]; exact (List.getElem?_eq_some_iff.1 a).1
    have q := k4 i kv es0[i] a (by simp [hi])
    exact ⟨RepV.mv hm _ _ _ q.1 (h4 i kv e a b).1, RepV.mv hm _ _ _ q.2 (h4 i kv e a b).2⟩
end
inductive HdK where | own | vp | mp
def hdl : HdK → Nat → AV
  | .own, t => .one (.own t)
  | .vp, t => .one (.vp t 0)
  | .mp, t => .one (.mp t)
section
variable {P : Program} {T : Tab} {W0 w w' : World} {M0 : Nat → Prop} {F β : List Value} {σ σ' : AState} {a a' : Act}
theorem owned_dummies {k g : Nat} : owned (β ++ List.replicate k dummy) g ↔ owned β g := by
  constructor
  · rintro ⟨t, h, h1, h2⟩
    rw [List.getElem?_append] at h1
    split at h1
    · exact ⟨t, h, h1, h2⟩
    · rw [List.getElem?_replicate] at h1
      split at h1
      · cases h1; cases h2
      · cases h1
  · rintro ⟨t, h, h1, h2⟩
    exact ⟨t, h, by rw [List.getElem?_append_left (List.getElem?_eq_some_iff.1 h1).1]; exact h1, h2⟩
theorem Sim.reserve (h : Sim W0 M0 F σ a w β) (k : Nat) : Sim W0 M0 F { σ with H := σ.H ++ List.replicate k .gone } a w (β ++ List.replicate k dummy) := by
  have hM : Mof M0 (β ++ List.replicate k dummy) = Mof M0 β := by
    funext g; simp only [Mof, owned_dummies]
  have hm : Mv w (Mof M0 β) β β (Mof M0 β) (β ++ List.replicate k dummy) := ⟨Keeps.refl _ _, fun s h0 h1 _ _ e => by rw [List.getElem?_append_left (List.getElem?_eq_some_iff.1 e).1]; exact e⟩
  have back : ∀ t x, (β ++ List.replicate k dummy)[t]? = some x → (t < β.length ∧ β[t]? = some x) ∨ (β.length ≤ t ∧ x = dummy) := by
    intro t x hx
    rw [List.getElem?_append] at hx
    split at hx
    · rename_i hl; exact .inl ⟨hl, hx⟩
    · rename_i hl
      rw [List.getElem?_replicate] at hx
      split at hx
      · cases hx; exact .inr ⟨by omega, rfl⟩
      · cases hx
  refine ⟨h.below, h.m0, by simp [h.len], fun t o x ho hx => ?_, fun g hg => h.fresh g (owned_dummies.1 hg), fun t t' x x' g hx hx' e e' => ?_, fun i v hv => ?_, h.size, h.defers, h.out, ⟨h.pins.1, fun t ht0 => ?_⟩⟩
  · rw [hM]
    rcases back t x hx with ⟨hl, hx⟩ | ⟨hl, rfl⟩
    · have ho' : σ.H[t]? = some o := by
        have : (σ.H ++ List.replicate k .gone)[t]? = some o := ho
        rwa [List.getElem?_append_left (by rw [← h.len]; exact hl)] at this
      exact (h.objs t o x ho' hx).mv hm (h.objs t o x ho' hx)
    · have : (σ.H ++ List.replicate k .gone)[t]? = some o := ho
      rw [List.getElem?_append_right (by rw [← h.len]; exact hl), List.getElem?_replicate] at this
      split at this
      · cases this; exact trivial
      · cases this
  · rcases back t x hx with ⟨hl, hx⟩ | ⟨hl, rfl⟩
    · rcases back t' x' hx' with ⟨hl', hx'⟩ | ⟨hl', rfl⟩
      · exact h.dist t t' x x' g hx hx' e e'
      · cases e'
    · cases e
  · rw [hM]
    obtain ⟨x, h1, h2⟩ := h.slots i v hv
    exact ⟨x, h1, RepV.mv hm v x x h2 h2⟩
  · have ht : t < σ.pin := ht0
    have h2 := h.pins.2 t ht
    have h3 : t < F.length := by have := h.pins.1; omega
    rw [List.getElem?_eq_getElem h3] at h2
    rw [List.getElem?_append_left (List.getElem?_eq_some_iff.1 h2).1, h2, List.getElem?_eq_getElem h3]
theorem owned_move {t g : Nat} {hd : Value} (ht : β[t]? = some dummy) : owned (β.set t hd) g ↔ owned (β ++ [hd]) g := by
  have hl : t < β.length := (List.getElem?_eq_some_iff.1 ht).1
  constructor
  · rintro ⟨s, h, h1, h2⟩
    by_cases hs : s = t
    · subst hs
      rw [List.getElem?_set_self hl] at h1
      cases h1
      exact ⟨β.length, _, by simp, h2⟩
    · rw [List.getElem?_set_ne (Ne.symm hs)] at h1
      exact ⟨s, h, by rw [List.getElem?_append_left (List.getElem?_eq_some_iff.1 h1).1]; exact h1, h2⟩
  · rintro ⟨s, h, h1, h2⟩
    rw [List.getElem?_append] at h1
    split at h1
    · rename_i hsl
      refine ⟨s, h, ?_, h2⟩
      rw [List.getElem?_set_ne]
      · exact h1
      · rintro rfl
        rw [ht] at h1; cases h1; cases h2
    · rename_i hsl
      have : s - β.length = 0 := by
        have := (List.getElem?_eq_some_iff.1 h1).1
        simp at this; omega
      rw [this] at h1
      simp at h1
      subst h1
      exact ⟨t, hd, List.getElem?_set_self hl, h2⟩
theorem set_phi {t s : Nat} {hd x : Value} (hl : t < β.length) (h : (β.set t hd)[s]? = some x) : (β ++ [hd])[if s = t then β.length else s]? = some x := by
  split
  · rename_i hs
    subst hs
    rw [List.getElem?_set_self hl] at h
    simpa using h
  · rename_i hs
    rw [List.getElem?_set_ne (Ne.symm hs)] at h
    rw [List.getElem?_append_left (List.getElem?_eq_some_iff.1 h).1]
    exact h
theorem Sim.move (h : Sim W0 M0 F σ a w β) {t d : Nat} {p : HdK} {obj : AObj} {hd : Value} (ht : β[t]? = some dummy) (hpin : σ.pin ≤ t) (hob : obj.tagsLt 0 = true)
    (k : Sim W0 M0 F ⟨σ.n, (d, hdl p σ.H.length) :: σ.slots, σ.H ++ [obj], σ.pin⟩ a' w' (β ++ [hd])) : Sim W0 M0 F ⟨σ.n, (d, hdl p t) :: σ.slots, σ.H.set t obj, σ.pin⟩ a' w' (β.set t hd) := by
  have hl : t < β.length := (List.getElem?_eq_some_iff.1 ht).1
  have hlH : t < σ.H.length := by rw [← h.len]; exact hl
  have hM : Mof M0 (β.set t hd) = Mof M0 (β ++ [hd]) := by
    funext g; simp only [Mof, owned_move ht]
  have hm : Mv w' (Mof M0 (β ++ [hd])) β (β ++ [hd]) (Mof M0 (β ++ [hd])) (β.set t hd) := ⟨Keeps.refl _ _, fun s h0 h1 e0 q e => by
    have hs : s < β.length := (List.getElem?_eq_some_iff.1 e0).1
    rw [List.getElem?_append_left hs] at e
    rw [List.getElem?_set_ne]
    · exact e
    · rintro rfl
      rw [ht] at e0; cases e0; exact q rfl⟩
  refine ⟨k.below, k.m0, by simp [h.len], fun s o x ho hx => ?_, fun g hg => k.fresh g ((owned_move ht).1 hg), fun s s' x x' g hx hx' e e' => ?_, fun i v hv => ?_, k.size, k.defers, k.out, ⟨k.pins.1, fun s hs0 => ?_⟩⟩
  · rw [hM]
    by_cases hs : s = t
    · subst hs
      have h1 : (σ.H.set s obj)[s]? = some o := ho
      rw [List.getElem?_set_self hlH] at h1
      cases h1
      rw [List.getElem?_set_self hl] at hx
      cases hx
      have q := k.objs σ.H.length obj hd (by simp) (by rw [← h.len]; simp)
      exact q.cut (m := 0) ⟨Keeps.refl _ _, fun t h0 hz => by omega⟩ hob
    · have h1 : (σ.H.set t obj)[s]? = some o := ho
      rw [List.getElem?_set_ne (Ne.symm hs)] at h1
      rw [List.getElem?_set_ne (Ne.symm hs)] at hx
      have hsl : s < β.length := (List.getElem?_eq_some_iff.1 hx).1
      have q := k.objs s o x (by rw [List.getElem?_append_left (List.getElem?_eq_some_iff.1 h1).1]; exact h1) (by rw [List.getElem?_append_left hsl]; exact hx)
      exact (h.objs s o x h1 hx).mv hm q
  · have q := k.dist _ _ _ _ g (set_phi hl hx) (set_phi hl hx') e e'
    have hsl : s < β.length := by have := (List.getElem?_eq_some_iff.1 hx).1; simpa using this
    have hsl' : s' < β.length := by have := (List.getElem?_eq_some_iff.1 hx').1; simpa using this
    split at q <;> split at q <;> omega
  · rw [hM]
    simp only [lookS] at hv
    split at hv
    · rename_i hi
      subst hi
      cases hv
      obtain ⟨x, h1, h2⟩ := k.slots d (hdl p σ.H.length) (by simp [lookS])
      refine ⟨x, h1, ?_⟩
      have e : (β ++ [hd])[σ.H.length]? = some hd := by rw [← h.len]; simp
      cases p with
      | vp =>
        rcases h2 with ⟨g, k1, k2⟩ | ⟨k1, k2⟩
        · rw [e] at k1
          cases k1
          exact .inl ⟨g, List.getElem?_set_self hl, k2⟩
        · rw [e] at k1
          cases k1
          exact .inr ⟨List.getElem?_set_self hl, k2⟩
      | mp =>
        rcases h2 with ⟨g, k1, k2⟩ | ⟨k1, k2⟩
        · rw [e] at k1
          cases k1
          exact .inl ⟨g, List.getElem?_set_self hl, k2⟩
        · rw [e] at k1
          cases k1
          exact .inr ⟨List.getElem?_set_self hl, k2⟩
      | own =>
        refine ⟨?_, h2.2⟩
        rcases h2.1 with k1 | k1
        · rw [e] at k1
          cases k1
          exact .inl (List.getElem?_set_self hl)
        · rw [e] at k1
          cases k1
          exact .inr (List.getElem?_set_self hl)
    · rename_i hi
      obtain ⟨x0, _, q0⟩ := h.slots i v hv
      obtain ⟨x, h1, h2⟩ := k.slots i v (by simp only [lookS]; rw [if_neg hi]; exact hv)
      exact ⟨x, h1, RepV.mv hm v x0 x q0 h2⟩
  · have hs : s < σ.pin := hs0
    rw [List.getElem?_set_ne (by omega)]
    exact h.pins.2 s hs
end
/-! ### append to nil, as one step that makes an object -/
section
variable {P : Program} {T : Tab} {W0 w w' : World} {M0 : Nat → Prop} {F β : List Value} {σ σ' : AState} {a a' : Act}
theorem append_nil_push (hT : TabOk P T) {t e ty : TypeId} (hdesc : (T t).desc = .slice e) (h : Sim W0 M0 F σ a w β) (A : Option Addr) {x : AV} {v2 : Value} {news : List (List D)} (hv : RepV w (Mof M0 β) β x v2) (hs : srcRows σ.H x = some news)
    (hk : (T e).desc ≠ .other) (hsz : 0 < (T e).size) (hrl : ∀ r ∈ news, r.length = (T e).size) (hby : news.length * (T e).bytes ≤ 140737488355328) (hmx : news.length ≤ 9223372036854775807) :
    ∃ v' w', (Builtin.append_ #[t, t] ty #[.slice A 0 0, v2]).run P w = .ok v' w' ∧ Below w.heap.size w w' ∧ (∀ g, hblk v' = some g → w.heap.size ≤ g ∧ g < w'.heap.size) ∧ v'.oneCell' = true ∧ ObjRep w' (Mof M0 (β ++ [v'])) (β ++ [v']) (.row e (T e).size news) v' := by
  obtain ⟨A2, c2, vs, rfl, hvl, hvr, hsrc⟩ := srcRows_sound h hv hs hrl
  obtain ⟨i, z, hinfo, hi1, hi2, hi3, hi4⟩ := (hT e).info hk
  have hzr := zerosOk_rep (w := w) (M := fun _ => False) _ _ hi4.1
  have hzs : z.cells.size = (T e).size := by
    have := RepL.length_eq _ _ hzr
    simp at this
    have := hi4.2.2
    omega
  by_cases hm0 : news.length = 0
  · have hn0 : news = [] := List.eq_nil_of_length_eq_zero hm0
    subst hn0
    have hrun : (Builtin.append_ #[t, t] ty #[.slice A 0 0, .slice A2 0 c2]).run P w = .ok (.slice A 0 0) w := by
      cases A <;> cases A2 <;> simp [Builtin.append_, run_underlying (under_slice hT hdesc), sizeOf, typeInfo, hinfo, Builtin.lenOf, Builtin.firstCells, storeCells, loadCells, loadCellsFrom]
    exact ⟨_, w, hrun, Below.refl _ _, fun g hg => (by rw [hblk_zero] at hg; cases hg), rfl, A, 0, rfl, Nat.le_refl _, Nat.zero_le _, .inl rfl⟩
  · rcases hsrc with ⟨rfl, hn0⟩ | ⟨ad, rfl, hcell⟩
    · exact absurd (by rw [hn0]; rfl) hm0
    · have hcap := grownCap_ge w news.length 0 e
      have hcapm := grownCap_le_maxLen w news.length 0 e (by simp only [maxLen]; omega)
      have hnc : Builtin.nextslicecap news.length 0 = news.length := nextslicecap_zero (by omega)
      have hzc : (Builtin.zeroCells z.cells (grownCap w news.length 0 e - news.length)).size = (grownCap w news.length 0 e - news.length) * (T e).size := by rw [size_zeroCells, hzs]
      have hrun : (Builtin.append_ #[t, t] ty #[.slice A 0 0, .slice (some ad) news.length c2]).run P w = .ok (.slice (some ⟨w.heap.size, 0, none⟩) news.length (grownCap w news.length 0 e)) (w.drew.alloc (.cells (vs.toArray ++ Builtin.zeroCells z.cells (grownCap w news.length 0 e - news.length)) e)) := by
        cases A with
        | none => exact run_append_nil (P := P) w t ty e i z (under_slice hT hdesc) hinfo hi3 ad news.length c2 vs (by rw [hvl, hi1]) hcell (by omega) (by omega) (by rw [hi2]; omega)
        | some b =>
          have := run_append_grow (P := P) w t ty e i z (under_slice hT hdesc) hinfo hi3 b 0 0 [] (by simp) (fun j v hv => by simp at hv) ad news.length c2 vs (by rw [hvl, hi1]) hcell (by omega) (by omega) (by rw [Nat.zero_add, hnc, hi2]; omega)
          simpa using this
      have hb : Below w.heap.size w (w.drew.alloc (.cells (vs.toArray ++ Builtin.zeroCells z.cells (grownCap w news.length 0 e - news.length)) e)) := (Below.drew (Below.refl _ _)).alloc (Nat.le_refl _) _
      have hcap0 : 0 < grownCap w news.length 0 e := by omega
      have hnew : ∀ g, hblk (Value.slice (some ⟨w.heap.size, 0, none⟩) news.length (grownCap w news.length 0 e)) = some g → w.heap.size ≤ g ∧ g < (w.drew.alloc (.cells (vs.toArray ++ Builtin.zeroCells z.cells (grownCap w news.length 0 e - news.length)) e)).heap.size := fun g hg => by
        have := hblk_slice hg
        simp at this
        subst this
        exact ⟨Nat.le_refl _, by simp⟩
      refine ⟨_, _, hrun, hb, hnew, rfl, some ⟨w.heap.size, 0, none⟩, _, rfl, by omega, hcapm, .inr ⟨hcap0, w.heap.size, _, rfl, heap_alloc_new w.drew _, ?_, ?_⟩⟩
      · simp only [Array.size_append, List.size_toArray, hzc, hvl, ← Nat.add_mul]
        congr 1
        omega
      · have hkeep := keeps_push h hb (hd := .slice (some ⟨w.heap.size, 0, none⟩) news.length (grownCap w news.length 0 e)) fun g hg => (hnew g hg).1
        have hch := RepRows.of_cells (w := w.drew.alloc (.cells (vs.toArray ++ Builtin.zeroCells z.cells (grownCap w news.length 0 e - news.length)) e)) (ad := ⟨w.heap.size, 0, none⟩) (sz := (T e).size) (n := news.length) (RepL.keep hkeep _ _ hvr) hvl (by
          intro j u hu
          refine reads_cells (heap_alloc_new w.drew _) j u ?_
          simp only [Array.toList_append]
          rw [List.getElem?_append_left (List.getElem?_eq_some_iff.1 hu).1]
          exact hu)
        rwa [flatten_chunks _ hrl] at hch
end
/-! ### what is lent, where more tags are taken: at least as much is known of it -/
section
variable {P : Program} {T : Tab} {H H' : List AObj} {w : World} {M : Nat → Prop}
theorem bor0_mono (h : Ext H H') (d : D) : d.bor0 H' = d.bor0 H ∨ (d.bor0 H = .unk ∧ ∃ rows, d.bor0 H' = .list rows) := by
  cases d
  case own t =>
    simp only [D.bor0]
    cases ho : H[t]? with
    | none =>
      simp only
      split
      · exact .inr ⟨trivial, _, rfl⟩
      · exact .inl rfl
    | some o =>
      cases o with
      | row e sz rows => rw [h t _ ho (by simp)]; exact .inl rfl
      | var e cs => rw [h t _ ho (by simp)]; exact .inl rfl
      | map kd kvs => rw [h t _ ho (by simp)]; exact .inl rfl
      | gone =>
        simp only
        split
        · exact .inr ⟨trivial, _, rfl⟩
        · exact .inl rfl
  all_goals exact .inl rfl
theorem bor0_refine (h : Ext H H') {d : D} {v : Value} (hr : RepC0 w M [] (d.bor0 H') v) : RepC0 w M [] (d.bor0 H) v := by
  rcases bor0_mono h d with e | ⟨e, rows, e'⟩
  · rwa [e] at hr
  · rw [e]
    rw [e'] at hr
    obtain ⟨A, c, rfl, _⟩ : ∃ A c, v = .slice A rows.length c ∧ _ := hr
    exact rfl
theorem bor0_pure (K : List AObj) (d : D) : (d.bor0 K).pure = true := by
  cases d
  case own t => simp only [D.bor0]; split <;> rfl
  case clo f caps => cases caps <;> rfl
  all_goals rfl
theorem bor0_all (K : List AObj) (cs : List D) : (cs.map (D.bor0 K)).all D.pure = true := by
  rw [List.all_map, List.all_eq_true]
  exact fun d _ => bor0_pure K d
theorem bor0_refineD (h : Ext H H') {d : D} {v : Value} (hr : RepD w M (d.bor0 H') v) : RepD w M (d.bor0 H) v := by
  rcases bor0_mono h d with e | ⟨e, rows, e'⟩
  · rwa [e] at hr
  · rw [e]
    have := hr.one_cell
    exact this
theorem bor0_list (h : Ext H H') : ∀ (cs : List D) (vs : List Value), RepL w M (cs.map (D.bor0 H')) vs → RepL w M (cs.map (D.bor0 H)) vs
  | [], vs, hr => hr
  | c :: cs, vs, hr => by
    obtain ⟨v, rest, h1, h2, h3⟩ := hr
    exact ⟨v, rest, h1, bor0_refineD h h2, bor0_list h cs rest h3⟩
theorem bor1_refine (h : Ext H H') {d : D} {v : Value} (hr : RepC0 w M [] (d.bor1 H') v) : RepC0 w M [] (d.bor1 H) v := by
  cases d
  case vp t off =>
    have weak : ∀ o : Option AObj, RepC0 w M [] (match o with | some (.var _ cs) => if (cs.map (D.bor0 H')).all D.pure then .ref ((cs.map (D.bor0 H')).drop off) else .unk | _ => .unk) v → v.oneCell' = true := by
      intro o hr
      split at hr
      · split at hr
        · obtain ⟨ad, rfl, _⟩ : ∃ ad, v = .pointer (some ad) ∧ _ := hr
          rfl
        · exact hr
      · exact hr
    have hw := weak _ hr
    simp only [D.bor1] at hr ⊢
    cases ho : H[t]? with
    | none => exact hw
    | some o =>
      cases o with
      | var e cs =>
        rw [h t _ ho (by simp)] at hr
        simp only at hr ⊢
        rw [if_pos (bor0_all H' cs)] at hr
        rw [if_pos (bor0_all H cs)]
        obtain ⟨ad, h1, h2, h3, vs, h4, h5⟩ : ∃ ad, v = .pointer (some ad) ∧ ad.block < w.heap.size ∧ ¬ M ad.block ∧ ∃ vs, reads w ad 0 vs ∧ RepL w M ((cs.map (D.bor0 H')).drop off) vs := hr
        rw [← List.map_drop] at h5
        exact ⟨ad, h1, h2, h3, vs, h4, by rw [← List.map_drop]; exact bor0_list h _ _ h5⟩
      | _ => exact hw
  all_goals (simp only [D.bor1] at hr ⊢; exact bor0_refine h hr)
theorem bor1_noclo (K : List AObj) (d : D) (hd : ∀ f caps, d ≠ .clo f caps) : ∀ f caps, d.bor1 K ≠ .clo f caps := by
  intro f caps
  cases d <;> simp only [D.bor1, D.bor0] <;> first | (intro hh; cases hh; done) | (split <;> first | (intro hh; cases hh; done) | (split <;> intro hh <;> cases hh)) | exact absurd rfl (hd _ _)
theorem repC_iff {d : D} {v : Value} (hd : ∀ f caps, d ≠ .clo f caps) : RepC w M [] d v ↔ RepC0 w M [] d v := by
  cases d <;> first | exact Iff.rfl | exact absurd rfl (hd _ _)
theorem bor_plain (h : Ext H H') {d : D} (hd : ∀ f caps, d ≠ .clo f caps) {v : Value} (hr : RepC w M [] (d.bor1 H') v) : RepC w M [] (d.bor1 H) v :=
  (repC_iff (bor1_noclo H d hd)).2 (bor1_refine h ((repC_iff (bor1_noclo H' d hd)).1 hr))
theorem bor_refine (h : Ext H H') {d : D} {v : Value} (hr : RepC w M [] (d.bor H') v) : RepC w M [] (d.bor H) v := by
  cases d
  case clo f caps =>
    obtain ⟨vs, h1, h2, h3⟩ := hr
    refine ⟨vs, h1, by simpa using h2, fun i d u a b => ?_⟩
    rw [List.getElem?_map] at a
    cases hc : caps[i]? with
    | none => rw [hc] at a; cases a
    | some c =>
      rw [hc] at a
      cases a
      exact bor1_refine h (h3 i (c.bor1 H') u (by rw [List.getElem?_map, hc]; rfl) b)
  all_goals (simp only [D.bor] at hr ⊢; exact bor_plain h (fun f caps hh => by cases hh) hr)
theorem borL_refine (h : Ext H H') {ds : List D} {vs : List Value} (hr : RepCL w M [] (ds.map (D.bor H')) vs) : RepCL w M [] (ds.map (D.bor H)) vs :=
  ⟨by simpa using hr.1, fun i d u a b => by
    rw [List.getElem?_map] at a
    cases hc : ds[i]? with
    | none => rw [hc] at a; cases a
    | some c =>
      rw [hc] at a
      cases a
      exact bor_refine h (hr.2 i (c.bor H') u (by rw [List.getElem?_map, hc]; rfl) b)⟩
theorem borV_refine (h : Ext H H') {x : AV} {v : Value} (hr : RepV w M [] (x.bor H') v) : RepV w M [] (x.bor H) v := by
  cases x with
  | one d => exact bor_refine h hr
  | agg ds => obtain ⟨vs, h1, h2⟩ := hr; exact ⟨vs, h1, borL_refine h h2⟩
  | tup xs =>
    obtain ⟨vs, h1, h2⟩ := hr
    obtain ⟨k1, k2⟩ := RepVL.get _ _ h2
    refine ⟨vs, h1, RepVL.mk _ _ (by simpa using k1) fun i a u ha hu => ?_⟩
    rw [List.getElem?_map] at ha
    cases hc : xs[i]? with
    | none => rw [hc] at ha; cases ha
    | some c =>
      rw [hc] at ha
      cases ha
      have q := k2 i _ u (by rw [List.getElem?_map, hc]; rfl) hu
      cases c with
      | one d => exact bor_refine h q
      | agg ds => obtain ⟨us, h3, h4⟩ := q; exact ⟨us, h3, borL_refine h h4⟩
      | _ => exact trivial
  | cond g y => exact trivial
  | any => exact trivial
theorem ACalls.more (h : Ext H H') {f : FuncId} {as : List AV} {r : AV} {Hn : List AObj} (hc : ACalls P f (as.map (AV.bor H)) r Hn) : ACalls P f (as.map (AV.bor H')) r Hn :=
  ⟨hc.ok, fun w M vs hM hr => hc.run w M vs hM (by
    obtain ⟨k1, k2⟩ := RepVL.get _ _ hr
    refine RepVL.mk _ _ (by simpa using k1) fun i a u ha hu => ?_
    rw [List.getElem?_map] at ha
    cases hc : as[i]? with
    | none => rw [hc] at ha; cases ha
    | some c =>
      rw [hc] at ha
      cases ha
      exact borV_refine h (k2 i _ u (by rw [List.getElem?_map, hc]; rfl) hu))⟩
end
end Go.Eng
