/-
  The abstract machine: operations that make one object, wherever they come; what they make stands at a tag kept free, what they use up is dead.
-/
import Derived.Test.YtjldfifepbdlmaaDoorEngN3
set_option linter.unusedSimpArgs false
set_option linter.unusedVariables false
namespace Go.Eng
open Go.RowKit

/-! ### tags die -/
structure GrowD (w : World) (M : Nat → Prop) (β : List Value) (w' : World) (M' : Nat → Prop) (β' : List Value) : Prop where
  keeps : Keeps w M w' M'
  tags : ∀ (t : Nat) (h : Value), β[t]? = some h → β'[t]? = some h ∨ β'[t]? = some dead
section
variable {w w' : World} {M M' : Nat → Prop} {β β' : List Value}
theorem GrowD.dead (hg : GrowD w M β w' M' β') {t : Nat} (h : β[t]? = some dead) : β'[t]? = some Eng.dead := (hg.tags t _ h).elim id id
theorem RepC0.growD (hg : GrowD w M β w' M' β') {d : D} {v : Value} (h : RepC0 w M β d v) : RepC0 w' M' β' d v := by
  have hone := h.oneCell
  cases d
  case unk => exact h
  case own t =>
    refine ⟨?_, hone⟩
    rcases h.1 with k | k
    · exact hg.tags _ _ k
    · exact .inr (hg.dead k)
  case vp t off =>
    rcases h with ⟨g, h1, h2⟩ | ⟨h1, h2⟩
    · rcases hg.tags _ _ h1 with k | k
      · exact .inl ⟨g, k, h2⟩
      · exact .inr ⟨k, hone⟩
    · exact .inr ⟨hg.dead h1, h2⟩
  case rp t i sz sub =>
    rcases h with ⟨g, n, c, h1, h2⟩ | ⟨h1, h2⟩
    · rcases hg.tags _ _ h1 with k | k
      · exact .inl ⟨g, n, c, k, h2⟩
      · exact .inr ⟨k, hone⟩
    · exact .inr ⟨hg.dead h1, h2⟩
  case mp t =>
    rcases h with ⟨g, h1, h2⟩ | ⟨h1, h2⟩
    · rcases hg.tags _ _ h1 with k | k
      · exact .inl ⟨g, k, h2⟩
      · exact .inr ⟨k, hone⟩
    · exact .inr ⟨hg.dead h1, h2⟩
  all_goals (simp only [RepC0] at h ⊢; exact RepD.keep hg.keeps _ _ h)
theorem RepC.growD (hg : GrowD w M β w' M' β') {d : D} {v : Value} (h : RepC w M β d v) : RepC w' M' β' d v := by
  cases d
  case clo f caps => obtain ⟨vs, h1, h2, h3⟩ := h; exact ⟨vs, h1, h2, fun i d u a b => (h3 i d u a b).growD hg⟩
  all_goals (simp only [RepC] at h ⊢; exact h.growD hg)
theorem RepCL.growD (hg : GrowD w M β w' M' β') {ds : List D} {vs : List Value} (h : RepCL w M β ds vs) : RepCL w' M' β' ds vs := ⟨h.1, fun i d u a b => (h.2 i d u a b).growD hg⟩
mutual
theorem RepV.growD (hg : GrowD w M β w' M' β') : ∀ (a : AV) (v : Value), RepV w M β a v → RepV w' M' β' a v
  | .one d, v, h => by simp only [RepV] at h ⊢; exact h.growD hg
  | .agg ds, v, h => by simp only [RepV] at h ⊢; obtain ⟨vs, h1, h2⟩ := h; exact ⟨vs, h1, h2.growD hg⟩
  | .tup avs, v, h => by simp only [RepV] at h ⊢; obtain ⟨vs, h1, h2⟩ := h; exact ⟨vs, h1, RepVL.growD hg avs vs h2⟩
  | .cond g av, v, h => by simp only [RepV] at h ⊢; exact ⟨fun hh => RepV.growD hg av v (h.1 hh), h.2⟩
  | .any, _, _ => by simp only [RepV]
theorem RepVL.growD (hg : GrowD w M β w' M' β') : ∀ (as : List AV) (vs : List Value), RepVL w M β as vs → RepVL w' M' β' as vs
  | [], vs, h => by simpa only [RepVL] using h
  | a :: as, vs, h => by
    simp only [RepVL] at h ⊢
    obtain ⟨v, rest, h1, h2, h3⟩ := h
    exact ⟨v, rest, h1, RepV.growD hg a v h2, RepVL.growD hg as rest h3⟩
end
theorem ObjRep.growD (hg : GrowD w M β w' M' β') {o : AObj} {h : Value} (hb : ∀ g, hblk h = some g → w'.heap[g]? = w.heap[g]?) (hr : ObjRep w M β o h) : ObjRep w' M' β' o h := by
  cases o with
  | gone => exact hr
  | row e sz rows =>
    obtain ⟨A, c, h1, h2, h3, h4⟩ := hr
    refine ⟨A, c, h1, h2, h3, ?_⟩
    rcases h4 with h4 | ⟨hc0, g, cur, rfl, h5, h6, h7⟩
    · exact .inl h4
    · have hgg := hb g (by rw [h1]; exact hblk_row hc0)
      exact .inr ⟨hc0, g, cur, rfl, hgg.trans h5, h6, h7.keeps hg.keeps fun vs o => reads_block (by exact hgg)⟩
  | var e cs =>
    obtain ⟨g, cur, h1, h2, h3⟩ := hr
    exact ⟨g, cur, h1, (hb g (by rw [h1]; rfl)).trans h2, h3.growD hg⟩
  | map kd kvs =>
    obtain ⟨hp, g, es, clk, h1, h2, h3, h4⟩ := hr
    exact ⟨hp, g, es, clk, h1, (hb g (by rw [h1]; rfl)).trans h2, h3, fun i kv e a b => ⟨RepV.growD hg _ _ (h4 i kv e a b).1, RepV.growD hg _ _ (h4 i kv e a b).2⟩⟩
end
def killH : Option Nat → List AObj → List AObj
  | none, H => H
  | some k, H => H.set k .gone
def killB : Option Nat → List Value → List Value
  | none, β => β
  | some k, β => β.set k dead
theorem killH_length (k : Option Nat) (H : List AObj) : (killH k H).length = H.length := by cases k <;> simp [killH]
theorem killB_length (k : Option Nat) (β : List Value) : (killB k β).length = β.length := by cases k <;> simp [killB]
section
variable {P : Program} {T : Tab} {W0 w w' : World} {M0 : Nat → Prop} {F β : List Value} {σ σ' : AState} {a a' : Act}
theorem owned_dead {k g : Nat} (h : owned (β.set k dead) g) : ∃ (t : Nat) (x : Value), t ≠ k ∧ β[t]? = some x ∧ hblk x = some g := by
  rcases owned_set h with h | h
  · cases h
  · exact h
/-- the object is given up: whoever bears its tag says nothing -/
theorem Sim.kill (h : Sim W0 M0 F σ a w β) {k : Nat} (hpin : σ.pin ≤ k) : Sim W0 M0 F (σ.setObj k .gone) a w (β.set k dead) := by
  have hG : GrowD w (Mof M0 β) β w (Mof M0 (β.set k dead)) (β.set k dead) := ⟨⟨Nat.le_refl _, fun _ _ _ => rfl, fun g _ hm hm' => hm (by
    rcases hm' with hm' | hm'
    · exact .inl hm'
    · obtain ⟨t, x, _, h1, h2⟩ := owned_dead hm'
      exact .inr ⟨t, x, h1, h2⟩)⟩, fun t x hx => by
    by_cases htk : k = t
    · subst htk
      right
      rw [List.getElem?_set_self (List.getElem?_eq_some_iff.1 hx).1]
    · left
      rw [List.getElem?_set_ne htk]; exact hx⟩
  have back : ∀ t x, (β.set k dead)[t]? = some x → x = dead ∨ (t ≠ k ∧ β[t]? = some x) := fun t x hx => by
    by_cases htk : k = t
    · subst htk
      rw [List.getElem?_set_self (by have := (List.getElem?_eq_some_iff.1 hx).1; simpa using this)] at hx
      cases hx; exact .inl rfl
    · rw [List.getElem?_set_ne htk] at hx; exact .inr ⟨fun e => htk e.symm, hx⟩
  refine ⟨h.below, h.m0, by simp [AState.setObj, h.len], fun t o x ho hx => ?_, fun g hg => ?_, fun t t' x x' g hx hx' e e' => ?_, fun i v hv => ?_, h.size, h.defers, h.out, ⟨h.pins.1, fun t ht => ?_⟩⟩
  · have ho' : (σ.H.set k .gone)[t]? = some o := ho
    by_cases htk : k = t
    · subst htk
      have hl : k < σ.H.length := by have := (List.getElem?_eq_some_iff.1 ho').1; simpa using this
      rw [List.getElem?_set_self hl] at ho'
      cases ho'; exact trivial
    · rw [List.getElem?_set_ne htk] at ho' hx
      exact (h.objs t o x ho' hx).growD hG fun _ _ => rfl
  · obtain ⟨t, x, _, h1, h2⟩ := owned_dead hg
    exact h.fresh g ⟨t, x, h1, h2⟩
  · rcases back t x hx with rfl | ⟨_, hx⟩
    · cases e
    · rcases back t' x' hx' with rfl | ⟨_, hx'⟩
      · cases e'
      · exact h.dist t t' x x' g hx hx' e e'
  · obtain ⟨x, h1, h2⟩ := h.slots i v hv
    exact ⟨x, h1, RepV.growD hG v x h2⟩
  · have ht' : t < σ.pin := ht
    rw [List.getElem?_set_ne (by omega)]
    exact h.pins.2 t ht'
/-- the object at 'k' is used up, what comes of it is a new one -/
theorem Sim.use (h : Sim W0 M0 F σ a w β) {k d : Nat} {hd hd' : Value} {o' : AObj} (hpin : σ.pin ≤ k) (hβ : β[k]? = some hd) (hdn : d < σ.n) (hg : w.grownBy w' (hblk hd)) (hnew : ∀ g, hblk hd' = some g → hblk hd = some g ∨ (w.heap.size ≤ g ∧ g < w'.heap.size))
    (hpl : o'.plain = true) (hone : hd'.oneCell' = true) (ho : ObjRep w' (Mof M0 (β.set k hd')) (β.set k hd') o' hd') : Sim W0 M0 F ((σ.setObj k .gone).pushObj d o' (.one (.own σ.H.length))) (a.put (some d) hd') w' (β.set k dead ++ [hd']) := by
  have hkl : k < β.length := (List.getElem?_eq_some_iff.1 hβ).1
  have get2 : ∀ t x, (β.set k dead ++ [hd'])[t]? = some x → x = dead ∨ (t ≠ k ∧ t < β.length ∧ β[t]? = some x) ∨ (t = β.length ∧ x = hd') := fun t x hx => by
    rw [List.getElem?_append] at hx
    split at hx
    · by_cases htk : k = t
      · subst htk
        rw [List.getElem?_set_self hkl] at hx
        cases hx; exact .inl rfl
      · rw [List.getElem?_set_ne htk] at hx; exact .inr (.inl ⟨fun e => htk e.symm, (List.getElem?_eq_some_iff.1 hx).1, hx⟩)
    · rename_i hl
      have hl0 := (List.getElem?_eq_some_iff.1 hx).1
      simp at hl hl0
      have : t - (β.set k dead).length = 0 := by simp; omega
      rw [this] at hx
      simp at hx
      exact .inr (.inr ⟨by omega, hx.symm⟩)
  have own2 : ∀ g, owned (β.set k dead ++ [hd']) g → (∃ (t : Nat) (x : Value), t ≠ k ∧ β[t]? = some x ∧ hblk x = some g) ∨ hblk hd' = some g := fun g ⟨t, x, h1, h2⟩ => by
    rcases get2 t x h1 with rfl | ⟨k1, _, k2⟩ | ⟨_, rfl⟩
    · cases h2
    · exact .inl ⟨t, x, k1, k2, h2⟩
    · exact .inr h2
  have hkeep : Keeps w (Mof M0 β) w' (Mof M0 (β.set k dead ++ [hd'])) := by
    refine ⟨hg.size, fun g hlt hm => hg.block g hlt fun e => hm (.inr ⟨k, hd, hβ, e.symm⟩), fun g hlt hm hm' => ?_⟩
    rcases hm' with hm' | hm'
    · exact hm (.inl hm')
    · rcases own2 g hm' with ⟨t, x, _, h1, h2⟩ | hb
      · exact hm (.inr ⟨t, x, h1, h2⟩)
      · rcases hnew g hb with hb | hb
        · exact hm (.inr ⟨k, hd, hβ, hb⟩)
        · omega
  have hG : GrowD w (Mof M0 β) β w' (Mof M0 (β.set k dead ++ [hd'])) (β.set k dead ++ [hd']) := ⟨hkeep, fun t x hx => by
    have hl := (List.getElem?_eq_some_iff.1 hx).1
    rw [List.getElem?_append_left (by simpa using hl)]
    by_cases htk : k = t
    · subst htk
      exact .inr (List.getElem?_set_self hl)
    · exact .inl (by rw [List.getElem?_set_ne htk]; exact hx)⟩
  have main : Sim W0 M0 F { (σ.setObj k .gone) with H := (σ.setObj k .gone).H ++ [o'] } a w' (β.set k dead ++ [hd']) := by
    refine ⟨?_, h.m0, by simp [AState.setObj, h.len], fun t o x ho' hx => ?_, fun g hgo => ?_, fun t t' x x' g h1 h2 h3 h4 => ?_, fun i v hv => ?_, h.size, h.defers, h.out, ⟨h.pins.1, fun t ht => ?_⟩⟩
    · refine h.below.trans (Y := fun i => hblk hd = some i) ⟨hg.os, hg.tape, hg.output, hg.size, fun i hi hy => hg.block i hi fun e => hy e.symm⟩ fun i hi hy => ?_
      rcases (h.fresh i ⟨k, hd, hβ, hy⟩).1 with hk' | hk'
      · exact hk'
      · omega
    · have ho2 : ((σ.H.set k .gone) ++ [o'])[t]? = some o := ho'
      have hlen : (σ.H.set k AObj.gone).length = β.length := by simp [h.len]
      rcases get2 t x hx with rfl | ⟨k1, k2, k3⟩ | ⟨rfl, rfl⟩
      · have ht : t < (β.set k dead ++ [hd']).length := (List.getElem?_eq_some_iff.1 hx).1
        by_cases htk : t = k
        · subst htk
          rw [List.getElem?_append_left (by omega), List.getElem?_set_self (by rw [← h.len]; exact hkl)] at ho2
          cases ho2; exact trivial
        · by_cases htl : t < β.length
          · rw [List.getElem?_append_left (by omega), List.getElem?_set_ne (Ne.symm htk)] at ho2
            rw [List.getElem?_append_left (by simpa using htl), List.getElem?_set_ne (Ne.symm htk)] at hx
            exact (h.objs t o _ ho2 hx).growD hG fun g hgb => by cases hgb
          · have : t = β.length := by simp at ht; omega
            subst this
            rw [List.getElem?_append_right (by simp)] at hx
            simp at hx
            subst hx
            cases hone
      · rw [List.getElem?_append_left (by omega), List.getElem?_set_ne (Ne.symm k1)] at ho2
        exact (h.objs t o x ho2 k3).growD hG fun g hgb => hg.block g (h.fresh g ⟨t, x, k3, hgb⟩).2 fun e => k1 (h.dist t k x hd g k3 hβ hgb e.symm)
      · rw [List.getElem?_append_right (by omega), hlen] at ho2
        simp at ho2
        subst ho2
        refine ho.plainMove ⟨Nat.le_refl _, fun _ _ _ => rfl, fun g _ hm hm' => hm ?_⟩ hpl
        rcases hm' with hm' | hm'
        · exact .inl hm'
        · rcases own2 g hm' with ⟨t, y, k1, h1, h2⟩ | hb
          · exact .inr ⟨t, y, by rw [List.getElem?_set_ne (Ne.symm k1)]; exact h1, h2⟩
          · exact .inr ⟨k, x, List.getElem?_set_self hkl, hb⟩
    · rcases own2 g hgo with ⟨t, x, _, h1, h2⟩ | hb
      · have := h.fresh g ⟨t, x, h1, h2⟩
        exact ⟨this.1, Nat.lt_of_lt_of_le this.2 hg.size⟩
      · rcases hnew g hb with hb | hb
        · have := h.fresh g ⟨k, hd, hβ, hb⟩
          exact ⟨this.1, Nat.lt_of_lt_of_le this.2 hg.size⟩
        · exact ⟨.inr (Nat.le_trans h.below.size hb.1), hb.2⟩
    · rcases get2 t x h1 with rfl | ⟨k1, k2, k3⟩ | ⟨k2, rfl⟩
      · cases h3
      · rcases get2 t' x' h2 with rfl | ⟨l1, l2, l3⟩ | ⟨l2, rfl⟩
        · cases h4
        · exact h.dist t t' x x' g k3 l3 h3 h4
        · rcases hnew g h4 with hb | hb
          · exact absurd (h.dist t k x hd g k3 hβ h3 hb) k1
          · have := (h.fresh g ⟨t, x, k3, h3⟩).2; omega
      · rcases get2 t' x' h2 with rfl | ⟨l1, l2, l3⟩ | ⟨l2, rfl⟩
        · cases h4
        · rcases hnew g h3 with hb | hb
          · exact absurd (h.dist t' k x' hd g l3 hβ h4 hb) l1
          · have := (h.fresh g ⟨t', x', l3, h4⟩).2; omega
        · omega
    · obtain ⟨x, h1, h2⟩ := h.slots i v hv
      exact ⟨x, h1, RepV.growD hG v x h2⟩
    · have ht' : t < σ.pin := ht
      have := h.pins.2 t ht'
      have htF : t < F.length := by have := h.pins.1; omega
      rw [List.getElem?_eq_getElem htF] at this
      rw [List.getElem?_append_left (by have := (List.getElem?_eq_some_iff.1 this).1; simpa using this), List.getElem?_set_ne (by omega), this, List.getElem?_eq_getElem htF]
  have hlast : (β.set k dead ++ [hd'])[σ.H.length]? = some hd' := by rw [← h.len]; simp
  exact main.put hdn ⟨.inl hlast, hone⟩
end
section
variable {P : Program} {T : Tab} {W0 w w' : World} {M0 : Nat → Prop} {F β : List Value} {σ σ' : AState} {a a' : Act}
theorem Sim.pin_le (h : Sim W0 M0 F σ a w β) : σ.pin ≤ σ.H.length := by
  rcases Nat.eq_zero_or_pos σ.pin with h0 | h0
  · omega
  · have h1 := h.pins.2 (σ.pin - 1) (by omega)
    have h2 : σ.pin - 1 < F.length := by have := h.pins.1; omega
    rw [List.getElem?_eq_getElem h2] at h1
    have := (List.getElem?_eq_some_iff.1 h1).1
    rw [h.len] at this
    omega
/-- a slice just made is taken as one that nobody writes -/
theorem Sim.popFrozen (h : Sim W0 M0 F σ a w β) {d : Nat} {e : TypeId} {sz : Nat} {rows : List (List D)} {hd : Value}
    (k : Sim W0 M0 F ⟨σ.n, (d, .one (.own σ.H.length)) :: σ.slots, σ.H ++ [.row e sz rows], σ.pin⟩ a' w' (β ++ [hd])) : Sim W0 M0 F ⟨σ.n, (d, .one (.list rows)) :: σ.slots, σ.H, σ.pin⟩ a' w' β := by
  have sub : ∀ g, owned β g → owned (β ++ [hd]) g := fun g ⟨t, x, h1, h2⟩ => ⟨t, x, by rw [List.getElem?_append_left (List.getElem?_eq_some_iff.1 h1).1]; exact h1, h2⟩
  have hkeep : Keeps w' (Mof M0 (β ++ [hd])) w' (Mof M0 β) := ⟨Nat.le_refl _, fun _ _ _ => rfl, fun g _ hm hm' => hm (hm'.imp id (sub g))⟩
  have hm : Mv w' (Mof M0 (β ++ [hd])) β (β ++ [hd]) (Mof M0 β) β := ⟨hkeep, fun s h0 h1 e0 _ e => by
    rw [List.getElem?_append_left (List.getElem?_eq_some_iff.1 e0).1] at e; exact e⟩
  have hlast : (β ++ [hd])[σ.H.length]? = some hd := by rw [← h.len]; simp
  have hob := k.objs σ.H.length (.row e sz rows) hd (by simp) hlast
  refine ⟨k.below, k.m0, h.len, fun t o x ho hx => ?_, fun g hg => k.fresh g (sub g hg), fun t t' x x' g h1 h2 h3 h4 => ?_, fun i v hv => ?_, k.size, k.defers, k.out, ⟨k.pins.1, fun t ht => ?_⟩⟩
  · have hl := (List.getElem?_eq_some_iff.1 hx).1
    exact (h.objs t o x ho hx).mv hm (k.objs t o x (by rw [List.getElem?_append_left (by rw [← h.len]; exact hl)]; exact ho) (by rw [List.getElem?_append_left hl]; exact hx))
  · exact k.dist t t' x x' g (by rw [List.getElem?_append_left (List.getElem?_eq_some_iff.1 h1).1]; exact h1) (by rw [List.getElem?_append_left (List.getElem?_eq_some_iff.1 h2).1]; exact h2) h3 h4
  · simp only [lookS] at hv
    split at hv
    · rename_i hi
      subst hi
      cases hv
      obtain ⟨x, h1, h2⟩ := k.slots d (.one (.own σ.H.length)) (by simp [lookS])
      refine ⟨x, h1, ?_⟩
      have hx := own_live h2 fun y hy => k.objs σ.H.length (.row e sz rows) y (by simp) hy
      rw [hlast] at hx
      cases hx
      obtain ⟨A, c, rfl, q2, q3, q4⟩ := hob
      refine ⟨A, c, rfl, q2, q3, ?_⟩
      rcases q4 with rfl | ⟨hc0, g, cur, rfl, q5, q6, q7⟩
      · left; exact List.eq_nil_of_length_eq_zero (by omega)
      · have hown : owned (β ++ [Value.slice (some ⟨g, 0, none⟩) rows.length c]) g := ⟨σ.H.length, _, hlast, hblk_row hc0⟩
        refine .inr ⟨⟨g, 0, none⟩, sz, rfl, (k.fresh g hown).2, fun hm' => ?_, q7.keeps hkeep fun _ _ x => x⟩
        rcases hm' with hm' | ⟨t, y, h3, h4⟩
        · exact (k.lend.out g hown).1 hm'
        · have hl := (List.getElem?_eq_some_iff.1 h3).1
          have := k.dist t σ.H.length y _ g (by rw [List.getElem?_append_left hl]; exact h3) hlast h4 (hblk_row hc0)
          rw [h.len] at hl
          omega
    · rename_i hi
      obtain ⟨x0, _, q0⟩ := h.slots i v hv
      obtain ⟨x, h1, h2⟩ := k.slots i v (by simp only [lookS]; rw [if_neg hi]; exact hv)
      exact ⟨x, h1, RepV.mv hm v x0 x q0 h2⟩
  · have ht' : t < σ.pin := ht
    have h1 := k.pins.2 t ht'
    rw [List.getElem?_append_left (by rw [h.len]; exact Nat.lt_of_lt_of_le ht' h.pin_le)] at h1
    exact h1
end
/-! ### operations that make one object -/
def aVal (P : Program) (T : Tab) (o : Oper) (p : HdK) (obj : AObj) (kill : Option Nat) (σ : AState) : Prop :=
  match o.op with
  | .alloc e => (T e).desc ≠ .other ∧ p = .vp ∧ obj = .var e (T e).zero ∧ kill = none
  | .box e x => (σ.ev x).need ∧ (∃ cs, (σ.evs x).cells? = some cs ∧ obj = .var e cs) ∧ p = .vp ∧ kill = none
  | .makeSlice t l c => ∃ e n m, (T t).desc = .slice e ∧ σ.evs l = .one (.int .i64 n) ∧ σ.evs c = .one (.int .i64 m) ∧ ((σ.ev l).need ∧ (σ.ev c).need ∧ (T e).desc ≠ .other ∧ 0 < (T e).size ∧ 0 ≤ n ∧ n ≤ m ∧ m ≤ 9223372036854775807 ∧ (T e).bytes * m ≤ 281474976710656) ∧
      p = .own ∧ obj = .row e (T e).size (List.replicate n.toNat (T e).zero) ∧ kill = none
  | .makeMap t none => p = .mp ∧ kill = none ∧ ∃ kt et, (T t).desc = .map kt et ∧ (((T kt).desc = .string ∧ obj = .map .str []) ∨ ∃ k, (T kt).desc = .int k ∧ obj = .map (.int k) [])
  | .call c => match c.callee with
    | .value fo => ∃ f as, callee σ fo c.args.toList = some (f, as) ∧ needs σ (fo :: c.args.toList) ∧ ACalls P f (as.map (AV.bor σ.H)) (.one (.own 0)) [obj] ∧ callSafe as (.one (.own 0)) [obj] ∧ p = .own ∧ kill = none
    | .builtin .append => ∃ s x t e rows news, c = { callee := .builtin .append, args := #[s, x], argTypes := #[t, t] } ∧ (T t).desc = .slice e ∧ srcRows σ.H (σ.evs x) = some news ∧ (σ.ev s).need ∧ (σ.ev x).need ∧
        (T e).desc ≠ .other ∧ 0 < (T e).size ∧ (∀ r ∈ news, r.length = (T e).size) ∧ (rows.length + news.length) * (T e).bytes ≤ 140737488355328 ∧ rows.length + news.length ≤ 9223372036854775807 ∧ p = .own ∧ obj = .row e (T e).size (rows ++ news) ∧
        ((σ.evs s = .one .nil ∧ rows = [] ∧ kill = none) ∨ ∃ k, σ.evs s = .one (.own k) ∧ σ.H[k]? = some (.row e (T e).size rows) ∧ kill = some k)
    | _ => False
  | _ => False
section
variable {P : Program} {T : Tab} {W0 w : World} {M0 : Nat → Prop} {F β : List Value} {σ τ : AState} {a : Act} {ops : Array Oper} {Kc : Act → World → Prop} {Q : Exit → Act → World → Prop}
theorem evs_H (H' : List AObj) (x : Operand) : AState.evs { σ with H := H' } x = σ.evs x := by cases x <;> rfl
theorem ev_H (H' : List AObj) (x : Operand) : AState.ev { σ with H := H' } x = σ.ev x := by cases x <;> rfl
theorem callee_H (H' : List AObj) (fo : Operand) (args : List Operand) : callee { σ with H := H' } fo args = callee σ fo args := by
  unfold callee
  rw [evs_H]
  rw [show (AState.evs { σ with H := H' }) = σ.evs from funext fun x => evs_H H' x]
theorem needs_H (H' : List AObj) : ∀ (xs : List Operand), needs σ xs → needs { σ with H := H' } xs
  | [], h => h
  | x :: xs, h => ⟨by rw [ev_H]; exact h.1, needs_H H' xs h.2⟩
theorem aVal_ext {o : Oper} {p : HdK} {obj : AObj} {kill : Option Nat} {H' : List AObj} (hx : Ext σ.H H') (h : aVal P T o p obj kill σ) : aVal P T o p obj kill { σ with H := H' } := by
  unfold aVal at h ⊢
  split
  · rename_i e ho
    simp only [ho] at h
    exact h
  · rename_i e x ho
    simp only [ho] at h
    rw [ev_H, evs_H]
    exact h
  · rename_i t l c ho
    simp only [ho] at h
    rw [ev_H, evs_H, ev_H, evs_H]
    exact h
  · rename_i t ho
    simp only [ho] at h
    exact h
  · rename_i c ho
    simp only [ho] at h
    split
    · rename_i fo hc
      simp only [hc] at h
      obtain ⟨f, as, h1, h2, h3, h4, h5⟩ := h
      exact ⟨f, as, by rw [callee_H]; exact h1, needs_H _ _ h2, h3.more hx, h4, h5⟩
    · rename_i hc
      simp only [hc] at h
      obtain ⟨s, x, t, e, rows, news, h1, h2, h3, h4, h5, h6, h7, h8, h9, h10, h11, h12, h13⟩ := h
      refine ⟨s, x, t, e, rows, news, h1, h2, by rw [evs_H]; exact srcRows_mono hx _ h3, by rw [ev_H]; exact h4, by rw [ev_H]; exact h5, h6, h7, h8, h9, h10, h11, h12, ?_⟩
      rw [evs_H]
      rcases h13 with h13 | ⟨k, k1, k2, k3⟩
      · exact .inl h13
      · exact .inr ⟨k, k1, hx k _ k2 (by simp), k3⟩
    · rename_i h1 h2
      split at h
      · exact absurd ‹_› (h1 _)
      · exact absurd ‹_› h2
      · exact h
  · rename_i h1 h2 h3 h4 h5
    split at h
    · exact absurd ‹_› (h1 _)
    · exact absurd ‹_› (h2 _ _)
    · exact absurd ‹_› (h3 _ _ _)
    · exact absurd ‹_› (h4 _)
    · exact absurd ‹_› (h5 _)
    · exact h
theorem aVal_agree {o : Oper} {p : HdK} {obj : AObj} {kill : Option Nat} (h : Agree ops o σ τ) (hv : aVal P T o p obj kill σ) : aVal P T o p obj kill τ := by
  have hev : ∀ x ∈ o.op.operands.toList, σ.ev x = τ.ev x := fun x hx => h.ev hx
  have hevs : ∀ x ∈ o.op.operands.toList, σ.evs x = τ.evs x := fun x hx => by simp only [AState.evs]; rw [hev x hx]
  unfold aVal at hv ⊢
  split
  · rename_i e ho
    simp only [ho] at hv
    exact hv
  · rename_i e x ho
    simp only [ho, Op.operands] at hv hev hevs
    rw [← hev x (by simp), ← hevs x (by simp)]
    exact hv
  · rename_i t l c ho
    simp only [ho, Op.operands] at hv hev hevs
    rw [← hev l (by simp), ← hevs l (by simp), ← hev c (by simp), ← hevs c (by simp)]
    exact hv
  · rename_i t ho
    simp only [ho] at hv
    exact hv
  · rename_i c ho
    simp only [ho] at hv
    simp only [ho, Op.operands, Call.operands] at hev hevs
    split
    · rename_i fo hc
      simp only [hc] at hv hev hevs
      obtain ⟨f, as, h1, h2, h3, h4, h5⟩ := hv
      have hfo := hevs fo (by simp)
      have hargs : c.args.toList.map σ.evs = c.args.toList.map τ.evs := List.map_congr_left fun x hx => hevs x (by simp at hx ⊢; exact .inr hx)
      refine ⟨f, as, ?_, needs_congr _ (fun x hx => hev x (by simpa using hx)) h2, by rw [← h.H]; exact h3, h4, h5⟩
      unfold callee at h1 ⊢
      rw [← hfo, ← hargs]
      exact h1
    · rename_i hc
      simp only [hc] at hv
      obtain ⟨s, x, t, e, rows, news, rfl, h2, h3, h4, h5, h6, h7, h8, h9, h10, h11, h12, h13⟩ := hv
      have hs := hevs s (by simp)
      have hx := hevs x (by simp)
      have ks := hev s (by simp)
      have kx := hev x (by simp)
      exact ⟨s, x, t, e, rows, news, rfl, h2, by rw [← hx, ← h.H]; exact h3, by rw [← ks]; exact h4, by rw [← kx]; exact h5, h6, h7, h8, h9, h10, h11, h12, by rw [← hs, ← h.H]; exact h13⟩
    · rename_i h1 h2
      split at hv
      · exact absurd ‹_› (h1 _)
      · exact absurd ‹_› h2
      · exact hv
  · rename_i h1 h2 h3 h4 h5
    split at hv
    · exact absurd ‹_› (h1 _)
    · exact absurd ‹_› (h2 _ _)
    · exact absurd ‹_› (h3 _ _ _)
    · exact absurd ‹_› (h4 _)
    · exact absurd ‹_› (h5 _)
    · exact hv
theorem aVal_sound (hT : TabOk P T) {o : Oper} {p : HdK} {obj : AObj} {kill : Option Nat} {d : Nat} (h : Sim W0 M0 F σ a w β) (hd : o.dst = some d) (hdn : d < σ.n) (hpin : ∀ k, kill = some k → σ.pin ≤ k) (hv : aVal P T o p obj kill σ)
    (hK : ∀ a' w' x, Sim W0 M0 F { n := σ.n, slots := (d, hdl p σ.H.length) :: σ.slots, H := killH kill σ.H ++ [obj], pin := σ.pin } a' w' (killB kill β ++ [x]) → Kc a' w') : o.wp P a w Kc Q := by
  have one : ∀ {τ : AState} {a' : Act} {w' : World}, τ.pin = σ.H.length → τ.H.length = σ.H.length + 1 → SimS w M0 β τ a' w' → ∃ x, Sim W0 M0 F { τ with pin := σ.pin } a' w' (β ++ [x]) := by
    rintro τ a' w' hp hl ⟨β', hs⟩
    obtain ⟨r, rfl, hs'⟩ := h.unbase hp hs
    have hlen := hs.len
    rw [hl, List.length_append, h.len] at hlen
    match r, hlen with
    | [x], _ => exact ⟨x, hs'⟩
    | [], hh => simp at hh
    | _ :: _ :: _, hh => simp at hh
  unfold aVal at hv
  split at hv
  · rename_i e ho
    obtain ⟨hk, rfl, rfl, rfl⟩ := hv
    refine tAlloc_sound (K := fun σ' => σ' = σ.pinned.pushObj d (.var e (T e).zero) (.one (.vp σ.H.length 0))) hT ho hd h.rebase ⟨⟨hk, hdn⟩, rfl⟩ ?_
    rintro σ' a' w' rfl hs
    obtain ⟨x, hs⟩ := one rfl (by simp [AState.pushObj, AState.pinned]) hs
    exact hK _ _ x hs
  · rename_i e x ho
    obtain ⟨hn, ⟨cs, hcs, rfl⟩, rfl, rfl⟩ := hv
    have ht : tBox e x d σ.pinned (fun σ' => σ' = σ.pinned.pushObj d (.var e cs) (.one (.vp σ.H.length 0))) := by
      unfold tBox
      rw [show σ.pinned.evs x = σ.evs x from by cases x <;> rfl, hcs]
      exact ⟨⟨by rw [show σ.pinned.ev x = σ.ev x from by cases x <;> rfl]; exact hn, hdn⟩, rfl⟩
    refine tBox_sound ho hd h.rebase ht ?_
    rintro σ' a' w' rfl hs
    obtain ⟨y, hs⟩ := one rfl (by simp [AState.pushObj, AState.pinned]) hs
    exact hK _ _ y hs
  · rename_i t l c ho
    obtain ⟨e, n, m, h1, h2, h3, ⟨k1, k2, k3, k4, k5, k6, k7, k8⟩, rfl, rfl, rfl⟩ := hv
    have ht : tMake T t l c d σ.pinned (fun σ' => σ' = σ.pinned.pushObj d (.row e (T e).size (List.replicate n.toNat (T e).zero)) (.one (.own σ.H.length))) := by
      unfold tMake
      rw [h1, show σ.pinned.evs l = σ.evs l from by cases l <;> rfl, show σ.pinned.evs c = σ.evs c from by cases c <;> rfl, h2, h3]
      exact ⟨⟨by rw [show σ.pinned.ev l = σ.ev l from by cases l <;> rfl]; exact k1, by rw [show σ.pinned.ev c = σ.ev c from by cases c <;> rfl]; exact k2, k3, k4, k5, k6, k7, k8, hdn⟩, rfl⟩
    refine tMake_sound hT ho hd h.rebase ht ?_
    rintro σ' a' w' rfl hs
    obtain ⟨y, hs⟩ := one rfl (by simp [AState.pushObj, AState.pinned]) hs
    exact hK _ _ y hs
  · rename_i t ho
    obtain ⟨rfl, rfl, kt, et, h1, h2⟩ := hv
    have ht : tMakeMap T t d σ.pinned (fun σ' => σ' = σ.pinned.pushObj d obj (.one (.mp σ.H.length))) := by
      unfold tMakeMap
      rw [h1]
      rcases h2 with ⟨h2, rfl⟩ | ⟨k, h2, rfl⟩
      · simp only [h2]; exact ⟨hdn, rfl⟩
      · simp only [h2]; exact ⟨hdn, rfl⟩
    refine tMakeMap_sound ho hd h.rebase ht ?_
    rintro σ' a' w' rfl hs
    obtain ⟨y, hs⟩ := one rfl (by simp [AState.pushObj, AState.pinned]) hs
    exact hK _ _ y hs
  · rename_i c ho
    obtain ⟨cal, args, ats⟩ := c
    simp only at hv
    split at hv
    · rename_i fo
      obtain ⟨f, as, h1, h2, h3, h4, rfl, rfl⟩ := hv
      have hop : aop1 P T o σ.pinned (fun σ' => σ' = AState.put { n := σ.n, slots := σ.slots, H := σ.H ++ [obj], pin := σ.H.length } d (.one (.own σ.H.length))) := by
        unfold aop1
        simp only [hd, ho]
        unfold cstep
        have hc : callee σ.pinned fo args.toList = some (f, as) := h1
        rw [hc]
        exact ⟨.inl ⟨_, [obj], ⟨⟨needs_congr _ (fun x _ => by cases x <;> rfl) h2, hdn⟩, h3, h4⟩, rfl⟩⟩
      refine aop1_sound hT h.rebase hop ?_
      rintro σ' a' w' rfl hs
      obtain ⟨y, hs⟩ := one rfl (by simp [AState.put]) hs
      exact hK _ _ y hs
    · obtain ⟨s, x, t, e, rows, news, hc, hdesc, hsrc, n1, n2, hk, hsz, hrl, hby, hmx, rfl, rfl, hcase⟩ := hv
      have e1 := h.evs n1
      rcases hcase with ⟨hsn, rfl, rfl⟩ | ⟨k, hsk, hHk, rfl⟩
      · rw [hsn] at e1
        obtain ⟨A, hA⟩ : ∃ A, a.eval s = .slice A 0 0 := e1
        obtain ⟨v', w', r1, r2, r3, r4, r5⟩ := append_nil_push (P := P) (ty := o.type) hT hdesc h A (h.evs n2) hsrc hk hsz hrl (by simpa using hby) (by simpa using hmx)
        refine upon_value (u := v') (w' := w') ?_ ?_
        · rw [← hA] at r1
          simp [execOp, ho, hc, resolve, invoke, builtin, r1]
        · rw [hd]
          exact hK _ _ v' (h.pushObj hdn r2 r3 r5 ⟨.inl (last_tag h _), r4⟩)
      · rw [hsk] at e1
        have hβ : β[k]? = some (a.eval s) := own_live e1 fun y hy => h.objs k _ y hHk hy
        obtain ⟨v', w', r1, r3, hnew, ⟨A', c', hv'⟩, hobj⟩ := append_run (P := P) (ty := o.type) hT hdesc h hβ hHk (fun sz hsz => srcRows_sound h (h.evs n2) hsrc hsz) hk hsz rfl hrl hby hmx
        refine upon_value (u := v') (w' := w') ?_ ?_
        · simp [execOp, ho, hc, resolve, invoke, builtin, r1]
        · rw [hd]
          exact hK _ _ v' (h.use (hpin k rfl) hβ hdn r3 hnew rfl (by rw [hv']; rfl) hobj)
    · exact hv.elim
  · exact hv.elim
end
end Go.Eng
