/-
  The abstract machine: how states are turned: a new object, an object turned, an object frozen, what is lent to a callee.
-/
import Derived.Test.YtjldfifepbdlmaaDoorEngH
set_option linter.unusedSimpArgs false
set_option linter.unusedVariables false
namespace Go.Eng
open Go.RowKit

/-! ### transport along more tags -/
structure Grow (w : World) (M : Nat → Prop) (β : List Value) (w' : World) (M' : Nat → Prop) (β' : List Value) : Prop where
  keeps : Keeps w M w' M'
  tags : ∀ (t : Nat) (h : Value), β[t]? = some h → β'[t]? = some h
section
variable {w w' : World} {M M' : Nat → Prop} {β β' : List Value}
theorem RepC0.grow (hg : Grow w M β w' M' β') {d : D} {v : Value} (h : RepC0 w M β d v) : RepC0 w' M' β' d v := by
  cases d
  case unk => exact h
  case own t => exact ⟨h.1.imp (hg.tags _ _) (hg.tags _ _), h.2⟩
  case vp t off => rcases h with ⟨g, h1, h2⟩ | h; exact .inl ⟨g, hg.tags _ _ h1, h2⟩; exact .inr ⟨hg.tags _ _ h.1, h.2⟩
  case rp t i sz sub => rcases h with ⟨g, n, c, h1, h2⟩ | h; exact .inl ⟨g, n, c, hg.tags _ _ h1, h2⟩; exact .inr ⟨hg.tags _ _ h.1, h.2⟩
  case mp t => rcases h with ⟨g, h1, h2⟩ | h; exact .inl ⟨g, hg.tags _ _ h1, h2⟩; exact .inr ⟨hg.tags _ _ h.1, h.2⟩
  all_goals (simp only [RepC0] at h ⊢; exact RepD.keep hg.keeps _ _ h)
theorem RepC.grow (hg : Grow w M β w' M' β') {d : D} {v : Value} (h : RepC w M β d v) : RepC w' M' β' d v := by
  cases d
  case clo f caps => obtain ⟨vs, h1, h2, h3⟩ := h; exact ⟨vs, h1, h2, fun i d u a b => (h3 i d u a b).grow hg⟩
  all_goals (simp only [RepC] at h ⊢; exact h.grow hg)
theorem RepCL.grow (hg : Grow w M β w' M' β') {ds : List D} {vs : List Value} (h : RepCL w M β ds vs) : RepCL w' M' β' ds vs := ⟨h.1, fun i d u a b => (h.2 i d u a b).grow hg⟩
mutual
theorem RepV.grow (hg : Grow w M β w' M' β') : ∀ (a : AV) (v : Value), RepV w M β a v → RepV w' M' β' a v
  | .one d, v, h => by simp only [RepV] at h ⊢; exact h.grow hg
  | .agg ds, v, h => by simp only [RepV] at h ⊢; obtain ⟨vs, h1, h2⟩ := h; exact ⟨vs, h1, h2.grow hg⟩
  | .tup avs, v, h => by simp only [RepV] at h ⊢; obtain ⟨vs, h1, h2⟩ := h; exact ⟨vs, h1, RepVL.grow hg avs vs h2⟩
  | .cond g av, v, h => by simp only [RepV] at h ⊢; exact ⟨fun hh => RepV.grow hg av v (h.1 hh), h.2⟩
  | .any, _, _ => by simp only [RepV]
theorem RepVL.grow (hg : Grow w M β w' M' β') : ∀ (as : List AV) (vs : List Value), RepVL w M β as vs → RepVL w' M' β' as vs
  | [], vs, h => by simpa only [RepVL] using h
  | a :: as, vs, h => by
    simp only [RepVL] at h ⊢
    obtain ⟨v, rest, h1, h2, h3⟩ := h
    exact ⟨v, rest, h1, RepV.grow hg a v h2, RepVL.grow hg as rest h3⟩
end
theorem ObjRep.grow (hg : Grow w M β w' M' β') {o : AObj} {h : Value} (hb : ∀ g, hblk h = some g → w'.heap[g]? = w.heap[g]?) (hr : ObjRep w M β o h) : ObjRep w' M' β' o h := by
  cases o with
  | gone => exact hr
  | row e sz rows =>
    obtain ⟨A, c, h1, h2, h3, h4⟩ := hr
    refine ⟨A, c, h1, h2, h3, ?_⟩
    rcases h4 with h4 | ⟨hc0, g, cur, rfl, h5, h6, h7⟩
    · exact .inl h4
    · have hgg := hb g (by rw [h1]; exact hblk_row hc0)
      exact .inr ⟨hc0, g, cur, rfl, hgg.trans h5, h6, h7.keeps hg.keeps fun vs o => reads_block (by exact hgg)⟩
  | var e cs =>
    obtain ⟨g, cur, h1, h2, h3⟩ := hr
    exact ⟨g, cur, h1, (hb g (by rw [h1]; rfl)).trans h2, h3.grow hg⟩
  | map kd kvs =>
    obtain ⟨hp, g, es, clk, h1, h2, h3, h4⟩ := hr
    exact ⟨hp, g, es, clk, h1, (hb g (by rw [h1]; rfl)).trans h2, h3, fun i kv e a b => ⟨RepV.grow hg _ _ (h4 i kv e a b).1, RepV.grow hg _ _ (h4 i kv e a b).2⟩⟩
end

/-! ### an object's tag is given up: what told by it is told otherwise, or no more -/
def D.fz0 (t : Nat) (o : AObj) : D → D
  | .own t' => if t' = t then (match o with | .row _ _ rows => .list rows | _ => .unk) else .own t'
  | .vp t' off => if t' = t then (match o with | .var _ cs => if cs.all D.pure then .ref (cs.drop off) else .unk | _ => .unk) else .vp t' off
  | .rp t' i sz sub => if t' = t then .unk else .rp t' i sz sub
  | .mp t' => if t' = t then .unk else .mp t'
  | d => d
def D.fz (t : Nat) (o : AObj) : D → D
  | .clo f caps => .clo f (caps.map (D.fz0 t o))
  | d => d.fz0 t o
def AV.fz (t : Nat) (o : AObj) : AV → AV
  | .one d => .one (d.fz t o)
  | .agg ds => .agg (ds.map (D.fz t o))
  | .tup vs => .tup (vs.map fun | .one d => .one (d.fz t o) | .agg ds => .agg (ds.map (D.fz t o)) | _ => .any)
  | .cond g (.one d) => .cond g (.one (d.fz t o))
  | .cond g (.agg ds) => .cond g (.agg (ds.map (D.fz t o)))
  | _ => .any
def AObj.fz (t : Nat) (o : AObj) : AObj → AObj
  | .var e cs => .var e (cs.map (D.fz t o))
  | .map kd kvs => .map kd (kvs.map fun kv => (kv.1.fz t o, kv.2.fz t o))
  | x => x
def AState.fz (σ : AState) (t : Nat) (o : AObj) : AState := { σ with slots := σ.slots.map fun s => (s.1, s.2.fz t o), H := σ.H.map (AObj.fz t o) }
def AState.setObj (σ : AState) (t : Nat) (o : AObj) : AState := { σ with H := σ.H.set t o }
/-- the tag is given up, what it told of is immutable from now on -/
def AState.freeze (σ : AState) (t : Nat) : AState := (σ.fz t (σ.H.getD t .gone)).setObj t .gone

section
variable {w w' : World} {M M' : Nat → Prop} {β β' : List Value} {t : Nat} {o : AObj}
/-- what is asked of what the given-up tag told: 'o' as it reads in the new world, of immutable memory -/
def FzOk (w' : World) (M' : Nat → Prop) (o : AObj) (h : Value) : Prop :=
  (∀ e sz rows, o = .row e sz rows → RepD w' M' (.list rows) h) ∧
  (∀ e cs, o = .var e cs → cs.all D.pure = true → ∃ g, h = .pointer (some ⟨g, 0, none⟩) ∧ g < w'.heap.size ∧ ¬ M' g ∧ AtRow w' M' ⟨g, 0, none⟩ cs)
structure Turn (w : World) (M : Nat → Prop) (β : List Value) (t : Nat) (o : AObj) (w' : World) (M' : Nat → Prop) (β' : List Value) : Prop where
  keeps : Keeps w M w' M'
  tags : ∀ (t' : Nat) (h : Value), t' ≠ t → β[t']? = some h → β'[t']? = some h
  frozen : ∀ h, β[t]? = some h → FzOk w' M' o h
theorem RepC0.turn (hg : Turn w M β t o w' M' β') {d : D} {v : Value} (h : RepC0 w M β d v) : RepC0 w' M' β' (d.fz0 t o) v := by
  have hone := h.oneCell
  cases d
  case unk => exact h
  case own t' =>
    simp only [D.fz0]
    split
    · rename_i ht
      subst ht
      split
      · rename_i e sz rows
        rcases h.1 with h1 | h1
        · exact (((hg.frozen v h1).1 e sz rows rfl)).toC0
        · obtain ⟨A, c, h2, _⟩ := (hg.frozen _ h1).1 e sz rows rfl
          cases h2
      · exact hone
    · rename_i ht
      exact ⟨h.1.imp (hg.tags _ _ ht) (hg.tags _ _ ht), h.2⟩
  case vp t' off =>
    simp only [D.fz0]
    split
    · rename_i ht
      subst ht
      split
      · rename_i e cs
        split
        · rename_i hp
          rcases h with ⟨g, h1, rfl⟩ | ⟨h1, _⟩
          · obtain ⟨g', h2, h3, h4, h5⟩ := (hg.frozen _ h1).2 e cs rfl hp
            cases h2
            have := h5.shift off
            rw [add_lit] at this
            simp only [RepC0, RepD]
            rw [Nat.zero_add] at this
            exact ⟨⟨g, off, none⟩, rfl, h3, h4, this⟩
          · obtain ⟨g', h2, _⟩ := (hg.frozen _ h1).2 e cs rfl hp
            cases h2
        · exact hone
      · exact hone
    · rename_i ht
      rcases h with ⟨g, h1, h2⟩ | h
      · exact .inl ⟨g, hg.tags _ _ ht h1, h2⟩
      · exact .inr ⟨hg.tags _ _ ht h.1, h.2⟩
  case rp t' i sz sub =>
    simp only [D.fz0]
    split
    · exact hone
    · rename_i ht
      rcases h with ⟨g, n, c, h1, h2⟩ | h
      · exact .inl ⟨g, n, c, hg.tags _ _ ht h1, h2⟩
      · exact .inr ⟨hg.tags _ _ ht h.1, h.2⟩
  case mp t' =>
    simp only [D.fz0]
    split
    · exact hone
    · rename_i ht
      rcases h with ⟨g, h1, h2⟩ | h
      · exact .inl ⟨g, hg.tags _ _ ht h1, h2⟩
      · exact .inr ⟨hg.tags _ _ ht h.1, h.2⟩
  all_goals (simp only [D.fz0, RepC0] at h ⊢; exact RepD.keep hg.keeps _ _ h)
theorem RepC.turn (hg : Turn w M β t o w' M' β') {d : D} {v : Value} (h : RepC w M β d v) : RepC w' M' β' (d.fz t o) v := by
  cases d
  case clo f caps =>
    obtain ⟨vs, h1, h2, h3⟩ := h
    refine ⟨vs, h1, by simpa using h2, fun i d u a b => ?_⟩
    rw [List.getElem?_map] at a
    cases hc : caps[i]? with
    | none => rw [hc] at a; cases a
    | some c => rw [hc] at a; simp at a; subst a; exact (h3 i c u hc b).turn hg
  all_goals
    simp only [RepC] at h
    have := h.turn hg
    simp only [D.fz, D.fz0] at this ⊢
    first
      | exact this
      | (repeat' split) <;> simp_all [RepC]
theorem RepCL.turn (hg : Turn w M β t o w' M' β') {ds : List D} {vs : List Value} (h : RepCL w M β ds vs) : RepCL w' M' β' (ds.map (D.fz t o)) vs :=
  ⟨by simpa using h.1, fun i d u a b => by
    rw [List.getElem?_map] at a
    cases hc : ds[i]? with
    | none => rw [hc] at a; cases a
    | some c => rw [hc] at a; simp at a; subst a; exact (h.2 i c u hc b).turn hg⟩
theorem RepV.turn (hg : Turn w M β t o w' M' β') : ∀ (a : AV) (v : Value), RepV w M β a v → RepV w' M' β' (a.fz t o) v := by
  have h1 : ∀ (d : D) (v : Value), RepV w M β (.one d) v → RepV w' M' β' (.one (d.fz t o)) v := fun d v h => RepC.turn hg h
  have h2 : ∀ (ds : List D) (v : Value), RepV w M β (.agg ds) v → RepV w' M' β' (.agg (ds.map (D.fz t o))) v := fun ds v h => by
    obtain ⟨vs, e, hl⟩ := h
    exact ⟨vs, e, hl.turn hg⟩
  intro a v h
  cases a with
  | one d => exact h1 d v h
  | agg ds => exact h2 ds v h
  | tup avs =>
    obtain ⟨vs, e, hl⟩ := h
    have hg' := RepVL.get avs vs hl
    refine ⟨vs, e, RepVL.mk _ _ (by simpa using hg'.1) fun i b u hb hu => ?_⟩
    rw [List.getElem?_map] at hb
    cases hc : avs[i]? with
    | none => rw [hc] at hb; cases hb
    | some c =>
      rw [hc] at hb
      simp at hb
      subst hb
      have := hg'.2 i c u hc hu
      cases c <;> first | exact h1 _ _ this | exact h2 _ _ this | exact trivial
  | cond g x =>
    cases x with
    | one d => exact ⟨fun hh => h1 d v (h.1 hh), h.2⟩
    | agg ds => exact ⟨fun hh => h2 ds v (h.1 hh), h.2⟩
    | _ => exact trivial
  | any => exact trivial
theorem ObjRep.turn (hg : Turn w M β t o w' M' β') {x : AObj} {h : Value} (hb : ∀ g, hblk h = some g → w'.heap[g]? = w.heap[g]?) (hr : ObjRep w M β x h) : ObjRep w' M' β' (AObj.fz t o x) h := by
  cases x with
  | gone => exact hr
  | row e sz rows =>
    obtain ⟨A, c, h1, h2, h3, h4⟩ := hr
    refine ⟨A, c, h1, h2, h3, ?_⟩
    rcases h4 with h4 | ⟨hc0, g, cur, rfl, h5, h6, h7⟩
    · exact .inl h4
    · have hgg := hb g (by rw [h1]; exact hblk_row hc0)
      exact .inr ⟨hc0, g, cur, rfl, hgg.trans h5, h6, h7.keeps hg.keeps fun vs o => reads_block (by exact hgg)⟩
  | var e cs =>
    obtain ⟨g, cur, h1, h2, h3⟩ := hr
    exact ⟨g, cur, h1, (hb g (by rw [h1]; rfl)).trans h2, h3.turn hg⟩
  | map kd kvs =>
    obtain ⟨hp, g, es, clk, h1, h2, h3, h4⟩ := hr
    refine ⟨fun kv hkv => ?_, g, es, clk, h1, (hb g (by rw [h1]; rfl)).trans h2, by simpa using h3, fun i kv e a b => ?_⟩
    · obtain ⟨kv', hm, rfl⟩ := List.mem_map.1 hkv
      have := hp kv' hm
      obtain ⟨k, v⟩ := kv'
      cases kd <;> cases k <;> first | (cases this; done) | skip
      all_goals (rename_i d; cases d <;> first | (cases this; done) | exact this)
    rw [List.getElem?_map] at a
    cases hc : kvs[i]? with
    | none => rw [hc] at a; cases a
    | some c => rw [hc] at a; simp at a; subst a; exact ⟨RepV.turn hg _ _ (h4 i c e hc b).1, RepV.turn hg _ _ (h4 i c e hc b).2⟩
end
theorem lookS_map (f : AV → AV) : ∀ (l : List (Nat × AV)) (i : Nat), lookS (l.map fun s => (s.1, f s.2)) i = (lookS l i).map f
  | [], _ => rfl
  | (j, v) :: l, i => by
    simp only [List.map_cons, lookS]
    split
    · rfl
    · exact lookS_map f l i
theorem lookS_mem : ∀ {l : List (Nat × AV)} {i : Nat} {v : AV}, lookS l i = some v → (i, v) ∈ l
  | (j, u) :: l, i, v, h => by
    simp only [lookS] at h
    split at h
    · rename_i hj; cases h; rw [hj]; exact List.mem_cons_self
    · exact List.mem_cons_of_mem _ (lookS_mem h)

section
variable {W0 w w' : World} {M0 : Nat → Prop} {F : List Value} {σ : AState} {a : Act} {β : List Value}
theorem Mof_lt (h : Sim W0 M0 F σ a w β) : ∀ g, Mof M0 β g → g < w.heap.size := by
  intro g hg
  rcases hg with hg | hg
  · exact Nat.lt_of_lt_of_le (h.m0.1 g hg) h.below.size
  · exact (h.fresh g hg).2
theorem owned_none {g : Nat} : ¬ owned [] g := fun ⟨t, x, h, _⟩ => by simp at h
theorem Sim.mok_of (h : Sim W0 M0 F σ a w β) {M1 : Nat → Prop} {F1 : List Value} (hM : ∀ g, M1 g → Mof M0 β g) (hF : ∀ g, owned F1 g → owned β g) : MOk w M1 F1 := by
  have hn : ∀ x ∈ globs, ¬ owned β x.1 := fun x hx ho => by
    obtain ⟨h1, h2, h3⟩ := h.m0.2 x hx
    rcases (h.fresh x.1 ho).1 with h4 | h4
    · exact h2.2 h4
    · omega
  refine ⟨fun g hg => Mof_lt h g (hM g hg), fun x hx => ?_⟩
  obtain ⟨h1, h2, e, fz, h3⟩ := h.m0.2 x hx
  refine ⟨Nat.lt_of_lt_of_le h1 h.below.size, ⟨fun hm => ?_, fun hf => hn x hx (hF _ hf)⟩, e, fz, by rw [h.below.block _ h1 h2.2]; exact h3⟩
  rcases hM _ hm with hm | hm
  · exact h2.1 hm
  · exact hn x hx hm
theorem Sim.mok (h : Sim W0 M0 F σ a w β) : MOk w M0 β := h.mok_of (fun _ h => .inl h) fun _ h => h
theorem Sim.mok0 (h : Sim W0 M0 F σ a w β) : MOk w M0 [] := h.mok_of (fun _ h => .inl h) fun _ h => (owned_none h).elim
theorem owned_set {t : Nat} {hd' : Value} {g : Nat} (h : owned (β.set t hd') g) : hblk hd' = some g ∨ ∃ (t' : Nat) (x : Value), t' ≠ t ∧ β[t']? = some x ∧ hblk x = some g := by
  obtain ⟨t', x, h1, h2⟩ := h
  rw [List.getElem?_set] at h1
  split at h1
  · split at h1
    · cases h1; exact .inl h2
    · cases h1
  · rename_i hne
    exact .inr ⟨t', x, fun e => hne e.symm, h1, h2⟩
/-- THE OBJECT 't' IS TURNED: its handle too, perhaps; nothing else of what there was -/
theorem Sim.turn (h : Sim W0 M0 F σ a w β) {t : Nat} {hd hd' : Value} {o o' : AObj} (hpin : σ.pin ≤ t ∨ hd' = hd) (hβ : β[t]? = some hd) (hg : w.grownBy w' (hblk hd))
    (hnew : ∀ g, hblk hd' = some g → hblk hd = some g ∨ (w.heap.size ≤ g ∧ g < w'.heap.size)) (hf : FzOk w' (Mof M0 (β.set t hd')) o hd)
    (ho : ObjRep w' (Mof M0 (β.set t hd')) (β.set t hd') o' hd') : Sim W0 M0 F ((σ.fz t o).setObj t o') a w' (β.set t hd') := by
  have htl : t < β.length := (List.getElem?_eq_some_iff.1 hβ).1
  have hkeep : Keeps w (Mof M0 β) w' (Mof M0 (β.set t hd')) := by
    refine ⟨hg.size, fun g hlt hm => hg.block g hlt fun e => hm (.inr ⟨t, hd, hβ, e.symm⟩), fun g hlt hm hm' => ?_⟩
    rcases hm' with hm' | hm'
    · exact hm (.inl hm')
    · rcases owned_set hm' with hb | ⟨t', x, _, h1, h2⟩
      · rcases hnew g hb with hb | hb
        · exact hm (.inr ⟨t, hd, hβ, hb⟩)
        · omega
      · exact hm (.inr ⟨t', x, h1, h2⟩)
  have htags : ∀ (t' : Nat) (x : Value), t' ≠ t → β[t']? = some x → (β.set t hd')[t']? = some x := fun t' x hne hx => by
    rw [List.getElem?_set, if_neg (fun e => hne e.symm)]; exact hx
  have hT : Turn w (Mof M0 β) β t o w' (Mof M0 (β.set t hd')) (β.set t hd') := ⟨hkeep, htags, fun x hx => by rw [hβ] at hx; cases hx; exact hf⟩
  refine ⟨?_, h.m0, ?_, ?_, ?_, ?_, ?_, h.size, h.defers, h.out, h.pins.1, fun i hi => ?_⟩
  · refine h.below.trans (Y := fun k => hblk hd = some k) ⟨hg.os, hg.tape, hg.output, hg.size, fun k hk hy => hg.block k hk fun e => hy e.symm⟩ fun k hk hy => ?_
    rcases (h.fresh k ⟨t, hd, hβ, hy⟩).1 with hk' | hk'
    · exact hk'
    · omega
  · simp [AState.setObj, AState.fz, h.len]
  · intro t' x hd2 hx hb
    simp only [AState.setObj, AState.fz] at hx
    rw [List.getElem?_set] at hx hb
    by_cases htt : t = t'
    · subst htt
      rw [if_pos rfl] at hx hb
      split at hx
      · cases hx
        rw [if_pos htl] at hb
        cases hb
        exact ho
      · cases hx
    · rw [if_neg htt] at hx hb
      rw [List.getElem?_map] at hx
      cases hH : σ.H[t']? with
      | none => rw [hH] at hx; cases hx
      | some y =>
        rw [hH] at hx
        simp at hx
        subst hx
        refine ObjRep.turn hT (fun g hgb => hg.block g (h.fresh g ⟨t', hd2, hb, hgb⟩).2 fun e => htt (h.dist t t' hd hd2 g hβ hb e.symm hgb)) (h.objs t' y hd2 hH hb)
  · intro g hgo
    rcases owned_set hgo with hb | ⟨t', x, _, h1, h2⟩
    · rcases hnew g hb with hb | hb
      · have := h.fresh g ⟨t, hd, hβ, hb⟩
        exact ⟨this.1, Nat.lt_of_lt_of_le this.2 hg.size⟩
      · exact ⟨.inr (Nat.le_trans h.below.size hb.1), hb.2⟩
    · have := h.fresh g ⟨t', x, h1, h2⟩
      exact ⟨this.1, Nat.lt_of_lt_of_le this.2 hg.size⟩
  · intro t1 t2 x1 x2 g h1 h2 h3 h4
    rw [List.getElem?_set] at h1 h2
    by_cases e1 : t = t1 <;> by_cases e2 : t = t2
    · rw [← e1, ← e2]
    · rw [if_pos e1, if_pos htl] at h1
      rw [if_neg e2] at h2
      cases h1
      rcases hnew g h3 with hb | hb
      · exact absurd (h.dist t t2 hd x2 g hβ h2 hb h4) e2
      · have := (h.fresh g ⟨t2, x2, h2, h4⟩).2; omega
    · rw [if_neg e1] at h1
      rw [if_pos e2, if_pos htl] at h2
      cases h2
      rcases hnew g h4 with hb | hb
      · exact absurd (h.dist t t1 hd x1 g hβ h1 hb h3) e1
      · have := (h.fresh g ⟨t1, x1, h1, h3⟩).2; omega
    · rw [if_neg e1] at h1
      rw [if_neg e2] at h2
      exact h.dist t1 t2 x1 x2 g h1 h2 h3 h4
  · intro i v hv
    simp only [AState.setObj, AState.fz] at hv
    rw [lookS_map] at hv
    cases hl : lookS σ.slots i with
    | none => rw [hl] at hv; cases hv
    | some u =>
      rw [hl] at hv
      simp at hv
      subst hv
      obtain ⟨x, h1, h2⟩ := h.slots i u hl
      exact ⟨x, h1, RepV.turn hT u x h2⟩
  · rw [List.getElem?_set]
    split
    · rename_i hti
      subst hti
      rcases hpin with hpin | rfl
      · exact absurd hi (Nat.not_lt.2 hpin)
      · first | rw [if_pos htl, ← h.pins.2 t hi, hβ] | rw [← h.pins.2 t hi, hβ]
    · exact h.pins.2 i hi
/-- the object's content is turned, its handle stays: the tags stay good -/
theorem Sim.write (h : Sim W0 M0 F σ a w β) {t : Nat} {hd : Value} {o' : AObj} (hβ : β[t]? = some hd) (hg : w.grownBy w' (hblk hd)) (ho : ObjRep w' (Mof M0 β) β o' hd) : Sim W0 M0 F (σ.setObj t o') a w' β := by
  have hkeep : Keeps w (Mof M0 β) w' (Mof M0 β) := ⟨hg.size, fun g hlt hm => hg.block g hlt fun e => hm (.inr ⟨t, hd, hβ, e.symm⟩), fun g _ hm => hm⟩
  have hG : Grow w (Mof M0 β) β w' (Mof M0 β) β := ⟨hkeep, fun _ _ x => x⟩
  refine ⟨?_, h.m0, by simp [AState.setObj, h.len], ?_, ?_, h.dist, fun i v hv => ?_, h.size, h.defers, h.out, h.pins⟩
  · refine h.below.trans (Y := fun k => hblk hd = some k) ⟨hg.os, hg.tape, hg.output, hg.size, fun k hk hy => hg.block k hk fun e => hy e.symm⟩ fun k hk hy => ?_
    rcases (h.fresh k ⟨t, hd, hβ, hy⟩).1 with hk' | hk'
    · exact hk'
    · omega
  · intro t' x hd2 hx hb
    simp only [AState.setObj] at hx
    rw [List.getElem?_set] at hx
    by_cases htt : t = t'
    · subst htt
      rw [if_pos rfl] at hx
      split at hx
      · cases hx
        rw [hβ] at hb
        cases hb
        exact ho
      · cases hx
    · rw [if_neg htt] at hx
      exact ObjRep.grow hG (fun g hgb => hg.block g (h.fresh g ⟨t', hd2, hb, hgb⟩).2 fun e => htt (h.dist t t' hd hd2 g hβ hb e.symm hgb)) (h.objs t' x hd2 hx hb)
  · exact fun g hgo => ⟨(h.fresh g hgo).1, Nat.lt_of_lt_of_le (h.fresh g hgo).2 hg.size⟩
  · obtain ⟨x, h1, h2⟩ := h.slots i v hv
    exact ⟨x, h1, RepV.grow hG v x h2⟩
/-- new objects come in -/
theorem Sim.push (h : Sim W0 M0 F σ a w β) {Hn : List AObj} {βn : List Value} (hb : Below w.heap.size w w') (hlen : βn.length = Hn.length)
    (hfresh : ∀ g, owned βn g → w.heap.size ≤ g ∧ g < w'.heap.size) (hdist : ∀ (t t' : Nat) (x x' : Value) (g : Nat), βn[t]? = some x → βn[t']? = some x' → hblk x = some g → hblk x' = some g → t = t')
    (ho : ∀ (t : Nat) (o : AObj) (x : Value), Hn[t]? = some o → βn[t]? = some x → ObjRep w' (Mof M0 (β ++ βn)) (β ++ βn) o x) : Sim W0 M0 F { σ with H := σ.H ++ Hn } a w' (β ++ βn) := by
  have own_app : ∀ g, owned (β ++ βn) g → owned β g ∨ owned βn g := by
    rintro g ⟨t, x, h1, h2⟩
    rw [List.getElem?_append] at h1
    split at h1
    · exact .inl ⟨t, x, h1, h2⟩
    · exact .inr ⟨_, x, h1, h2⟩
  have hkeep : Keeps w (Mof M0 β) w' (Mof M0 (β ++ βn)) := by
    refine ⟨hb.size, fun g hlt _ => hb.block g hlt, fun g hlt hm hm' => ?_⟩
    rcases hm' with hm' | hm'
    · exact hm (.inl hm')
    · rcases own_app g hm' with hm' | hm'
      · exact hm (.inr hm')
      · have := (hfresh g hm').1; omega
  have hG : Grow w (Mof M0 β) β w' (Mof M0 (β ++ βn)) (β ++ βn) := ⟨hkeep, fun t x hx => by
    rw [List.getElem?_append, if_pos (List.getElem?_eq_some_iff.1 hx).1]; exact hx⟩
  refine ⟨h.below.ext hb, h.m0, by simp [h.len, hlen], ?_, ?_, ?_, fun i v hv => ?_, h.size, h.defers, h.out, h.pins.1, fun i hi => ?_⟩
  · intro t o x hx hbx
    rw [List.getElem?_append] at hx hbx
    rw [← h.len] at hx
    split at hbx
    · rename_i hlt
      rw [if_pos hlt] at hx
      exact ObjRep.grow hG (fun g hgb => hb.block g (h.fresh g ⟨t, x, hbx, hgb⟩).2) (h.objs t o x hx hbx)
    · rename_i hlt
      rw [if_neg hlt] at hx
      exact ho _ o x hx hbx
  · intro g hg
    rcases own_app g hg with hg | hg
    · exact ⟨(h.fresh g hg).1, Nat.lt_of_lt_of_le (h.fresh g hg).2 hb.size⟩
    · exact ⟨.inr (Nat.le_trans h.below.size (hfresh g hg).1), (hfresh g hg).2⟩
  · intro t t' x x' g h1 h2 h3 h4
    rw [List.getElem?_append] at h1 h2
    split at h1 <;> split at h2
    · exact h.dist t t' x x' g h1 h2 h3 h4
    · have a1 := (h.fresh g ⟨t, x, h1, h3⟩).2
      have a2 := (hfresh g ⟨_, x', h2, h4⟩).1
      omega
    · have a1 := (hfresh g ⟨_, x, h1, h3⟩).1
      have a2 := (h.fresh g ⟨t', x', h2, h4⟩).2
      omega
    · have := hdist _ _ x x' g h1 h2 h3 h4
      omega
  · obtain ⟨x, h1, h2⟩ := h.slots i v hv
    exact ⟨x, h1, RepV.grow hG v x h2⟩
  · have := h.pins.2 i hi
    rw [List.getElem?_append]
    split
    · exact this
    · rename_i hlt
      have h1 := h.pins.1
      have hi' : i < σ.pin := hi
      have h2 : i < F.length := by omega
      rw [List.getElem?_eq_none (Nat.le_of_not_lt hlt), List.getElem?_eq_getElem h2] at this
      cases this
theorem grownBy_refl (w : World) (row : Option Nat) : w.grownBy w row := ⟨rfl, rfl, rfl, Nat.le_refl _, fun _ _ _ => rfl⟩
/-- freezing -/
theorem Sim.freeze (h : Sim W0 M0 F σ a w β) (t : Nat) (hpin : σ.pin ≤ t) (ht : t < σ.H.length) : Sim W0 M0 F (σ.freeze t) a w (β.set t undef) := by
  obtain ⟨hd, hβ⟩ : ∃ hd, β[t]? = some hd := ⟨β[t]'(by rw [h.len]; exact ht), List.getElem?_eq_getElem _⟩
  have hH : σ.H[t]? = some (σ.H.getD t .gone) := getD_some ht _
  have hM : ∀ g, Mof M0 (β.set t undef) g → Mof M0 β g ∧ hblk hd ≠ some g := by
    intro g hg
    rcases hg with hg | hg
    · exact ⟨.inl hg, fun e => by
        rcases (h.fresh g ⟨t, hd, hβ, e⟩).1 with h1 | h1
        · exact (h.out g h1).1 hg
        · have := h.m0.1 g hg; omega⟩
    · rcases owned_set hg with hb | ⟨t', x, hne, h1, h2⟩
      · cases hb
      · exact ⟨.inr ⟨t', x, h1, h2⟩, fun e => hne (h.dist t' t x hd g h1 hβ h2 e)⟩
  have hk : Keeps w (Mof M0 β) w (Mof M0 (β.set t undef)) := ⟨Nat.le_refl _, fun _ _ _ => rfl, fun g _ hm hm' => hm (hM g hm').1⟩
  have hob := h.objs t _ hd hH hβ
  refine Sim.turn h (.inl hpin) hβ (grownBy_refl w _) (fun g hg => by cases hg) ?_ trivial
  refine ⟨fun e sz rows he => ?_, fun e cs he hp => ?_⟩
  · rw [he] at hob
    obtain ⟨A, c, rfl, h2, h3, h4⟩ := hob
    refine ⟨A, c, rfl, h2, h3, ?_⟩
    rcases h4 with rfl | ⟨hc0, g, cur, rfl, h5, h6, h7⟩
    · left; exact List.eq_nil_of_length_eq_zero (by omega)
    · exact .inr ⟨⟨g, 0, none⟩, sz, rfl, (h.fresh g ⟨t, _, hβ, hblk_row hc0⟩).2, fun hm => (hM g hm).2 (hblk_row hc0), h7.keeps hk fun _ _ x => x⟩
  · rw [he] at hob
    obtain ⟨g, cur, rfl, h2, h3⟩ := hob
    exact ⟨g, rfl, (h.fresh g ⟨t, _, hβ, rfl⟩).2, fun hm => (hM g hm).2 rfl, cur.toList, reads_cells h2, RepL.keep hk _ _ (RepCL.toL h3 hp)⟩
end
end Go.Eng
