/-
 The abstract machine over data, part 9: glue for what it cannot tell: segments of a walk, a state told anew, tags given up under the name of their handle, handles taken in.
-/
import Derived.Test.YtkjllcmpjghmkaaGreatDoorE3
set_option linter.unusedSimpArgs false
set_option linter.unusedVariables false
namespace Go.Eng
open Go.RowKit
section
variable {P : Program} {T : Tab} {W0 w w' : World} {M M' M0 M1 : Nat → Prop} {F β β' : List Value} {σ σ' : AState} {a a' : Act}
def ends (s1 : AState) (ex : Option (Nat × AState)) : APost := fun e σ => match e with
 | .normal => SubF σ s1
 | .exit k => match ex with
  | some (k', s2) => k = k' ∧ SubF σ s2
  | none => False
 | _ => False
theorem seg (hT : TabOk P T) (hm : P.follows .mixedOrders = true) {c : Code} {s1 : AState} {Q : Exit → Act → World → Prop} (h : SimS W0 M0 F σ a w) (hc : awp P T c σ (ends s1 none)) (hQ : ∀ a' w', SimS W0 M0 F s1 a' w' → Q .normal a' w') : c.wp P Q a w := by
 refine wp_mono (z0A hT hm c σ _ a w h hc) ?_
 rintro e a' w' ⟨σ', h1, β, h2⟩
 cases e <;> first | exact hQ _ _ (h2.subF h1) | exact h1.elim
theorem Sim.renew (h : Sim W0 M0 F σ a w β) (hb : Below w.heap.size w w') (hn : a'.tmps.size = σ'.n) (hdf : a'.defers = []) (hpin : σ'.pin ≤ β'.length) (hM : ∀ g, g < w.heap.size → Mof M1 β' g → Mof M0 β g) (hlt : ∀ g, Mof M1 β' g → g < w'.heap.size) (hlen : β'.length = σ'.H.length)
  (hobjs : ∀ (t : Nat) (o : AObj) (x : Value), σ'.H[t]? = some o → β'[t]? = some x → ObjRep w' (Mof M1 β') β' o x)
  (hdist : ∀ (t t' : Nat) (x x' : Value) (g : Nat), β'[t]? = some x → β'[t']? = some x' → hblk x = some g → hblk x' = some g → t = t')
  (hslots : ∀ (i : Nat) (v : AV), lookS σ'.slots i = some v → ∃ x : Value, a'.tmps[i]? = some x ∧ RepV w' (Mof M1 β') β' v x) (hout : ∀ g, owned β' g → ¬ M1 g) : Sim w' M1 β' σ' a' w' β' := by
 refine ⟨BelowX.refl _ _, ⟨fun g hg => hlt g (.inl hg), fun x hx => ?_⟩, hlen, hobjs, fun g hg => ⟨.inl hg, hlt g (.inr hg)⟩, hdist, hslots, hn, hdf, fun g hg => ⟨hout g hg, hlt g (.inr hg)⟩, hpin, fun t _ => rfl⟩
 obtain ⟨h1, ⟨h2, h3⟩, e, fz, h4⟩ := h.m0.2 x hx
 have hs := h.below.size
 have hlt2 : x.1 < w.heap.size := Nat.lt_of_lt_of_le h1 hs
 have hno : ¬ Mof M0 β x.1 := by
  rintro (hm | hm)
  ·exact h2 hm
  ·rcases (h.fresh _ hm).1 with hf | hf
   ·exact h3 hf
   ·omega
 refine ⟨Nat.lt_of_lt_of_le hlt2 hb.size, ⟨fun hm => hno (hM _ hlt2 (.inl hm)), fun hm => hno (hM _ hlt2 (.inr hm))⟩, e, fz, ?_⟩
 rw [hb.block _ hlt2, h.below.block _ h1 h3]
 exact h4
theorem Sim.pinned (h : Sim W0 M0 F σ a w β) (k : Nat) (hk : k ≤ β.length) : Sim w M0 β ⟨σ.n, σ.slots, σ.H, k⟩ a w β :=
 h.renew (σ' := ⟨σ.n, σ.slots, σ.H, k⟩) (Below.refl _ _) h.size h.defers hk (fun _ _ hg => hg) (fun g hg => by
  rcases hg with hg | hg
  ·exact Nat.lt_of_lt_of_le (h.m0.1 g hg) h.below.size
  ·exact (h.fresh g hg).2) h.len h.objs h.dist h.slots fun g hg hm => by
  rcases (h.fresh g hg).1 with hf | hf
  ·exact (h.out g hf).1 hm
  ·have := h.m0.1 g hm; omega
theorem Sim.again (h : Sim W0 M0 F σ a w β) (hpin : σ.pin = 0) : Sim w M0 β σ a w β := by
 have := h.pinned σ.pin (by rw [hpin]; exact Nat.zero_le _)
 exact this
theorem Sim.slot (h : Sim W0 M0 F σ a w β) (sl : List (Nat × AV)) (hs : ∀ (i : Nat) (v : AV), lookS sl i = some v → ∃ x : Value, a.tmps[i]? = some x ∧ RepV w (Mof M0 β) β v x) : Sim W0 M0 F ⟨σ.n, sl, σ.H, σ.pin⟩ a w β :=
 ⟨h.below, h.m0, h.len, h.objs, h.fresh, h.dist, hs, h.size, h.defers, h.out, h.pins⟩
def D.rt0 (t : Nat) (h : Value) : D → D
 | .own t' => if t' = t then .raw h else .own t'
 | d => d
def D.rt (t : Nat) (h : Value) : D → D
 | .clo f caps => .clo f (caps.map (D.rt0 t h))
 | d => d.rt0 t h
def AV.rt (t : Nat) (h : Value) : AV → AV
 | .one d => .one (d.rt t h)
 | .agg ds => .agg (ds.map (D.rt t h))
 | _ => .any
def AObj.rt (t : Nat) (h : Value) : AObj → AObj
 | .var e cs => .var e (cs.map (D.rt t h))
 | .row e sz rows => .row e sz rows
 | _ => .gone
def AState.rt (σ : AState) (t : Nat) (h : Value) : AState := ⟨σ.n, σ.slots.map fun s => (s.1, s.2.rt t h), (σ.H.map (AObj.rt t h)).set t .gone, σ.pin⟩
structure Rt (w : World) (M : Nat → Prop) (β : List Value) (t : Nat) (h : Value) (w' : World) (M' : Nat → Prop) (β' : List Value) : Prop where
 keeps : Keeps w M w' M'
 tags : ∀ (t' : Nat) (x : Value), t' ≠ t → β[t']? = some x → β'[t']? = some x
 tag : β[t]? = some h
 one : h.oneCell' = true
 live : h ≠ dead
 now : β'[t]? = some dead
theorem RepC0.rt {t : Nat} {h : Value} (hr : Rt w M β t h w' M' β') {d : D} {v : Value} (hv : RepC0 w M β d v) : RepC0 w' M' β' (d.rt0 t h) v := by
 have hone := hv.oneCell
 cases d
 case unk => exact hv
 case own t' =>
  simp only [D.rt0]
  split
  ·rename_i e
   subst e
   rcases hv.1 with h1 | h1
   ·rw [hr.tag] at h1
    cases h1
    exact ⟨rfl, hv.2⟩
   ·rw [hr.tag] at h1
    exact absurd (Option.some.inj h1) hr.live
  ·rename_i hne
   exact ⟨hv.1.imp (hr.tags _ _ hne) (hr.tags _ _ hne), hv.2⟩
 case vp t' off =>
  by_cases e : t' = t
  ·subst e; exact .inr ⟨hr.now, hone⟩
  ·rcases hv with ⟨g, h1, h2⟩ | hv
   ·exact .inl ⟨g, hr.tags _ _ e h1, h2⟩
   ·exact .inr ⟨hr.tags _ _ e hv.1, hv.2⟩
 case rp t' i sz sub =>
  by_cases e : t' = t
  ·subst e; exact .inr ⟨hr.now, hone⟩
  ·rcases hv with ⟨g, n, c, h1, h2⟩ | hv
   ·exact .inl ⟨g, n, c, hr.tags _ _ e h1, h2⟩
   ·exact .inr ⟨hr.tags _ _ e hv.1, hv.2⟩
 case mp t' =>
  by_cases e : t' = t
  ·subst e; exact .inr ⟨hr.now, hone⟩
  ·rcases hv with ⟨g, h1, h2⟩ | hv
   ·exact .inl ⟨g, hr.tags _ _ e h1, h2⟩
   ·exact .inr ⟨hr.tags _ _ e hv.1, hv.2⟩
 all_goals (simp only [RepC0, D.rt0] at hv ⊢; exact RepD.keep hr.keeps _ _ hv)
theorem RepC.rt {t : Nat} {h : Value} (hr : Rt w M β t h w' M' β') {d : D} {v : Value} (hv : RepC w M β d v) : RepC w' M' β' (d.rt t h) v := by
 cases d
 case clo f caps =>
  obtain ⟨vs, rfl, h1, h2⟩ := hv
  refine ⟨vs, rfl, by rw [List.length_map]; exact h1, fun i d u hd hu => ?_⟩
  rw [List.getElem?_map] at hd
  cases hc : caps[i]? with
  | none => rw [hc] at hd; cases hd
  | some d' => rw [hc] at hd; cases hd; exact (h2 i d' u hc hu).rt hr
 case own t' =>
  simp only [RepC] at hv
  have := RepC0.rt hr hv
  by_cases e : t' = t
  ·simp only [D.rt, D.rt0, if_pos e] at this ⊢; exact this
  ·simp only [D.rt, D.rt0, if_neg e] at this ⊢; exact this
 all_goals
  simp only [RepC] at hv
  have := RepC0.rt hr hv
  simp only [D.rt, D.rt0] at this ⊢
  exact this
theorem RepCL.rt {t : Nat} {h : Value} (hr : Rt w M β t h w' M' β') {ds : List D} {vs : List Value} (hv : RepCL w M β ds vs) : RepCL w' M' β' (ds.map (D.rt t h)) vs := by
 refine ⟨by rw [List.length_map]; exact hv.1, fun i d u hd hu => ?_⟩
 rw [List.getElem?_map] at hd
 cases hc : ds[i]? with
 | none => rw [hc] at hd; cases hd
 | some d' => rw [hc] at hd; cases hd; exact (hv.2 i d' u hc hu).rt hr
theorem RepV.rt {t : Nat} {h : Value} (hr : Rt w M β t h w' M' β') {v : AV} {x : Value} (hv : RepV w M β v x) : RepV w' M' β' (v.rt t h) x := by
 cases v with
 | one d => exact RepC.rt hr hv
 | agg ds => obtain ⟨vs, rfl, h1⟩ := hv; exact ⟨vs, rfl, h1.rt hr⟩
 | _ => trivial
theorem ObjRep.rt {t : Nat} {h : Value} (hr : Rt w M β t h w' M' β') (hw : ∀ g, g < w.heap.size → w'.heap[g]? = w.heap[g]?) (hk2 : ∀ g, Mof M0 β' g → True) {o : AObj} {x : Value} (hlt : ∀ g, hblk x = some g → g < w.heap.size) (hv : ObjRep w M β o x) : ObjRep w' M' β' (o.rt t h) x := by
 cases o with
 | row e sz rows =>
  obtain ⟨A, c, rfl, h2, h3, h4⟩ := hv
  refine ⟨A, c, rfl, h2, h3, h4.imp id ?_⟩
  rintro ⟨hc, g, cur, rfl, q1, q2, q3⟩
  refine ⟨hc, g, cur, rfl, by rw [hw g (hlt g (hblk_row hc))]; exact q1, q2, ?_⟩
  have hg : g < w.heap.size := hlt g (hblk_row hc)
  have hcell : ∀ j, w'.cell? ((⟨g, 0, none⟩ : Addr).add j) = w.cell? ((⟨g, 0, none⟩ : Addr).add j) := fun j => World.cell?_of_block (by rw [block_add]; exact hw g hg)
  have : ∀ (o : Nat) (rows : List (List D)), RepRows w M ⟨g, 0, none⟩ sz o rows → RepRows w' M' ⟨g, 0, none⟩ sz o rows := by
   intro o rows
   induction rows generalizing o with
   | nil => intro _; trivial
   | cons r rs ih =>
    rintro ⟨⟨vs, z1, z2, z3⟩, z4⟩
    exact ⟨⟨vs, z1, fun j u hu => by rw [hcell]; exact z2 j u hu, RepL.keep hr.keeps _ _ z3⟩, ih _ z4⟩
  exact this _ _ q3
 | var e cs =>
  obtain ⟨g, cur, rfl, h2, h3⟩ := hv
  exact ⟨g, cur, rfl, by rw [hw g (hlt g rfl)]; exact h2, h3.rt hr⟩
 | _ => trivial
theorem Sim.retire (h : Sim W0 M0 F σ a w β) (hpin : σ.pin = 0) {t : Nat} {e : TypeId} {sz : Nat} {rows : List (List D)} (ho : σ.H[t]? = some (.row e sz rows)) :
  ∃ x, β[t]? = some x ∧ ObjRep w (Mof M0 β) β (.row e sz rows) x ∧ Sim w (fun g => M0 g ∨ hblk x = some g) (β.set t dead) (σ.rt t x) a w (β.set t dead) := by
 have htl : t < β.length := by rw [h.len]; exact (List.getElem?_eq_some_iff.1 ho).1
 obtain ⟨x, hx⟩ : ∃ x, β[t]? = some x := ⟨_, List.getElem?_eq_getElem htl⟩
 have hobj := h.objs t _ x ho hx
 have hne : x ≠ dead := by
  obtain ⟨A, c, rfl, _⟩ := hobj
  intro e; cases e
 have hone : x.oneCell' = true := by
  obtain ⟨A, c, rfl, _⟩ := hobj
  rfl
 have hset : ∀ {t' : Nat} {y : Value}, (β.set t dead)[t']? = some y → (t' = t ∧ y = dead) ∨ (t' ≠ t ∧ β[t']? = some y) := fun {t' y} hy => by
  rw [List.getElem?_set] at hy
  by_cases e : t = t'
  ·subst e
   rw [if_pos rfl, if_pos htl] at hy
   exact .inl ⟨rfl, (Option.some.inj hy).symm⟩
  ·rw [if_neg e] at hy
   exact .inr ⟨fun e2 => e e2.symm, hy⟩
 have hown : ∀ g, owned (β.set t dead) g → owned β g ∧ hblk x ≠ some g := by
  rintro g ⟨t', y, h1, h2⟩
  rcases hset h1 with ⟨_, rfl⟩ | ⟨h3, h4⟩
  ·cases h2
  ·exact ⟨⟨t', y, h4, h2⟩, fun hg => h3 (h.dist _ _ _ _ g h4 hx h2 hg)⟩
 have hMM : ∀ g, Mof (fun g => M0 g ∨ hblk x = some g) (β.set t dead) g → Mof M0 β g := by
  rintro g ((hm | hm) | hm)
  ·exact .inl hm
  ·exact .inr ⟨t, x, hx, hm⟩
  ·exact .inr (hown g hm).1
 have hlt : ∀ g, Mof M0 β g → g < w.heap.size := fun g hg => by
  rcases hg with hg | hg
  ·exact Nat.lt_of_lt_of_le (h.m0.1 g hg) h.below.size
  ·exact (h.fresh g hg).2
 have hrt : Rt w (Mof M0 β) β t x w (Mof (fun g => M0 g ∨ hblk x = some g) (β.set t dead)) (β.set t dead) :=
  ⟨⟨Nat.le_refl _, fun _ _ _ => rfl, fun g _ hm hm' => hm (hMM g hm')⟩, fun t' y hne hy => by rw [List.getElem?_set, if_neg (Ne.symm hne)]; exact hy, hx, hone, hne, by rw [List.getElem?_set, if_pos rfl, if_pos htl]⟩
 refine ⟨x, hx, hobj, h.renew (Below.refl _ _) h.size h.defers (by show σ.pin ≤ _; rw [hpin]; exact Nat.zero_le _) (fun g _ => hMM g) (fun g hg => hlt g (hMM g hg)) ?_ ?_ ?_ ?_ ?_⟩
 ·simp only [AState.rt, List.length_set, List.length_map]; exact h.len
 ·intro t' o y ho' hy
  simp only [AState.rt] at ho'
  rcases hset hy with ⟨rfl, rfl⟩ | ⟨h3, h4⟩
  ·rw [List.getElem?_set, if_pos rfl, if_pos (by rw [List.length_map, ← h.len]; exact htl)] at ho'
   cases ho'; trivial
  ·rw [List.getElem?_set, if_neg (Ne.symm h3), List.getElem?_map] at ho'
   cases hH : σ.H[t']? with
   | none => rw [hH] at ho'; cases ho'
   | some o' =>
    rw [hH] at ho'
    cases ho'
    exact ObjRep.rt (M0 := M0) hrt (fun _ _ => rfl) (fun _ _ => trivial) (fun g hg => (h.fresh g ⟨t', y, h4, hg⟩).2) (h.objs t' o' y hH h4)
 ·intro t1 t2 y1 y2 g h1 h2 h3 h4
  rcases hset h1 with ⟨_, rfl⟩ | ⟨_, h5⟩
  ·cases h3
  rcases hset h2 with ⟨_, rfl⟩ | ⟨_, h6⟩
  ·cases h4
  exact h.dist _ _ _ _ g h5 h6 h3 h4
 ·intro i v hv
  simp only [AState.rt] at hv
  have : ∀ (l : List (Nat × AV)), lookS (l.map fun s => (s.1, s.2.rt t x)) i = (lookS l i).map (AV.rt t x) := by
   intro l
   induction l with
   | nil => rfl
   | cons s l ih =>
    simp only [List.map_cons, lookS]
    split
    ·rfl
    ·exact ih
  rw [this] at hv
  cases hl : lookS σ.slots i with
  | none => rw [hl] at hv; cases hv
  | some v' =>
   rw [hl] at hv
   cases hv
   obtain ⟨y, h1, h2⟩ := h.slots i v' hl
   exact ⟨y, h1, h2.rt hrt⟩
 ·rintro g hg (hm | hm)
  ·have h1 := (hown g hg).1
   rcases (h.fresh g h1).1 with hf | hf
   ·exact (h.out g hf).1 hm
   ·have := h.m0.1 g hm; omega
  ·exact (hown g hg).2 hm
def retR (T : Tab) (rs : List ResultVar) (r : AV) : APost := fun e σ => match e with
 | .ret => retL (resV T σ) rs r
 | _ => False
attribute [go_sem] retR
def endsR (s1 : AState) : APost := fun e σ => match e with
 | .ret => SubF σ s1
 | _ => False
theorem segR (hT : TabOk P T) (hm : P.follows .mixedOrders = true) {c : Code} {s1 : AState} {Q : Exit → Act → World → Prop} (h : SimS W0 M0 F σ a w) (hc : awp P T c σ (endsR s1)) (hQ : ∀ a' w', SimS W0 M0 F s1 a' w' → Q .ret a' w') : c.wp P Q a w := by
 refine wp_mono (z0A hT hm c σ _ a w h hc) ?_
 rintro e a' w' ⟨σ', h1, β, h2⟩
 cases e <;> first | exact hQ _ _ (h2.subF h1) | exact h1.elim
def endsX (k : Nat) (s2 : AState) : APost := fun e σ => match e with
 | .exit k' => k' = k ∧ SubF σ s2
 | _ => False
theorem segX (hT : TabOk P T) (hm : P.follows .mixedOrders = true) {c : Code} {s2 : AState} {k : Nat} {Q : Exit → Act → World → Prop} (h : SimS W0 M0 F σ a w) (hc : awp P T c σ (endsX k s2)) (hE : ∀ a' w', SimS W0 M0 F s2 a' w' → Q (.exit k) a' w') : c.wp P Q a w := by
 refine wp_mono (z0A hT hm c σ _ a w h hc) ?_
 rintro e a' w' ⟨σ', h1, β, h2⟩
 cases e with
 | exit k' => obtain ⟨rfl, h1⟩ := h1; exact hE _ _ (h2.subF h1)
 | _ => exact h1.elim
theorem Sim.disj (h : Sim W0 M0 F σ a w β) {g : Nat} (hg : owned β g) : ¬ M0 g := fun hm => by
 rcases (h.fresh g hg).1 with hf | hf
 ·exact (h.out g hf).1 hm
 ·have := h.m0.1 g hm; omega
theorem z2i {X : Nat → Prop} {w1 : World} (h : Below W0.heap.size W0 w) (k : BelowX X w w1) (hX : ∀ g, X g → W0.heap.size ≤ g) : Below W0.heap.size W0 w1 :=
 ⟨⟨k.os.trans h.os, k.tape.trans h.tape, k.output.trans h.output, Nat.le_trans h.size k.size, fun i hi => (k.block i (Nat.lt_of_lt_of_le hi h.size) fun hx => by have := hX i hx; omega).trans (h.block i hi)⟩, Nat.le_trans h.drawn k.drawn⟩
theorem z9O {t : Nat} {g : Nat} (h : owned (β.set t dead) g) : owned β g := by
 obtain ⟨t', y, h1, h2⟩ := h
 rw [List.getElem?_set] at h1
 split at h1
 ·split at h1
  ·cases h1; cases h2
  ·cases h1
 ·exact ⟨t', y, h1, h2⟩
theorem z1E {ns : List Value} {g : Nat} (h : owned (β ++ ns) g) : owned β g ∨ owned ns g := by
 obtain ⟨t, x, h1, h2⟩ := h
 rw [List.getElem?_append] at h1
 split at h1
 ·exact .inl ⟨t, x, h1, h2⟩
 ·exact .inr ⟨_, x, h1, h2⟩
theorem zcI {ns : List Value} (h1 : ∀ (t t' : Nat) (x x' : Value) (g : Nat), β[t]? = some x → β[t']? = some x' → hblk x = some g → hblk x' = some g → t = t') (h2 : ∀ (t t' : Nat) (x x' : Value) (g : Nat), ns[t]? = some x → ns[t']? = some x' → hblk x = some g → hblk x' = some g → t = t') (h3 : ∀ g, owned β g → ¬ owned ns g) :
  ∀ (t t' : Nat) (x x' : Value) (g : Nat), (β ++ ns)[t]? = some x → (β ++ ns)[t']? = some x' → hblk x = some g → hblk x' = some g → t = t' := by
 intro t t' x x' g q1 q2 q3 q4
 rw [List.getElem?_append] at q1 q2
 split at q1 <;> split at q2
 ·exact h1 t t' x x' g q1 q2 q3 q4
 ·exact absurd ⟨_, x', q2, q4⟩ (h3 g ⟨_, x, q1, q3⟩)
 ·exact absurd ⟨_, x, q1, q3⟩ (h3 g ⟨_, x', q2, q4⟩)
 ·have := h2 _ _ x x' g q1 q2 q3 q4
  omega
theorem zcl {ns : List Value} {Hn H : List AObj} {R : List Value → AObj → Value → Prop} (hl : β.length = H.length) (h1 : ∀ (t : Nat) (o : AObj) (x : Value), H[t]? = some o → β[t]? = some x → R (β ++ ns) o x) (h2 : ∀ (t : Nat) (o : AObj) (x : Value), Hn[t]? = some o → ns[t]? = some x → R (β ++ ns) o x) :
  ∀ (t : Nat) (o : AObj) (x : Value), (H ++ Hn)[t]? = some o → (β ++ ns)[t]? = some x → R (β ++ ns) o x := by
 intro t o x q1 q2
 rw [List.getElem?_append] at q1 q2
 rw [hl] at q2
 split at q1
 ·rename_i hlt
  rw [if_pos hlt] at q2
  exact h1 t o x q1 q2
 ·rename_i hlt
  rw [if_neg hlt] at q2
  exact h2 _ o x q1 q2
theorem Sim.adopt (h : Sim W0 M0 F σ a w β) {x : Value} {o : AObj} (hx : ∀ g, hblk x = some g → M0 g) (ho : ∀ M β, ObjRep w M β o x) :
  Sim w (fun g => M0 g ∧ hblk x ≠ some g) (β ++ [x]) ⟨σ.n, σ.slots, σ.H ++ [o], 0⟩ a w (β ++ [x]) := by
 have own1 : ∀ g, owned [x] g → hblk x = some g := by
  rintro g ⟨t, y, h1, h2⟩
  cases t with
  | zero => cases h1; exact h2
  | succ t => cases h1
 have hM : ∀ g, Mof (fun g => M0 g ∧ hblk x ≠ some g) (β ++ [x]) g → Mof M0 β g := by
  rintro g (hm | hm)
  ·exact .inl hm.1
  ·rcases z1E hm with hm | hm
   ·exact .inr hm
   ·exact .inl (hx g (own1 g hm))
 have hgr : Grow w (Mof M0 β) β w (Mof (fun g => M0 g ∧ hblk x ≠ some g) (β ++ [x])) (β ++ [x]) :=
  ⟨⟨Nat.le_refl _, fun _ _ _ => rfl, fun g _ hm hm' => hm (hM g hm')⟩, fun t y hy => by rw [List.getElem?_append_left (List.getElem?_eq_some_iff.1 hy).1]; exact hy⟩
 have hlt : ∀ g, Mof M0 β g → g < w.heap.size := fun g hg => by
  rcases hg with hg | hg
  ·exact Nat.lt_of_lt_of_le (h.m0.1 g hg) h.below.size
  ·exact (h.fresh g hg).2
 refine h.renew (σ' := ⟨σ.n, σ.slots, σ.H ++ [o], 0⟩) (Below.refl _ _) h.size h.defers (Nat.zero_le _) (fun g _ => hM g) (fun g hg => hlt g (hM g hg)) (by simp only [List.length_append, h.len, List.length_singleton]) ?_ (zcI h.dist (fun t t' y y' g h1 h2 _ _ => ?_) fun g h1 h2 => ?_) (fun i v hv => ?_) ?_
 ·refine zcl (R := fun β o y => ObjRep w (Mof (fun g => M0 g ∧ hblk x ≠ some g) β) β o y) h.len (fun t o y q1 q2 => (h.objs t o y q1 q2).grow hgr fun _ _ => rfl) fun t o' y q1 q2 => ?_
  cases t with
  | zero => cases q1; cases q2; exact ho _ _
  | succ t => cases q1
 ·cases t with
  | zero => cases t' with
   | zero => rfl
   | succ t' => cases h2
  | succ t => cases h1
 ·exact h.disj h1 (hx g (own1 g h2))
 ·obtain ⟨y, q1, q2⟩ := h.slots i v hv
  exact ⟨y, q1, q2.grow hgr _ _⟩
 ·rintro g hg ⟨hm, hne⟩
  rcases z1E hg with hg | hg
  ·exact h.disj hg hm
  ·exact hne (own1 g hg)
theorem zfT (h : Sim W0 M0 F σ a w β) {ops : Array Oper} {o : Oper} {rest : List Oper} {Q : Exit → Act → World → Prop} {fo : Operand} {args : Array Operand} {ats : Array TypeId} {d : Nat} {f : FuncId} {us : List AV} {R : Ending → World → Prop} (ho : o.op = .call { callee := .value fo, args := args, argTypes := ats }) (hg : o.guard = none) (hd : o.dst = some d)
  (hc : callee σ fo args.toList = some (f, us)) (hn : needs σ (fo :: args.toList)) (hok : okFn P f = true) (hcalls : ∀ vs, RepVL w (Mof M0 β) β us vs → Calls P f ⟨vs⟩ w R) (hR : ∀ e w', R e w' → ∃ v, e = .returned v) (hK : ∀ v w', R (.returned v) w' → wpList P ops Q rest (a.put (some d) v) w') : wpList P ops Q (o :: rest) a w := by
 refine wpList_step fun Kk hKk => ?_
 rw [if_pos (by simp [Region.wanted, hg])]
 obtain ⟨vs, h1, h2⟩ := z1I (P := P) h ho hc hn hok
 unfold Oper.wp
 rw [h1]
 simp only [Oper.upon]
 refine (hcalls vs h2).mono ?_
 intro e w' he
 obtain ⟨v, rfl⟩ := hR e w' he
 simp only [hd]
 exact hKk _ _ (hK v w' he)
theorem zgF (hT : TabOk P T) {ops : Array Oper} {o : Oper} {rest : List Oper} {K : AState → Prop} {Q : Exit → Act → World → Prop} (h : SimS W0 M0 F σ a w) (hop : aop P T ops o σ K) (hK : ∀ σ' a' w', K σ' → SimS W0 M0 F σ' a' w' → wpList P ops Q rest a' w') : wpList P ops Q (o :: rest) a w := by
 refine wpList_step fun Kk hKk => ?_
 exact z2y hT h hop fun σ' a' w' h1 h2 => hKk _ _ (hK σ' a' w' h1 h2)
theorem z81 (hT : TabOk P T) {ops : Array Oper} {s1 : AState} {Q : Exit → Act → World → Prop} {l2 : List Oper} (hK : ∀ a' w', SimS W0 M0 F s1 a' w' → wpList P ops Q l2 a' w') :
  ∀ (l1 : List Oper) (σ : AState) (a : Act) (w : World), SimS W0 M0 F σ a w → aops P T ops l1 σ (fun σ' => SubF σ' s1) → wpList P ops Q (l1 ++ l2) a w
 | [], σ, a, w, h, hop => by
  obtain ⟨β, h⟩ := h
  exact hK a w (h.subF hop)
 | o :: rest, σ, a, w, h, hop => zgF hT h hop fun σ' a' w' h1 h2 => z81 hT hK rest σ' a' w' h2 h1
theorem z9J (hT : TabOk P T) {id : Nat} {ops : Array Oper} {s1 : AState} {Q : Exit → Act → World → Prop} (k : Nat) (h : SimS W0 M0 F σ a w) (h1 : aops P T ops (ops.toList.take k) σ (fun σ' => SubF σ' s1)) (hK : ∀ a' w', SimS W0 M0 F s1 a' w' → wpList P ops Q (ops.toList.drop k) a' w') : (Code.region id ops false).wp P Q a w := by
 refine wp_region_list ?_
 rw [← List.take_append_drop k ops.toList]
 exact z81 hT hK _ _ _ _ h h1
theorem zgT (hT : TabOk P T) {ops : Array Oper} {s1 : AState} {Q : Exit → Act → World → Prop} {l : List Oper} (h : SimS W0 M0 F σ a w) (h1 : aops P T ops l σ (fun σ' => SubF σ' s1)) (hQ : ∀ a' w', SimS W0 M0 F s1 a' w' → Q .normal a' w') : wpList P ops Q l a w :=
 z58 hT l σ a w h h1 fun σ' a' w' h2 ⟨β, h3⟩ => hQ _ _ (h3.subF h2)
theorem zaA {f : FuncId} {fn : Func} {c : Code} {args : List AV} {vs : List Value} {R : Ending → World → Prop} (hf : P.funcs[f]? = some fn) (hb : fn.body = some c) {n : Nat} (hnt : fn.ntmps = n) (hn : args.length ≤ n) {rs : List ResultVar} (hrs : fn.results.toList = rs)
  (hM : MOk w M0 []) (hv : RepVL w M0 [] args vs) (h : ∀ (a : Act) (Q : Exit → Act → World → Prop), SimS w M0 [] ⟨n, z00 0 args, [], 0⟩ a w → (∀ a' w', a'.defers = [] → (∃ v, (results fn a'.tmps).run P w' = .ok v w' ∧ R (.returned v) w') → Q .ret a' w') → c.wp P Q a w) : Calls P f ⟨vs⟩ w R := by
 subst hnt
 exact calls_of_wp hf hb (h _ _ (z4u hM hv hn) fun a' w' h1 h2 => ⟨h1, h2⟩)
theorem z2e {e : TypeId} {sz : Nat} {rows : List (List D)} (hf : ∀ r ∈ rows, r.all D.flat = true) {x : Value} (hb : ∀ g, hblk x = some g → w'.heap[g]? = w.heap[g]?) (h : ObjRep w M β (.row e sz rows) x) : ObjRep w' M' β' (.row e sz rows) x := by
 obtain ⟨A, c, rfl, h2, h3, h4⟩ := h
 refine ⟨A, c, rfl, h2, h3, h4.imp id ?_⟩
 rintro ⟨hc, g, cur, rfl, q1, q2, q3⟩
 have hg := hb g (hblk_row hc)
 refine ⟨hc, g, cur, rfl, by rw [hg]; exact q1, q2, ?_⟩
 have : ∀ (rows : List (List D)) (o : Nat), (∀ r ∈ rows, r.all D.flat = true) → RepRows w M ⟨g, 0, none⟩ sz o rows → RepRows w' M' ⟨g, 0, none⟩ sz o rows := by
  intro rows
  induction rows with
  | nil => intro _ _ _; trivial
  | cons r rs ih =>
   rintro o hf ⟨⟨vs, z1, z2, z3⟩, z4⟩
   refine ⟨⟨vs, z1, fun j u hu => ?_, RepL.flat z3 (hf r (by simp))⟩, ih _ (fun r hr => hf r (by simp [hr])) z4⟩
   have hc : w'.cell? ((⟨g, 0, none⟩ : Addr).add (o + j)) = w.cell? ((⟨g, 0, none⟩ : Addr).add (o + j)) := World.cell?_of_block (by rw [block_add]; exact hg)
   rw [hc]
   exact z2 j u hu
 exact this _ _ hf q3
end
end Go.Eng
