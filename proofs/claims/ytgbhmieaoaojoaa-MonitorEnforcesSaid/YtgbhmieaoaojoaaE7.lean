/-
 The abstract machine over data, part 7: a region that draws its order, where what only reads what was there is taken first; the rest (new variables and stores into them) is walked in every order.
-/
import Derived.Test.YtgbhmieaoaojoaaE5
import Derived.OrdersHeld
set_option linter.unusedSimpArgs false
set_option linter.unusedVariables false
namespace Go.Eng
open Go.RowKit
def StillB (w1 w : World) : Prop := Below w1.heap.size w1 w
def eStep (T : Tab) (o : Oper) (σ : AState) (K : AState → Prop) : Prop :=
 match o.dst with
 | none => False
 | some d => match o.op with
  | .move x => ((σ.ev x).need ∧ d < σ.n) ∧ K (σ.put d (σ.evs x))
  | .fieldAddr t x f => ((σ.ev x).need ∧ d < σ.n ∧ (fieldAddrV (T t) σ.H f (σ.evs x)).1) ∧ K (σ.put d (fieldAddrV (T t) σ.H f (σ.evs x)).2)
  | .indexAddr t x i => match (T t).desc, σ.evs x, σ.evs i with
   | .array n e, .one (.ref row), .one (.int _ z) => ((σ.ev x).need ∧ (σ.ev i).need ∧ d < σ.n ∧ (0 ≤ z ∧ z < n) ∧ (T e).desc ≠ .other) ∧ K (σ.put d (.one (.ref (row.drop (z.toNat * (T e).size)))))
   | .slice e, .one (.list rows), .one (.int _ z) => ((σ.ev x).need ∧ (σ.ev i).need ∧ d < σ.n ∧ (0 ≤ z ∧ z < rows.length) ∧ (T e).desc ≠ .other ∧ (rows.getD z.toNat (T e).zero).length = (T e).size) ∧ K (σ.put d (.one (.ref (rows.getD z.toNat (T e).zero))))
   | _, _, _ => False
  | .load t x => match σ.evs x with
   | .one (.ref row) => ((σ.ev x).need ∧ d < σ.n ∧ (T t).desc ≠ .other ∧ (loadV (T t) row).1) ∧ K (σ.put d (loadV (T t) row).2)
   | .one (.vp ob off) => match σ.H[ob]? with
    | some (.var _ cs) => ((σ.ev x).need ∧ d < σ.n ∧ (T t).desc ≠ .other ∧ (loadV (T t) (cs.drop off)).1) ∧ K (σ.put d (loadV (T t) (cs.drop off)).2)
    | _ => False
   | _ => False
  | _ => False
def eWalk (T : Tab) (ops : Array Oper) : List Nat → AState → (AState → Prop) → Prop
 | [], σ, K => K σ
 | i :: is, σ, K => match ops[i]? with | some o => o.guard = none ∧ eStep T o σ (fun σ' => eWalk T ops is σ' K) | none => False
structure FCallAt (P : Program) (f : FuncId) (as as' : List AV) (nd : Prop) (d : Nat) (σ : AState) (K : AState → Prop) : Prop where
 out : ∃ r Hn, ((nd ∧ d < σ.n) ∧ ACalls P f as' r Hn ∧ callSafe as r Hn) ∧ K ⟨σ.n, (d, r.shift σ.H.length) :: σ.slots, σ.H ++ Hn, σ.pin⟩
theorem FCallAt_i {P : Program} {σ : AState} {f : FuncId} {as as' : List AV} {nd : Prop} {d : Nat} {K : AState → Prop} {r : AV} {Hn : List AObj} (hc : ACalls P f as' r Hn) (hnd : nd) (hd : d < σ.n) (hs : callSafe as r Hn)
  (hK : K ⟨σ.n, (d, r.shift σ.H.length) :: σ.slots, σ.H ++ Hn, σ.pin⟩) : FCallAt P f as as' nd d σ K := ⟨⟨r, Hn, ⟨⟨hnd, hd⟩, hc, hs⟩, hK⟩⟩
def fcstep (P : Program) (fo : Operand) (args : List Operand) (d : Nat) (σ : AState) (K : AState → Prop) : Prop :=
 match callee σ fo args with
 | some (f, as) => FCallAt P f as (as.map (AV.bor σ.H)) (needs σ (fo :: args)) d σ K
 | none => False
def fStep (P : Program) (T : Tab) (m : Nat) (o : Oper) (σ : AState) (K : AState → Prop) : Prop :=
 o.guard = none ∧ match o.dst with
 | some d => match o.op with
  | .alloc e => tAlloc T e d σ K
  | .build _ _ => nstep T o.op d σ K
  | .call c => match c.callee with
   | .value fo => fcstep P fo c.args.toList d σ K
   | _ => False
  | _ => False
 | none => match o.op with
  | .store t ad v => match σ.evs ad, (σ.evs v).cells? with
   | .one (.vp o off), some cells => match σ.H[o]? with
    | some (.var e cs) => (m ≤ o ∧ (σ.ev ad).need ∧ (σ.ev v).need ∧ (T t).desc ≠ .other ∧ cells.length = (T t).size ∧ off + cells.length ≤ cs.length) ∧ K (σ.setObj o (.var e (setAt cs off cells)))
    | _ => False
   | _, _ => False
  | _ => False
def fWalk (P : Program) (T : Tab) (ops : Array Oper) (m : Nat) (K : AState → Prop) : OT → AState → Prop
 | .leaf, σ => K σ
 | .nil, _ => True
 | .alt i n t, σ => (match ops[i]? with | some o => fStep P T m o σ (fWalk P T ops m K n) | none => False) ∧ fWalk P T ops m K t σ
section
variable {P : Program} {T : Tab} {W0 w w' w1 : World} {M0 : Nat → Prop} {F β : List Value} {σ : AState} {a : Act} {ops : Array Oper} {Q : Exit → Act → World → Prop} {K : AState → Prop} {md : Region.Mode} {Kc : Act → World → Prop}
theorem reads_still {ad : Addr} {o : Nat} {vs : List Value} (hb : StillB w w') (hg : ad.block < w.heap.size) (h : reads w ad o vs) : reads w' ad o vs := fun j u hu => by
 have := h j u hu
 unfold World.cell? at this ⊢
 rw [block_add] at this ⊢
 rw [hb.block _ hg]
 exact this
theorem loadVar_det (hT : TabOk P T) {t : TypeId} (hk : (T t).desc ≠ .other) {ad : Addr} {cells : List D} {vs : List Value} (hlen : cells.length = vs.length) (h1 : reads w ad 0 vs) (h2 : reads w' ad 0 vs) (h : (loadV (T t) cells).1) {u : Value}
  (hu : (loadVar t ad).run P w = .ok u w) : (loadVar t ad).run P w' = .ok u w' := by
 unfold loadV at h
 cases hagg : (T t).isAgg with
 | true =>
  simp only [hagg, if_true] at h
  have hl : (vs.take (T t).size).length = (T t).size := by rw [List.length_take]; omega
  have key : ∀ w : World, reads w ad 0 vs → (loadVar t ad).run P w = .ok (.agg ⟨vs.take (T t).size⟩) w := fun w h1 => by
   have ha := run_isAgg (w := w) hT hk
   have hs := run_sizeOf (w := w) hT hk
   rw [hagg] at ha
   have hld := run_loadCells_list (P := P) w ad (vs.take (T t).size) (fun j v hv => reads_get h1 (by rw [List.getElem?_take] at hv; split at hv; exact hv; cases hv))
   rw [hl] at hld
   simp [loadVar, ha, hs, hld]
  rw [key w h1] at hu
  cases hu
  exact key w' h2
 | false =>
  simp only [hagg, Bool.false_eq_true, if_false] at h
  cases vs with
  | nil => simp at hlen; rw [hlen] at h; simp at h
  | cons v vs =>
   have key : ∀ w : World, reads w ad 0 (v :: vs) → (loadVar t ad).run P w = .ok v w := fun w h1 => by
    have ha := run_isAgg (w := w) hT hk
    rw [hagg] at ha
    have hc := reads_get h1 (j := 0) (u := v) rfl
    rw [add_zero] at hc
    simp [loadVar, ha, hc]
   rw [key w h1] at hu
   cases hu
   exact key w' h2
theorem eStep_sound (hT : TabOk P T) {o : Oper} (h : SimS W0 M0 F σ a w) (hg : o.guard = none) (hs : eStep T o σ K) : ∃ v σ', YieldsIf P ops (StillB w) o v a ∧ SimS W0 M0 F σ' (a.put o.dst v) w ∧ K σ' := by
 have hw : Region.wanted o (yielded ops a.tmps) = true := by simp [Region.wanted, hg]
 unfold eStep at hs
 split at hs
 ·exact hs.elim
 ·rename_i d hd
  split at hs
  ·rename_i x ho
   obtain ⟨v, σ', h1, h2, h3⟩ := iStep_sound (ops := ops) (K := K) hT h hg (by unfold iStep; rw [hd, ho]; exact hs)
   exact ⟨v, σ', h1.yieldsIf, h2, h3⟩
  ·rename_i t x f ho
   obtain ⟨v, σ', h1, h2, h3⟩ := iStep_sound (ops := ops) (K := K) hT h hg (by unfold iStep; rw [hd, ho]; exact hs)
   exact ⟨v, σ', h1.yieldsIf, h2, h3⟩
  ·rename_i t x i ho
   split at hs
   ·rename_i n e row k z hdesc hex hei
    obtain ⟨⟨n1, n2, hdn, hz, he⟩, hK⟩ := hs
    obtain ⟨β, h⟩ := h
    have e1 := h.evs n1
    have e2 := h.evs n2
    have hV : (indexAddrV T σ.H t (σ.evs x) (σ.evs i)) = ((0 ≤ z ∧ z < n) ∧ (T e).desc ≠ .other, .one (.ref (row.drop (z.toNat * (T e).size)))) := by
     unfold indexAddrV; rw [hdesc, hex, hei]
    obtain ⟨u, w2, q1, q2, q3⟩ := indexAddrV_sound (P := P) hT h.objs t _ _ _ _ e1 e2 (by rw [hV]; exact ⟨hz, he⟩)
    rw [hex] at e1
    rw [hei] at e2
    have e2' := rep_int_inv e2
    obtain ⟨ad, he', _⟩ := e1
    have key : ∀ w', (Instr.indexAt t (a.eval x) (a.eval i)).run P w' = .ok (.pointer (some (ad.add (z.toNat * (T e).size)))) w' := fun w' => by
     rw [he', e2']; exact indexAt_array hT hdesc he ad k z hz.1 hz.2
    rw [key w] at q1
    cases q1
    rw [hV] at q3
    refine ⟨_, _, .inl ⟨hw, fun w' _ => ?_⟩, ⟨β, by rw [hd]; exact h.put hdn q3⟩, hK⟩
    simp [execOp, ho, key w']
   ·rename_i e rows k z hdesc hex hei
    obtain ⟨⟨n1, n2, hdn, hz, he, hlen⟩, hK⟩ := hs
    obtain ⟨β, h⟩ := h
    have e1 := h.evs n1
    have e2 := h.evs n2
    rw [hex] at e1
    rw [hei] at e2
    have e2' := rep_int_inv e2
    obtain ⟨A, c, he', hn, hc, hr⟩ := e1
    rcases hr with rfl | ⟨ad, sz, rfl, hb, hm, hr⟩
    ·simp at hz; omega
    ·have hlt : z.toNat < rows.length := by omega
     have hg := getD_some hlt (T e).zero
     have hsz : sz = (T e).size := by rw [← hlen]; exact (hr.rowlen hg).symm
     subst hsz
     have hat := hr.atRow hg
     refine ⟨.pointer (some (ad.add (z.toNat * (T e).size))), _, .inl ⟨hw, fun w' _ => ?_⟩, ⟨β, by rw [hd]; exact h.put hdn ⟨_, rfl, by rw [block_add]; exact hb, by rw [block_add]; exact hm, hat⟩⟩, hK⟩
     have := indexAt_slice (P := P) (w := w') hT hdesc he ad rows.length c k z hz.1 hz.2
     simp [execOp, ho, he', e2', this]
   ·exact hs.elim
  ·rename_i t x ho
   split at hs
   ·rename_i row hex
    obtain ⟨⟨n1, hdn, hk, hl⟩, hK⟩ := hs
    obtain ⟨β, h⟩ := h
    have e1 := h.evs n1
    rw [hex] at e1
    obtain ⟨ad, he, hb, hm, vs, h1, h2⟩ := e1
    obtain ⟨u, hu, hr⟩ := loadVar_sound (P := P) (β := β) hT hk h1 h2.toC hl
    refine ⟨u, _, .inl ⟨hw, fun w' hS => ?_⟩, ⟨β, by rw [hd]; exact h.put hdn hr⟩, hK⟩
    have := loadVar_det hT hk (by rw [RepL.length_eq _ _ h2]) h1 (reads_still hS hb h1) hl hu
    simp [execOp, ho, he, Instr.loadAt, Instr.sureAddr, this]
   ·rename_i ob off hex
    split at hs
    ·rename_i e cs hH
     obtain ⟨⟨n1, hdn, hk, hl⟩, hK⟩ := hs
     obtain ⟨β, h⟩ := h
     have e1 := h.evs n1
     rw [hex] at e1
     obtain ⟨g, hβ, he⟩ := vp_live e1 fun y hy => h.objs ob _ y hH hy
     obtain ⟨g', cur, hge, hg', hcl⟩ := h.objs ob _ _ hH hβ
     cases hge
     have h3 := reads_shift (k := off) (reads_cells hg')
     have h4 := reads_rebase (o := off) (k := 0) (by simpa [Nat.add_comm] using h3)
     rw [add_lit] at h4
     obtain ⟨u, hu, hr⟩ := loadVar_sound hT hk (ad := ⟨g, 0 + off, none⟩) h4 (hcl.drop off) hl
     have hlt : g < w.heap.size := (Array.getElem?_eq_some_iff.1 hg').1
     refine ⟨u, _, .inl ⟨hw, fun w' hS => ?_⟩, ⟨β, by rw [hd]; exact h.put hdn hr⟩, hK⟩
     have := loadVar_det hT hk (by rw [(hcl.drop off).1]) h4 (reads_still hS hlt h4) hl hu
     rw [Nat.zero_add] at this
     simp [execOp, ho, he, Instr.loadAt, Instr.sureAddr, this]
    ·exact hs.elim
   ·exact hs.elim
  ·exact hs.elim
theorem eWalk_sound (hT : TabOk P T) (hsel : Region.noSelect ops = true) (hQ : ∀ c a w, ¬ Q (.panic c) a w) : ∀ (is : List Nat) (listed : Array Bool) (σ : AState) (a : Act) (fuel : Nat), lexI md ops is listed = true → SimS W0 M0 F σ a w → eWalk T ops is σ K →
  (∀ σ' a', K σ' → SimS W0 M0 F σ' a' w → wpAnyH P md ops Q (StillB w) fuel (setAll is listed) a' w) → wpAnyH P md ops Q (StillB w) (fuel + is.length) listed a w
 | [], listed, σ, a, fuel, _, h, hi, hk => hk σ a hi h
 | i :: is, listed, σ, a, fuel, hl, h, hi, hk => by
  simp only [lexI, Bool.and_eq_true] at hl
  obtain ⟨⟨hr, hf⟩, hl⟩ := hl
  simp only [eWalk] at hi
  cases ho : ops[i]? with
  | none => rw [ho] at hi; exact hi.elim
  | some o =>
   rw [ho] at hi
   obtain ⟨hg, hi⟩ := hi
   obtain ⟨v, σ', hy, hs, hi'⟩ := eStep_sound (ops := ops) hT h hg hi
   rw [show fuel + (i :: is).length = (fuel + is.length) + 1 by simp only [List.length_cons]; omega]
   exact wpAnyH_take ho hsel hf hr (fun c a w hq => (hQ c _ w hq).elim) hy (Below.refl _ _) (eWalk_sound hT hsel hQ is _ σ' _ fuel hl hs hi' hk)
theorem Sim.callB (h : Sim W0 M0 F σ a w β) {f : FuncId} {args : List AV} {vs : List Value} {r : AV} {Hn : List AObj} (hv : RepVL w (Mof M0 β) β args vs) (hc : ACalls P f (args.map (AV.bor σ.H)) r Hn) (hs : callSafe args r Hn) :
  Calls P f ⟨vs⟩ w fun e w' => ∃ v βn, e = .returned v ∧ Sim W0 M0 F { σ with H := σ.H ++ Hn } a w' (β ++ βn) ∧ RepV w' (Mof M0 (β ++ βn)) (β ++ βn) (r.shift σ.H.length) v ∧ Below w.heap.size w w' ∧ ∀ g, owned βn g → w.heap.size ≤ g := by
 have hg := RepVL.get args vs hv
 have hmap : ∀ (M1 : Nat → Prop), (∀ (x : AV) (v : Value), x ∈ args → RepV w (Mof M0 β) β x v → RepV w M1 [] (x.bor σ.H) v) → RepVL w M1 [] (args.map (AV.bor σ.H)) vs := fun M1 k =>
  RepVL.mk _ _ (by simpa using hg.1) fun i b u hb hu => by
   rw [List.getElem?_map] at hb
   cases hx : args[i]? with
   | none => rw [hx] at hb; cases hb
   | some x => rw [hx] at hb; simp at hb; subst hb; exact k x u (List.mem_of_getElem? hx) (hg.2 i x u hx hu)
 have htags : ∀ (βn : List Value) (t : Nat) (x : Value), βn[t]? = some x → (β ++ βn)[β.length + t]? = some x := fun βn t x hx => by
  rw [List.getElem?_append_right (by omega)]; simpa using hx
 rcases hs with ⟨hs1, hs2⟩ | ⟨hs1, hs2⟩
 ·refine (hc.2 w (Mof M0 β) vs (h.mok_of (fun _ h => h) fun _ h => (owned_none h).elim) (hmap _ fun x v hx hr => borV_free x v hr ?_)).mono ?_
  ·rw [List.all_eq_true] at hs1
   simpa using hs1 x hx
  ·rintro e w' ⟨v, βn, rfl, hR⟩
   have hM : ∀ g, Mof (Mof M0 β) βn g ↔ Mof M0 (β ++ βn) g := fun g => by
    constructor
    ·rintro ((hm | ⟨t, x, h1, h2⟩) | ⟨t, x, h1, h2⟩)
     ·exact .inl hm
     ·exact .inr ⟨t, x, by rw [List.getElem?_append, if_pos (List.getElem?_eq_some_iff.1 h1).1]; exact h1, h2⟩
     ·exact .inr ⟨_, x, htags βn t x h1, h2⟩
    ·rintro (hm | ⟨t, x, h1, h2⟩)
     ·exact .inl (.inl hm)
     ·rw [List.getElem?_append] at h1
      split at h1
      ·exact .inl (.inr ⟨t, x, h1, h2⟩)
      ·exact .inr ⟨_, x, h1, h2⟩
   have hk : Keeps w' (Mof (Mof M0 β) βn) w' (Mof M0 (β ++ βn)) := ⟨Nat.le_refl _, fun _ _ _ => rfl, fun g _ hm hm' => hm ((hM g).2 hm')⟩
   refine ⟨v, βn, rfl, h.push hR.below hR.len hR.fresh hR.dist fun t o x ho hx => ?_, ?_, hR.below, fun g hg => (hR.fresh g hg).1⟩
   ·rw [List.all_eq_true] at hs2
    exact (hR.objs t o x ho hx).plainMove hk (hs2 o (List.mem_of_getElem? ho))
   ·rw [← h.len]
    exact RepV.shift hk (htags βn) r v hR.val
 ·refine (hc.2 w M0 vs h.mok0 (hmap _ fun x v hx hr => borV_sound h.lend x v hr)).mono ?_
  rintro e w' ⟨v, βn, rfl, hR⟩
  refine ⟨v, βn, rfl, h.push hR.below hR.len hR.fresh hR.dist fun t o x ho hx => ?_, ?_, hR.below, fun g hg => (hR.fresh g hg).1⟩
  ·exact (hR.objs t o x ho hx).flatMove (hs2 o (List.mem_of_getElem? ho))
  ·rw [← h.len]
   exact RepV.shiftFlat (htags βn) r v hR.val hs1
def HS (W0 : World) (M0 : Nat → Prop) (F : List Value) (w1 : World) (m : Nat) (σ : AState) (a : Act) (w : World) : Prop :=
 ∃ β, Sim W0 M0 F σ a w β ∧ StillB w1 w ∧ ∀ (t : Nat) (h : Value) (g : Nat), m ≤ t → β[t]? = some h → hblk h = some g → w1.heap.size ≤ g
theorem fStep_sound {m : Nat} (hT : TabOk P T) {o : Oper} (h0 : HS W0 M0 F w1 m σ a w) (ht : fStep P T m o σ K) (hK : ∀ σ' a' w', K σ' → HS W0 M0 F w1 m σ' a' w' → Kc a' w') : o.guard = none ∧ o.wp P a w Kc Q := by
 obtain ⟨β, h, hst, hnew⟩ := h0
 obtain ⟨hg, ht⟩ := ht
 refine ⟨hg, ?_⟩
 split at ht
 ·rename_i d hd
  split at ht
  ·rename_i e ho
   obtain ⟨⟨hk, hdn⟩, hK'⟩ := ht
   obtain ⟨z, hz1, hz2, hz3, hz4, hz5⟩ := zeroVal (w := w) (M := Mof M0 β) hT hk
   have hb : Below w.heap.size w (w.alloc (.cells z.cells e)) := (Below.refl _ _).alloc (Nat.le_refl _) _
   refine upon_value (u := .pointer (some ⟨w.heap.size, 0, none⟩)) (w' := w.alloc (.cells z.cells e)) ?_ ?_
   ·simp [execOp, ho, Instr.alloc, hz1, newVar, newRow]
   ·rw [hd]
    refine hK _ _ _ hK' ⟨_, h.pushObj hdn hb (hd := .pointer (some ⟨w.heap.size, 0, none⟩)) (fun g hg => by cases hg; simp) ?_ ?_, ?_, ?_⟩
    ·exact ⟨w.heap.size, z.cells, rfl, heap_alloc_new w _, (zerosOk_rep _ _ (by
      obtain ⟨i, z', h1, _, _, _, h5, _⟩ := run_info (w := w) hT hk
      have : z' = z := by
       have h6 : (zeroValue e).run P w = .ok z' w := by simp [zeroValue, h1, *]
       rw [hz1] at h6
       cases h6
       rfl
      rw [← this]; exact h5)).toC⟩
    ·exact .inl ⟨w.heap.size, last_tag h _, rfl⟩
    ·exact Below.alloc hst hst.size _
    ·intro t x g hm hx hg
     rw [List.getElem?_append] at hx
     split at hx
     ·exact hnew t x g hm hx hg
     ·cases hi : t - β.length with
      | zero => rw [hi] at hx; simp at hx; subst hx; cases hg; exact hst.size
      | succ i => rw [hi] at hx; simp at hx
  ·obtain ⟨⟨hn, hdn, hv⟩, hK'⟩ := ht
   obtain ⟨u, w', q1, q2, q3⟩ := aval_sound (P := P) hT (Mof_lt h) h.len h.objs o σ.evs a.eval (fun x hx => h.evs (needs_mem _ _ hn x hx)) hv
   refine upon_value q1 ?_
   rw [hd]
   exact hK _ _ _ hK' ⟨β, (h.ext q2).put hdn q3, hst.trans (q2.mono hst.size), fun t x g hm hx hg => hnew t x g hm hx hg⟩
  ·rename_i c ho
   obtain ⟨cal, args, ats⟩ := c
   simp only at ht
   split at ht
   ·rename_i fo
    unfold fcstep at ht
    split at ht
    ·rename_i f as hc
     obtain ⟨r, Hn, ⟨⟨hn, hdn⟩, hcall, hsafe⟩, hK'⟩ := ht.out
     obtain ⟨vs, h1, h2⟩ := callee_sound (P := P) h ho hc hn hcall.1
     unfold Oper.wp
     rw [h1]
     simp only [Oper.upon]
     refine (h.callB h2 hcall hsafe).mono ?_
     rintro e w' ⟨v, βn, rfl, hs, hr, hbl, hfr⟩
     simp only [hd]
     refine hK _ _ _ hK' ⟨β ++ βn, Sim.put (σ := { σ with H := σ.H ++ Hn }) hs hdn hr, hst.trans (hbl.mono hst.size), fun t x g hm hx hg => ?_⟩
     rw [List.getElem?_append] at hx
     split at hx
     ·exact hnew t x g hm hx hg
     ·exact Nat.le_trans hst.size (hfr g ⟨_, x, hx, hg⟩)
    ·exact ht.elim
   ·exact ht.elim
  ·exact ht.elim
 ·rename_i hd
  split at ht
  ·rename_i t ad v ho
   split at ht
   ·rename_i ob off cells hev hc
    split at ht
    ·rename_i e cs hH
     obtain ⟨⟨hmo, hn1, hn2, hk, hsz, hfit⟩, hK'⟩ := ht
     have e1 := h.evs hn1
     rw [hev] at e1
     obtain ⟨g, hβ, he1⟩ := vp_live e1 fun y hy => h.objs ob _ y hH hy
     have hcl := cells?_rep (h.evs hn2) hc
     obtain ⟨g', cur, hgg, hg, hcc⟩ := h.objs ob _ _ hH hβ
     cases hgg
     have hvs : (a.eval v).cells.size = (T t).size := by rw [← hsz, hcl.1]; simp
     have hcur : cur.size = cs.length := by rw [hcc.1]; simp
     have hfit' : off + (a.eval v).cells.size ≤ cur.size := by rw [hcur, hvs, ← hsz]; exact hfit
     have hrun := storeAt_run hT hk hg hvs hfit' hcl.oneCell
     refine upon_skip hd (w' := w.setRow g ⟨Eng.setAt cur.toList off (a.eval v).cells.toList⟩) (by simp [execOp, ho, he1, hrun]) ?_
     have hgr := setRow_grown w g ⟨Eng.setAt cur.toList off (a.eval v).cells.toList⟩
     have hge : w1.heap.size ≤ g := hnew ob _ g hmo hβ rfl
     refine hK _ _ _ hK' ⟨β, h.write hβ hgr (Nat.le_refl _) ⟨g, _, rfl, setRow_heap w g cur _ e _ hg, ?_⟩, ?_, hnew⟩
     ·have hkeep : Keeps w (Mof M0 β) (w.setRow g ⟨Eng.setAt cur.toList off (a.eval v).cells.toList⟩) (Mof M0 β) :=
       ⟨hgr.size, fun g' hlt hm => hgr.block g' hlt fun e => hm (.inr ⟨ob, _, hβ, e.symm⟩), fun g' _ hm => hm⟩
      exact (RepCL.setAt off hcc hcl).grow ⟨hkeep, fun _ _ x => x⟩
     ·exact ⟨⟨hgr.os.trans hst.os, hgr.tape.trans hst.tape, hgr.output.trans hst.output, Nat.le_trans hst.size hgr.size, fun k hk => (hgr.block k (Nat.lt_of_lt_of_le hk hst.size) (by simp; omega)).trans (hst.block k hk)⟩, hst.drawn⟩
    ·exact ht.elim
   ·exact ht.elim
  ·exact ht.elim
theorem ft_pick {m : Nat} {e : Array Bool → Bool} {listed : Array Bool} {k j : Nat} : ∀ {t : OT} {hd : Bool}, otB .any ops e hd t listed = true → t.deep (k + 1) = true → fWalk P T ops m K t σ → j ∈ t.ids →
  ∃ n : OT, otB .any ops e true n (listed.setIfInBounds j true) = true ∧ n.deep k = true ∧ (match ops[j]? with | some o => fStep P T m o σ (fWalk P T ops m K n) | none => False)
 | .leaf, _, _, hd, _, _ => by simp [OT.deep] at hd
 | .nil, _, _, _, _, hj => by simp [OT.ids] at hj
 | .alt i n mm, hd, hB, hdp, hw, hj => by
  simp only [otB, Bool.and_eq_true] at hB
  simp only [OT.deep, Bool.and_eq_true] at hdp
  obtain ⟨⟨_, hBn⟩, hBm⟩ := hB
  rcases List.mem_cons.1 hj with rfl | hj
  ·exact ⟨n, hBn, hdp.1, hw.1⟩
  ·exact ft_pick hBm hdp.2 hw.2 hj
def fEnd (ops : Array Oper) (listed : Array Bool) : Bool := (Region.ready .any ops listed).isEmpty
theorem ft_run {m : Nat} (hT : TabOk P T) (hk : ∀ σ' a' w', K σ' → HS W0 M0 F w1 m σ' a' w' → Q .normal a' w') : ∀ (k : Nat) (t : OT) (listed : Array Bool) (σ : AState) (a : Act) (w : World), HS W0 M0 F w1 m σ a w →
  otB .any ops (fEnd ops) true t listed = true → t.deep k = true → fWalk P T ops m K t σ → wpAnyH P .any ops Q (StillB w1) k listed a w
 | 0, t, listed, σ, a, w, hs, hB, hd, hw => by
  cases t with
  | nil => simp [OT.deep] at hd
  | alt i n m => simp [OT.deep] at hd
  | leaf =>
   simp only [otB, fEnd, List.isEmpty_iff] at hB
   exact wpAnyH_done hB (hk _ _ _ hw hs) 0
 | k + 1, t, listed, σ, a, w, hs, hB, hd, hw => by
  have hB' := hB
  cases t with
  | leaf => simp [OT.deep] at hd
  | nil => simp [otB] at hB
  | alt i n mm =>
   simp only [otB, Bool.not_true, Bool.false_or, Bool.and_eq_true, List.all_eq_true] at hB
   obtain ⟨⟨⟨hall, hne⟩, _⟩, _⟩ := hB
   refine ⟨fun h0 => by rw [h0] at hne; simp at hne, fun j hj => ?_⟩
   have hji : j ∈ (OT.alt i n mm).ids := by simpa [OT.ids] using hall j hj
   obtain ⟨u, hu1, hu2, hu3⟩ := ft_pick hB' hd hw hji
   cases ho : ops[j]? with
   | none => rw [ho] at hu3; exact hu3.elim
   | some o =>
    rw [ho] at hu3
    obtain ⟨h1, h2⟩ := fStep_sound (Q := Q) hT hs hu3 (Kc := fun a' w' => StillB w1 w' ∧ wpAnyH P .any ops Q (StillB w1) k (listed.setIfInBounds j true) a' w') fun σ' a' w' h1 h2 => ⟨by obtain ⟨_, _, h3, _⟩ := h2; exact h3, ft_run hT hk k u _ σ' a' w' h2 hu1 hu2 h1⟩
    have hw' : Region.wanted o (yielded ops a.tmps) = true := by simp [Region.wanted, h1]
    unfold wpOp
    rw [ho]
    simp only [hw', if_true]
    exact .inl h2
end
def hregB (ops : Array Oper) (is : List Nat) (t : OT) (k : Nat) : Bool :=
 Region.noSelect ops && lexI .any ops is (Array.replicate ops.size false) && otB .any ops (fEnd ops) true t (setAll is (Array.replicate ops.size false)) && t.deep k && decide (k + is.length = ops.size)
section
variable {P : Program} {T : Tab} {σ : AState} {ops : Array Oper} {K : AState → Prop} {Q : APost}
theorem hreg_sound (hT : TabOk P T) (hm : P.follows .mixedOrders = true) {is : List Nat} {t : OT} {k : Nat} (hB : hregB ops is t k = true) (hw : eWalk T ops is σ fun σ1 => fWalk P T ops σ1.H.length K t σ1) : SemReg P ops σ K := by
 intro W0 M0 F a w Q id h hq
 simp only [hregB, Bool.and_eq_true, decide_eq_true_eq] at hB
 obtain ⟨⟨⟨⟨hsel, hli⟩, hot⟩, hdp⟩, hnum⟩ := hB
 obtain ⟨Q', hQ'⟩ : ∃ Q' : Exit → Act → World → Prop, Q' = fun e a w => e = .normal ∧ Q .normal a w := ⟨_, rfl⟩
 have hmono : ∀ e a w, Q' e a w → Q e a w := fun e a w hh => by rw [hQ'] at hh; obtain ⟨rfl, h2⟩ := hh; exact h2
 have hnp : ∀ c a w, ¬ Q' (.panic c) a w := fun c a w hh => by rw [hQ'] at hh; cases hh.1
 have hdrew : SimS W0 M0 F σ a { w with drawn := w.drawn + 1 } := by
  obtain ⟨β, h⟩ := h
  exact ⟨β, h.ext (w' := w.drew) (Below.drew (Below.refl _ _))⟩
 have key : wpAnyH P .any ops Q' (StillB { w with drawn := w.drawn + 1 }) (k + is.length) (Array.replicate ops.size false) a { w with drawn := w.drawn + 1 } := by
  refine eWalk_sound (K := fun σ1 => fWalk P T ops σ1.H.length K t σ1) hT hsel hnp is _ σ a _ hli hdrew hw fun σ1 a1 hw1 hs1 => ?_
  obtain ⟨β, hs1⟩ := hs1
  refine ft_run hT (fun σ' a' w' k3 k4 => by rw [hQ']; obtain ⟨β', k5, _⟩ := k4; exact ⟨rfl, hq σ' a' w' k3 ⟨β', k5⟩⟩) k t _ σ1 a1 _ ⟨β, hs1, Below.refl _ _, fun t x g hm hx _ => ?_⟩ hot hdp hw1
  have := (List.getElem?_eq_some_iff.1 hx).1
  rw [hs1.len] at this
  omega
 rw [hnum] at key
 exact wp_mono (wp_region_held hm key) hmono
def fWalkR (P : Program) (T : Tab) (ops : Array Oper) (m : Nat) (K : AState → Prop) (t : OT) (σ : AState) : Prop := fWalk P T ops m K t σ
theorem fW_leaf {m : Nat} : fWalk P T ops m K .leaf σ = K σ := rfl
theorem fW_nil {m : Nat} : fWalk P T ops m K .nil σ = True := rfl
theorem fW_alt {m i : Nat} {n t : OT} : fWalk P T ops m K (.alt i n t) σ = ((match ops[i]? with | some o => fStep P T m o σ (fWalkR P T ops m K n) | none => False) ∧ fWalk P T ops m K t σ) := rfl
theorem rH (hT : TabOk P T) (hm : P.follows .mixedOrders = true) (id : Nat) {l : List Oper} (is : List Nat) (t : OT) (k : Nat) (h : eWalk T l.toArray is σ fun σ1 => fWalk P T l.toArray σ1.H.length (Q .normal) t σ1) (hB : hregB l.toArray is t k = true := by kernel_rfl) : awp P T (.region id l.toArray true) σ Q := by
 simp only [awp, if_true]
 exact .inr (.inr (hreg_sound hT hm hB h))
theorem eWalk_nil : eWalk T ops [] σ K = K σ := rfl
theorem eWalk_cons {i : Nat} {is : List Nat} : eWalk T ops (i :: is) σ K = (match ops[i]? with | some o => o.guard = none ∧ eStep T o σ (fun σ' => eWalk T ops is σ' K) | none => False) := rfl
attribute [go_sem] fW_leaf fW_nil fW_alt fWalkR eWalk_nil eWalk_cons eStep fStep fcstep
end
end Go.Eng
