/-
  The abstract machine: regions that draw their order, in the middle of which objects are made: every order leaves the same.
-/
import Derived.Test.YtjldfifepbdlmaaDoorEngN4
set_option linter.unusedSimpArgs false
set_option linter.unusedVariables false
namespace Go.Eng
open Go.RowKit

/-! ### operations that only compute, where more tags are taken -/
def dValS (P : Program) (T : Tab) (o : Oper) (v : AV) (σ : AState) : Prop :=
  match o.op with
  | .pick c x y => (pickV σ c x y).1 ∧ v = (pickV σ c x y).2
  | .call c => match c.callee with
    | .value fo => ∃ f as, callee σ fo c.args.toList = some (f, as) ∧ needs σ (fo :: c.args.toList) ∧ ACalls P f (as.map (AV.bor σ.H)) v [] ∧ callSafe as v [] ∧ ∀ n, v.shift n = v
    | _ => needs σ o.op.operands.toList ∧ (aval T σ.H o.op σ.evs).1 ∧ v = (aval T σ.H o.op σ.evs).2
  | op => needs σ op.operands.toList ∧ (aval T σ.H op σ.evs).1 ∧ v = (aval T σ.H op σ.evs).2
def dYS (P : Program) (T : Tab) (ops : Array Oper) (o : Oper) (d : Nat) (v : AV) (σ : AState) : Prop :=
  o.dst = some d ∧ d < σ.n ∧
  match o.guard with
  | none => dValS P T o v σ
  | some (j, want) => (guardAV ops σ j).isB = true ∧ ∃ v0, v = .cond ((guardAV ops σ j).says want) v0 ∧ ((guardAV ops σ j).says want = true → dValS P T o v0 σ)
def AState.at (σ : AState) (H0 : List AObj) : AState := { n := σ.n, slots := σ.slots, H := H0, pin := σ.pin }
section
variable {P : Program} {T : Tab} {W0 w : World} {M0 : Nat → Prop} {F β : List Value} {σ τ : AState} {a : Act} {ops : Array Oper} {Kc : Act → World → Prop} {Q : Exit → Act → World → Prop}
theorem dValS_val {o : Oper} {v : AV} (h : dValS P T o v σ) : dVal P T o v σ := by
  unfold dValS at h
  unfold dVal
  split
  · rename_i c x y ho
    simp only [ho] at h
    exact h
  · rename_i c ho
    simp only [ho] at h
    split
    · rename_i fo hc
      simp only [hc] at h
      obtain ⟨f, as, h1, h2, h3, h4, h5⟩ := h
      exact ⟨f, as, v, h1, h2, h3, h4, (h5 _).symm⟩
    · rename_i hc
      split at h
      · exact absurd ‹_› (hc _)
      · rw [ho]; exact h
  · rename_i h1 h2
    split at h
    · exact absurd ‹_› (h1 _ _ _)
    · exact absurd ‹_› (h2 _)
    · exact h
theorem dYS_y {o : Oper} {d : Nat} {v : AV} (h : dYS P T ops o d v σ) : dY P T ops o d v σ := by
  obtain ⟨h1, h2, h3⟩ := h
  refine ⟨h1, h2, ?_⟩
  split
  · rename_i hg
    simp only [hg] at h3
    exact dValS_val h3
  · rename_i j want hg
    simp only [hg] at h3
    obtain ⟨k1, v0, k2, k3⟩ := h3
    exact ⟨k1, v0, k2, fun hh => dValS_val (k3 hh)⟩
theorem dValS_ext {o : Oper} {v : AV} {H' : List AObj} (hx : Ext σ.H H') (h : dValS P T o v σ) : dValS P T o v (σ.at H') := by
  have he : (AState.evs (σ.at H')) = σ.evs := funext fun x => evs_H H' x
  have plain : needs σ o.op.operands.toList ∧ (aval T σ.H o.op σ.evs).1 ∧ v = (aval T σ.H o.op σ.evs).2 → needs (σ.at H') o.op.operands.toList ∧ (aval T H' o.op (AState.evs (σ.at H'))).1 ∧ v = (aval T H' o.op (AState.evs (σ.at H'))).2 := by
    rintro ⟨h1, h2, h3⟩
    rw [he]
    obtain ⟨k1, k2⟩ := aval_mono hx o.op σ.evs h2
    exact ⟨needs_H H' _ h1, k1, by rw [k2]; exact h3⟩
  unfold dValS at h ⊢
  split
  · rename_i c x y ho
    simp only [ho] at h
    have e : pickV (σ.at H') c x y = pickV σ c x y := by
      unfold pickV
      simp only [he]
      rw [show (σ.at H').ev c = σ.ev c from ev_H H' c, show (σ.at H').ev x = σ.ev x from ev_H H' x, show (σ.at H').ev y = σ.ev y from ev_H H' y]
    rw [e]
    exact h
  · rename_i c ho
    simp only [ho] at h
    split
    · rename_i fo hc
      simp only [hc] at h
      obtain ⟨f, as, h1, h2, h3, h4, h5⟩ := h
      exact ⟨f, as, by rw [show callee (σ.at H') fo c.args.toList = callee σ fo c.args.toList from callee_H H' _ _]; exact h1, needs_H _ _ h2, h3.more hx, h4, h5⟩
    · rename_i hc
      split at h
      · exact absurd ‹_› (hc _)
      · have := plain (by rw [ho]; exact h)
        rw [ho] at this ⊢
        exact this
  · rename_i h1 h2
    split at h
    · exact absurd ‹_› (h1 _ _ _)
    · exact absurd ‹_› (h2 _)
    · exact plain h
theorem dYS_ext {o : Oper} {d : Nat} {v : AV} {H' : List AObj} (hx : Ext σ.H H') (h : dYS P T ops o d v σ) : dYS P T ops o d v (σ.at H') := by
  obtain ⟨h1, h2, h3⟩ := h
  refine ⟨h1, h2, ?_⟩
  split
  · rename_i hg
    simp only [hg] at h3
    exact dValS_ext hx h3
  · rename_i j want hg
    simp only [hg] at h3
    obtain ⟨k1, v0, k2, k3⟩ := h3
    exact ⟨k1, v0, k2, fun hh => dValS_ext hx (k3 hh)⟩
theorem dValS_agree {o : Oper} {v : AV} (h : Agree ops o σ τ) (hv : dValS P T o v σ) : dValS P T o v τ := by
  have hev : ∀ x ∈ o.op.operands.toList, σ.ev x = τ.ev x := fun x hx => h.ev hx
  have hevs : ∀ x ∈ o.op.operands.toList, σ.evs x = τ.evs x := fun x hx => by simp only [AState.evs]; rw [hev x hx]
  have plain : needs σ o.op.operands.toList ∧ (aval T σ.H o.op σ.evs).1 ∧ v = (aval T σ.H o.op σ.evs).2 → needs τ o.op.operands.toList ∧ (aval T τ.H o.op τ.evs).1 ∧ v = (aval T τ.H o.op τ.evs).2 := by
    rintro ⟨h1, h2, h3⟩
    rw [h.H, aval_congr _ _ _ _ hevs] at h2 h3
    exact ⟨needs_congr _ hev h1, h2, h3⟩
  unfold dValS at hv ⊢
  split at hv
  · rename_i c x y ho
    simp only [ho, Op.operands] at hev hevs
    have e : pickV σ c x y = pickV τ c x y := by
      unfold pickV
      rw [hevs c (by simp), hevs x (by simp), hevs y (by simp), hev c (by simp), hev x (by simp), hev y (by simp)]
    rw [← e]
    exact hv
  · rename_i c ho
    obtain ⟨cal, args, ats⟩ := c
    simp only at hv ⊢
    split at hv
    · rename_i fo
      obtain ⟨f, as, h1, h2, h3, h4, h5⟩ := hv
      simp only [ho, Op.operands, Call.operands] at hev hevs
      have hfo := hevs fo (by simp)
      have hargs : args.toList.map σ.evs = args.toList.map τ.evs := List.map_congr_left fun x hx => hevs x (by simp at hx ⊢; exact .inr hx)
      refine ⟨f, as, ?_, needs_congr _ (fun x hx => hev x (by simpa using hx)) h2, by rw [← h.H]; exact h3, h4, h5⟩
      unfold callee at h1 ⊢
      rw [← hfo, ← hargs]
      exact h1
    · exact plain hv
  · exact plain hv
theorem dYS_agree {o : Oper} {d : Nat} {v : AV} (h : Agree ops o σ τ) (hv : dYS P T ops o d v σ) : dYS P T ops o d v τ := by
  obtain ⟨h1, h2, h3⟩ := hv
  refine ⟨h1, by rw [← h.n]; exact h2, ?_⟩
  split
  · rename_i hg
    rw [hg] at h3
    exact dValS_agree h h3
  · rename_i j want hg
    rw [hg] at h3
    simp only at h3
    rw [← guardAV_agree hg h]
    obtain ⟨k1, v0, k2, k3⟩ := h3
    exact ⟨k1, v0, k2, fun hh => dValS_agree h (k3 hh)⟩
theorem dY_keep (hT : TabOk P T) {o : Oper} {d : Nat} {v : AV} (h : Sim W0 M0 F σ a w β) (hv : dY P T ops o d v σ) (hK : ∀ a' w', Sim W0 M0 F (σ.put d v) a' w' β → Kc a' w') :
    if Region.wanted o (yielded ops a.tmps) = true then o.wp P a w Kc Q else Kc (a.put o.dst undef) w := by
  refine dY_sound (Q := Q) hT ⟨β, h.rebase⟩ (dY_agree (σ := σ) (τ := σ.pinned) ⟨rfl, rfl, fun _ _ => rfl⟩ hv) ?_
  rintro a' w' ⟨β', hs⟩
  obtain ⟨r, rfl, hs'⟩ := h.unbase (σ' := σ.pinned.put d v) rfl hs
  have hlen := hs.len
  have : (σ.pinned.put d v).H.length = σ.H.length := rfl
  rw [this, List.length_append, h.len] at hlen
  have : r = [] := List.eq_nil_of_length_eq_zero (by omega)
  subst this
  rw [List.append_nil] at hs'
  exact hK _ _ hs'
end
/-! ### one step of the middle: a slot, an object at the tag kept free for it, one that is used up -/
structure Up where
  d : Nat
  v : AV
  obj : Option AObj
  kill : Option Nat
def makeH (t : Nat) : Option AObj → List AObj → List AObj
  | none, H => H
  | some o, H => H.set t o
def AState.up (σ : AState) (t : Nat) (u : Up) : AState := { n := σ.n, slots := (u.d, u.v) :: σ.slots, H := makeH t u.obj (killH u.kill σ.H), pin := σ.pin }
/-- in 'σ', of whose objects 'V' are looked at, operation 'o' does 'u'; 'tg': the tag kept for it; 'ks': what it may use up -/
def mY (P : Program) (T : Tab) (ops : Array Oper) (V : List AObj) (tg : Nat) (ks : List Nat) (o : Oper) (u : Up) (σ : AState) : Prop :=
  (u.obj = none ∧ u.kill = none ∧ dYS P T ops o u.d u.v (σ.at V)) ∨
  (o.guard = none ∧ o.dst = some u.d ∧ u.d < σ.n ∧ (∀ k, u.kill = some k → k ∈ ks) ∧ ∃ p obj, aVal P T o p obj u.kill (σ.at V) ∧ obj.tagsLt 0 = true ∧ ((u.v = hdl p tg ∧ u.obj = some obj) ∨ ∃ e sz rows, p = .own ∧ obj = .row e sz rows ∧ u.v = .one (.list rows) ∧ u.obj = none))
/-- the tag 't' is kept free -/
structure Free (σ : AState) (β : List Value) (t : Nat) : Prop where
  gone : σ.H[t]? = some .gone
  dum : β[t]? = some dummy
  pin : σ.pin ≤ t
section
variable {P : Program} {T : Tab} {W0 w : World} {M0 : Nat → Prop} {F β : List Value} {σ τ : AState} {a : Act} {ops : Array Oper} {V : List AObj} {Kc : Act → World → Prop} {Q : Exit → Act → World → Prop}
theorem mY_dst {tg : Nat} {ks : List Nat} {o : Oper} {u : Up} (h : mY P T ops V tg ks o u σ) : o.dst = some u.d := by
  rcases h with ⟨_, _, h⟩ | ⟨_, h, _⟩
  · exact h.1
  · exact h
theorem mY_agree {tg : Nat} {ks : List Nat} {o : Oper} {u : Up} (hn : σ.n = τ.n) (hs : ∀ i, i ∈ o.looksAt ops → lookS σ.slots i = lookS τ.slots i) (h : mY P T ops V tg ks o u σ) : mY P T ops V tg ks o u τ := by
  have ha : Agree ops o (σ.at V) (τ.at V) := ⟨hn, rfl, hs⟩
  rcases h with ⟨h1, h2, h3⟩ | ⟨h1, h2, h3, h4, p, obj, h5, h6⟩
  · exact .inl ⟨h1, h2, dYS_agree ha h3⟩
  · exact .inr ⟨h1, h2, by rw [← hn]; exact h3, h4, p, obj, aVal_agree ha h5, h6⟩
theorem mY_sound (hT : TabOk P T) {o : Oper} {u : Up} {t : Nat} {ks : List Nat} (h : Sim W0 M0 F σ a w β) (hx : Ext V σ.H) (hfu : u.obj ≠ none → Free σ β t) (hks : ∀ k ∈ ks, σ.pin ≤ k ∧ k ≠ t) (hm : mY P T ops V t ks o u σ)
    (hK : ∀ a' w' β', Sim W0 M0 F (σ.up t u) a' w' β' → (∀ s, (u.obj = none ∨ s ≠ t) → (∀ k, u.kill = some k → s ≠ k) → β[s]? = some dummy → β'[s]? = some dummy) → Kc a' w') :
    if Region.wanted o (yielded ops a.tmps) = true then o.wp P a w Kc Q else Kc (a.put o.dst undef) w := by
  rcases hm with ⟨h1, h2, h3⟩ | ⟨h1, h2, h3, h4, p, obj, h5, h6, h7⟩
  · have h3' : dY P T ops o u.d u.v σ := dYS_y (dYS_ext (σ := σ.at V) (H' := σ.H) hx h3)
    refine dY_keep (Q := Q) hT h h3' fun a' w' hs => ?_
    have e : σ.up t u = σ.put u.d u.v := by unfold AState.up; rw [h1, h2]; rfl
    exact hK a' w' β (by rw [e]; exact hs) fun s _ _ hf => hf
  · have h5' : aVal P T o p obj u.kill σ := aVal_ext (σ := σ.at V) (H' := σ.H) hx h5
    rw [if_pos (by simp [Region.wanted, h1])]
    refine aVal_sound hT h h2 h3 (fun k hk => (hks k (h4 k hk)).1) h5' fun a' w' x hs => ?_
    have base : Sim W0 M0 F { n := σ.n, slots := σ.slots, H := killH u.kill σ.H, pin := σ.pin } a w (killB u.kill β) := by
      cases hk : u.kill with
      | none => exact h
      | some k => exact h.kill (hks k (h4 k hk)).1
    have keepD : ∀ s, (∀ k, u.kill = some k → s ≠ k) → β[s]? = some dummy → (killB u.kill β)[s]? = some dummy := fun s hsk hfs => by
      cases hk : u.kill with
      | none => exact hfs
      | some k =>
        show (β.set k dead)[s]? = _
        rw [List.getElem?_set_ne (Ne.symm (hsk k hk))]; exact hfs
    rcases h7 with ⟨h7, h8⟩ | ⟨e, sz, rows, rfl, rfl, h7, h8⟩
    · have hf : Free σ β t := hfu (by rw [h8]; simp)
      have hd : (killB u.kill β)[t]? = some dummy := keepD t (fun k hk => (hks k (h4 k hk)).2.symm) hf.dum
      have hs2 := base.move (d := u.d) (p := p) (obj := obj) (hd := x) hd hf.pin h6 (by
        show Sim W0 M0 F ⟨σ.n, (u.d, hdl p (killH u.kill σ.H).length) :: σ.slots, killH u.kill σ.H ++ [obj], σ.pin⟩ a' w' _
        rw [killH_length]; exact hs)
      have e : σ.up t u = { n := σ.n, slots := (u.d, hdl p t) :: σ.slots, H := (killH u.kill σ.H).set t obj, pin := σ.pin } := by unfold AState.up; rw [h8, h7]; rfl
      refine hK a' w' _ (by rw [e]; exact hs2) fun s hst hsk hfs => ?_
      have hst' : s ≠ t := hst.resolve_left (by rw [h8]; simp)
      rw [List.getElem?_set_ne (Ne.symm hst')]
      exact keepD s hsk hfs
    · have hs2 := base.popFrozen (d := u.d) (e := e) (sz := sz) (rows := rows) (hd := x) (by
        show Sim W0 M0 F ⟨σ.n, (u.d, .one (.own (killH u.kill σ.H).length)) :: σ.slots, killH u.kill σ.H ++ [.row e sz rows], σ.pin⟩ a' w' _
        rw [killH_length]; exact hs)
      have e : σ.up t u = { n := σ.n, slots := (u.d, .one (.list rows)) :: σ.slots, H := killH u.kill σ.H, pin := σ.pin } := by unfold AState.up; rw [h8, h7]; rfl
      exact hK a' w' _ (by rw [e]; exact hs2) fun s _ hsk hfs => keepD s hsk hfs
end
end Go.Eng
