/-
  The abstract machine: every order of the middle of a region leaves the same state.
-/
import Derived.Test.YtjldfifepbdlmaaDoorEngN5
set_option linter.unusedSimpArgs false
set_option linter.unusedVariables false
namespace Go.Eng
open Go.RowKit

/-! ### which operation waits for which, at last -/
inductive Anc (md : Region.Mode) (ops : Array Oper) : Nat → Nat → Prop
  | one {j i : Nat} : Region.waitsFor md ops j i = true → Anc md ops j i
  | more {j k i : Nat} : Region.waitsFor md ops j k = true → Anc md ops k i → Anc md ops j i
def Closed (md : Region.Mode) (ops : Array Oper) (listed : Array Bool) : Prop := ∀ j oj, ops[j]? = some oj → listed.getD j false = true → ∀ e ∈ oj.after, Region.binds md e = true → listed.getD e.on false = true
section
variable {md : Region.Mode} {ops : Array Oper} {listed : Array Bool}
theorem waits_listed (hc : Closed md ops listed) {j i : Nat} (h : Region.waitsFor md ops j i = true) (hj : listed.getD j false = true) : listed.getD i false = true := by
  obtain ⟨oj, hoj, e, he, hb, rfl⟩ := Region.waitsFor_spec h
  exact hc j oj hoj hj e he hb
theorem Anc.lst (hc : Closed md ops listed) {j i : Nat} (h : Anc md ops j i) : listed.getD j false = true → listed.getD i false = true := by
  induction h with
  | one h => exact waits_listed hc h
  | more h _ ih => exact fun hj => ih (waits_listed hc h hj)
theorem waits_ready {j i : Nat} (h : Region.waitsFor md ops j i = true) (hj : j ∈ Region.ready md ops listed) : listed.getD i false = true := by
  obtain ⟨oj, hoj, e, he, hb, rfl⟩ := Region.waitsFor_spec h
  obtain ⟨_, o, ho, hall⟩ := mem_ready.1 hj
  have : o = oj := Option.some.inj (ho.symm.trans hoj)
  subst this
  exact hall e he hb
theorem Anc.ready (hc : Closed md ops listed) {j i : Nat} (h : Anc md ops j i) (hj : j ∈ Region.ready md ops listed) : listed.getD i false = true := by
  cases h with
  | one h => exact waits_ready h hj
  | more h h2 => exact h2.lst hc (waits_ready h hj)
theorem Closed.set (hc : Closed md ops listed) {i : Nat} (hi : i ∈ Region.ready md ops listed) : Closed md ops (listed.setIfInBounds i true) := by
  obtain ⟨_, oi, hoi, hall⟩ := mem_ready.1 hi
  intro j oj hj hl e he hb
  by_cases hij : i = j
  · subst hij
    have : oj = oi := Option.some.inj (hj.symm.trans hoi)
    subst this
    exact getD_set_true (hall e he hb)
  · rw [getD_set_ne false hij] at hl
    exact getD_set_true (hc j oj hj hl e he hb)
end
def ancUp (md : Region.Mode) (ops : Array Oper) (i : Nat) : List (Nat × List Nat) → List Nat
  | [] => []
  | jp :: A => bif Region.waitsFor md ops i jp.1 then jp.1 :: (jp.2 ++ ancUp md ops i A) else ancUp md ops i A
def ancFrom (md : Region.Mode) (ops : Array Oper) : List Nat → List (Nat × List Nat) → List (Nat × List Nat)
  | [], A => A
  | i :: is, A => ancFrom md ops is ((i, ancUp md ops i A) :: A)
def ancOf : List (Nat × List Nat) → Nat → List Nat
  | [], _ => []
  | jp :: A, j => if jp.1 = j then jp.2 else ancOf A j
def ancB (A : List (Nat × List Nat)) (j i : Nat) : Bool := memN i (ancOf A j)
def AncOk (md : Region.Mode) (ops : Array Oper) (A : List (Nat × List Nat)) : Prop := ∀ jp ∈ A, ∀ i ∈ jp.2, Anc md ops jp.1 i
section
variable {md : Region.Mode} {ops : Array Oper}
theorem ancUp_ok (i : Nat) : ∀ (A : List (Nat × List Nat)), AncOk md ops A → ∀ k ∈ ancUp md ops i A, Anc md ops i k
  | [], _, k, hk => by cases hk
  | jp :: A, h, k, hk => by
    simp only [ancUp] at hk
    cases hw : Region.waitsFor md ops i jp.1 with
    | false => rw [hw] at hk; exact ancUp_ok i A (fun x hx => h x (by simp [hx])) k hk
    | true =>
      rw [hw] at hk
      simp only [cond_true, List.mem_cons, List.mem_append] at hk
      rcases hk with rfl | hk | hk
      · exact .one hw
      · exact .more hw (h jp (by simp) k hk)
      · exact ancUp_ok i A (fun x hx => h x (by simp [hx])) k hk
theorem ancFrom_ok : ∀ (is : List Nat) (A : List (Nat × List Nat)), AncOk md ops A → AncOk md ops (ancFrom md ops is A)
  | [], _, h => h
  | i :: is, A, h => ancFrom_ok is _ fun jp hjp k hk => by
    simp only [List.mem_cons] at hjp
    rcases hjp with rfl | hjp
    · exact ancUp_ok i A h k hk
    · exact h jp hjp k hk
theorem ancOf_mem : ∀ (A : List (Nat × List Nat)) (j : Nat), ancOf A j = [] ∨ (j, ancOf A j) ∈ A
  | [], _ => .inl rfl
  | jp :: A, j => by
    simp only [ancOf]
    split
    · rename_i h; right; simp [← h]
    · exact (ancOf_mem A j).imp id fun h => by simp [h]
theorem ancB_ok {A : List (Nat × List Nat)} (hA : AncOk md ops A) {j i : Nat} (h : ancB A j i = true) : Anc md ops j i := by
  have hm := memN_iff.1 h
  rcases ancOf_mem A j with h0 | h0
  · rw [h0] at hm; cases hm
  · exact hA _ h0 i hm
end

/-! ### the plan of a middle -/
/-- an operation of the middle: its number, its tag, does it make an object, is it taken as soon as it may come, is what it makes frozen, what it may not look at, what it may use up (tags counted from the first that is kept free) -/
structure PE where
  i : Nat
  c : Nat
  mkr : Bool
  tk : Bool
  fz : Bool
  hs : List Nat
  ks : List Nat
structure Ent where
  e : PE
  u : Up
def hideH : List Nat → List AObj → List AObj
  | [], H => H
  | t :: ts, H => hideH ts (H.set t .gone)
theorem hideH_get : ∀ (ts : List Nat) (H : List AObj) (t : Nat) (o : AObj), (hideH ts H)[t]? = some o → o ≠ .gone → H[t]? = some o ∧ t ∉ ts
  | [], _, _, _, h, _ => ⟨h, by simp⟩
  | s :: ts, H, t, o, h, hg => by
    obtain ⟨h1, h2⟩ := hideH_get ts _ t o h hg
    by_cases hst : s = t
    · subst hst
      rw [List.getElem?_set_self (by have := (List.getElem?_eq_some_iff.1 h1).1; simpa using this)] at h1
      cases h1; exact absurd rfl hg
    · rw [List.getElem?_set_ne hst] at h1
      exact ⟨h1, by simp only [List.mem_cons, not_or]; exact ⟨fun e => hst e.symm, h2⟩⟩
def mkB : Op → Bool
  | .alloc _ => true
  | .box .. => true
  | .makeSlice .. => true
  | .makeMap .. => true
  | .call c => match c.callee with | .value _ => true | .builtin .append => true | _ => false
  | _ => false
theorem aVal_mk {P : Program} {T : Tab} {o : Oper} {p : HdK} {obj : AObj} {kill : Option Nat} {σ : AState} (h : aVal P T o p obj kill σ) : mkB o.op = true := by
  unfold aVal at h
  split at h
  · rename_i ho; rw [ho]; rfl
  · rename_i ho; rw [ho]; rfl
  · rename_i ho; rw [ho]; rfl
  · rename_i ho; rw [ho]; rfl
  · rename_i c ho
    rw [ho]
    split at h
    · rename_i hc; simp [mkB, hc]
    · rename_i hc; simp [mkB, hc]
    · exact h.elim
  · exact h.elim
def AState.reserve (σ : AState) (m : Nat) : AState := { n := σ.n, slots := σ.slots, H := σ.H ++ List.replicate m .gone, pin := σ.pin }

/-! ### what the state is when the operations 'S' have been carried out, in whatever order -/
structure JS (n0 : Nat) (σ0 : AState) (L : List Ent) (S : Nat → Prop) (σ : AState) : Prop where
  n : σ.n = σ0.n
  pin : σ.pin = σ0.pin
  len : σ.H.length = σ0.H.length
  done : ∀ x ∈ L, S x.e.i → lookS σ.slots x.u.d = some x.u.v
  rest : ∀ s, (∀ x ∈ L, S x.e.i → x.u.d ≠ s) → lookS σ.slots s = lookS σ0.slots s
  old : ∀ t, t < n0 → σ.H[t]? = σ0.H[t]?
  made : ∀ x ∈ L, S x.e.i → ∀ o, x.u.obj = some o → (∀ y ∈ L, S y.e.i → y.u.kill ≠ some (n0 + x.e.c)) → σ.H[n0 + x.e.c]? = some o
  new : ∀ t o, n0 ≤ t → σ.H[t]? = some o → o = .gone ∨ ∃ x ∈ L, S x.e.i ∧ t = n0 + x.e.c ∧ x.u.obj = some o ∧ ∀ y ∈ L, S y.e.i → y.u.kill ≠ some t
/-- what the plan promises -/
structure PlanOk (md : Region.Mode) (ops : Array Oper) (n0 : Nat) (len : Nat) (L : List Ent) : Prop where
  dst : ∀ x ∈ L, ∀ y ∈ L, x.u.d = y.u.d → x = y
  idx : ∀ x ∈ L, ∀ y ∈ L, x.e.i = y.e.i → x = y
  tag : ∀ x ∈ L, ∀ y ∈ L, x.e.mkr = true → y.e.mkr = true → x.e.c = y.e.c → x = y
  made : ∀ x ∈ L, x.u.obj ≠ none → x.e.mkr = true
  room : ∀ x ∈ L, n0 + x.e.c < len ∨ x.u.obj = none
  kill : ∀ x ∈ L, ∀ k, x.u.kill = some k → ∃ y ∈ L, k = n0 + y.e.c ∧ y.e.mkr = true ∧ y ≠ x ∧ Anc md ops x.e.i y.e.i
section
variable {md : Region.Mode} {ops : Array Oper} {n0 : Nat} {σ0 σ τ : AState} {L : List Ent} {S : Nat → Prop}
theorem makeH_get {t s : Nat} {o : Option AObj} {H : List AObj} (h : o = none ∨ s ≠ t) : (makeH t o H)[s]? = H[s]? := by
  cases o with
  | none => rfl
  | some x => exact List.getElem?_set_ne (Ne.symm (h.resolve_left (by simp)))
theorem killH_get {k : Option Nat} {s : Nat} {H : List AObj} (h : k ≠ some s) : (killH k H)[s]? = H[s]? := by
  cases k with
  | none => rfl
  | some x => exact List.getElem?_set_ne (fun e => h (by rw [e]))
theorem makeH_length (t : Nat) (o : Option AObj) (H : List AObj) : (makeH t o H).length = H.length := by cases o <;> simp [makeH]
theorem JS.congr {S' : Nat → Prop} (h : JS n0 σ0 L S σ) (hS : ∀ x ∈ L, S x.e.i ↔ S' x.e.i) : JS n0 σ0 L S' σ :=
  ⟨h.n, h.pin, h.len, fun x hx hs => h.done x hx ((hS x hx).2 hs), fun s hs => h.rest s fun x hx hs' => hs x hx ((hS x hx).1 hs'), h.old,
    fun x hx hs o ho hk => h.made x hx ((hS x hx).2 hs) o ho fun y hy hy' => hk y hy ((hS y hy).1 hy'),
    fun t o ht ho => (h.new t o ht ho).imp id fun ⟨x, hx, h1, h2, h3, h4⟩ => ⟨x, hx, (hS x hx).1 h1, h2, h3, fun y hy hy' => h4 y hy ((hS y hy).2 hy')⟩⟩
theorem JS.init (hr : ∀ t o, n0 ≤ t → σ0.H[t]? = some o → o = .gone) : JS n0 σ0 L (fun _ => False) σ0 :=
  ⟨rfl, rfl, rfl, fun _ _ h => h.elim, fun _ _ => rfl, fun _ _ => rfl, fun _ _ h => h.elim, fun t o ht ho => .inl (hr t o ht ho)⟩
theorem JS.step (G : PlanOk md ops n0 σ0.H.length L) (h : JS n0 σ0 L S σ) {x : Ent} (hx : x ∈ L) (hn : ¬ S x.e.i) (hpre : ∀ y ∈ L, Anc md ops x.e.i y.e.i → S y.e.i) (hcl : ∀ y ∈ L, S y.e.i → ∀ z ∈ L, Anc md ops y.e.i z.e.i → S z.e.i) :
    JS n0 σ0 L (fun i => S i ∨ i = x.e.i) (σ.up (n0 + x.e.c) x.u) := by
  have isx : ∀ y ∈ L, y.e.i = x.e.i → y = x := fun y hy e => G.idx y hy x hx e
  refine ⟨h.n, h.pin, ?_, fun y hy hs => ?_, fun s hs => ?_, fun t ht => ?_, fun y hy hs o ho hk => ?_, fun t o ht ho => ?_⟩
  · show (makeH _ _ (killH _ _)).length = _
    rw [makeH_length, killH_length, h.len]
  · show lookS ((x.u.d, x.u.v) :: σ.slots) y.u.d = _
    simp only [lookS]
    split
    · rename_i e
      rw [G.dst x hx y hy e]
    · rename_i hne
      rcases hs with hs | hs
      · exact h.done y hy hs
      · exact absurd (by rw [isx y hy hs]) hne
  · show lookS ((x.u.d, x.u.v) :: σ.slots) s = _
    simp only [lookS]
    rw [if_neg (hs x hx (.inr rfl))]
    exact h.rest s fun y hy hs' => hs y hy (.inl hs')
  · show (makeH _ _ (killH _ _))[t]? = _
    rw [makeH_get (.inr (by omega)), killH_get, h.old t ht]
    intro e
    obtain ⟨y, _, rfl, _⟩ := G.kill x hx _ e
    omega
  · show (makeH _ _ (killH _ _))[n0 + y.e.c]? = _
    by_cases hyx : y = x
    · subst hyx
      rw [ho]
      have := (G.room y hy).resolve_right (by rw [ho]; simp)
      exact List.getElem?_set_self (by rw [killH_length, h.len]; exact this)
    · have hsy : S y.e.i := hs.resolve_right fun e => hyx (isx y hy e)
      rw [makeH_get, killH_get]
      · exact h.made y hy hsy o ho fun z hz hz' => hk z hz (.inl hz')
      · exact hk x hx (.inr rfl)
      · cases hxo : x.u.obj with
        | none => exact .inl rfl
        | some o' => exact .inr fun e => hyx (G.tag y hy x hx (G.made y hy (by rw [ho]; simp)) (G.made x hx (by rw [hxo]; simp)) (by omega))
  · have ho' : (makeH (n0 + x.e.c) x.u.obj (killH x.u.kill σ.H))[t]? = some o := ho
    by_cases hxo : x.u.obj = none ∨ t ≠ n0 + x.e.c
    · rw [makeH_get hxo] at ho'
      by_cases hkt : x.u.kill = some t
      · left
        rw [hkt] at ho'
        have hl := (List.getElem?_eq_some_iff.1 ho').1
        rw [show killH (some t) σ.H = σ.H.set t .gone from rfl, List.getElem?_set_self (by simpa [killH] using hl)] at ho'
        cases ho'; rfl
      · rw [killH_get hkt] at ho'
        refine (h.new t o ht ho').imp id fun ⟨y, hy, h1, h2, h3, h4⟩ => ⟨y, hy, .inl h1, h2, h3, fun z hz hz' => ?_⟩
        rcases hz' with hz' | hz'
        · exact h4 z hz hz'
        · rw [isx z hz hz']; exact hkt
    · have hxn : x.u.obj ≠ none := fun e => hxo (.inl e)
      have htx : t = n0 + x.e.c := Classical.byContradiction fun e => hxo (.inr e)
      right
      refine ⟨x, hx, .inr rfl, htx, ?_, fun z hz hz' hzk => ?_⟩
      · cases hob : x.u.obj with
        | none => exact absurd hob hxn
        | some o' =>
          rw [hob, htx] at ho'
          have hl : n0 + x.e.c < (killH x.u.kill σ.H).length := by
            have := (List.getElem?_eq_some_iff.1 ho').1
            rwa [makeH_length] at this
          rw [show makeH (n0 + x.e.c) (some o') (killH x.u.kill σ.H) = (killH x.u.kill σ.H).set (n0 + x.e.c) o' from rfl, List.getElem?_set_self hl] at ho'
          exact ho'
      · obtain ⟨y, hy, e1, e2, e3, e4⟩ := G.kill z hz _ hzk
        have hyx : y = x := G.tag y hy x hx e2 (G.made x hx hxn) (by omega)
        subst hyx
        rcases hz' with hz' | hz'
        · exact hn (hcl z hz hz' y hy e4)
        · exact e3 (isx z hz hz').symm
theorem JS.like (h : JS n0 σ0 L S σ) (k : JS n0 σ0 L S τ) : Like σ τ := by
  have half : ∀ (σ τ : AState), JS n0 σ0 L S σ → JS n0 σ0 L S τ → ∀ (t : Nat) (o : AObj), σ.H[t]? = some o → o ≠ .gone → τ.H[t]? = some o := by
    intro σ τ h k t o ho hg
    by_cases ht : t < n0
    · rw [k.old t ht, ← h.old t ht]; exact ho
    · rcases h.new t o (by omega) ho with h0 | ⟨x, hx, h1, rfl, h3, h4⟩
      · exact absurd h0 hg
      · exact k.made x hx h1 o h3 h4
  refine ⟨h.n.trans k.n.symm, List.ext_getElem? fun t => ?_, h.pin.trans k.pin.symm, fun s => ?_⟩
  · have hlen : σ.H.length = τ.H.length := h.len.trans k.len.symm
    by_cases ht : t < σ.H.length
    · have e1 := List.getElem?_eq_getElem ht
      have e2 := List.getElem?_eq_getElem (hlen ▸ ht : t < τ.H.length)
      by_cases g1 : σ.H[t] = .gone
      · by_cases g2 : τ.H[t]'(hlen ▸ ht) = .gone
        · rw [e1, e2, g1, g2]
        · rw [half τ σ k h t _ e2 g2, e2]
      · rw [half σ τ h k t _ e1 g1, e1]
    · rw [List.getElem?_eq_none (by omega), List.getElem?_eq_none (by omega)]
  · by_cases hs : ∃ x ∈ L, S x.e.i ∧ x.u.d = s
    · obtain ⟨x, hx, h1, rfl⟩ := hs
      rw [h.done x hx h1, k.done x hx h1]
    · have hs' : ∀ x ∈ L, S x.e.i → x.u.d ≠ s := fun x hx h1 h2 => hs ⟨x, hx, h1, h2⟩
      rw [h.rest s hs', k.rest s hs']
end
/-- what is known of an operation of the middle: it was seen once, at some state -/
structure Seen (P : Program) (T : Tab) (md : Region.Mode) (ops : Array Oper) (n0 : Nat) (σ0 : AState) (L : List Ent) (x : Ent) : Prop where
  out : ∃ (o : Oper) (σx : AState) (Sx : Nat → Prop), ops[x.e.i]? = some o ∧ JS n0 σ0 L Sx σx ∧ mY P T ops (hideH (x.e.hs.map (n0 + ·)) σx.H) (n0 + x.e.c) (x.e.ks.map (n0 + ·)) o x.u σx ∧
    (∀ s ∈ o.looksAt ops, ∀ y ∈ L, y.u.d = s → Sx y.e.i ∧ Region.waitsFor md ops x.e.i y.e.i = true) ∧
    (∀ y ∈ L, Sx y.e.i → y.e.mkr = true → y.e.c ∉ x.e.hs → Anc md ops x.e.i y.e.i ∧ ∀ z ∈ L, z.u.kill = some (n0 + y.e.c) → z = x ∨ Anc md ops z.e.i x.e.i)
section
variable {P : Program} {T : Tab} {W0 w : World} {M0 : Nat → Prop} {F β : List Value} {σ τ σ0 : AState} {a : Act} {md : Region.Mode} {ops : Array Oper} {Q : Exit → Act → World → Prop} {L : List Ent} {n0 : Nat}
/-- what was seen once holds now -/
theorem Seen.now {S : Nat → Prop} (G : PlanOk md ops n0 σ0.H.length L) {x : Ent} (hx : x ∈ L) (hs : Seen P T md ops n0 σ0 L x) (h : JS n0 σ0 L S σ) (hn : ¬ S x.e.i) (hw : ∀ y ∈ L, Anc md ops x.e.i y.e.i → S y.e.i) (hcl : ∀ y ∈ L, S y.e.i → ∀ z ∈ L, Anc md ops y.e.i z.e.i → S z.e.i) :
    ∃ (o : Oper) (V : List AObj), ops[x.e.i]? = some o ∧ Ext V σ.H ∧ mY P T ops V (n0 + x.e.c) (x.e.ks.map (n0 + ·)) o x.u σ := by
  obtain ⟨o, σx, Sx, ho, hj, hm, hl, hv⟩ := hs.out
  refine ⟨o, _, ho, ?_, mY_agree (hj.n.trans h.n.symm) (fun s hs => ?_) hm⟩
  · intro t ob ht hg
    obtain ⟨h1, h2⟩ := hideH_get _ _ _ _ ht hg
    by_cases hlt : t < n0
    · rw [h.old t hlt, ← hj.old t hlt]; exact h1
    · rcases hj.new t ob (by omega) h1 with h0 | ⟨y, hy, k1, rfl, k3, k4⟩
      · exact absurd h0 hg
      · have hmk := G.made y hy (by rw [k3]; simp)
        obtain ⟨q1, q2⟩ := hv y hy k1 hmk fun hin => h2 (List.mem_map.2 ⟨_, hin, rfl⟩)
        refine h.made y hy (hw y hy q1) ob k3 fun z hz hzs hzk => ?_
        rcases q2 z hz hzk with rfl | hanc
        · exact hn hzs
        · exact hn (hcl z hz hzs x hx hanc)
  · by_cases hd : ∃ y ∈ L, y.u.d = s
    · obtain ⟨y, hy, hys⟩ := hd
      obtain ⟨q1, q2⟩ := hl s hs y hy hys
      subst hys
      rw [hj.done y hy q1, h.done y hy (hw y hy (.one q2))]
    · have hd' : ∀ y ∈ L, y.u.d ≠ s := fun y hy e => hd ⟨y, hy, e⟩
      rw [hj.rest s fun y hy _ => hd' y hy, h.rest s fun y hy _ => hd' y hy]
/-- it yields the same in every world -/
def takeB (o : Oper) : Bool := o.guard.isNone && match o.op with | .move _ => true | .assign _ => true | .extract .. => true | .fieldAddr .. => true | _ => false
theorem take_sound (hT : TabOk P T) {V : List AObj} {o : Oper} {u : Up} {t : Nat} {ks : List Nat} (h : Sim W0 M0 F σ a w β) (hx : Ext V σ.H) (htk : takeB o = true) (hm : mY P T ops V t ks o u σ) : ∃ x, Yields P ops o x a ∧ Sim W0 M0 F (σ.up t u) (a.put o.dst x) w β := by
  simp only [takeB, Bool.and_eq_true, Option.isNone_iff_eq_none] at htk
  obtain ⟨hg, hop⟩ := htk
  have hw : Region.wanted o (yielded ops a.tmps) = true := by simp [Region.wanted, hg]
  rcases hm with ⟨h1, h2, h3⟩ | ⟨_, _, _, _, p, obj, h5, _⟩
  · have h3' : dYS P T ops o u.d u.v σ := dYS_ext (σ := σ.at V) (H' := σ.H) hx h3
    obtain ⟨hd, hdn, hv⟩ := h3'
    rw [hg] at hv
    have e : σ.up t u = σ.put u.d u.v := by unfold AState.up; rw [h1, h2]; rfl
    rw [e, hd]
    simp only at hv
    unfold dValS at hv
    split at hv
    · rename_i ho; rw [ho] at hop; cases hop
    · rename_i ho; rw [ho] at hop; cases hop
    · obtain ⟨hn, hav, hve⟩ := hv
      rw [hve]
      split at hop
      · rename_i x ho
        rw [ho] at hn ⊢
        exact ⟨a.eval x, .inl ⟨hw, fun w' => by simp [execOp, ho]⟩, h.put hdn (h.evs (needs_mem _ _ hn x (by simp [Op.operands])))⟩
      · rename_i x ho
        rw [ho] at hn ⊢
        exact ⟨a.eval x, .inl ⟨hw, fun w' => by simp [execOp, ho]⟩, h.put hdn (h.evs (needs_mem _ _ hn x (by simp [Op.operands])))⟩
      · rename_i x i ho
        rw [ho] at hn hav ⊢
        have hr := h.evs (needs_mem _ _ hn x (by simp [Op.operands]))
        simp only [aval] at hav ⊢
        unfold extractV at hav ⊢
        split at hav
        · rename_i vs hev
          rw [hev] at hr
          obtain ⟨us, hus, hl⟩ := hr
          have hgv := RepVL.get vs us hl
          have hlt : i < us.length := by rw [← hgv.1]; exact hav
          exact ⟨us.getD i undef, .inl ⟨hw, fun w' => by simp [execOp, ho, hus, Instr.extract, List.getElem?_eq_getElem hlt]⟩, h.put hdn (hgv.2 i _ _ (getD_some hav _) (getD_some hlt _))⟩
        · exact hav.elim
      · rename_i t' x f ho
        rw [ho] at hn hav ⊢
        obtain ⟨y, k1, k2⟩ := fieldAddrV_yields (P := P) hT h.objs t' f _ _ (h.evs (needs_mem _ _ hn x (by simp [Op.operands]))) hav
        exact ⟨y, .inl ⟨hw, fun w' => by simp [execOp, ho, k1]⟩, h.put hdn k2⟩
      · cases hop
  · exfalso
    unfold aVal at h5
    split at hop
    · rename_i ho; rw [ho] at h5; exact h5
    · rename_i ho; rw [ho] at h5; exact h5
    · rename_i ho; rw [ho] at h5; exact h5
    · rename_i ho; rw [ho] at h5; exact h5
    · cases hop
/-- what is listed while 'rem' of the middle are not -/
structure Mid (md : Region.Mode) (ops : Array Oper) (L : List Ent) (later : List Nat) (LF : Array Bool) (rem : List Nat) (listed : Array Bool) : Prop where
  size : listed.size = ops.size
  closed : Closed md ops listed
  look : ∀ j, listed.getD j true = if j ∈ rem then false else LF.getD j true
  cover : ∀ j, j < ops.size → listed.getD j true = false → j ∈ rem ∨ j ∈ later
theorem mid_run (hT : TabOk P T) (hsel : Region.noSelect ops = true) (hQp : ∀ c a w, ¬ Q (.panic c) a w) {later : List Nat} {LF : Array Bool} {g : Nat} (G : PlanOk md ops n0 σ0.H.length L) (hseen : ∀ x ∈ L, Seen P T md ops n0 σ0 L x) (hpin : σ0.pin ≤ n0)
    (hLF : LF.size = ops.size) (hin : ∀ x ∈ L, x.e.i < ops.size ∧ LF.getD x.e.i true = true) (hlater : ∀ t ∈ later, ∀ x ∈ L, x.e.tk = false → Anc md ops t x.e.i)
    (htk : ∀ x ∈ L, x.e.tk = true → ∃ o, ops[x.e.i]? = some o ∧ takeB o = true ∧ ∀ j, (j ∈ later ∨ ∃ y ∈ L, y.e.i = j) → j = x.e.i ∨ Region.waitsFor md ops j x.e.i = true ∨ Anc md ops x.e.i j ∨ ∀ oj, ops[j]? = some oj → o.apart ops oj = true)
    (hfirst : ∀ rem listed, rem ≠ [] → (∀ i ∈ rem, ∃ x ∈ L, x.e.i = i) → Mid md ops L later LF rem listed → ∃ i ∈ rem, i ∈ Region.ready md ops listed)
    (hks : ∀ x ∈ L, ∀ c ∈ x.e.ks, c ≠ x.e.c)
    (hend : ∀ σ a w, JS n0 σ0 L (fun _ => True) σ → SimS W0 M0 F σ a w → wpAny P md ops Q g LF a w) :
    ∀ (f : Nat) (rem : List Nat) (listed : Array Bool) (σ : AState) (a : Act) (w : World) (β : List Value), rem.length = f → rem.Nodup → (∀ i ∈ rem, ∃ x ∈ L, x.e.i = i) → Sim W0 M0 F σ a w β → JS n0 σ0 L (fun i => i ∉ rem) σ →
      (∀ x ∈ L, x.e.i ∈ rem → x.e.mkr = true → β[n0 + x.e.c]? = some dummy) → Mid md ops L later LF rem listed → wpAny P md ops Q (f + g) listed a w := by
  intro f
  induction f with
  | zero =>
    intro rem listed σ a w β hl hnd hrem hs hj _ hm
    have h0 : rem = [] := List.eq_nil_of_length_eq_zero hl
    subst h0
    have : listed = LF := by
      apply Array.ext_getElem?
      intro j
      have hlook := hm.look j
      simp only [List.not_mem_nil, if_false] at hlook
      by_cases hjs : j < ops.size
      · have h1 : j < listed.size := by rw [hm.size]; exact hjs
        have h2 : j < LF.size := by rw [hLF]; exact hjs
        simp [h1, h2] at hlook ⊢
        exact hlook
      · rw [Array.getElem?_eq_none (by rw [hm.size]; omega), Array.getElem?_eq_none (by rw [hLF]; omega)]
    rw [this, Nat.zero_add]
    exact hend σ a w (hj.congr fun x _ => by simp) ⟨β, hs⟩
  | succ f ih =>
    intro rem listed σ a w β hl hnd hrem hs hj hdum hm
    rw [show f + 1 + g = (f + g) + 1 by omega]
    have hne : rem ≠ [] := by intro e; rw [e] at hl; simp at hl
    have unl : ∀ j ∈ rem, listed.getD j true = false := fun j hj => by rw [hm.look j, if_pos hj]
    have lst : ∀ x ∈ L, x.e.i ∉ rem → listed.getD x.e.i false = true := fun x hx hr => by
      have h1 := hm.look x.e.i
      rw [if_neg hr, (hin x hx).2] at h1
      have h2 : x.e.i < listed.size := by rw [hm.size]; exact (hin x hx).1
      simp [h2] at h1 ⊢
      exact h1
    have unl2 : ∀ x ∈ L, listed.getD x.e.i false = true → x.e.i ∉ rem := fun x hx h1 h2 => by
      rw [getD_both (unl _ h2)] at h1; cases h1
    have next : ∀ x ∈ L, x.e.i ∈ rem → x.e.i ∈ Region.ready md ops listed → ∀ a' w' β', Sim W0 M0 F (σ.up (n0 + x.e.c) x.u) a' w' β' → (∀ s, (x.u.obj = none ∨ s ≠ n0 + x.e.c) → (∀ k, x.u.kill = some k → s ≠ k) → β[s]? = some dummy → β'[s]? = some dummy) →
        wpAny P md ops Q (f + g) (listed.setIfInBounds x.e.i true) a' w' := by
      intro x hx hir hi a' w' β' hs' hd'
      have his : x.e.i < ops.size := (hin x hx).1
      have hw : ∀ y ∈ L, Anc md ops x.e.i y.e.i → y.e.i ∉ rem := fun y hy ha => unl2 y hy (ha.ready hm.closed hi)
      have hcl : ∀ y ∈ L, y.e.i ∉ rem → ∀ z ∈ L, Anc md ops y.e.i z.e.i → z.e.i ∉ rem := fun y hy hyr z hz ha => unl2 z hz (ha.lst hm.closed (lst y hy hyr))
      have hj' := hj.step G hx (fun h => h hir) hw hcl
      have hmem : ∀ j, j ∈ rem.erase x.e.i ↔ j ≠ x.e.i ∧ j ∈ rem := fun j => hnd.mem_erase_iff
      refine ih (rem.erase x.e.i) _ (σ.up (n0 + x.e.c) x.u) a' w' β' (by rw [List.length_erase_of_mem hir, hl]; rfl) (hnd.erase _) (fun j hjm => hrem j ((hmem j).1 hjm).2) hs' (hj'.congr fun y _ => ?_) (fun y hy hyr hmk => ?_) ⟨by simp [hm.size], hm.closed.set hi, fun j => ?_, fun j hjs hju => ?_⟩
      · rw [hmem]
        constructor
        · rintro (h1 | h1)
          · exact fun h2 => h1 h2.2
          · exact fun h2 => h2.1 h1
        · intro h1
          by_cases h2 : y.e.i ∈ rem
          · exact .inr (Classical.byContradiction fun h3 => h1 ⟨h3, h2⟩)
          · exact .inl h2
      · obtain ⟨k1, k2⟩ := (hmem _).1 hyr
        refine hd' _ ?_ (fun k hk e => ?_) (hdum y hy k2 hmk)
        · by_cases hob : x.u.obj = none
          · exact .inl hob
          · exact .inr fun e => k1 (by rw [G.tag y hy x hx hmk (G.made x hx hob) (by omega)])
        · obtain ⟨z, hz, z1, z2, z3, z4⟩ := G.kill x hx k hk
          have : y = z := G.tag y hy z hz hmk z2 (by omega)
          subst this
          exact hw y hy z4 k2
      · by_cases hjx : x.e.i = j
        · subst hjx
          rw [if_neg (by rw [hmem]; exact fun h => h.1 rfl), (hin x hx).2]
          have : x.e.i < listed.size := by rw [hm.size]; exact his
          simp [this]
        · rw [getD_set_ne true hjx, hm.look j]
          by_cases hjr : j ∈ rem
          · rw [if_pos hjr, if_pos ((hmem j).2 ⟨fun e => hjx e.symm, hjr⟩)]
          · rw [if_neg hjr, if_neg (fun h => hjr ((hmem j).1 h).2)]
      · by_cases hjx : x.e.i = j
        · subst hjx
          have : x.e.i < listed.size := by rw [hm.size]; exact his
          simp [this] at hju
        · rw [getD_set_ne true hjx] at hju
          rcases hm.cover j hjs hju with h | h
          · exact .inl ((hmem j).2 ⟨fun e => hjx e.symm, h⟩)
          · exact .inr h
    have facts : ∀ x ∈ L, x.e.i ∈ rem → x.e.i ∈ Region.ready md ops listed → ∃ (o : Oper) (V : List AObj), ops[x.e.i]? = some o ∧ Ext V σ.H ∧ mY P T ops V (n0 + x.e.c) (x.e.ks.map (n0 + ·)) o x.u σ := by
      intro x hx hir hi
      exact (hseen x hx).now G hx hj (fun h => h hir) (fun y hy ha => unl2 y hy (ha.ready hm.closed hi)) (fun y hy hyr z hz ha => unl2 z hz (ha.lst hm.closed (lst y hy hyr)))
    by_cases htake : ∃ x ∈ L, x.e.tk = true ∧ x.e.i ∈ rem ∧ x.e.i ∈ Region.ready md ops listed
    · obtain ⟨x, hx, hxt, hir, hi⟩ := htake
      obtain ⟨o, ho, ht, hap⟩ := htk x hx hxt
      obtain ⟨o', V, ho', hext, hmy⟩ := facts x hx hir hi
      have : o' = o := Option.some.inj (ho'.symm.trans ho)
      subst this
      obtain ⟨v, hy, hs'⟩ := take_sound hT hs hext ht hmy
      refine wpAny_first ho (Region.noSelect_spec hsel) (fun c a w hq => (hQp c _ w hq).elim) (f + g) listed a w (fun j oj hoj hne' hun hno => ?_) hi hy (next x hx hir hi _ _ β hs' fun s _ _ h => h)
      have hjs : j < ops.size := (Array.getElem?_eq_some_iff.1 hoj).1
      have hjm : j ∈ later ∨ ∃ y ∈ L, y.e.i = j := by
        rcases hm.cover j hjs hun with h | h
        · exact .inr (hrem j h)
        · exact .inl h
      rcases hap j hjm with h | h | h | h
      · exact absurd h hne'
      · obtain ⟨oj', hoj', e, he, hb, hon⟩ := Region.waitsFor_spec h
        have : oj' = oj := Option.some.inj (hoj'.symm.trans hoj)
        subst this
        exact absurd hon (hno e he hb)
      · have := h.ready hm.closed hi
        rw [getD_both hun] at this
        cases this
      · exact h oj hoj
    obtain ⟨i0, hi0r, hi0⟩ := hfirst rem listed hne hrem hm
    refine ⟨fun h0 => (by rw [h0] at hi0; cases hi0), fun i hi => ?_⟩
    have hir : i ∈ rem := by
      obtain ⟨hiu, oi, hoi, _⟩ := mem_ready.1 hi
      have his : i < ops.size := (Array.getElem?_eq_some_iff.1 hoi).1
      rcases hm.cover i his hiu with h | h
      · exact h
      · exfalso
        obtain ⟨x, hx, rfl⟩ := hrem i0 hi0r
        have hxt : x.e.tk = false := by
          cases hb : x.e.tk with
          | false => rfl
          | true => exact absurd ⟨x, hx, hb, hi0r, hi0⟩ htake
        have := (hlater i h x hx hxt).ready hm.closed hi
        exact unl2 x hx this hi0r
    obtain ⟨x, hx, rfl⟩ := hrem i hir
    obtain ⟨o, V, ho, hext, hmy⟩ := facts x hx hir hi
    have := mY_sound (Q := Q) hT (t := n0 + x.e.c) hs hext (fun hob => ?_) (fun k hk => ?_) hmy (Kc := wpAny P md ops Q (f + g) (listed.setIfInBounds x.e.i true)) fun a' w' β' hs' hd' => ?_
    · unfold wpOp
      rw [ho]
      simp only
      split
      · rename_i hw'; rw [if_pos hw'] at this; exact .inl this
      · rename_i hw'; rw [if_neg hw'] at this; exact this
    · have hmk := G.made x hx hob
      have hroom := (G.room x hx).resolve_right hob
      refine ⟨?_, hdum x hx hir hmk, by rw [hj.pin]; omega⟩
      have e := List.getElem?_eq_getElem (show n0 + x.e.c < σ.H.length by rw [hj.len]; exact hroom)
      rcases hj.new _ _ (by omega) e with h0 | ⟨y, hy, k1, k2, k3, _⟩
      · rw [e, h0]
      · exfalso
        have : y = x := G.tag y hy x hx (G.made y hy (by rw [k3]; simp)) hmk (by omega)
        subst this
        exact k1 hir
    · obtain ⟨c, hc, rfl⟩ := List.mem_map.1 hk
      exact ⟨by rw [hj.pin]; omega, fun e => hks x hx c hc (by omega)⟩
    · exact next x hx hir hi a' w' β' hs' hd'
end
end Go.Eng
