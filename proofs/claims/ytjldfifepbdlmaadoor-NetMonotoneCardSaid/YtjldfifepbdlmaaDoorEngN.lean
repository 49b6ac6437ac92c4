/-
  The abstract machine: regions that draw their order: one walk in the order of the text serves every order, where each operation only computes (or calls what hands back nothing of its own).
-/
import Derived.Test.YtjldfifepbdlmaaDoorEngM
import Derived.Still
set_option linter.unusedSimpArgs false
set_option linter.unusedVariables false
namespace Go.Eng
open Go.RowKit

/-- in 'σ' operation 'o' computes 'v' -/
def dVal (P : Program) (T : Tab) (o : Oper) (v : AV) (σ : AState) : Prop :=
  match o.op with
  | .pick c x y => (pickV σ c x y).1 ∧ v = (pickV σ c x y).2
  | .call c => match c.callee with
    | .value fo => ∃ f as r, callee σ fo c.args.toList = some (f, as) ∧ needs σ (fo :: c.args.toList) ∧ ACalls P f (as.map (AV.bor σ.H)) r [] ∧ callSafe as r [] ∧ v = r.shift σ.H.length
    | _ => needs σ o.op.operands.toList ∧ (aval T σ.H o.op σ.evs).1 ∧ v = (aval T σ.H o.op σ.evs).2
  | op => needs σ op.operands.toList ∧ (aval T σ.H op σ.evs).1 ∧ v = (aval T σ.H op σ.evs).2
/-- .. with its guard -/
def dY (P : Program) (T : Tab) (ops : Array Oper) (o : Oper) (d : Nat) (v : AV) (σ : AState) : Prop :=
  o.dst = some d ∧ d < σ.n ∧
  match o.guard with
  | none => dVal P T o v σ
  | some (j, want) => (guardAV ops σ j).isB = true ∧ ∃ v0, v = .cond ((guardAV ops σ j).says want) v0 ∧ ((guardAV ops σ j).says want = true → dVal P T o v0 σ)
/-- the walk in the order of the text -/
def dWalk (P : Program) (T : Tab) (ops : Array Oper) : List Oper → AState → (AState → Prop) → Prop
  | [], σ, K => K σ
  | o :: rest, σ, K => ∃ d v, dY P T ops o d v σ ∧ dWalk P T ops rest (σ.put d v) K
def dops (P : Program) (T : Tab) (ops : Array Oper) (σ : AState) (K : AState → Prop) : Prop :=
  Region.lexB .any ops = true ∧ dWalk P T ops ops.toList σ K

/-- the same to whoever looks -/
structure Like (σ τ : AState) : Prop where
  n : σ.n = τ.n
  H : σ.H = τ.H
  pin : σ.pin = τ.pin
  slots : ∀ i, lookS σ.slots i = lookS τ.slots i
theorem Like.refl (σ : AState) : Like σ σ := ⟨rfl, rfl, rfl, fun _ => rfl⟩
theorem Like.trans {σ τ υ : AState} (h : Like σ τ) (k : Like τ υ) : Like σ υ := ⟨h.n.trans k.n, h.H.trans k.H, h.pin.trans k.pin, fun i => (h.slots i).trans (k.slots i)⟩
theorem Like.symm {σ τ : AState} (h : Like σ τ) : Like τ σ := ⟨h.n.symm, h.H.symm, h.pin.symm, fun i => (h.slots i).symm⟩
theorem Like.put {σ τ : AState} (h : Like σ τ) (d : Nat) (v : AV) : Like (σ.put d v) (τ.put d v) := ⟨h.n, h.H, h.pin, fun i => by simp only [AState.put, lookS]; split; rfl; exact h.slots i⟩
theorem put_comm (σ : AState) {d e : Nat} (h : d ≠ e) (u v : AV) : Like ((σ.put d u).put e v) ((σ.put e v).put d u) := ⟨rfl, rfl, rfl, fun i => by
  simp only [AState.put, lookS]
  by_cases h1 : e = i <;> by_cases h2 : d = i <;> simp [h1, h2]
  exact absurd (h2.trans h1.symm) h⟩
section
variable {P : Program} {T : Tab} {W0 w : World} {M0 : Nat → Prop} {F : List Value} {σ τ : AState} {a : Act} {ops : Array Oper} {md : Region.Mode} {Q : Exit → Act → World → Prop} {K : AState → Prop}
theorem SimS.like (h : SimS W0 M0 F σ a w) (k : Like σ τ) : SimS W0 M0 F τ a w := by
  obtain ⟨β, h⟩ := h
  exact ⟨β, h.below, h.m0, by rw [h.len, k.H], fun t o x ho hx => h.objs t o x (by rw [k.H]; exact ho) hx, h.fresh, h.dist, fun i v hv => h.slots i v (by rw [k.slots i]; exact hv), by rw [h.size, k.n], h.defers, h.out, by rw [← k.pin]; exact h.pins⟩
/-- the two states agree in all that the operation looks at -/
structure Agree (ops : Array Oper) (o : Oper) (σ τ : AState) : Prop where
  n : σ.n = τ.n
  H : σ.H = τ.H
  slots : ∀ i, i ∈ o.looksAt ops → lookS σ.slots i = lookS τ.slots i
theorem Like.agree (h : Like σ τ) (o : Oper) : Agree ops o σ τ := ⟨h.n, h.H, fun i _ => h.slots i⟩
theorem agree_put {o : Oper} {d : Nat} (h : d ∉ o.looksAt ops) (σ : AState) (v : AV) : Agree ops o σ (σ.put d v) :=
  ⟨rfl, rfl, fun i hi => by simp only [AState.put, lookS]; rw [if_neg (by rintro rfl; exact h hi)]⟩
theorem Agree.ev {o : Oper} (h : Agree ops o σ τ) {x : Operand} (hx : x ∈ o.op.operands.toList) : σ.ev x = τ.ev x := by
  cases x with
  | tmp t =>
    have : t ∈ o.looksAt ops := by
      unfold Oper.looksAt
      simp only [List.mem_append, List.mem_filterMap]
      left
      exact ⟨.tmp t, hx, rfl⟩
    simp only [AState.ev]
    rw [h.slots t this]
  | _ => rfl
theorem needs_congr : ∀ (xs : List Operand), (∀ x ∈ xs, σ.ev x = τ.ev x) → needs σ xs → needs τ xs
  | [], _, _ => trivial
  | x :: xs, h, k => ⟨by rw [← h x (by simp)]; exact k.1, needs_congr xs (fun y hy => h y (by simp [hy])) k.2⟩
theorem aval_congr (H : List AObj) (op : Op) (ev ev' : Operand → AV) (h : ∀ x ∈ op.operands.toList, ev x = ev' x) : aval T H op ev = aval T H op ev' := by
  cases op <;> simp only [aval, Op.operands] at h ⊢
  case move x => rw [h x (by simp)]
  case assign x => rw [h x (by simp)]
  case binOp b t x y t' => rw [h x (by simp), h y (by simp)]
  case unOp u t x => rw [h x (by simp)]
  case fieldAddr t x f => rw [h x (by simp)]
  case indexAddr t x i => rw [h x (by simp), h i (by simp)]
  case load t x => rw [h x (by simp)]
  case index t x i => rw [h x (by simp), h i (by simp)]
  case field t x f => rw [h x (by simp)]
  case lookup t x k ok => rw [h x (by simp), h k (by simp)]
  case extract x i => rw [h x (by simp)]
  case convert s d x => rw [h x (by simp)]
  case nilCheck x => rw [h x (by simp)]
  case slice t x lo hi mx =>
    have opt : ∀ (l : Option Operand), (∀ y, l = some y → ev y = ev' y) → l.map ev = l.map ev' := fun l hl => by cases l with | none => rfl | some y => simp [hl y rfl]
    rw [h x (by simp), opt lo (fun y hy => h y (by simp [hy])), opt hi (fun y hy => h y (by simp [hy])), opt mx (fun y hy => h y (by simp [hy]))]
  case build t parts =>
    have : (parts.toList.map fun p => (p.1, ev p.2)) = parts.toList.map fun p => (p.1, ev' p.2) := List.map_congr_left fun p hp => by rw [h p.2 (by simp; exact ⟨p.1, by simpa using hp⟩)]
    rw [this]
  case buildSlice t len parts =>
    have : (parts.toList.map fun p => (p.1, ev p.2)) = parts.toList.map fun p => (p.1, ev' p.2) := List.map_congr_left fun p hp => by rw [h p.2 (by simp; exact ⟨p.1, by simpa using hp⟩)]
    rw [this]
  case makeFunc fn first caps =>
    have h1 : first.toList.map ev = first.toList.map ev' := List.map_congr_left fun p hp => h p (by simp at hp ⊢; exact .inl hp)
    have h2 : caps.toList.map ev = caps.toList.map ev' := List.map_congr_left fun p hp => h p (by simp at hp ⊢; exact .inr hp)
    rw [h1, h2]
  case call c =>
    obtain ⟨cal, args, ats⟩ := c
    cases cal with
    | builtin b =>
      have ha : ∀ x ∈ args.toList, ev x = ev' x := fun x hx => h x (by simp [Call.operands]; simpa using hx)
      clear h
      simp only
      generalize args.toList = l at ha
      generalize ats.toList = q
      cases b <;> try rfl
      all_goals
        rcases l with _ | ⟨x, _ | ⟨y, _ | ⟨z, l⟩⟩⟩ <;> rcases q with _ | ⟨t, _ | ⟨t2, q⟩⟩ <;> first
          | rfl
          | (simp only [ha x (by simp), ha y (by simp)]; done)
          | (simp only [ha x (by simp)]; done)
    | _ => rfl
theorem dVal_agree {o : Oper} {v : AV} (h : Agree ops o σ τ) (hv : dVal P T o v σ) : dVal P T o v τ := by
  have hev : ∀ x ∈ o.op.operands.toList, σ.ev x = τ.ev x := fun x hx => h.ev hx
  have hevs : ∀ x ∈ o.op.operands.toList, σ.evs x = τ.evs x := fun x hx => by simp only [AState.evs]; rw [hev x hx]
  have plain : needs σ o.op.operands.toList ∧ (aval T σ.H o.op σ.evs).1 ∧ v = (aval T σ.H o.op σ.evs).2 → needs τ o.op.operands.toList ∧ (aval T τ.H o.op τ.evs).1 ∧ v = (aval T τ.H o.op τ.evs).2 := by
    rintro ⟨h1, h2, h3⟩
    rw [h.H, aval_congr _ _ _ _ hevs] at h2 h3
    exact ⟨needs_congr _ hev h1, h2, h3⟩
  unfold dVal at hv ⊢
  split at hv
  · rename_i c x y ho
    simp only [ho, Op.operands] at hev hevs
    have e : pickV σ c x y = pickV τ c x y := by
      unfold pickV
      rw [hevs c (by simp), hevs x (by simp), hevs y (by simp), hev c (by simp), hev x (by simp), hev y (by simp)]
    rw [← e]
    exact hv
  · rename_i c ho
    obtain ⟨cal, args, ats⟩ := c
    simp only at hv ⊢
    split at hv
    · rename_i fo
      obtain ⟨f, as, r, h1, h2, h3, h4, h5⟩ := hv
      simp only [ho, Op.operands, Call.operands] at hev hevs
      have hfo := hevs fo (by simp)
      have hargs : args.toList.map σ.evs = args.toList.map τ.evs := List.map_congr_left fun x hx => hevs x (by simp at hx ⊢; exact .inr hx)
      refine ⟨f, as, r, ?_, needs_congr _ (fun x hx => hev x (by simpa using hx)) h2, by rw [← h.H]; exact h3, h4, by rw [← h.H]; exact h5⟩
      unfold callee at h1 ⊢
      rw [← hfo, ← hargs]
      exact h1
    · exact plain hv
  · exact plain hv
theorem guardAV_agree {o : Oper} {j : Nat} {want : Bool} (hg : o.guard = some (j, want)) (h : Agree ops o σ τ) : guardAV ops σ j = guardAV ops τ j := by
  unfold guardAV
  cases hd : (ops[j]?).bind (·.dst) with
  | none => rfl
  | some d =>
    simp only [Option.bind_some]
    rw [h.slots d (by simp [Oper.looksAt, hg, hd])]
theorem dY_agree {o : Oper} {d : Nat} {v : AV} (h : Agree ops o σ τ) (hv : dY P T ops o d v σ) : dY P T ops o d v τ := by
  obtain ⟨h1, h2, h3⟩ := hv
  refine ⟨h1, by rw [← h.n]; exact h2, ?_⟩
  split
  · rename_i hg
    rw [hg] at h3
    exact dVal_agree h h3
  · rename_i j want hg
    rw [hg] at h3
    simp only at h3
    rw [← guardAV_agree hg h]
    obtain ⟨k1, v0, k2, k3⟩ := h3
    exact ⟨k1, v0, k2, fun hh => dVal_agree h (k3 hh)⟩
/-- it may be carried out -/
theorem dY_sound (hT : TabOk P T) {o : Oper} {d : Nat} {v : AV} (h : SimS W0 M0 F σ a w) (hv : dY P T ops o d v σ) {Kc : Act → World → Prop} (hK : ∀ a' w', SimS W0 M0 F (σ.put d v) a' w' → Kc a' w') :
    if Region.wanted o (yielded ops a.tmps) = true then o.wp P a w Kc Q else Kc (a.put o.dst undef) w := by
  obtain ⟨β, h⟩ := h
  obtain ⟨hd, hdn, hv⟩ := hv
  have main : ∀ (v0 : AV), dVal P T o v0 σ → (∀ u w' β', RepV w' (Mof M0 β') β' v0 u → Sim W0 M0 F σ a w' β' → Kc (a.put o.dst u) w') → o.wp P a w Kc Q := by
    intro v0 hv0 hk
    have plain : needs σ o.op.operands.toList ∧ (aval T σ.H o.op σ.evs).1 ∧ v0 = (aval T σ.H o.op σ.evs).2 → o.wp P a w Kc Q := by
      rintro ⟨h1, h2, rfl⟩
      obtain ⟨u, w', r1, r2, r3⟩ := nval_sound (P := P) hT h h1 h2
      exact upon_value r1 (hk u w' β r3 r2)
    unfold dVal at hv0
    split at hv0
    · rename_i c x y ho
      obtain ⟨k1, rfl⟩ := hv0
      obtain ⟨u, r1, r2⟩ := pickV_sound (P := P) h ho k1
      exact upon_value r1 (hk u w β r2 h)
    · rename_i c ho
      obtain ⟨cal, args, ats⟩ := c
      simp only at hv0
      split at hv0
      · rename_i fo
        obtain ⟨f, as, r, h1, h2, h3, h4, rfl⟩ := hv0
        obtain ⟨vs, r1, r2⟩ := callee_sound (P := P) h ho h1 h2 h3.1
        unfold Oper.wp
        rw [r1]
        simp only [Oper.upon]
        refine (h.call r2 h3 h4).mono ?_
        rintro e w' ⟨u, β', rfl, hs, hr⟩
        have hs' : Sim W0 M0 F σ a w' β' := by simpa using hs
        exact hk u w' β' hr hs'
      · rw [ho] at hv0
        exact plain (by rw [ho]; exact hv0)
    · exact plain hv0
  split at hv
  · rename_i hg
    rw [if_pos (by simp [Region.wanted, hg])]
    refine main v hv fun u w' β' h1 h2 => ?_
    rw [hd]
    exact hK _ _ ⟨β', h2.put hdn h1⟩
  · rename_i j want hg
    obtain ⟨hb, v0, rfl, hv0⟩ := hv
    rw [guard_sound h hg hb]
    cases hs : (guardAV ops σ j).says want with
    | true =>
      rw [hs] at hK
      simp only [if_true]
      refine main v0 (hv0 hs) fun u w' β' h1 h2 => ?_
      rw [hd]
      exact hK _ _ ⟨β', h2.put hdn ⟨fun _ => h1, fun hh => by cases hh⟩⟩
    | false =>
      rw [hs] at hK
      simp only [Bool.false_eq_true, if_false]
      rw [hd]
      exact hK _ _ ⟨β, h.put hdn ⟨fun hh => (by cases hh), fun _ => rfl⟩⟩
/-- whatever order is picked from here on -/
def dAny (P : Program) (T : Tab) (md : Region.Mode) (ops : Array Oper) (K : AState → Prop) : Nat → Array Bool → AState → Prop
  | 0, listed, σ => Region.ready md ops listed = [] ∧ K σ
  | fuel + 1, listed, σ => (Region.ready md ops listed = [] → K σ) ∧ ∀ i ∈ Region.ready md ops listed, ∀ o, ops[i]? = some o → ∃ d v, dY P T ops o d v σ ∧ dAny P T md ops K fuel (listed.setIfInBounds i true) (σ.put d v)
theorem dAny_like (hK : ∀ σ τ, Like σ τ → K σ → K τ) : ∀ (fuel : Nat) (listed : Array Bool) (σ τ : AState), Like σ τ → dAny P T md ops K fuel listed σ → dAny P T md ops K fuel listed τ
  | 0, _, _, _, h, k => ⟨k.1, hK _ _ h k.2⟩
  | fuel + 1, listed, σ, τ, h, k => ⟨fun h0 => hK _ _ h (k.1 h0), fun i hi o ho => by
    obtain ⟨d, v, h1, h2⟩ := k.2 i hi o ho
    exact ⟨d, v, dY_agree (h.agree o) h1, dAny_like hK fuel _ _ _ (h.put d v) h2⟩⟩
theorem wpAny_of_dAny (hT : TabOk P T) (hQ : ∀ σ a w, K σ → SimS W0 M0 F σ a w → Q .normal a w) : ∀ (fuel : Nat) (listed : Array Bool) (σ : AState) (a : Act) (w : World), SimS W0 M0 F σ a w → dAny P T md ops K fuel listed σ → wpAny P md ops Q fuel listed a w
  | 0, _, σ, a, w, h, k => ⟨k.1, hQ σ a w k.2 h⟩
  | fuel + 1, listed, σ, a, w, h, k => ⟨fun h0 => hQ σ a w (k.1 h0) h, fun i hi => by
    unfold wpOp
    obtain ⟨_, o, ho, _⟩ := mem_ready.1 hi
    rw [ho]
    simp only
    obtain ⟨d, v, h1, h2⟩ := k.2 i hi o ho
    have := dY_sound (Q := Q) hT h h1 (Kc := wpAny P md ops Q fuel (listed.setIfInBounds i true)) fun a' w' hs => wpAny_of_dAny hT hQ fuel _ _ a' w' hs h2
    split
    · rename_i hw; rw [if_pos hw] at this; exact .inl this
    · rename_i hw; rw [if_neg hw] at this; exact this⟩
/-- an operation that may come up now may be taken first -/
theorem dAny_first (hK : ∀ σ τ, Like σ τ → K σ → K τ) {i : Nat} {oi : Oper} {d : Nat} {v : AV} (hi : ops[i]? = some oi) :
    ∀ (fuel : Nat) (listed : Array Bool) (σ : AState),
      (∀ j oj, ops[j]? = some oj → j ≠ i → listed.getD j true = false → (∀ e ∈ oj.after, Region.binds md e = true → e.on ≠ i) → oi.apart ops oj = true) →
      i ∈ Region.ready md ops listed → dY P T ops oi d v σ →
      dAny P T md ops K fuel (listed.setIfInBounds i true) (σ.put d v) → dAny P T md ops K (fuel + 1) listed σ := by
  intro fuel
  induction fuel with
  | zero =>
    intro listed σ _ hr hy H
    refine ⟨fun h => (by rw [h] at hr; cases hr), fun j hj o ho => ?_⟩
    by_cases hji : j = i
    · subst hji; rw [hi] at ho; cases ho; exact ⟨d, v, hy, H⟩
    · have := ready_mono hj hji
      rw [H.1] at this
      cases this
  | succ fuel ih =>
    intro listed σ hfree hr hy H
    refine ⟨fun h => (by rw [h] at hr; cases hr), fun j hj o ho => ?_⟩
    by_cases hji : j = i
    · subst hji; rw [hi] at ho; cases ho; exact ⟨d, v, hy, H⟩
    · obtain ⟨dj, vj, h1, h2⟩ := H.2 j (ready_mono hj hji) o ho
      obtain ⟨hjun, oj, hoj, hall⟩ := mem_ready.1 hj
      rw [ho] at hoj
      cases hoj
      have hnot : ∀ e ∈ o.after, Region.binds md e = true → e.on ≠ i := fun e he hb heq => by
        have h1 := hall e he hb
        have h0 := (mem_ready.1 hr).1
        rw [heq] at h1
        rcases Nat.lt_or_ge i listed.size with h' | h'
        · simp [h'] at h0 h1; rw [h0] at h1; cases h1
        · simp [Array.getElem?_eq_none h'] at h1
      obtain ⟨a1, a2, a3⟩ := Oper.apart_spec (hfree j o ho hji hjun hnot)
      have hyj : dY P T ops o dj vj σ := by
        refine dY_agree (σ := σ.put d v) ⟨rfl, rfl, fun k hk => ?_⟩ h1
        exact ((agree_put (a1 d hy.1) σ v).slots k hk).symm
      refine ⟨dj, vj, hyj, ih (listed.setIfInBounds j true) _ ?_ (ready_mono hr (Ne.symm hji)) (dY_agree (agree_put (a3 dj h1.1) σ vj) hy) ?_⟩
      · intro k ok hk hki hun hno
        refine hfree k ok hk hki ?_ hno
        by_cases hjk : j = k
        · subst hjk; exact hjun
        · rw [getD_set_ne true hjk] at hun; exact hun
      · rw [Array.setIfInBounds_comm _ _ hji]
        refine dAny_like hK _ _ _ _ (put_comm σ (fun e => a2 d hy.1 (by rw [h1.1, e])) v vj) ?_
        exact h2
theorem dAny_lex (hK : ∀ σ τ, Like σ τ → K σ → K τ) : ∀ (l : List Oper) (k : Nat) (listed : Array Bool) (σ : AState), (∀ j, l[j]? = ops[k + j]?) →
    Region.lexFrom md ops l.length k listed = true → dWalk P T ops l σ K → dAny P T md ops K l.length listed σ
  | [], _, _, _, _, hB, h => ⟨by simpa [Region.lexFrom] using hB, h⟩
  | o :: l, k, listed, σ, hl, hB, h => by
    have h0 : ops[k]? = some o := by simpa using (hl 0).symm
    simp only [List.length_cons, Region.lexFrom, Bool.and_eq_true] at hB
    obtain ⟨⟨hr, hf⟩, hB'⟩ := hB
    obtain ⟨d, v, hy, hw⟩ := h
    exact dAny_first hK h0 l.length listed σ (Region.free_spec h0 hf) (by simpa using hr) hy
      (dAny_lex hK l (k + 1) _ _ (fun j => by have := hl (j + 1); simpa [Nat.add_assoc, Nat.add_comm 1 j] using this) hB' hw)
theorem dWalk_mono {K' : AState → Prop} (h : ∀ σ, K σ → K' σ) : ∀ (l : List Oper) (σ : AState), dWalk P T ops l σ K → dWalk P T ops l σ K'
  | [], _, k => h _ k
  | _ :: l, _, ⟨d, v, h1, h2⟩ => ⟨d, v, h1, dWalk_mono h l _ h2⟩
theorem dops_sound (hT : TabOk P T) (hm : P.follows .mixedOrders = true) {id : Nat} (h : SimS W0 M0 F σ a w) (hop : dops P T ops σ K) (hK : ∀ σ' a' w', K σ' → SimS W0 M0 F σ' a' w' → Q .normal a' w') : (Code.region id ops true).wp P Q a w := by
  obtain ⟨hB, hw⟩ := hop
  simp only [Region.lexB, Bool.and_eq_true] at hB
  refine wp_region_any hm ?_
  have h' : SimS W0 M0 F σ a { w with drawn := w.drawn + 1 } := by
    obtain ⟨β, h⟩ := h
    exact ⟨β, h.ext (w' := w.drew) (Below.drew (Below.refl _ _))⟩
  have hwalk := dWalk_mono (K' := fun σ => ∃ τ, Like τ σ ∧ K τ) (fun σ hk => ⟨σ, Like.refl σ, hk⟩) ops.toList σ hw
  have := dAny_lex (P := P) (T := T) (md := .any) (K := fun σ => ∃ τ, Like τ σ ∧ K τ) (fun σ τ hl hk => by obtain ⟨υ, k1, k2⟩ := hk; exact ⟨υ, k1.trans hl, k2⟩) ops.toList 0 (Array.replicate ops.size false) σ (by simp) (by simpa using hB.2) hwalk
  refine wpAny_of_dAny hT (fun σ' a' w' hk hs => ?_) ops.size _ σ a _ h' (by simpa using this)
  obtain ⟨υ, k1, k2⟩ := hk
  exact hK υ a' w' k2 (hs.like k1.symm)
end

/-! ### the same walk, as a function -/
def dcstep (P : Program) (fo : Operand) (args : List Operand) (d : Nat) (σ : AState) (K : AState → Prop) : Prop :=
  match callee σ fo args with
  | some (f, as) => DCallAt P f as (as.map (AV.bor σ.H)) (needs σ (fo :: args)) d σ K
  | none => False
def dop1 (P : Program) (T : Tab) (o : Oper) (σ : AState) (K : AState → Prop) : Prop :=
  match o.dst with
  | none => False
  | some d => match o.op with
    | .pick c x y => pstep c x y d σ K
    | .call c => match c.callee with
      | .value fo => dcstep P fo c.args.toList d σ K
      | _ => nstep T o.op d σ K
    | op => nstep T op d σ K
def dgcstep (P : Program) (g : Bool) (fo : Operand) (args : List Operand) (d : Nat) (σ : AState) (K : AState → Prop) : Prop :=
  match callee σ fo args with
  | some (f, as) => DGCallAt P g f as (as.map (AV.bor σ.H)) (needs σ (fo :: args)) d σ K
  | none => False
def dopG (P : Program) (T : Tab) (g : Bool) (o : Oper) (σ : AState) (K : AState → Prop) : Prop :=
  match o.dst with
  | none => False
  | some d => match o.op with
    | .pick c x y => gpstep g c x y d σ K
    | .call c => match c.callee with
      | .value fo => dgcstep P g fo c.args.toList d σ K
      | .builtin .len => gnstep T g o.op d σ K
      | .builtin .max => gnstep T g o.op d σ K
      | .builtin .min => gnstep T g o.op d σ K
      | _ => False
    | op => gnstep T g op d σ K
def dop (P : Program) (T : Tab) (ops : Array Oper) (o : Oper) (σ : AState) (K : AState → Prop) : Prop :=
  match o.guard with
  | none => dop1 P T o σ K
  | some (j, want) => (guardAV ops σ j).isB = true ∧ dopG P T ((guardAV ops σ j).says want) o σ K
def dopsF (P : Program) (T : Tab) (ops : Array Oper) : List Oper → AState → (AState → Prop) → Prop
  | [], σ, K => K σ
  | o :: rest, σ, K => dop P T ops o σ fun σ' => dopsF P T ops rest σ' K
section
variable {P : Program} {T : Tab} {ops : Array Oper}
theorem dop_sound {o : Oper} {σ : AState} {K : AState → Prop} (h : dop P T ops o σ K) : ∃ d v, dY P T ops o d v σ ∧ K (σ.put d v) := by
  unfold dop at h
  split at h
  · rename_i hg
    unfold dop1 at h
    split at h
    · exact h.elim
    · rename_i d hd
      have fin : ∀ v, d < σ.n → dVal P T o v σ → K (σ.put d v) → ∃ d v, dY P T ops o d v σ ∧ K (σ.put d v) := fun v h1 h2 h3 => ⟨d, v, ⟨hd, h1, by rw [hg]; exact h2⟩, h3⟩
      split at h
      · rename_i c x y ho
        obtain ⟨⟨h1, h2⟩, h3⟩ := h
        exact fin _ h1 (by unfold dVal; rw [ho]; exact ⟨h2, rfl⟩) h3
      · rename_i c ho
        obtain ⟨cal, args, ats⟩ := c
        simp only at h
        split at h
        · rename_i fo
          unfold dcstep at h
          split at h
          · rename_i f as hc
            obtain ⟨r, ⟨h1, h2, h3, h4⟩, h5⟩ := h.out
            exact fin _ h1 (by unfold dVal; rw [ho]; exact ⟨f, as, r, hc, h2, h3, h4, rfl⟩) h5
          · exact h.elim
        · rename_i hnv
          obtain ⟨⟨h1, h2, h3⟩, h4⟩ := h
          refine fin _ h2 ?_ h4
          unfold dVal
          rw [ho] at h1 h3 ⊢
          cases cal with
          | value fo => exact absurd rfl (hnv fo)
          | _ => exact ⟨h1, h3, rfl⟩
      · rename_i hnp hnc
        obtain ⟨⟨h1, h2, h3⟩, h4⟩ := h
        refine fin _ h2 ?_ h4
        unfold dVal
        split
        · rename_i c x y ho; exact absurd ho (hnp c x y)
        · rename_i c ho; exact absurd ho (hnc c)
        · exact ⟨h1, h3, rfl⟩
  · rename_i j want hg
    obtain ⟨hb, h⟩ := h
    unfold dopG at h
    split at h
    · exact h.elim
    · rename_i d hd
      have fin : ∀ v, d < σ.n → ((guardAV ops σ j).says want = true → dVal P T o v σ) → K (σ.put d (.cond ((guardAV ops σ j).says want) v)) → ∃ d v, dY P T ops o d v σ ∧ K (σ.put d v) :=
        fun v h1 h2 h3 => ⟨d, _, ⟨hd, h1, by rw [hg]; exact ⟨hb, v, rfl, h2⟩⟩, h3⟩
      split at h
      · rename_i c x y ho
        obtain ⟨⟨h1, h2⟩, h3⟩ := h
        exact fin _ h1 (fun hh => by unfold dVal; rw [ho]; exact ⟨h2 hh, rfl⟩) h3
      · rename_i c ho
        obtain ⟨cal, args, ats⟩ := c
        simp only at h
        split at h
        · rename_i fo
          unfold dgcstep at h
          split at h
          · rename_i f as hc
            obtain ⟨r, ⟨h1, h2⟩, h5⟩ := h.out
            exact fin _ h1 (fun hh => by
              unfold dVal
              rw [ho]
              obtain ⟨k1, k2, k3⟩ := h2 hh
              exact ⟨f, as, r, hc, k1, k2, k3, rfl⟩) h5
          · exact h.elim
        · obtain ⟨⟨h1, h2⟩, h4⟩ := h
          refine fin _ h1 (fun hh => ?_) h4
          unfold dVal
          rw [ho] at h2 ⊢
          exact ⟨(h2 hh).1, (h2 hh).2, rfl⟩
        · obtain ⟨⟨h1, h2⟩, h4⟩ := h
          refine fin _ h1 (fun hh => ?_) h4
          unfold dVal
          rw [ho] at h2 ⊢
          exact ⟨(h2 hh).1, (h2 hh).2, rfl⟩
        · obtain ⟨⟨h1, h2⟩, h4⟩ := h
          refine fin _ h1 (fun hh => ?_) h4
          unfold dVal
          rw [ho] at h2 ⊢
          exact ⟨(h2 hh).1, (h2 hh).2, rfl⟩
        · exact h.elim
      · rename_i hnp hnc
        obtain ⟨⟨h1, h2⟩, h4⟩ := h
        refine fin _ h1 (fun hh => ?_) h4
        unfold dVal
        split
        · rename_i c x y ho; exact absurd ho (hnp c x y)
        · rename_i c ho; exact absurd ho (hnc c)
        · exact ⟨(h2 hh).1, (h2 hh).2, rfl⟩
theorem dWalk_of : ∀ (l : List Oper) (σ : AState) (K : AState → Prop), dopsF P T ops l σ K → dWalk P T ops l σ K
  | [], _, _, h => h
  | _ :: l, _, K, h => by
    obtain ⟨d, v, h1, h2⟩ := dop_sound h
    exact ⟨d, v, h1, dWalk_of l _ K h2⟩
end
end Go.Eng
