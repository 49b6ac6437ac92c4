/-
  The abstract machine: regions that draw their order and turn objects in it: addresses of fields first (they yield the same in every world), then what only computes, in any order, then a chain that no order can turn.
-/
import Derived.Test.YtjldfifepbdlmaaDoorEngN
import Derived.StillTail
set_option linter.unusedSimpArgs false
set_option linter.unusedVariables false
namespace Go.Eng
open Go.RowKit

def memN (i : Nat) : List Nat → Bool
  | [] => false
  | j :: l => if i = j then true else memN i l
theorem memN_iff {i : Nat} : ∀ {l : List Nat}, memN i l = true ↔ i ∈ l
  | [] => by simp [memN]
  | j :: l => by
    simp only [memN, List.mem_cons]
    by_cases h : i = j
    · simp [h]
    · simp [h, memN_iff]
def isInert : Op → Bool
  | .move _ => true
  | .fieldAddr .. => true
  | _ => false
def isEff : Op → Bool
  | .store .. => true
  | .mapUpdate .. => true
  | .insert .. => true
  | .alloc _ => true
  | .box .. => true
  | .makeSlice .. => true
  | .makeMap .. => true
  | .call c => match c.callee with | .builtin .append => true | _ => false
  | _ => false
def onAll (is : List Nat) : List Edge → Bool
  | [] => true
  | e :: es => memN e.on is && onAll is es
/-- the three parts: addresses, what only computes, the chain (newest first) -/
def splitFrom : Nat → List Oper → Bool → List Nat → List Nat → List Nat → List Nat × List Nat × List Nat
  | _, [], _, is, hd, tl => (is.reverse, hd.reverse, tl.reverse)
  | k, o :: os, eff, is, hd, tl =>
    if (isInert o.op && o.guard.isNone && onAll is o.after.toList) = true then splitFrom (k + 1) os eff (k :: is) hd tl
    else if (eff || isEff o.op) = true then splitFrom (k + 1) os true is hd (k :: tl)
    else splitFrom (k + 1) os false is (k :: hd) tl
def hasEff : List Oper → Bool
  | [] => false
  | o :: os => isEff o.op || hasEff os
def lexI (md : Region.Mode) (ops : Array Oper) : List Nat → Array Bool → Bool
  | [], _ => true
  | i :: is, listed => (Region.ready md ops listed).contains i && Region.free md ops listed i && lexI md ops is (listed.setIfInBounds i true)
def setAll : List Nat → Array Bool → Array Bool
  | [], l => l
  | i :: is, l => setAll is (l.setIfInBounds i true)
def seqI (md : Region.Mode) (ops : Array Oper) : List Nat → Array Bool → Bool
  | [], listed => (Region.ready md ops listed).isEmpty
  | t :: ts, listed => decide (Region.ready md ops listed = [t]) && seqI md ops ts (listed.setIfInBounds t true)
/-- each of the head is waited for by a later one of the head or by the tail's first -/
def sinkI (md : Region.Mode) (ops : Array Oper) (hd : List Nat) (t0 : Nat) : Bool :=
  hd.all fun i => Region.waitsFor md ops t0 i || hd.any fun j => decide (i < j) && Region.waitsFor md ops j i
def chainI (md : Region.Mode) (ops : Array Oper) : List Nat → Bool
  | [] => true
  | [_] => true
  | t :: u :: ts => Region.waitsFor md ops u t && chainI md ops (u :: ts)
def coverI (n : Nat) (is hd tl : List Nat) : Bool := (List.range n).all fun i => memN i is || memN i hd || memN i tl
def edB (ops : Array Oper) (is hd tl : List Nat) : Bool :=
  Region.noSelect ops && lexI .any ops is (Array.replicate ops.size false) && lexI .any ops hd (setAll is (Array.replicate ops.size false)) &&
  seqI .any ops tl (setAll hd (setAll is (Array.replicate ops.size false))) && (match tl with | [] => false | t0 :: _ => sinkI .any ops hd t0) && chainI .any ops tl && coverI ops.size is hd tl &&
  tl.all (fun t => !(setAll hd (setAll is (Array.replicate ops.size false))).getD t true) && decide (tl.all (fun t => decide (t < ops.size)) = true) && hd.all (fun t => decide (t < ops.size)) && decide (hd.length + tl.length + is.length = ops.size)
def iStep (T : Tab) (o : Oper) (σ : AState) (K : AState → Prop) : Prop :=
  match o.dst with
  | none => False
  | some d => match o.op with
    | .move x => ((σ.ev x).need ∧ d < σ.n) ∧ K (σ.put d (σ.evs x))
    | .fieldAddr t x f => ((σ.ev x).need ∧ d < σ.n ∧ (fieldAddrV (T t) σ.H f (σ.evs x)).1) ∧ K (σ.put d (fieldAddrV (T t) σ.H f (σ.evs x)).2)
    | _ => False
def iWalk (T : Tab) (ops : Array Oper) : List Nat → AState → (AState → Prop) → Prop
  | [], σ, K => K σ
  | i :: is, σ, K => match ops[i]? with | some o => o.guard = none ∧ iStep T o σ (fun σ' => iWalk T ops is σ' K) | none => False
def hWalk (P : Program) (T : Tab) (ops : Array Oper) : List Nat → AState → (AState → Prop) → Prop
  | [], σ, K => K σ
  | i :: is, σ, K => match ops[i]? with | some o => dop P T ops o σ (fun σ' => hWalk P T ops is σ' K) | none => False
def tWalk (P : Program) (T : Tab) (ops : Array Oper) : List Nat → AState → (AState → Prop) → Prop
  | [], σ, K => K σ
  | i :: is, σ, K => match ops[i]? with | some o => aop P T ops o σ (fun σ' => tWalk P T ops is σ' K) | none => False
def edops (P : Program) (T : Tab) (ops : Array Oper) (is hd tl : List Nat) (σ : AState) (K : AState → Prop) : Prop :=
  edB ops is hd tl = true ∧ iWalk T ops is σ fun σ1 => hWalk P T ops hd σ1 fun σ2 => tWalk P T ops tl σ2 K

section
variable {P : Program} {T : Tab} {W0 w : World} {M0 : Nat → Prop} {F : List Value} {σ τ : AState} {a : Act} {ops : Array Oper} {md : Region.Mode} {Q : Exit → Act → World → Prop} {K : AState → Prop}
theorem iStep_sound (hT : TabOk P T) {o : Oper} (h : SimS W0 M0 F σ a w) (hg : o.guard = none) (hs : iStep T o σ K) : ∃ v σ', Yields P ops o v a ∧ SimS W0 M0 F σ' (a.put o.dst v) w ∧ K σ' := by
  obtain ⟨β, h⟩ := h
  have hw : Region.wanted o (yielded ops a.tmps) = true := by simp [Region.wanted, hg]
  unfold iStep at hs
  split at hs
  · exact hs.elim
  · rename_i d hd
    split at hs
    · rename_i x ho
      obtain ⟨⟨hn, hdn⟩, hK⟩ := hs
      exact ⟨a.eval x, _, .inl ⟨hw, fun w' => by simp [execOp, ho]⟩, ⟨β, by rw [hd]; exact h.put hdn (h.evs hn)⟩, hK⟩
    · rename_i t x f ho
      obtain ⟨⟨hn, hdn, hf⟩, hK⟩ := hs
      obtain ⟨u, h1, h2⟩ := fieldAddrV_yields (P := P) hT h.objs t f _ _ (h.evs hn) hf
      exact ⟨u, _, .inl ⟨hw, fun w' => by simp [execOp, ho, h1]⟩, ⟨β, by rw [hd]; exact h.put hdn h2⟩, hK⟩
    · exact hs.elim
theorem iWalk_sound (hT : TabOk P T) (hsel : Region.noSelect ops = true) (hQ : ∀ c a w, ¬ Q (.panic c) a w) : ∀ (is : List Nat) (listed : Array Bool) (σ : AState) (a : Act) (fuel : Nat), lexI md ops is listed = true → SimS W0 M0 F σ a w → iWalk T ops is σ K →
    (∀ σ' a', K σ' → SimS W0 M0 F σ' a' w → wpAny P md ops Q fuel (setAll is listed) a' w) → wpAny P md ops Q (fuel + is.length) listed a w
  | [], listed, σ, a, fuel, _, h, hi, hk => hk σ a hi h
  | i :: is, listed, σ, a, fuel, hl, h, hi, hk => by
    simp only [lexI, Bool.and_eq_true] at hl
    obtain ⟨⟨hr, hf⟩, hl⟩ := hl
    simp only [iWalk] at hi
    cases ho : ops[i]? with
    | none => rw [ho] at hi; exact hi.elim
    | some o =>
      rw [ho] at hi
      obtain ⟨hg, hi⟩ := hi
      obtain ⟨v, σ', hy, hs, hi'⟩ := iStep_sound (ops := ops) hT h hg hi
      rw [show fuel + (i :: is).length = (fuel + is.length) + 1 by simp only [List.length_cons]; omega]
      exact wpAny_take ho hsel hf hr (fun c a w hq => (hQ c _ w hq).elim) hy (iWalk_sound hT hsel hQ is _ σ' _ fuel hl hs hi' hk)

/-! ### the head -/
structure HInv (md : Region.Mode) (ops : Array Oper) (hd tl : List Nat) (listed : Array Bool) : Prop where
  size : listed.size = ops.size
  closed : ∀ j oj, ops[j]? = some oj → listed.getD j false = true → ∀ e ∈ oj.after, Region.binds md e = true → listed.getD e.on false = true
  tail : ∀ t ∈ tl, listed.getD t true = false
  cover : ∀ i, i < ops.size → listed.getD i true = false → i ∈ hd ∨ i ∈ tl
theorem HInv.set {hd tl : List Nat} {i : Nat} {listed : Array Bool} (inv : HInv md ops hd tl listed) (hi : i ∈ Region.ready md ops listed) (hit : i ∉ tl) : HInv md ops hd tl (listed.setIfInBounds i true) := by
  obtain ⟨_, oi, hoi, hall⟩ := mem_ready.1 hi
  refine ⟨by simp [inv.size], fun j oj hj hl e he hb => ?_, fun t ht => by rw [getD_set_ne true (fun (e : i = t) => hit (by rw [e]; exact ht))]; exact inv.tail t ht, fun k hk hu => ?_⟩
  · by_cases hij : i = j
    · subst hij
      have : oj = oi := Option.some.inj (hj.symm.trans hoi)
      subst this
      exact getD_set_true (hall e he hb)
    · rw [getD_set_ne false hij] at hl
      exact getD_set_true (inv.closed j oj hj hl e he hb)
  · by_cases hij : i = k
    · subst hij
      rw [← inv.size] at hk
      simp [hk] at hu
    · rw [getD_set_ne true hij] at hu
      exact inv.cover k hk hu
theorem chain_get : ∀ {ts : List Nat} {k : Nat} {t u : Nat}, chainI md ops ts = true → ts[k]? = some t → ts[k + 1]? = some u → Region.waitsFor md ops u t = true
  | [], k, t, u, _, h, _ => by simp at h
  | [x], k, t, u, _, _, h => by simp at h
  | x :: y :: ts, 0, t, u, hc, h1, h2 => by
    simp only [chainI, Bool.and_eq_true] at hc
    simp at h1 h2
    subst h1; subst h2
    exact hc.1
  | x :: y :: ts, k + 1, t, u, hc, h1, h2 => by
    simp only [chainI, Bool.and_eq_true] at hc
    exact chain_get hc.2 (by simpa using h1) (by simpa using h2)
theorem waits_not_ready {j i : Nat} {listed : Array Bool} (h : Region.waitsFor md ops j i = true) (hi : listed.getD i true = false) : j ∉ Region.ready md ops listed := by
  intro hj
  obtain ⟨oj, hoj, e, he, hb, hon⟩ := Region.waitsFor_spec h
  obtain ⟨_, o, ho, hall⟩ := mem_ready.1 hj
  have : o = oj := Option.some.inj (ho.symm.trans hoj)
  subst this
  have := hall e he hb
  rw [hon, getD_both hi] at this
  cases this
theorem tail_waits {hd : List Nat} {t0 : Nat} {tl : List Nat} {listed : Array Bool} (hs : sinkI md ops hd t0 = true) (hc : chainI md ops (t0 :: tl) = true) (hsz : ∀ i ∈ hd, i < ops.size) (inv : HInv md ops hd (t0 :: tl) listed) :
    ∀ (d i : Nat), ops.size - i = d → i ∈ hd → listed.getD i true = false → ∀ t ∈ t0 :: tl, t ∉ Region.ready md ops listed := by
  intro d
  induction d using Nat.strongRecOn with
  | _ d ih =>
    intro i hd' hi hun t ht
    obtain ⟨k, hk⟩ := List.mem_iff_getElem?.1 ht
    cases k with
    | succ k =>
      obtain ⟨u, hu⟩ : ∃ u, (t0 :: tl)[k]? = some u := by
        have := (List.getElem?_eq_some_iff.1 hk).1
        exact ⟨(t0 :: tl)[k]'(by omega), List.getElem?_eq_getElem _⟩
      exact waits_not_ready (chain_get hc hu hk) (inv.tail u (List.mem_of_getElem? hu))
    | zero =>
      simp at hk
      subst hk
      have h1 := List.all_eq_true.1 hs i hi
      rw [Bool.or_eq_true] at h1
      rcases h1 with h1 | h1
      · exact waits_not_ready h1 hun
      · obtain ⟨j, hj, hj2⟩ := List.any_eq_true.1 h1
        simp only [Bool.and_eq_true, decide_eq_true_eq] at hj2
        have hjs := hsz j hj
        have hjun : listed.getD j true = false := by
          cases hl : listed.getD j true with
          | false => rfl
          | true =>
            exfalso
            obtain ⟨oj, hoj, e, he, hb, hon⟩ := Region.waitsFor_spec hj2.2
            have hl' : listed.getD j false = true := by
              have hjl : j < listed.size := by rw [inv.size]; exact hjs
              simp [hjl] at hl ⊢; exact hl
            have := inv.closed j oj hoj hl' e he hb
            rw [hon, getD_both hun] at this
            cases this
        exact ih (ops.size - j) (by have := hsz i hi; omega) j rfl hj hjun _ ht
/-- whatever order is picked of the head -/
def dAnyL (P : Program) (T : Tab) (md : Region.Mode) (ops : Array Oper) (hd : List Nat) (L : Array Bool → AState → Prop) : Nat → Array Bool → AState → Prop
  | 0, listed, σ => L listed σ
  | f + 1, listed, σ => Region.ready md ops listed ≠ [] ∧ ∀ i ∈ Region.ready md ops listed, i ∈ hd ∧ ∀ o, ops[i]? = some o → ∃ d v, dY P T ops o d v σ ∧ dAnyL P T md ops hd L f (listed.setIfInBounds i true) (σ.put d v)
theorem dAnyL_like {hd : List Nat} {L : Array Bool → AState → Prop} (hL : ∀ l σ τ, Like σ τ → L l σ → L l τ) : ∀ (fuel : Nat) (listed : Array Bool) (σ τ : AState), Like σ τ → dAnyL P T md ops hd L fuel listed σ → dAnyL P T md ops hd L fuel listed τ
  | 0, _, _, _, h, k => hL _ _ _ h k
  | fuel + 1, listed, σ, τ, h, k => ⟨k.1, fun i hi => ⟨(k.2 i hi).1, fun o ho => by
    obtain ⟨d, v, h1, h2⟩ := (k.2 i hi).2 o ho
    exact ⟨d, v, dY_agree (h.agree o) h1, dAnyL_like hL fuel _ _ _ (h.put d v) h2⟩⟩⟩
theorem wpAny_of_dAnyL (hT : TabOk P T) {hd : List Nat} {L : Array Bool → AState → Prop} {g : Nat} (hL : ∀ listed σ a w, L listed σ → SimS W0 M0 F σ a w → wpAny P md ops Q g listed a w) :
    ∀ (f : Nat) (listed : Array Bool) (σ : AState) (a : Act) (w : World), SimS W0 M0 F σ a w → dAnyL P T md ops hd L f listed σ → wpAny P md ops Q (f + g) listed a w
  | 0, listed, σ, a, w, h, k => by rw [Nat.zero_add]; exact hL _ _ _ _ k h
  | f + 1, listed, σ, a, w, h, k => by
    rw [show f + 1 + g = (f + g) + 1 by omega]
    refine ⟨fun h0 => absurd h0 k.1, fun i hi => ?_⟩
    unfold wpOp
    obtain ⟨_, o, ho, _⟩ := mem_ready.1 hi
    rw [ho]
    simp only
    obtain ⟨d, v, h1, h2⟩ := (k.2 i hi).2 o ho
    have := dY_sound (Q := Q) hT h h1 (Kc := wpAny P md ops Q (f + g) (listed.setIfInBounds i true)) fun a' w' hs => wpAny_of_dAnyL hT hL f _ _ a' w' hs h2
    split
    · rename_i hw; rw [if_pos hw] at this; exact .inl this
    · rename_i hw; rw [if_neg hw] at this; exact this
theorem dAnyL_first {hd : List Nat} {t0 : Nat} {tl : List Nat} {L : Array Bool → AState → Prop} (hL : ∀ l σ τ, Like σ τ → L l σ → L l τ) (hs : sinkI md ops hd t0 = true) (hc : chainI md ops (t0 :: tl) = true) (hsz : ∀ i ∈ hd, i < ops.size)
    (hdone : ∀ listed σ, L listed σ → ∀ j ∈ Region.ready md ops listed, j ∈ t0 :: tl) {i : Nat} {oi : Oper} {d : Nat} {v : AV} (hi : ops[i]? = some oi) (hin : i ∈ hd) (hdt : ∀ i ∈ hd, i ∉ t0 :: tl) :
    ∀ (fuel : Nat) (listed : Array Bool) (σ : AState), HInv md ops hd (t0 :: tl) listed →
      (∀ j oj, ops[j]? = some oj → j ≠ i → listed.getD j true = false → (∀ e ∈ oj.after, Region.binds md e = true → e.on ≠ i) → oi.apart ops oj = true) →
      i ∈ Region.ready md ops listed → dY P T ops oi d v σ →
      dAnyL P T md ops hd L fuel (listed.setIfInBounds i true) (σ.put d v) → dAnyL P T md ops hd L (fuel + 1) listed σ := by
  have inHead : ∀ (listed : Array Bool), HInv md ops hd (t0 :: tl) listed → i ∈ Region.ready md ops listed → ∀ j ∈ Region.ready md ops listed, j ∈ hd := by
    intro listed inv hr j hj
    obtain ⟨hju, oj, hoj, _⟩ := mem_ready.1 hj
    have hjs : j < ops.size := (Array.getElem?_eq_some_iff.1 hoj).1
    rcases inv.cover j hjs hju with h | h
    · exact h
    · exact absurd hj (tail_waits hs hc hsz inv _ i rfl hin (mem_ready.1 hr).1 j h)
  intro fuel
  induction fuel with
  | zero =>
    intro listed σ inv _ hr hy H
    refine ⟨fun h => (by rw [h] at hr; cases hr), fun j hj => ?_⟩
    have hjh := inHead listed inv hr j hj
    refine ⟨hjh, fun o ho => ?_⟩
    by_cases hji : j = i
    · subst hji; rw [hi] at ho; cases ho; exact ⟨d, v, hy, H⟩
    · exact absurd (hdone _ _ H j (ready_mono hj hji)) (hdt j hjh)
  | succ fuel ih =>
    intro listed σ inv hfree hr hy H
    refine ⟨fun h => (by rw [h] at hr; cases hr), fun j hj => ?_⟩
    have hjh := inHead listed inv hr j hj
    refine ⟨hjh, fun o ho => ?_⟩
    by_cases hji : j = i
    · subst hji; rw [hi] at ho; cases ho; exact ⟨d, v, hy, H⟩
    · obtain ⟨dj, vj, h1, h2⟩ := (H.2 j (ready_mono hj hji)).2 o ho
      obtain ⟨hjun, oj, hoj, hall⟩ := mem_ready.1 hj
      rw [ho] at hoj
      cases hoj
      have hnot : ∀ e ∈ o.after, Region.binds md e = true → e.on ≠ i := fun e he hb heq => by
        have h1 := hall e he hb
        rw [heq, getD_both (mem_ready.1 hr).1] at h1
        cases h1
      obtain ⟨a1, a2, a3⟩ := Oper.apart_spec (hfree j o ho hji hjun hnot)
      have hyj : dY P T ops o dj vj σ := by
        refine dY_agree (σ := σ.put d v) ⟨rfl, rfl, fun k hk => ?_⟩ h1
        exact ((agree_put (a1 d hy.1) σ v).slots k hk).symm
      refine ⟨dj, vj, hyj, ih (listed.setIfInBounds j true) _ (inv.set hj (hdt j hjh)) ?_ (ready_mono hr (Ne.symm hji)) (dY_agree (agree_put (a3 dj h1.1) σ vj) hy) ?_⟩
      · intro k ok hk hki hun hno
        refine hfree k ok hk hki ?_ hno
        by_cases hjk : j = k
        · subst hjk; exact hjun
        · rw [getD_set_ne true hjk] at hun; exact hun
      · rw [Array.setIfInBounds_comm _ _ hji]
        exact dAnyL_like hL _ _ _ _ (put_comm σ (fun e => a2 d hy.1 (by rw [h1.1, e])) v vj) h2
theorem dAnyL_lex {hd : List Nat} {t0 : Nat} {tl : List Nat} {L : Array Bool → AState → Prop} (hL : ∀ l σ τ, Like σ τ → L l σ → L l τ) (hs : sinkI md ops hd t0 = true) (hc : chainI md ops (t0 :: tl) = true) (hsz : ∀ i ∈ hd, i < ops.size)
    (hdone : ∀ listed σ, L listed σ → ∀ j ∈ Region.ready md ops listed, j ∈ t0 :: tl) (hdt : ∀ i ∈ hd, i ∉ t0 :: tl) :
    ∀ (l : List Nat) (listed : Array Bool) (σ : AState), (∀ i ∈ l, i ∈ hd) → HInv md ops hd (t0 :: tl) listed → lexI md ops l listed = true → hWalk P T ops l σ K → (∀ τ, K τ → L (setAll l listed) τ) → dAnyL P T md ops hd L l.length listed σ
  | [], listed, σ, _, _, _, hw, hk => hk σ hw
  | i :: l, listed, σ, hsub, inv, hB, hw, hk => by
    simp only [lexI, Bool.and_eq_true] at hB
    obtain ⟨⟨hr, hf⟩, hB'⟩ := hB
    have hr' : i ∈ Region.ready md ops listed := by simpa using hr
    simp only [hWalk] at hw
    cases ho : ops[i]? with
    | none => rw [ho] at hw; exact hw.elim
    | some o =>
      rw [ho] at hw
      obtain ⟨d, v, hy, hw'⟩ := dop_sound hw
      have hin := hsub i (by simp)
      exact dAnyL_first hL hs hc hsz hdone ho hin hdt l.length listed σ inv (Region.free_spec ho hf) hr' hy
        (dAnyL_lex hL hs hc hsz hdone hdt l _ _ (fun j hj => hsub j (by simp [hj])) (inv.set hr' (hdt i hin)) hB' hw' hk)
/-! ### the tail -/
theorem tWalk_sound (hT : TabOk P T) : ∀ (ts : List Nat) (listed : Array Bool) (σ : AState) (a : Act) (w : World), seqI md ops ts listed = true → SimS W0 M0 F σ a w → tWalk P T ops ts σ K → (∀ σ' a' w', K σ' → SimS W0 M0 F σ' a' w' → Q .normal a' w') → wpAny P md ops Q ts.length listed a w
  | [], listed, σ, a, w, hB, h, hw, hk => ⟨by simpa [seqI] using hB, hk _ _ _ hw h⟩
  | t :: ts, listed, σ, a, w, hB, h, hw, hk => by
    simp only [seqI, Bool.and_eq_true, decide_eq_true_eq] at hB
    refine ⟨fun h1 => (by rw [hB.1] at h1; cases h1), fun i hi => ?_⟩
    rw [hB.1] at hi
    have hit : i = t := by simpa using hi
    subst hit
    simp only [tWalk] at hw
    cases ho : ops[i]? with
    | none => rw [ho] at hw; exact hw.elim
    | some o =>
      rw [ho] at hw
      have := aop_sound (Q := Q) hT h hw (Kc := wpAny P md ops Q ts.length (listed.setIfInBounds i true)) fun σ' a' w' h1 h2 => tWalk_sound hT ts _ σ' a' w' hB.2 h2 h1 hk
      unfold wpOp
      rw [ho]
      simp only
      split
      · rename_i hw'; rw [if_pos hw'] at this; exact .inl this
      · rename_i hw'; rw [if_neg hw'] at this; exact this
theorem setAll_size : ∀ (is : List Nat) (l : Array Bool), (setAll is l).size = l.size
  | [], _ => rfl
  | i :: is, l => by simp [setAll, setAll_size is]
theorem setAll_keep : ∀ (is : List Nat) (l : Array Bool) (j : Nat), l.getD j false = true → (setAll is l).getD j false = true
  | [], _, _, h => h
  | i :: is, l, j, h => setAll_keep is _ j (getD_set_true h)
theorem setAll_mem : ∀ (is : List Nat) (l : Array Bool) (j : Nat), j < l.size → j ∈ is → (setAll is l).getD j false = true
  | i :: is, l, j, hj, h => by
    simp only [List.mem_cons] at h
    rcases h with rfl | h
    · exact setAll_keep is _ j (by simp [hj])
    · exact setAll_mem is _ j (by simpa using hj) h
theorem setAll_un : ∀ (is : List Nat) (l : Array Bool) (j : Nat), (setAll is l).getD j true = false → l.getD j true = false ∧ (j < l.size → j ∉ is)
  | [], _, _, h => ⟨h, fun _ => by simp⟩
  | i :: is, l, j, h => by
    obtain ⟨h1, h2⟩ := setAll_un is _ j h
    by_cases hij : i = j
    · subst hij
      rcases Nat.lt_or_ge i l.size with hl | hl
      · simp [hl] at h1
      · simp [Array.getElem?_eq_none hl] at h1
    · rw [getD_set_ne true hij] at h1
      exact ⟨h1, fun hj => by simp only [List.mem_cons, not_or]; exact ⟨fun e => hij e.symm, h2 (by simpa using hj)⟩⟩
theorem closed_lex : ∀ (is : List Nat) (listed : Array Bool), lexI md ops is listed = true → (∀ j oj, ops[j]? = some oj → listed.getD j false = true → ∀ e ∈ oj.after, Region.binds md e = true → listed.getD e.on false = true) →
    ∀ j oj, ops[j]? = some oj → (setAll is listed).getD j false = true → ∀ e ∈ oj.after, Region.binds md e = true → (setAll is listed).getD e.on false = true
  | [], _, _, h => h
  | i :: is, listed, hl, h => by
    simp only [lexI, Bool.and_eq_true] at hl
    have hr : i ∈ Region.ready md ops listed := by simpa using hl.1.1
    obtain ⟨_, oi, hoi, hall⟩ := mem_ready.1 hr
    refine closed_lex is _ hl.2 fun j oj hj hlj e he hb => ?_
    by_cases hij : i = j
    · subst hij
      have : oj = oi := Option.some.inj (hj.symm.trans hoi)
      subst this
      exact getD_set_true (hall e he hb)
    · rw [getD_set_ne false hij] at hlj
      exact getD_set_true (h j oj hj hlj e he hb)
theorem edops_sound (hT : TabOk P T) (hm : P.follows .mixedOrders = true) {id : Nat} {is hd tl : List Nat} (hK : ∀ σ τ, Like σ τ → K σ → K τ) (h : SimS W0 M0 F σ a w) (hop : edops P T ops is hd tl σ K) (hq : ∀ σ' a' w', K σ' → SimS W0 M0 F σ' a' w' → Q .normal a' w') : (Code.region id ops true).wp P Q a w := by
  obtain ⟨hB, hw⟩ := hop
  simp only [edB, Bool.and_eq_true, decide_eq_true_eq] at hB
  obtain ⟨⟨⟨⟨⟨⟨⟨⟨⟨⟨hsel, hli⟩, hlh⟩, hsq⟩, hsink⟩, hch⟩, hcov⟩, htl⟩, htsz⟩, hhsz⟩, hnum⟩ := hB
  cases tl with
  | nil => cases hsink
  | cons t0 tl =>
    simp only at hsink
    have hsz : ∀ i ∈ hd, i < ops.size := fun i hi => by have := List.all_eq_true.1 hhsz i hi; simpa using this
    have hts : ∀ i ∈ t0 :: tl, i < ops.size := fun i hi => by have := List.all_eq_true.1 htsz i hi; simpa using this
    have htun : ∀ t ∈ t0 :: tl, (setAll hd (setAll is (Array.replicate ops.size false))).getD t true = false := fun t ht => by have := List.all_eq_true.1 htl t ht; simpa using this
    have hdt : ∀ i ∈ hd, i ∉ t0 :: tl := fun i hi ht => by
      have h1 := htun i ht
      have h2 := setAll_mem hd (setAll is (Array.replicate ops.size false)) i (by rw [setAll_size]; simp; exact hsz i hi) hi
      rw [getD_both h1] at h2
      cases h2
    obtain ⟨Q', hQ'⟩ : ∃ Q' : Exit → Act → World → Prop, Q' = fun e a w => e = .normal ∧ Q .normal a w := ⟨_, rfl⟩
    have hmono : ∀ e a w, Q' e a w → Q e a w := fun e a w hh => by rw [hQ'] at hh; obtain ⟨rfl, h2⟩ := hh; exact h2
    have hnp : ∀ c a w, ¬ Q' (.panic c) a w := fun c a w hh => by rw [hQ'] at hh; cases hh.1
    have hdrew : SimS W0 M0 F σ a { w with drawn := w.drawn + 1 } := by
      obtain ⟨β, h⟩ := h
      exact ⟨β, h.ext (w' := w.drew) (Below.drew (Below.refl _ _))⟩
    have hun0 : ∀ j, (Array.replicate ops.size false).getD j false = false := fun j => getD_replicate_false _ _
    have inv0 : HInv .any ops hd (t0 :: tl) (setAll is (Array.replicate ops.size false)) := by
      refine ⟨by rw [setAll_size]; simp, closed_lex is _ hli (fun j oj _ hl => by rw [hun0] at hl; cases hl), fun t ht => ?_, fun i hi hu => ?_⟩
      · exact (setAll_un hd _ t (htun t ht)).1
      · have h1 := List.all_eq_true.1 hcov i (List.mem_range.2 hi)
        simp only [Bool.or_eq_true, memN_iff] at h1
        rcases h1 with (h1 | h1) | h1
        · exact absurd h1 ((setAll_un is _ i hu).2 (by simpa using hi))
        · exact .inl h1
        · exact .inr h1
    -- how many are there
    have key : wpAny P .any ops Q' ((hd.length + (t0 :: tl).length) + is.length) (Array.replicate ops.size false) a { w with drawn := w.drawn + 1 } := by
      refine iWalk_sound (K := fun σ1 => hWalk P T ops hd σ1 fun σ2 => tWalk P T ops (t0 :: tl) σ2 K) hT hsel hnp is _ σ a _ hli hdrew hw fun σ1 a1 hw1 hs1 => ?_
      have hlex := dAnyL_lex (K := fun σ2 => tWalk P T ops (t0 :: tl) σ2 K) (L := fun l τ => l = setAll hd (setAll is (Array.replicate ops.size false)) ∧ ∃ τ0, Like τ0 τ ∧ tWalk P T ops (t0 :: tl) τ0 K) (fun l σ τ hl hh => ⟨hh.1, by obtain ⟨τ0, k1, k2⟩ := hh.2; exact ⟨τ0, k1.trans hl, k2⟩⟩) hsink hch hsz
        (fun l τ hh j hj => by
          rw [hh.1] at hj
          simp only [seqI, Bool.and_eq_true, decide_eq_true_eq] at hsq
          rw [hsq.1] at hj
          simp at hj
          simp [hj]) hdt hd _ σ1 (fun i hi => hi) inv0 hlh hw1 (fun τ hτ => ⟨rfl, τ, Like.refl τ, hτ⟩)
      refine wpAny_of_dAnyL (Q := Q') hT (fun l τ a2 w2 hh hs2 => ?_) hd.length _ σ1 a1 _ hs1 hlex
      obtain ⟨rfl, τ0, k1, k2⟩ := hh
      exact tWalk_sound (Q := Q') hT (t0 :: tl) _ τ0 a2 w2 hsq (hs2.like k1.symm) k2 (fun σ' a' w' k3 k4 => by rw [hQ']; exact ⟨rfl, hq σ' a' w' k3 k4⟩)
    rw [hnum] at key
    exact wp_mono (wp_region_any hm key) hmono
end
end Go.Eng
