/-
  The abstract machine: code, loops, contracts.
-/
import Derived.Test.YtdhkmgnhbllbfaaEngN
import Derived.Deep.LoopGhost
set_option linter.unusedSimpArgs false
set_option linter.unusedVariables false
namespace Go.Eng
open Go.RowKit

def D.tagsLt0 (m : Nat) : D → Bool
  | .own t => t < m
  | .vp t _ => t < m
  | .rp t _ _ _ => t < m
  | .mp t => t < m
  | _ => true
def D.tagsLt (m : Nat) : D → Bool
  | .clo _ caps => caps.all (D.tagsLt0 m)
  | d => d.tagsLt0 m
def AV.tagsLt (m : Nat) : AV → Bool
  | .one d => d.tagsLt m
  | .agg ds => ds.all (D.tagsLt m)
  | .tup vs => vs.all fun | .one d => d.tagsLt m | .agg ds => ds.all (D.tagsLt m) | .any => true | _ => false
  | .cond _ (.one d) => d.tagsLt m
  | .cond _ (.agg ds) => ds.all (D.tagsLt m)
  | .any => true
  | _ => false
def AObj.tagsLt (m : Nat) : AObj → Bool
  | .var _ cs => cs.all (D.tagsLt m)
  | .map _ kvs => kvs.all fun kv => kv.1.tagsLt m && kv.2.tagsLt m
  | _ => true
def subSlots (σ : AState) (m : Nat) : List (Nat × AV) → Prop
  | [] => True
  | (i, v) :: r => (lookS σ.slots i = some v ∧ v.tagsLt m = true) ∧ subSlots σ m r
def subObj (m : Nat) (o : AObj) : AObj → Prop
  | .gone => True
  | p => o = p ∧ p.tagsLt m = true
def subH (m : Nat) : List AObj → List AObj → Prop
  | _, [] => True
  | [], _ :: _ => False
  | o :: os, p :: ps => subObj m o p ∧ subH m os ps
/-- what 'τ' tells holds in 'σ' -/
def SubA (σ τ : AState) : Prop := (σ.n = τ.n ∧ subSlots σ τ.H.length τ.slots) ∧ subH τ.H.length σ.H τ.H

section
variable {P : Program} {T : Tab} {W0 w : World} {M M' M0 : Nat → Prop} {σ τ : AState} {a : Act} {β β' : List Value} {m : Nat}
/-- fewer tags -/
structure Cut (w : World) (M : Nat → Prop) (β : List Value) (m : Nat) (M' : Nat → Prop) (β' : List Value) : Prop where
  keeps : Keeps w M w M'
  tags : ∀ (t : Nat) (h : Value), t < m → β[t]? = some h → β'[t]? = some h
theorem RepC0.cut (hg : Cut w M β m M' β') {d : D} {v : Value} (h : RepC0 w M β d v) (ht : d.tagsLt0 m = true) : RepC0 w M' β' d v := by
  cases d
  case unk => exact h
  case own t => exact ⟨hg.tags _ _ (by simpa [D.tagsLt0] using ht) h.1, h.2⟩
  case vp t off => obtain ⟨g, h1, h2⟩ := h; exact ⟨g, hg.tags _ _ (by simpa [D.tagsLt0] using ht) h1, h2⟩
  case rp t i sz sub => obtain ⟨g, n, c, h1, h2⟩ := h; exact ⟨g, n, c, hg.tags _ _ (by simpa [D.tagsLt0] using ht) h1, h2⟩
  case mp t => obtain ⟨g, h1, h2⟩ := h; exact ⟨g, hg.tags _ _ (by simpa [D.tagsLt0] using ht) h1, h2⟩
  all_goals (simp only [RepC0] at h ⊢; exact RepD.keep hg.keeps _ _ h)
theorem RepC.cut (hg : Cut w M β m M' β') {d : D} {v : Value} (h : RepC w M β d v) (ht : d.tagsLt m = true) : RepC w M' β' d v := by
  cases d
  case clo f caps =>
    obtain ⟨vs, h1, h2, h3⟩ := h
    simp only [D.tagsLt, List.all_eq_true] at ht
    exact ⟨vs, h1, h2, fun i d u a b => (h3 i d u a b).cut hg (ht d (List.mem_of_getElem? a))⟩
  all_goals (simp only [RepC] at h ⊢; exact h.cut hg ht)
theorem RepCL.cut (hg : Cut w M β m M' β') {ds : List D} {vs : List Value} (h : RepCL w M β ds vs) (ht : ds.all (D.tagsLt m) = true) : RepCL w M' β' ds vs := by
  rw [List.all_eq_true] at ht
  exact ⟨h.1, fun i d u a b => (h.2 i d u a b).cut hg (ht d (List.mem_of_getElem? a))⟩
theorem RepV.cut (hg : Cut w M β m M' β') (x : AV) (v : Value) (h : RepV w M β x v) (ht : x.tagsLt m = true) : RepV w M' β' x v := by
  cases x with
  | one d => exact RepC.cut (d := d) hg h ht
  | agg ds => obtain ⟨vs, h1, h2⟩ := h; exact ⟨vs, h1, h2.cut hg ht⟩
  | tup avs =>
    obtain ⟨vs, e, hl⟩ := h
    have hg' := RepVL.get avs vs hl
    simp only [AV.tagsLt, List.all_eq_true] at ht
    refine ⟨vs, e, RepVL.mk _ _ hg'.1 fun i b u hb hu => ?_⟩
    have h1 := hg'.2 i b u hb hu
    have h3 := ht b (List.mem_of_getElem? hb)
    cases b with
    | one d => exact RepC.cut (d := d) hg h1 h3
    | agg ds => obtain ⟨vs, e1, e2⟩ := h1; exact ⟨vs, e1, e2.cut hg h3⟩
    | any => exact trivial
    | _ => cases h3
  | cond g y =>
    cases y with
    | one d => exact ⟨fun hh => RepC.cut (d := d) hg (h.1 hh) ht, h.2⟩
    | agg ds => exact ⟨fun hh => by obtain ⟨vs, h1, h2⟩ := h.1 hh; exact ⟨vs, h1, h2.cut hg ht⟩, h.2⟩
    | _ => cases ht
  | any => exact trivial
theorem ObjRep.cut (hg : Cut w M β m M' β') {o : AObj} {h : Value} (hr : ObjRep w M β o h) (ht : o.tagsLt m = true) : ObjRep w M' β' o h := by
  cases o with
  | gone => exact trivial
  | row e sz rows =>
    obtain ⟨A, c, h1, h2, h3, h4⟩ := hr
    refine ⟨A, c, h1, h2, h3, ?_⟩
    rcases h4 with h4 | ⟨g, cur, rfl, h5, h6, h7⟩
    · exact .inl h4
    · exact .inr ⟨g, cur, rfl, h5, h6, h7.keeps hg.keeps fun vs o x => x⟩
  | var e cs =>
    obtain ⟨g, cur, h1, h2, h3⟩ := hr
    exact ⟨g, cur, h1, h2, h3.cut hg ht⟩
  | map kd kvs =>
    obtain ⟨hp, g, es, clk, h1, h2, h3, h4⟩ := hr
    simp only [AObj.tagsLt, List.all_eq_true, Bool.and_eq_true] at ht
    exact ⟨hp, g, es, clk, h1, h2, h3, fun i kv e a b => ⟨RepV.cut hg _ _ (h4 i kv e a b).1 (ht kv (List.mem_of_getElem? a)).1, RepV.cut hg _ _ (h4 i kv e a b).2 (ht kv (List.mem_of_getElem? a)).2⟩⟩
theorem subSlots_lookS : ∀ (l : List (Nat × AV)) (i : Nat) (v : AV), subSlots σ m l → lookS l i = some v → lookS σ.slots i = some v ∧ v.tagsLt m = true
  | [], i, v, _, h => by simp [lookS] at h
  | (j, u) :: l, i, v, hs, h => by
    simp only [lookS] at h
    split at h
    · rename_i hj
      subst hj
      cases h
      exact hs.1
    · exact subSlots_lookS l i v hs.2 h
theorem subH_get : ∀ (os ps : List AObj) (t : Nat) (p : AObj), subH m os ps → ps[t]? = some p → ∃ o, os[t]? = some o ∧ subObj m o p
  | _, [], t, p, _, h => by simp at h
  | [], q :: ps, t, p, hs, _ => hs.elim
  | o :: os, q :: ps, t, p, hs, h => by
    cases t with
    | zero => simp at h; subst h; exact ⟨o, rfl, hs.1⟩
    | succ t => simpa using subH_get os ps t p hs.2 (by simpa using h)
theorem subH_length : ∀ (os ps : List AObj), subH m os ps → ps.length ≤ os.length
  | _, [], _ => Nat.zero_le _
  | [], q :: ps, h => h.elim
  | o :: os, q :: ps, h => by simpa using subH_length os ps h.2
theorem Sim.sub (h : Sim W0 M0 σ a w β) (hs : SubA σ τ) : ∃ β', Sim W0 M0 τ a w β' := by
  obtain ⟨⟨hn, hsl⟩, hH⟩ := hs
  have hlen := subH_length _ _ hH
  have hown : ∀ g, owned (β.take τ.H.length) g → owned β g := by
    rintro g ⟨t, x, h1, h2⟩
    rw [List.getElem?_take] at h1
    split at h1
    · exact ⟨t, x, h1, h2⟩
    · cases h1
  have hC : Cut w (Mof M0 β) β τ.H.length (Mof M0 (β.take τ.H.length)) (β.take τ.H.length) := by
    refine ⟨⟨Nat.le_refl _, fun _ _ _ => rfl, fun g _ hm hm' => hm ?_⟩, fun t x ht hx => by rw [List.getElem?_take, if_pos ht]; exact hx⟩
    rcases hm' with hm' | hm'
    · exact .inl hm'
    · exact .inr (hown g hm')
  refine ⟨β.take τ.H.length, h.below, h.m0, by rw [List.length_take, h.len]; omega, ?_, fun g hg => h.fresh g (hown g hg), ?_, fun i v hv => ?_, by rw [h.size, hn], h.defers⟩
  · intro t p x hp hx
    rw [List.getElem?_take] at hx
    split at hx
    · obtain ⟨o, ho, hso⟩ := subH_get _ _ t p hH hp
      cases p with
      | gone => exact trivial
      | _ =>
        obtain ⟨rfl, ht⟩ := hso
        exact (h.objs t _ x ho hx).cut hC ht
    · cases hx
  · intro t t' x x' g h1 h2 h3 h4
    rw [List.getElem?_take] at h1 h2
    split at h1 <;> split at h2 <;> first | (cases h1; done) | (cases h2; done) | exact h.dist t t' x x' g h1 h2 h3 h4
  · obtain ⟨h1, h2⟩ := subSlots_lookS _ _ _ hsl hv
    obtain ⟨x, hx, hr⟩ := h.slots i v h1
    exact ⟨x, hx, RepV.cut hC v x hr h2⟩
end

abbrev APost := Exit → AState → Prop
def APost.then (K : AState → Prop) (Q : APost) : APost := fun e σ => match e with | .normal => K σ | e => Q e σ
def APost.blk (id : Nat) (Q : APost) : APost := fun e σ => match e with | .exit id' => if id' = id then Q .normal σ else Q (.exit id') σ | e => Q e σ
/-- a loop: what holds at its head is told by 'f s', 's' the loop's own data with 'I s'; each round lowers 'μ' -/
def ALoop (body : AState → APost → Prop) (σ : AState) (Q : APost) : Prop :=
  ∃ (S : Type) (I : S → Prop) (f : S → AState) (μ : S → Nat) (s0 : S), I s0 ∧ SubA σ (f s0) ∧ ∀ s, I s → body (f s) (APost.then (fun σ' => ∃ s', I s' ∧ SubA σ' (f s') ∧ μ s' < μ s) Q)
def awp (P : Program) (T : Tab) : Code → AState → APost → Prop
  | .skip, σ, Q => Q .normal σ
  | .region _ ops draw, σ, Q => if draw then dops P T ops σ (Q .normal) else aops P T ops ops.toList σ (Q .normal)
  | .seq x y, σ, Q => awp P T x σ (APost.then (fun σ' => awp P T y σ' Q) Q)
  | .cond c x y, σ, Q => match σ.evs c with
    | .one (.bool b) => (σ.ev c).need ∧ (b = true → awp P T x σ Q) ∧ (b = false → awp P T y σ Q)
    | _ => False
  | .block id c, σ, Q => awp P T c σ (APost.blk id Q)
  | .loop c, σ, Q => ALoop (fun σ Q => awp P T c σ Q) σ Q
  | .exit id, σ, Q => Q (.exit id) σ
  | .ret, σ, Q => Q .ret σ
  | _, _, _ => False
/-- the concrete side of a post -/
def conc (W0 : World) (M0 : Nat → Prop) (Q : APost) : Exit → Act → World → Prop := fun e a w => ∃ σ, Q e σ ∧ SimS W0 M0 σ a w

section
variable {P : Program} {T : Tab} {W0 w : World} {M0 : Nat → Prop} {σ : AState} {a : Act}
theorem awp_sound (hT : TabOk P T) (hm : P.follows .mixedOrders = true) : ∀ (c : Code) (σ : AState) (Q : APost) (a : Act) (w : World), SimS W0 M0 σ a w → awp P T c σ Q → c.wp P (conc W0 M0 Q) a w
  | .skip, σ, Q, a, w, h, hc => wp_skip ⟨σ, hc, h⟩
  | .region id ops draw, σ, Q, a, w, h, hc => by
    cases draw with
    | true =>
      simp only [awp, if_true] at hc
      exact dops_sound hT hm h hc fun σ' a' w' h1 h2 => ⟨σ', h1, h2⟩
    | false =>
      simp only [awp, Bool.false_eq_true, if_false] at hc
      exact wp_region_list (aops_sound hT ops.toList σ a w h hc fun σ' a' w' h1 h2 => ⟨σ', h1, h2⟩)
  | .seq x y, σ, Q, a, w, h, hc => by
    refine wp_seq (wp_mono (awp_sound hT hm x σ _ a w h hc) ?_)
    rintro e a' w' ⟨σ', h1, h2⟩
    cases e <;> first | exact awp_sound hT hm y σ' Q a' w' h2 h1 | exact ⟨σ', h1, h2⟩
  | .cond c x y, σ, Q, a, w, h, hc => by
    simp only [awp] at hc
    split at hc
    · rename_i b hev
      obtain ⟨hn, h1, h2⟩ := hc
      obtain ⟨β, h⟩ := h
      have hv := h.evs hn
      rw [hev] at hv
      exact wp_cond_split (rep_bool_inv hv) (fun hb => awp_sound hT hm x σ Q a w ⟨β, h⟩ (h1 hb)) (fun hb => awp_sound hT hm y σ Q a w ⟨β, h⟩ (h2 hb))
    · exact hc.elim
  | .block id c, σ, Q, a, w, h, hc => by
    refine wp_block (wp_mono (awp_sound hT hm c σ _ a w h hc) ?_)
    rintro e a' w' ⟨σ', h1, h2⟩
    cases e <;> first | exact ⟨σ', h1, h2⟩ | skip
    rename_i id'
    simp only [Exit.inBlock, APost.blk] at h1 ⊢
    by_cases hid : id' = id
    · subst hid
      simp only [if_true] at h1
      simp
      exact ⟨σ', h1, h2⟩
    · rw [if_neg hid] at h1
      simp [hid]
      exact ⟨σ', h1, h2⟩
  | .loop c, σ, Q, a, w, h, hc => by
    obtain ⟨S, I, f, μ, s0, hI0, hs0, hround⟩ := hc
    refine wp_loop_ghost (fun n a w => ∃ s, μ s = n ∧ I s ∧ SimS W0 M0 (f s) a w) (μ s0) ⟨s0, rfl, hI0, by obtain ⟨β, h⟩ := h; exact h.sub hs0⟩ ?_
    rintro n a' w' ⟨s, rfl, hI, hs⟩
    refine wp_mono (awp_sound hT hm c (f s) _ a' w' hs (hround s hI)) ?_
    rintro e a2 w2 ⟨σ', h1, h2⟩
    cases e <;> first | exact ⟨σ', h1, h2⟩ | skip
    obtain ⟨s', h3, h4, h5⟩ := h1
    exact ⟨μ s', h5, s', rfl, h3, by obtain ⟨β, h2⟩ := h2; exact h2.sub h4⟩
  | .exit id, σ, Q, a, w, h, hc => wp_exit ⟨σ, hc, h⟩
  | .ret, σ, Q, a, w, h, hc => wp_ret ⟨σ, hc, h⟩
  | .rangeFunc .., _, _, _, _, _, hc => hc.elim
  | .scope _, _, _, _, _, _, hc => hc.elim
  | .label _, _, _, _, _, _, hc => hc.elim
  | .goto _, _, _, _, _, _, hc => hc.elim
  | .refuse _, _, _, _, _, _, hc => hc.elim

/-! ### contracts out of bodies -/
def slotsOf : Nat → List AV → List (Nat × AV)
  | _, [] => []
  | i, v :: vs => (i, v) :: slotsOf (i + 1) vs
theorem lookS_slotsOf : ∀ (l : List AV) (k i : Nat) (v : AV), lookS (slotsOf k l) i = some v → ∃ j, i = k + j ∧ l[j]? = some v
  | [], k, i, v, h => by simp [slotsOf, lookS] at h
  | u :: l, k, i, v, h => by
    simp only [slotsOf, lookS] at h
    split at h
    · rename_i hk
      cases h
      exact ⟨0, by omega, rfl⟩
    · obtain ⟨j, h1, h2⟩ := lookS_slotsOf l (k + 1) i v h
      exact ⟨j + 1, by omega, by simpa using h2⟩
/-- a result, frozen -/
def resAV (σ : AState) (t : Tmp) : AV := (σ.evs (.tmp t)).bor σ.H
def retF (rs : List ResultVar) (r : AV) : APost := fun e σ =>
  match e with
  | .ret | .normal => match rs with
    | [.tmp t] => (σ.ev (.tmp t)).need ∧ resAV σ t = r
    | [.tmp t, .tmp u] => (σ.ev (.tmp t)).need ∧ (σ.ev (.tmp u)).need ∧ .tup [resAV σ t, resAV σ u] = r
    | [.tmp t, .tmp u, .tmp x] => (σ.ev (.tmp t)).need ∧ (σ.ev (.tmp u)).need ∧ (σ.ev (.tmp x)).need ∧ .tup [resAV σ t, resAV σ u, resAV σ x] = r
    | _ => False
  | _ => False
/-- the result is a slice that the call owns (and, perhaps, a number behind it) -/
def retO (rs : List ResultVar) (r : AV) (o : AObj) : APost := fun e σ =>
  match e with
  | .ret | .normal => match rs with
    | [.tmp t] => match lookS σ.slots t with | some (.one (.own k)) => .one (.own 0) = r ∧ σ.H[k]? = some o ∧ o.plain = true | _ => False
    | [.tmp t, .tmp u] => match lookS σ.slots t with | some (.one (.own k)) => (σ.ev (.tmp u)).need ∧ (resAV σ u).flatOwn = true ∧ (resAV σ u).tagged = false ∧ .tup [.one (.own 0), resAV σ u] = r ∧ σ.H[k]? = some o ∧ o.plain = true | _ => False
    | _ => False
  | _ => False
theorem enter_sim {args : List AV} {vs : List Value} {n : Nat} (hM : ∀ g, M0 g → g < w.heap.size) (hv : RepVL w M0 [] args vs) (hn : args.length ≤ n) :
    SimS w M0 ⟨n, slotsOf 0 args, []⟩ { tmps := (⟨vs⟩ : Array Value) ++ Array.replicate (n - (⟨vs⟩ : Array Value).size) undef, defers := [] } w := by
  have hg := RepVL.get args vs hv
  have hMof : ∀ g, Mof M0 [] g ↔ M0 g := fun g => ⟨fun h => by rcases h with h | ⟨t, x, h, _⟩; exact h; simp at h, fun h => .inl h⟩
  refine ⟨[], Below.refl _ _, hM, rfl, fun t o h ho => by simp at ho, fun g ⟨t, x, h, _⟩ => by simp at h, fun t t' h h' g h1 => by simp at h1, fun i v hv' => ?_, ?_, rfl⟩
  · obtain ⟨j, rfl, hj⟩ := lookS_slotsOf _ _ _ _ hv'
    rw [Nat.zero_add]
    have hjl : j < vs.length := by rw [← hg.1]; exact (List.getElem?_eq_some_iff.1 hj).1
    refine ⟨vs[j], ?_, RepV.grow (w := w) (M := M0) (β := []) ⟨⟨Nat.le_refl _, fun _ _ _ => rfl, fun g _ hm hm' => hm ((hMof g).1 hm')⟩, fun _ _ x => x⟩ v _ (hg.2 j v _ hj (List.getElem?_eq_getElem hjl))⟩
    show ((⟨vs⟩ : Array Value) ++ Array.replicate (n - vs.length) undef)[j]? = some vs[j]
    rw [Array.getElem?_append_left (by exact hjl)]
    simp [List.getElem?_eq_getElem hjl]
  · have : vs.length = args.length := hg.1.symm
    simp
    omega
theorem Sim.bor {w1 : World} {β : List Value} (h : Sim w M0 σ a w1 β) {t : Tmp} (hn : (σ.ev (.tmp t)).need) : RepV w1 M0 [] (resAV σ t) (a.tmps.getD t undef) := borV_sound h.lend _ _ (h.evs hn)
theorem res_nil {w1 : World} {r : AV} {v : Value} {β : List Value} (h : Sim w M0 σ a w1 β) (hr : RepV w1 M0 [] r v) : Res w w1 M0 r [] v [] :=
  ⟨h.below, rfl, fun t o x ho => by simp at ho, fun g ⟨t, x, h, _⟩ => by simp at h, fun t t' x x' g h1 => by simp at h1,
    RepV.grow (w := w1) (M := M0) (β := []) ⟨⟨Nat.le_refl _, fun _ _ _ => rfl, fun g _ hm hm' => hm (by rcases hm' with h | ⟨t, x, h, _⟩; exact h; simp at h)⟩, fun _ _ x => x⟩ r v hr⟩
theorem retF_sound {fn : Func} {r : AV} (e : Exit) (σ : AState) (a : Act) (w1 : World) (hs : SimS w M0 σ a w1) (hq : retF fn.results.toList r e σ) : bodyPost P fn (fun e w' => ∃ v β, e = .returned v ∧ Res w w' M0 r [] v β) e a w1 := by
  obtain ⟨β, hs⟩ := hs
  have main : (match fn.results.toList with
    | [.tmp t] => (σ.ev (.tmp t)).need ∧ resAV σ t = r
    | [.tmp t, .tmp u] => (σ.ev (.tmp t)).need ∧ (σ.ev (.tmp u)).need ∧ .tup [resAV σ t, resAV σ u] = r
    | [.tmp t, .tmp u, .tmp x] => (σ.ev (.tmp t)).need ∧ (σ.ev (.tmp u)).need ∧ (σ.ev (.tmp x)).need ∧ .tup [resAV σ t, resAV σ u, resAV σ x] = r
    | _ => False) → a.defers = [] ∧ ∃ v, (results fn a.tmps).run P w1 = .ok v w1 ∧ ∃ v' β, Ending.returned v = .returned v' ∧ Res w w1 M0 r [] v' β := by
    intro hq
    refine ⟨hs.defers, ?_⟩
    split at hq
    · rename_i t ht
      obtain ⟨hn, rfl⟩ := hq
      have hres : fn.results = #[.tmp t] := Array.ext' ht
      exact ⟨_, results_tmp hres _ _ _, _, _, rfl, res_nil hs (hs.bor hn)⟩
    · rename_i t u ht
      obtain ⟨hn, hn2, rfl⟩ := hq
      have hres : fn.results = #[.tmp t, .tmp u] := Array.ext' ht
      exact ⟨_, results_tmp2 hres _ _ _, _, _, rfl, res_nil hs ⟨[_, _], rfl, _, _, rfl, hs.bor hn, _, _, rfl, hs.bor hn2, rfl⟩⟩
    · rename_i t u x ht
      obtain ⟨hn, hn2, hn3, rfl⟩ := hq
      have hres : fn.results = #[.tmp t, .tmp u, .tmp x] := Array.ext' ht
      exact ⟨.tuple #[a.tmps.getD t undef, a.tmps.getD u undef, a.tmps.getD x undef], by simp [results, hres], _, _, rfl, res_nil hs ⟨[_, _, _], rfl, _, _, rfl, hs.bor hn, _, _, rfl, hs.bor hn2, _, _, rfl, hs.bor hn3, rfl⟩⟩
    · exact hq.elim
  cases e <;> simp only [retF] at hq <;> first | exact hq.elim | exact main hq
/-- A CONTRACT OUT OF THE BODY; the results frozen -/
theorem ACalls.of_body (hT : TabOk P T) (hm : P.follows .mixedOrders = true) {f : FuncId} {fn : Func} {c : Code} {args : List AV} {r : AV} (hf : P.funcs[f]? = some fn) (hb : fn.body = some c) (hok : okFn P f = true) {n : Nat} (hnt : fn.ntmps = n) (hn : args.length ≤ n) {rs : List ResultVar} (hrs : fn.results.toList = rs)
    (h : awp P T c ⟨n, slotsOf 0 args, []⟩ (retF rs r)) : ACalls P f args r [] := by
  subst hnt; subst hrs
  refine ⟨hok, fun w M vs hM hv => calls_of_wp hf hb ?_⟩
  refine wp_mono (awp_sound hT hm c _ _ _ _ (enter_sim hM hv hn) h) ?_
  rintro e a' w' ⟨σ, hq, hs⟩
  exact retF_sound e σ a' w' hs hq
theorem retO_sound {fn : Func} {r : AV} {o : AObj} (e : Exit) (σ : AState) (a : Act) (w1 : World) (hs : SimS w M0 σ a w1) (hq : retO fn.results.toList r o e σ) : bodyPost P fn (fun e w' => ∃ v β, e = .returned v ∧ Res w w' M0 r [o] v β) e a w1 := by
  obtain ⟨β, hs⟩ := hs
  have mk : ∀ (k : Nat) (t : Tmp) (r : AV) (v : Value), lookS σ.slots t = some (.one (.own k)) → σ.H[k]? = some o → o.plain = true → (∀ hd, a.tmps.getD t undef = hd → RepV w1 (Mof M0 [hd]) [hd] r v) → Res w w1 M0 r [o] v [a.tmps.getD t undef] := by
    intro k t r v hl hH hp hr
    obtain ⟨x, hx, hβ, hone⟩ := hs.slots t _ hl
    have hxd : a.tmps.getD t undef = x := by simp [Array.getD_eq_getD_getElem?, hx]
    rw [hxd]
    have hown : ∀ g, owned [x] g → owned β g := by
      rintro g ⟨t', y, h1, h2⟩
      cases t' with
      | zero => simp at h1; subst h1; exact ⟨k, _, hβ, h2⟩
      | succ t' => simp at h1
    have hkeep : Keeps w1 (Mof M0 β) w1 (Mof M0 [x]) := ⟨Nat.le_refl _, fun _ _ _ => rfl, fun g _ hm hm' => hm (by rcases hm' with hm' | hm'; exact .inl hm'; exact .inr (hown g hm'))⟩
    refine ⟨hs.below, rfl, fun t' p y hp' hy => ?_, fun g hg => hs.fresh g (hown g hg), fun t1 t2 y1 y2 g h1 h2 _ _ => ?_, hr x hxd⟩
    · cases t' with
      | zero =>
        simp at hp' hy
        subst hp'; subst hy
        exact (hs.objs k _ _ hH hβ).plainMove hkeep hp
      | succ t' => simp at hy
    · have z1 : t1 = 0 := by cases t1 with | zero => rfl | succ n => simp at h1
      have z2 : t2 = 0 := by cases t2 with | zero => rfl | succ n => simp at h2
      rw [z1, z2]
  have ownRep : ∀ (k : Nat) (t : Tmp) (hd : Value), lookS σ.slots t = some (.one (.own k)) → a.tmps.getD t undef = hd → RepV w1 (Mof M0 [hd]) [hd] (.one (.own 0)) hd := by
    intro k t hd hl hh
    obtain ⟨x, hx, hβ, hone⟩ := hs.slots t _ hl
    have hxd : a.tmps.getD t undef = x := by simp [Array.getD_eq_getD_getElem?, hx]
    rw [hxd] at hh
    subst hh
    exact ⟨rfl, hone⟩
  have main : (match fn.results.toList with
    | [.tmp t] => match lookS σ.slots t with | some (.one (.own k)) => .one (.own 0) = r ∧ σ.H[k]? = some o ∧ o.plain = true | _ => False
    | [.tmp t, .tmp u] => match lookS σ.slots t with | some (.one (.own k)) => (σ.ev (.tmp u)).need ∧ (resAV σ u).flatOwn = true ∧ (resAV σ u).tagged = false ∧ .tup [.one (.own 0), resAV σ u] = r ∧ σ.H[k]? = some o ∧ o.plain = true | _ => False
    | _ => False) → a.defers = [] ∧ ∃ v, (results fn a.tmps).run P w1 = .ok v w1 ∧ ∃ v' β, Ending.returned v = .returned v' ∧ Res w w1 M0 r [o] v' β := by
    intro hq
    refine ⟨hs.defers, ?_⟩
    split at hq
    · rename_i t ht
      split at hq
      · rename_i k hl
        obtain ⟨rfl, hH, hp⟩ := hq
        have hres : fn.results = #[.tmp t] := Array.ext' ht
        exact ⟨_, results_tmp hres _ _ _, _, _, rfl, mk k t _ _ hl hH hp fun hd hh => by rw [hh]; exact ownRep k t hd hl hh⟩
      · exact hq.elim
    · rename_i t u ht
      split at hq
      · rename_i k hl
        obtain ⟨hn, hfl, htg, rfl, hH, hp⟩ := hq
        have hres : fn.results = #[.tmp t, .tmp u] := Array.ext' ht
        refine ⟨_, results_tmp2 hres _ _ _, _, _, rfl, mk k t _ _ hl hH hp fun hd hh => ?_⟩
        rw [hh]
        refine ⟨[_, _], rfl, _, _, rfl, ownRep k t hd hl hh, _, _, rfl, ?_, rfl⟩
        have hb := hs.bor hn
        generalize resAV σ u = ru at *
        generalize a.tmps.getD u undef = uv at *
        have hflat : ∀ (d : D) (v : Value), RepC w1 M0 [] d v → d.flatOwn = true → d.tagged = false → RepC w1 (Mof M0 [hd]) [hd] d v := by
          intro d v h1 h2 h3
          cases d <;> first | (cases h2; done) | (cases h3; done) | skip
          all_goals (simp only [RepC, RepC0] at h1 ⊢; exact RepD.flat h1 rfl)
        cases ru with
        | one d => exact hflat d _ hb hfl htg
        | agg ds =>
          obtain ⟨vs, e1, e2⟩ := hb
          simp only [AV.flatOwn, List.all_eq_true] at hfl
          simp only [AV.tagged, List.any_eq_false] at htg
          exact ⟨vs, e1, e2.1, fun i d x hd' hx => hflat d x (e2.2 i d x hd' hx) (hfl d (List.mem_of_getElem? hd')) (by simpa using htg d (List.mem_of_getElem? hd'))⟩
        | _ => cases htg
      · exact hq.elim
    · exact hq.elim
  cases e <;> simp only [retO] at hq <;> first | exact hq.elim | exact main hq
/-- A CONTRACT OUT OF THE BODY; the (first) result is a slice of the call's own -/
theorem ACalls.of_body_own (hT : TabOk P T) (hm : P.follows .mixedOrders = true) {f : FuncId} {fn : Func} {c : Code} {args : List AV} {r : AV} {o : AObj} (hf : P.funcs[f]? = some fn) (hb : fn.body = some c) (hok : okFn P f = true) {n : Nat} (hnt : fn.ntmps = n) (hn : args.length ≤ n) {rs : List ResultVar} (hrs : fn.results.toList = rs)
    (h : awp P T c ⟨n, slotsOf 0 args, []⟩ (retO rs r o)) : ACalls P f args r [o] := by
  subst hnt; subst hrs
  refine ⟨hok, fun w M vs hM hv => calls_of_wp hf hb ?_⟩
  refine wp_mono (awp_sound hT hm c _ _ _ _ (enter_sim hM hv hn) h) ?_
  rintro e a' w' ⟨σ, hq, hs⟩
  exact retO_sound e σ a' w' hs hq
end
end Go.Eng
