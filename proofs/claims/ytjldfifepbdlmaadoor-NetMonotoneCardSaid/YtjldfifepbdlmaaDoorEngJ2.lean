/-
  The abstract machine: calls that turn objects of the caller's.
-/
import Derived.Test.YtjldfifepbdlmaaDoorEngJ
set_option linter.unusedSimpArgs false
set_option linter.unusedVariables false
namespace Go.Eng
open Go.RowKit

/-! ### tags by other numbers -/
def D.ren0 (f : Nat → Option Nat) : D → D
  | .own t => match f t with | some k => .own k | none => .unk
  | .vp t off => match f t with | some k => .vp k off | none => .unk
  | .rp t i sz sub => match f t with | some k => .rp k i sz sub | none => .unk
  | .mp t => match f t with | some k => .mp k | none => .unk
  | d => d
def D.ren (f : Nat → Option Nat) : D → D
  | .clo fn caps => .clo fn (caps.map (D.ren0 f))
  | d => d.ren0 f
def AV.ren (f : Nat → Option Nat) : AV → AV
  | .one d => .one (d.ren f)
  | .agg ds => .agg (ds.map (D.ren f))
  | .tup vs => .tup (vs.map fun | .one d => .one (d.ren f) | .agg ds => .agg (ds.map (D.ren f)) | _ => .any)
  | .cond g (.one d) => .cond g (.one (d.ren f))
  | .cond g (.agg ds) => .cond g (.agg (ds.map (D.ren f)))
  | _ => .any
def AObj.ren (f : Nat → Option Nat) : AObj → AObj
  | .var e cs => .var e (cs.map (D.ren f))
  | .map kd kvs => .map kd (kvs.map fun kv => (kv.1.ren f, kv.2.ren f))
  | x => x
structure Ren (w : World) (M : Nat → Prop) (β : List Value) (w' : World) (M' : Nat → Prop) (β' : List Value) (f : Nat → Option Nat) : Prop where
  keeps : Keeps w M w' M'
  tags : ∀ (t k : Nat) (h : Value), f t = some k → β[t]? = some h → β'[k]? = some h
section
variable {w w' : World} {M M' : Nat → Prop} {β β' : List Value} {f : Nat → Option Nat}
theorem RepC0.ren (hg : Ren w M β w' M' β' f) {d : D} {v : Value} (h : RepC0 w M β d v) : RepC0 w' M' β' (d.ren0 f) v := by
  have hone := h.oneCell
  cases d
  case unk => exact h
  case own t =>
    simp only [D.ren0]
    cases hf : f t with
    | none => exact hone
    | some k => exact ⟨h.1.imp (hg.tags t k _ hf) (hg.tags t k _ hf), h.2⟩
  case vp t off =>
    simp only [D.ren0]
    cases hf : f t with
    | none => exact hone
    | some k => rcases h with ⟨g, h1, h2⟩ | h; exact .inl ⟨g, hg.tags t k _ hf h1, h2⟩; exact .inr ⟨hg.tags t k _ hf h.1, h.2⟩
  case rp t i sz sub =>
    simp only [D.ren0]
    cases hf : f t with
    | none => exact hone
    | some k => rcases h with ⟨g, n, c, h1, h2⟩ | h; exact .inl ⟨g, n, c, hg.tags t k _ hf h1, h2⟩; exact .inr ⟨hg.tags t k _ hf h.1, h.2⟩
  case mp t =>
    simp only [D.ren0]
    cases hf : f t with
    | none => exact hone
    | some k => rcases h with ⟨g, h1, h2⟩ | h; exact .inl ⟨g, hg.tags t k _ hf h1, h2⟩; exact .inr ⟨hg.tags t k _ hf h.1, h.2⟩
  all_goals (simp only [RepC0, D.ren0] at h ⊢; exact RepD.keep hg.keeps _ _ h)
theorem RepC.ren (hg : Ren w M β w' M' β' f) {d : D} {v : Value} (h : RepC w M β d v) : RepC w' M' β' (d.ren f) v := by
  cases d
  case clo fn caps =>
    obtain ⟨vs, h1, h2, h3⟩ := h
    refine ⟨vs, h1, by simpa using h2, fun i d u a b => ?_⟩
    rw [List.getElem?_map] at a
    cases hc : caps[i]? with
    | none => rw [hc] at a; cases a
    | some c => rw [hc] at a; simp at a; subst a; exact (h3 i c u hc b).ren hg
  all_goals
    simp only [RepC] at h
    have := h.ren hg
    simp only [D.ren]
    simp only [D.ren0] at this ⊢
    first
      | exact this
      | (split at this <;> simp_all [RepC])
theorem RepV.ren (hg : Ren w M β w' M' β' f) : ∀ (a : AV) (v : Value), RepV w M β a v → RepV w' M' β' (a.ren f) v := by
  have h1 : ∀ (d : D) (v : Value), RepV w M β (.one d) v → RepV w' M' β' (.one (d.ren f)) v := fun d v h => RepC.ren hg h
  have h2 : ∀ (ds : List D) (v : Value), RepV w M β (.agg ds) v → RepV w' M' β' (.agg (ds.map (D.ren f))) v := fun ds v h => by
    obtain ⟨vs, e, hl⟩ := h
    exact ⟨vs, e, RepCL.map (fun d v h => RepC.ren hg h) hl⟩
  intro a v h
  cases a with
  | one d => exact h1 d v h
  | agg ds => exact h2 ds v h
  | tup avs =>
    obtain ⟨vs, e, hl⟩ := h
    have hg' := RepVL.get avs vs hl
    refine ⟨vs, e, RepVL.mk _ _ (by simpa using hg'.1) fun i b u hb hu => ?_⟩
    rw [List.getElem?_map] at hb
    cases hc : avs[i]? with
    | none => rw [hc] at hb; cases hb
    | some c =>
      rw [hc] at hb
      simp at hb
      subst hb
      have := hg'.2 i c u hc hu
      cases c <;> first | exact h1 _ _ this | exact h2 _ _ this | exact trivial
  | cond g x => cases x <;> first | exact ⟨fun hh => h1 _ _ (h.1 hh), h.2⟩ | exact ⟨fun hh => h2 _ _ (h.1 hh), h.2⟩ | exact trivial
  | any => exact trivial
theorem plainKey_ren {kd : KeyKind} {a : AV} (h : plainKey kd a = true) : plainKey kd (a.ren f) = true := by
  cases kd <;> cases a <;> first | (cases h; done) | skip
  all_goals (rename_i d; cases d <;> first | (cases h; done) | exact h)
theorem ObjRep.ren (hg : Ren w M β w' M' β' f) {x : AObj} {h : Value} (hb : ∀ g, hblk h = some g → w'.heap[g]? = w.heap[g]?) (hr : ObjRep w M β x h) : ObjRep w' M' β' (x.ren f) h := by
  cases x with
  | gone => exact hr
  | row e sz rows =>
    obtain ⟨A, c, h1, h2, h3, h4⟩ := hr
    refine ⟨A, c, h1, h2, h3, ?_⟩
    rcases h4 with h4 | ⟨hc0, g, cur, rfl, h5, h6, h7⟩
    · exact .inl h4
    · have hgg := hb g (by rw [h1]; exact hblk_row hc0)
      exact .inr ⟨hc0, g, cur, rfl, hgg.trans h5, h6, h7.keeps hg.keeps fun vs o => reads_block (by exact hgg)⟩
  | var e cs =>
    obtain ⟨g, cur, h1, h2, h3⟩ := hr
    exact ⟨g, cur, h1, (hb g (by rw [h1]; rfl)).trans h2, RepCL.map (fun d v h => RepC.ren hg h) h3⟩
  | map kd kvs =>
    obtain ⟨hp, g, es, clk, h1, h2, h3, h4⟩ := hr
    refine ⟨fun kv hkv => ?_, g, es, clk, h1, (hb g (by rw [h1]; rfl)).trans h2, by simpa using h3, fun i kv e a b => ?_⟩
    · obtain ⟨kv', hm, rfl⟩ := List.mem_map.1 hkv
      exact plainKey_ren (hp kv' hm)
    rw [List.getElem?_map] at a
    cases hc : kvs[i]? with
    | none => rw [hc] at a; cases a
    | some c => rw [hc] at a; simp at a; subst a; exact ⟨RepV.ren hg _ _ (h4 i c e hc b).1, RepV.ren hg _ _ (h4 i c e hc b).2⟩
end

/-! ### the contract -/
/-- objects that are handed in: 'F' their handles -/
structure MPre (w : World) (M0 : Nat → Prop) (F : List Value) (Hin : List AObj) : Prop where
  len : F.length = Hin.length
  objs : ∀ (t : Nat) (o : AObj) (h : Value), Hin[t]? = some o → F[t]? = some h → ObjRep w (Mof M0 F) F o h
  out : ∀ g, owned F g → ¬ M0 g ∧ g < w.heap.size
  dist : ∀ (t t' : Nat) (x x' : Value) (g : Nat), F[t]? = some x → F[t']? = some x' → hblk x = some g → hblk x' = some g → t = t'
structure ResM (w w' : World) (M0 : Nat → Prop) (F : List Value) (p : Nat) (r : AV) (Hout : List AObj) (v : Value) (β : List Value) : Prop where
  below : BelowX (owned F) w w'
  len : β.length = Hout.length
  pins : ∀ t, t < p → β[t]? = F[t]?
  objs : ∀ (t : Nat) (o : AObj) (h : Value), Hout[t]? = some o → β[t]? = some h → ObjRep w' (Mof M0 β) β o h
  fresh : ∀ g, owned β g → (owned F g ∨ w.heap.size ≤ g) ∧ g < w'.heap.size
  dist : ∀ (t t' : Nat) (x x' : Value) (g : Nat), β[t]? = some x → β[t']? = some x' → hblk x = some g → hblk x' = some g → t = t'
  val : RepV w' (Mof M0 β) β r v
/-- THE CONTRACT OF A CALL THAT TURNS WHAT IT IS HANDED: 'Hin' the objects handed in (tags 0, 1, ..), 'Hout' the same behind the call; the first 'p' keep their handles -/
structure MCalls (P : Program) (f : FuncId) (p : Nat) (Hin : List AObj) (args : List AV) (r : AV) (Hout : List AObj) : Prop where
  ok : okFn P f = true
  len : Hout.length = Hin.length
  run : ∀ (w : World) (M0 : Nat → Prop) (F : List Value) (vs : List Value), MOk w M0 F → MPre w M0 F Hin → RepVL w (Mof M0 F) F args vs →
    Calls P f ⟨vs⟩ w fun e w' => ∃ v β, e = .returned v ∧ ResM w w' M0 F p r Hout v β

/-! ### handing over -/
def idxIn : List Nat → Nat → Option Nat
  | [], _ => none
  | x :: xs, t => if x = t then some 0 else (idxIn xs t).map (· + 1)
def nthT (ts : List Nat) (k : Nat) : Option Nat := ts[k]?
/-- the tags whose handles stay good -/
def keepT (ts : List Nat) (p : Nat) (t : Nat) : Option Nat := match idxIn ts t with | some i => if i < p then some t else none | none => some t
theorem idxIn_some : ∀ {ts : List Nat} {t i : Nat}, idxIn ts t = some i → ts[i]? = some t
  | [], t, i, h => by cases h
  | x :: xs, t, i, h => by
    simp only [idxIn] at h
    split at h
    · rename_i hx; cases h; simp [hx]
    · rw [Option.map_eq_some_iff] at h
      obtain ⟨j, h1, rfl⟩ := h
      simpa using idxIn_some h1
theorem idxIn_none : ∀ {ts : List Nat} {t : Nat}, idxIn ts t = none → t ∉ ts
  | [], t, _ => by simp
  | x :: xs, t, h => by
    simp only [idxIn] at h
    split at h
    · cases h
    · rename_i hx
      rw [Option.map_eq_none_iff] at h
      have := idxIn_none h
      simp [this, Ne.symm hx]
theorem idxIn_get : ∀ {ts : List Nat} (_ : ts.Nodup) {i t : Nat} (_ : ts[i]? = some t), idxIn ts t = some i
  | [], _, i, t, h => by simp at h
  | x :: xs, hn, 0, t, h => by
    simp at h
    subst h
    simp [idxIn]
  | x :: xs, hn, i + 1, t, h => by
    rw [List.nodup_cons] at hn
    have h' : xs[i]? = some t := by simpa using h
    have hne : x ≠ t := fun e => hn.1 (by rw [e]; exact List.mem_of_getElem? h')
    simp [idxIn, hne, idxIn_get hn.2 h']
def handIn (ts : List Nat) (H : List AObj) : List AObj := ts.map fun t => (H.getD t .gone).ren (idxIn ts)
def handOut (ts : List Nat) (p : Nat) (Hout : List AObj) : Nat → List AObj → List AObj
  | _, [] => []
  | k, o :: os => (match idxIn ts k with | some i => (Hout.getD i .gone).ren (nthT ts) | none => if ts.length ≤ p then o else o.ren (keepT ts p)) :: handOut ts p Hout (k + 1) os
theorem handOut_length (ts : List Nat) (p : Nat) (Hout : List AObj) : ∀ (H : List AObj) (k : Nat), (handOut ts p Hout k H).length = H.length
  | [], _ => rfl
  | o :: os, k => by simp [handOut, handOut_length ts p Hout os]
theorem handOut_get (ts : List Nat) (p : Nat) (Hout : List AObj) : ∀ (H : List AObj) (k t : Nat), (handOut ts p Hout k H)[t]? = (H[t]?).map fun o => match idxIn ts (k + t) with | some i => (Hout.getD i .gone).ren (nthT ts) | none => if ts.length ≤ p then o else o.ren (keepT ts p)
  | [], _, t => by simp [handOut]
  | o :: os, k, 0 => by simp [handOut]
  | o :: os, k, t + 1 => by simp only [handOut, List.getElem?_cons_succ, handOut_get ts p Hout os (k + 1) t]; rw [show k + 1 + t = k + (t + 1) by omega]
def AState.handed (σ : AState) (ts : List Nat) (p : Nat) (Hout : List AObj) : AState :=
  { n := σ.n, slots := if ts.length ≤ p then σ.slots else σ.slots.map fun s => (s.1, s.2.ren (keepT ts p)), H := handOut ts p Hout 0 σ.H, pin := σ.pin }
/-- may they be handed over -/
def handOk (σ : AState) (ts : List Nat) (p : Nat) : Prop := ts.Nodup ∧ (∀ t ∈ ts, t < σ.H.length) ∧ ∀ t ∈ ts.drop p, σ.pin ≤ t

section
variable {P : Program} {W0 w : World} {M0 : Nat → Prop} {F : List Value} {σ : AState} {a : Act} {β : List Value}
theorem lookS_mapped (f : AV → AV) {l : List (Nat × AV)} {i : Nat} {v : AV} (h : lookS (l.map fun s => (s.1, f s.2)) i = some v) : ∃ u, lookS l i = some u ∧ v = f u := by
  rw [lookS_map] at h
  cases hl : lookS l i with
  | none => rw [hl] at h; cases h
  | some u => rw [hl] at h; exact ⟨u, rfl, by simpa using h.symm⟩
/-- A CALL THAT TURNS OBJECTS -/
theorem Sim.mcall (h : Sim W0 M0 F σ a w β) {f : FuncId} {args : List AV} {vs : List Value} {r : AV} {Hout : List AObj} {ts : List Nat} {p : Nat} (hok : handOk σ ts p) (hv : RepVL w (Mof M0 β) β args vs)
    (hc : MCalls P f p (handIn ts σ.H) (args.map (AV.ren (idxIn ts))) r Hout) :
    Calls P f ⟨vs⟩ w fun e w' => ∃ v β', e = .returned v ∧ Sim W0 M0 F (σ.handed ts p Hout) a w' β' ∧ RepV w' (Mof M0 β') β' (r.ren (nthT ts)) v := by
  obtain ⟨hnd, hlt, hpin⟩ := hok
  obtain ⟨F', hF'⟩ : ∃ F' : List Value, F' = ts.map fun t => β.getD t undef := ⟨_, rfl⟩
  obtain ⟨βo, hβo⟩ : ∃ βo : List Value, βo = (List.range β.length).map fun t => match idxIn ts t with | some _ => undef | none => β.getD t undef := ⟨_, rfl⟩
  have hin : ∀ t, t ∈ ts → t < β.length := fun t ht => by rw [h.len]; exact hlt t ht
  have getF : ∀ i t, ts[i]? = some t → F'[i]? = β[t]? := fun i t hi => by
    rw [hF', List.getElem?_map, hi]
    exact (getD_some (hin t (List.mem_of_getElem? hi)) undef).symm
  have getF2 : ∀ (i : Nat) (x : Value), F'[i]? = some x → ∃ t, ts[i]? = some t ∧ β[t]? = some x := fun i x hx => by
    cases ht : ts[i]? with
    | none => rw [hF', List.getElem?_map, ht] at hx; cases hx
    | some t => rw [getF i t ht] at hx; exact ⟨t, rfl, hx⟩
  have geto : ∀ (t : Nat) (x : Value), βo[t]? = some x → (idxIn ts t = none ∧ β[t]? = some x) ∨ x = undef := fun t x hx => by
    have htl : t < β.length := by have := (List.getElem?_eq_some_iff.1 hx).1; rw [hβo] at this; simpa using this
    rw [hβo, List.getElem?_map, List.getElem?_range htl] at hx
    simp only [Option.map_some, Option.some.injEq] at hx
    cases hi : idxIn ts t with
    | some i => rw [hi] at hx; exact .inr hx.symm
    | none => rw [hi] at hx; left; exact ⟨rfl, by rw [← hx]; exact getD_some htl undef⟩
  have geto2 : ∀ (t : Nat) (x : Value), idxIn ts t = none → β[t]? = some x → βo[t]? = some x := fun t x hi hx => by
    have htl : t < β.length := (List.getElem?_eq_some_iff.1 hx).1
    rw [hβo, List.getElem?_map, List.getElem?_range htl]
    simp only [Option.map_some, hi]
    rw [← hx, getD_some htl undef]
  have ownF : ∀ g, owned F' g → ∃ i t x, ts[i]? = some t ∧ β[t]? = some x ∧ hblk x = some g := fun g ⟨i, x, h1, h2⟩ => by
    obtain ⟨t, h3, h4⟩ := getF2 i x h1
    exact ⟨i, t, x, h3, h4, h2⟩
  have ownF1 : ∀ g, owned F' g → owned β g := fun g hg => by obtain ⟨i, t, x, h1, h2, h3⟩ := ownF g hg; exact ⟨t, x, h2, h3⟩
  have owno : ∀ g, owned βo g → ∃ t x, idxIn ts t = none ∧ β[t]? = some x ∧ hblk x = some g := fun g ⟨t, x, h1, h2⟩ => by
    rcases geto t x h1 with ⟨h3, h4⟩ | rfl
    · exact ⟨t, x, h3, h4, h2⟩
    · cases h2
  have ownDisj : ∀ g, owned F' g → ¬ owned βo g := fun g hg hg' => by
    obtain ⟨i, t, x, h1, h2, h3⟩ := ownF g hg
    obtain ⟨t', x', k1, k2, k3⟩ := owno g hg'
    have := h.dist t t' x x' g h2 k2 h3 k3
    subst this
    rw [idxIn_get hnd h1] at k1
    cases k1
  have hM1 : ∀ g, Mof (Mof M0 βo) F' g ↔ Mof M0 β g := fun g => by
    constructor
    · rintro ((hm | hm) | hm)
      · exact .inl hm
      · obtain ⟨t, x, _, k2, k3⟩ := owno g hm; exact .inr ⟨t, x, k2, k3⟩
      · exact .inr (ownF1 g hm)
    · rintro (hm | ⟨t, x, h1, h2⟩)
      · exact .inl (.inl hm)
      · cases hi : idxIn ts t with
        | none => exact .inl (.inr ⟨t, x, geto2 t x hi h1, h2⟩)
        | some i => exact .inr ⟨i, x, by rw [getF i t (idxIn_some hi)]; exact h1, h2⟩
  have hRin : Ren w (Mof M0 β) β w (Mof (Mof M0 βo) F') F' (idxIn ts) := by
    refine ⟨⟨Nat.le_refl _, fun _ _ _ => rfl, fun g _ hm hm' => hm ((hM1 g).1 hm')⟩, fun t k x hk hx => ?_⟩
    rw [getF k t (idxIn_some hk)]; exact hx
  have hpre : MPre w (Mof M0 βo) F' (handIn ts σ.H) := by
    refine ⟨by rw [hF']; simp [handIn], fun i o x ho hx => ?_, fun g hg => ?_, fun i i' x x' g h1 h2 h3 h4 => ?_⟩
    · obtain ⟨t, h1, h2⟩ := getF2 i x hx
      simp only [handIn, List.getElem?_map, h1, Option.map_some, Option.some.injEq] at ho
      subst ho
      have htl := hlt t (List.mem_of_getElem? h1)
      exact ObjRep.ren hRin (fun _ _ => rfl) (h.objs t _ x (getD_some htl _) h2)
    · have hob := ownF1 g hg
      refine ⟨fun hm => ?_, (h.fresh g hob).2⟩
      rcases hm with hm | hm
      · exact (h.lend.out g hob).1 hm
      · exact ownDisj g hg hm
    · obtain ⟨t, k1, k2⟩ := getF2 i x h1
      obtain ⟨t', k3, k4⟩ := getF2 i' x' h2
      have := h.dist t t' x x' g k2 k4 h3 h4
      subst this
      have e1 := idxIn_get hnd k1
      rw [idxIn_get hnd k3] at e1
      cases e1; rfl
  have hg := RepVL.get args vs hv
  have hargs : RepVL w (Mof (Mof M0 βo) F') F' (args.map (AV.ren (idxIn ts))) vs := RepVL.mk _ _ (by simpa using hg.1) fun i b u hb hu => by
    rw [List.getElem?_map] at hb
    cases hx : args[i]? with
    | none => rw [hx] at hb; cases hb
    | some x => rw [hx] at hb; simp at hb; subst hb; exact RepV.ren hRin _ _ (hg.2 i x u hx hu)
  refine (hc.run w (Mof M0 βo) F' vs (h.mok_of (fun g hm => (hM1 g).1 (.inl hm)) ownF1) hpre hargs).mono ?_
  rintro e w' ⟨v, β', rfl, hR⟩
  have hlen' : β'.length = ts.length := by rw [hR.len, hc.len]; simp [handIn]
  obtain ⟨β2, hβ2⟩ : ∃ β2 : List Value, β2 = (List.range β.length).map fun t => match idxIn ts t with | some i => β'.getD i undef | none => β.getD t undef := ⟨_, rfl⟩
  have h2len : β2.length = β.length := by rw [hβ2]; simp
  have get2 : ∀ (t : Nat) (x : Value), β2[t]? = some x → (idxIn ts t = none ∧ β[t]? = some x) ∨ ∃ i, idxIn ts t = some i ∧ β'[i]? = some x := fun t x hx => by
    have htl : t < β.length := by have := (List.getElem?_eq_some_iff.1 hx).1; rw [h2len] at this; exact this
    rw [hβ2, List.getElem?_map, List.getElem?_range htl] at hx
    simp only [Option.map_some, Option.some.injEq] at hx
    cases hi : idxIn ts t with
    | some i =>
      rw [hi] at hx
      have hil : i < β'.length := by rw [hlen']; exact (List.getElem?_eq_some_iff.1 (idxIn_some hi)).1
      exact .inr ⟨i, rfl, by rw [← hx]; exact getD_some hil undef⟩
    | none => rw [hi] at hx; left; exact ⟨rfl, by rw [← hx]; exact getD_some htl undef⟩
  have get2n : ∀ (t : Nat) (x : Value), idxIn ts t = none → β[t]? = some x → β2[t]? = some x := fun t x hi hx => by
    have htl : t < β.length := (List.getElem?_eq_some_iff.1 hx).1
    rw [hβ2, List.getElem?_map, List.getElem?_range htl]
    simp only [Option.map_some, hi]
    rw [← hx, getD_some htl undef]
  have get2s : ∀ (t i : Nat) (x : Value), idxIn ts t = some i → β'[i]? = some x → β2[t]? = some x := fun t i x hi hx => by
    have htl : t < β.length := hin t (List.mem_of_getElem? (idxIn_some hi))
    rw [hβ2, List.getElem?_map, List.getElem?_range htl]
    simp only [Option.map_some, hi]
    rw [← hx, getD_some (List.getElem?_eq_some_iff.1 hx).1 undef]
  have own2 : ∀ g, owned β2 g → owned βo g ∨ owned β' g := fun g ⟨t, x, h1, h2⟩ => by
    rcases get2 t x h1 with ⟨k1, k2⟩ | ⟨i, k1, k2⟩
    · exact .inl ⟨t, x, geto2 t x k1 k2, h2⟩
    · exact .inr ⟨i, x, k2, h2⟩
  have hRout : Ren w' (Mof (Mof M0 βo) β') β' w' (Mof M0 β2) β2 (nthT ts) := by
    refine ⟨⟨Nat.le_refl _, fun _ _ _ => rfl, fun g _ hm hm' => hm ?_⟩, fun k t x hk hx => ?_⟩
    · rcases hm' with hm' | hm'
      · exact .inl (.inl hm')
      · rcases own2 g hm' with hm' | hm'
        · exact .inl (.inr hm')
        · exact .inr hm'
    · exact get2s t k x (idxIn_get hnd hk) hx
  have hkeepO : Keeps w (Mof M0 β) w' (Mof M0 β2) := by
    refine ⟨hR.below.size, fun g hlt hm => hR.below.block g hlt fun ho => hm (.inr (ownF1 g ho)), fun g hlt hm hm' => ?_⟩
    rcases hm' with hm' | hm'
    · exact hm (.inl hm')
    · rcases own2 g hm' with hm' | hm'
      · obtain ⟨t, x, _, k2, k3⟩ := owno g hm'; exact hm (.inr ⟨t, x, k2, k3⟩)
      · rcases (hR.fresh g hm').1 with k | k
        · exact hm (.inr (ownF1 g k))
        · omega
  have keepTag : ∀ (t k : Nat) (x : Value), keepT ts p t = some k → β[t]? = some x → β2[k]? = some x := fun t k x hk hx => by
    unfold keepT at hk
    cases hi : idxIn ts t with
    | none => rw [hi] at hk; cases hk; exact get2n t x hi hx
    | some i =>
      rw [hi] at hk
      simp only at hk
      split at hk
      · rename_i hip
        cases hk
        exact get2s t i x hi (by rw [hR.pins i hip, getF i t (idxIn_some hi)]; exact hx)
      · cases hk
  have hRo : Ren w (Mof M0 β) β w' (Mof M0 β2) β2 (keepT ts p) := ⟨hkeepO, keepTag⟩
  have hGo : ts.length ≤ p → Grow w (Mof M0 β) β w' (Mof M0 β2) β2 := fun hp => ⟨hkeepO, fun t x hx => keepTag t t x (by
    unfold keepT
    cases hi : idxIn ts t with
    | none => rfl
    | some i =>
      have := (List.getElem?_eq_some_iff.1 (idxIn_some hi)).1
      simp only
      rw [if_pos (by omega)]) hx⟩
  refine ⟨v, β2, rfl, ⟨?_, h.m0, ?_, ?_, ?_, ?_, ?_, h.size, h.defers, h.out, h.pins.1, ?_⟩, RepV.ren hRout _ _ hR.val⟩
  · refine h.below.trans hR.below fun g hg ho => ?_
    rcases (h.fresh g (ownF1 g ho)).1 with k | k
    · exact k
    · omega
  · rw [h2len, h.len]; simp [AState.handed, handOut_length]
  · intro t o x ho hx
    simp only [AState.handed, handOut_get, Nat.zero_add] at ho
    cases hH : σ.H[t]? with
    | none => rw [hH] at ho; cases ho
    | some q =>
      rw [hH] at ho
      simp only [Option.map_some, Option.some.injEq] at ho
      rcases get2 t x hx with ⟨k1, k2⟩ | ⟨i, k1, k2⟩
      · rw [k1] at ho
        have hblock : ∀ g, hblk x = some g → w'.heap[g]? = w.heap[g]? := fun g hgx => hR.below.block g (h.fresh g ⟨t, x, k2, hgx⟩).2 fun hFg => ownDisj g hFg ⟨t, x, geto2 t x k1 k2, hgx⟩
        simp only at ho
        split at ho
        · rename_i hp
          subst ho
          exact ObjRep.grow (hGo hp) hblock (h.objs t q x hH k2)
        · subst ho
          exact ObjRep.ren hRo hblock (h.objs t q x hH k2)
      · rw [k1] at ho
        simp only at ho
        subst ho
        have hil : i < Hout.length := by rw [← hR.len]; exact (List.getElem?_eq_some_iff.1 k2).1
        exact ObjRep.ren hRout (fun _ _ => rfl) (hR.objs i _ x (getD_some hil _) k2)
  · intro g hg
    rcases own2 g hg with hm | hm
    · obtain ⟨t, x, _, k2, k3⟩ := owno g hm
      exact ⟨(h.fresh g ⟨t, x, k2, k3⟩).1, Nat.lt_of_lt_of_le (h.fresh g ⟨t, x, k2, k3⟩).2 hR.below.size⟩
    · obtain ⟨k1, k2⟩ := hR.fresh g hm
      refine ⟨?_, k2⟩
      rcases k1 with k1 | k1
      · exact (h.fresh g (ownF1 g k1)).1
      · exact .inr (Nat.le_trans h.below.size k1)
  · intro t t' x x' g h1 h2 h3 h4
    rcases get2 t x h1 with ⟨k1, k2⟩ | ⟨i, k1, k2⟩ <;> rcases get2 t' x' h2 with ⟨l1, l2⟩ | ⟨i', l1, l2⟩
    · exact h.dist t t' x x' g k2 l2 h3 h4
    · exfalso
      rcases (hR.fresh g ⟨i', x', l2, h4⟩).1 with q | q
      · exact ownDisj g q ⟨t, x, geto2 t x k1 k2, h3⟩
      · have := (h.fresh g ⟨t, x, k2, h3⟩).2; omega
    · exfalso
      rcases (hR.fresh g ⟨i, x, k2, h3⟩).1 with q | q
      · exact ownDisj g q ⟨t', x', geto2 t' x' l1 l2, h4⟩
      · have := (h.fresh g ⟨t', x', l2, h4⟩).2; omega
    · have e := hR.dist i i' x x' g k2 l2 h3 h4
      subst e
      have e1 := idxIn_some k1
      rw [idxIn_some l1] at e1
      cases e1; rfl
  · intro i u hu
    simp only [AState.handed] at hu
    split at hu
    · rename_i hp
      obtain ⟨x, h1, h2⟩ := h.slots i u hu
      exact ⟨x, h1, RepV.grow (hGo hp) u x h2⟩
    · obtain ⟨u0, hl, rfl⟩ := lookS_mapped (AV.ren (keepT ts p)) hu
      obtain ⟨x, h1, h2⟩ := h.slots i u0 hl
      exact ⟨x, h1, RepV.ren hRo u0 x h2⟩
  · intro t ht
    have ht' : t < σ.pin := ht
    have hF := h.pins.2 t ht'
    have hFl : t < F.length := Nat.lt_of_lt_of_le ht' h.pins.1
    rw [List.getElem?_eq_getElem hFl] at hF ⊢
    cases hi : idxIn ts t with
    | none => exact get2n t _ hi hF
    | some i =>
      have hip : i < p := by
        refine Nat.lt_of_not_le fun hpi => ?_
        have hmem : t ∈ ts.drop p := by
          have := idxIn_some hi
          refine List.mem_of_getElem? (i := i - p) ?_
          rw [List.getElem?_drop, show p + (i - p) = i by omega]
          exact this
        have := hpin t hmem
        omega
      exact get2s t i _ hi (by rw [hR.pins i hip, getF i t (idxIn_some hi)]; exact hF)
end
end Go.Eng
