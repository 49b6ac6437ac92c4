/-
 The abstract machine over data, part 10: regions that draw their order, by hand: what only reads is taken first, the rest is met one by one.
-/
import Derived.Test.YtkjllcmpjghmkaaGreatDoorE9
import Derived.OrdersHeld
set_option linter.unusedSimpArgs false
set_option linter.unusedVariables false
namespace Go.Eng
open Go.RowKit
section
variable {P : Program} {ops : Array Oper} {Q : Exit → Act → World → Prop} {md : Region.Mode} {S : World → Prop} {lt : List Nat}
def z2W (P : Program) (md : Region.Mode) (ops : Array Oper) (Q : Exit → Act → World → Prop) (S : World → Prop) (lt : List Nat) : Nat → Array Bool → Act → World → Prop
 | 0, listed, a, w => Region.ready md ops listed = [] ∧ Q .normal a w
 | fuel + 1, listed, a, w => (Region.ready md ops listed = [] → Q .normal a w) ∧ ∀ i ∈ Region.ready md ops listed, wpOp P ops Q i (fun a' w' => (i ∉ lt → S w') ∧ z2W P md ops Q S lt fuel (listed.setIfInBounds i true) a' w') a w
theorem z7G : ∀ (fuel : Nat) (listed : Array Bool) (a : Act) (w : World), z2W P md ops Q S lt fuel listed a w → wpAny P md ops Q fuel listed a w
 | 0, _, _, _, h => h
 | fuel + 1, _, _, _, h => ⟨h.1, fun i hi => wpOp_mono (fun a' w' h' => z7G fuel _ a' w' h'.2) (h.2 i hi)⟩
theorem z9o {i : Nat} {oi : Oper} {v : Value} (hi : ops[i]? = some oi) (hsel : ∀ (j : Nat) (o : Oper) cs b, ops[j]? = some o → o.op ≠ .select cs b)
  (hQ : ∀ c a w, Q (.panic c) (a.put oi.dst v) w → Q (.panic c) a w) (hlt : ∀ j ∈ lt, Region.waitsFor md ops j i = true) :
  ∀ (fuel : Nat) (listed : Array Bool) (a : Act) (w : World),
   (∀ j oj, ops[j]? = some oj → j ≠ i → listed.getD j true = false → (∀ e ∈ oj.after, Region.binds md e = true → e.on ≠ i) → oi.apart ops oj = true) →
   i ∈ Region.ready md ops listed → YieldsIf P ops S oi v a → S w →
   z2W P md ops Q S lt fuel (listed.setIfInBounds i true) (a.put oi.dst v) w → z2W P md ops Q S lt (fuel + 1) listed a w := by
 intro fuel
 induction fuel with
 | zero =>
  intro listed a w _ hr hy hS H
  refine ⟨fun h => (by rw [h] at hr; cases hr), fun j hj => ?_⟩
  by_cases hji : j = i
  ·subst hji; exact hy.wpOp hi hS ⟨fun _ => hS, H⟩
  ·have := ready_mono hj hji
   rw [H.1] at this
   cases this
 | succ fuel ih =>
  intro listed a w hfree hr hy hS H
  refine ⟨fun h => (by rw [h] at hr; cases hr), fun j hj => ?_⟩
  by_cases hji : j = i
  ·subst hji; exact hy.wpOp hi hS ⟨fun _ => hS, H⟩
  ·have h1 := H.2 j (ready_mono hj hji)
   obtain ⟨hjun, oj, hoj, hall⟩ := mem_ready.1 hj
   have hnot : ∀ e ∈ oj.after, Region.binds md e = true → e.on ≠ i := fun e he hb heq => by
    have h1 := hall e he hb
    have h0 := (mem_ready.1 hr).1
    rw [heq] at h1
    rcases Nat.lt_or_ge i listed.size with h' | h'
    ·simp [h'] at h0 h1; rw [h0] at h1; cases h1
    ·simp [Array.getElem?_eq_none h'] at h1
   have hjl : j ∉ lt := fun hm => by
    have h2 := hlt j hm
    unfold Region.waitsFor at h2
    rw [hoj] at h2
    simp only [Array.any_eq_true', Bool.and_eq_true, beq_iff_eq, Array.mem_toList_iff, List.any_eq_true, decide_eq_true_eq] at h2
    obtain ⟨e, he, h3⟩ := h2
    first | exact hnot e he h3.1 h3.2 | exact hnot e he h3.2 h3.1
   have h2 := wpOp_putIf hoj (hfree j oj hoj hji hjun hnot) (fun cs b => hsel i oi cs b hi) (fun cs b => hsel j oj cs b hoj) hQ hy h1
   have hfree' : ∀ k ok, ops[k]? = some ok → k ≠ i → (listed.setIfInBounds j true).getD k true = false →
     (∀ e ∈ ok.after, Region.binds md e = true → e.on ≠ i) → oi.apart ops ok = true := fun k ok hk hki hun hno => by
    refine hfree k ok hk hki ?_ hno
    by_cases hjk : j = k
    ·subst hjk; exact hjun
    ·rw [getD_set_ne true hjk] at hun; exact hun
   refine wpOp_mono (fun a' w' h3 => ⟨h3.2.1, ih (listed.setIfInBounds j true) a' w' hfree' (ready_mono hr (Ne.symm hji)) h3.1 (h3.2.1 hjl) ?_⟩) h2
   rw [Array.setIfInBounds_comm _ _ hji]
   exact h3.2.2
theorem zaW {i : Nat} {oi : Oper} {v : Value} {fuel : Nat} {listed : Array Bool} {a : Act} {w : World} (hi : ops[i]? = some oi)
  (hs : Region.noSelect ops = true) (hf : Region.free md ops listed i = true) (hr : (Region.ready md ops listed).contains i = true) (hl : lt.all (fun j => Region.waitsFor md ops j i) = true)
  (hQ : ∀ c a w, Q (.panic c) (a.put oi.dst v) w → Q (.panic c) a w) (hy : YieldsIf P ops S oi v a) (hS : S w)
  (h : z2W P md ops Q S lt fuel (listed.setIfInBounds i true) (a.put oi.dst v) w) : z2W P md ops Q S lt (fuel + 1) listed a w :=
 z9o hi (Region.noSelect_spec hs) hQ (fun j hj => List.all_eq_true.1 hl j hj) fuel listed a w (Region.free_spec hi hf) (by simpa using hr) hy hS h
theorem zaV {id : Nat} {a : Act} {w : World} (hm : P.follows .mixedOrders = true)
  (h : z2W P .any ops Q S lt ops.size (Array.replicate ops.size false) a { w with drawn := w.drawn + 1 }) : (Code.region id ops true).wp P Q a w :=
 wp_region_any hm (z7G _ _ _ _ h)
end
theorem zgo {T : Tab} {P : Program} (hT : TabOk P T) {t : TypeId} (h : (T t).desc ≠ .other) : ∃ z : Value, ∀ w : World, (zeroValue t).run P w = .ok z w := by
 obtain ⟨i, z, h1, h2, h3, h4, _⟩ := (hT t).info h
 exact ⟨z, fun w => by simp [zeroValue, typeInfo, h1, h4]⟩
section
variable {P : Program} {T : Tab} {w : World} {M : Nat → Prop} {β : List Value}
theorem z6U (hT : TabOk P T) {t : TypeId} {q : IntKind} (ht : keyOk T t (.int q)) {k : AV} {x : Value} (h : z0c (.int q) k = true) (hr : RepV w M β k x) {tt : TypeDesc} (hu : P.underlying t = some tt) :
  ∀ (kvs : List (AV × AV)) (es : List MapEntry) (i : Nat), kvs.length = es.length → (∀ kv ∈ kvs, z0c (.int q) kv.1 = true) → (∀ (j : Nat) (kv : AV × AV) (e : MapEntry), kvs[j]? = some kv → es[j]? = some e → RepV w M β kv.1 e.key) → Instr.findNow tt x es i ≠ none
 | _, [], _, _, _, _ => by simp [Instr.findNow]
 | [], _ :: _, _, hl, _, _ => by simp at hl
 | kv :: kvs, e :: es, i, hl, hp, hrep => by
  have q1 := (z6I hT ht (z1k h) (z1k (hp kv (by simp))) hr (hrep 0 kv e rfl rfl)).1 tt hu
  have ih := z6U hT ht h hr hu kvs es (i + 1) (by simpa using hl) (fun kv hkv => hp kv (by simp [hkv])) fun j kv e a b => hrep (j + 1) kv e (by simpa using a) (by simpa using b)
  rcases q1 with ⟨q', hq⟩ | hs
  ·cases hq
  ·simp only [Instr.findNow, hs]
   cases eqKey k kv.1 with
   | true => simp
   | false => exact ih
theorem zdC (hT : TabOk P T) {t kt et : TypeId} (hd : (T t).desc = .map kt et) {q : IntKind} (h1 : keyOk T kt (.int q)) (h3 : (T et).desc ≠ .other) {k : AV} (h2 : z0c (.int q) k = true) {u : Value} (hu : RepV w M β k u) {x : Value} {kvs : List (AV × AV)}
  (ho : ObjRep w M β (.map (.int q) kvs) x) : ∃ r : Value, RepV w M β ((z0q k kvs).getD (T et).zeroV) r ∧ ∀ w' : World, (∀ g, hblk x = some g → w'.heap[g]? = w.heap[g]?) → (Instr.lookup t x u false).run P w' = .ok r w' := by
 obtain ⟨hp, g, es, clk, rfl, hg, hlen, hrep⟩ := ho
 obtain ⟨z, hz⟩ := zgo (P := P) hT h3
 obtain ⟨z', hz1, hz2⟩ := z60 (w := w) (M := M) (β := β) hT h3
 have hzz : z' = z := by rw [hz w] at hz1; cases hz1; rfl
 subst hzz
 have hrep' : ∀ (j : Nat) (kv : AV × AV) (e : MapEntry), kvs[j]? = some kv → es.toList[j]? = some e → RepV w M β kv.1 e.key ∧ RepV w M β kv.2 e.val := fun j kv e a b => hrep j kv e a (by simpa using b)
 obtain ⟨tt, htt⟩ : ∃ tt, P.underlying kt = some tt := ⟨_, z0S hT h1⟩
 obtain ⟨r0, hr0⟩ : ∃ r0, Instr.findNow tt u es.toList 0 = some r0 := by
  cases h : Instr.findNow tt u es.toList 0 with
  | some r0 => exact ⟨r0, rfl⟩
  | none => exact absurd h (z6U hT h1 h2 hu htt kvs es.toList 0 (by simpa using hlen) hp fun j kv e a b => (hrep' j kv e a b).1)
 have hfk : ∀ w' : World, (Instr.findKey kt u es.toList).run P w' = .ok r0 w' := fun w' => by simp [Instr.findKey, run_underlying htt, hr0]
 have hkey : ∀ w' : World, RepV w' M β k u := fun w' => by
  cases z1k h2 with
  | int q z => exact hu
 have hrun : ∀ w' : World, w'.heap[g]? = w.heap[g]? → (Instr.lookup t (.map (some g)) u false).run P w' = .ok ((r0.map (·.2)).getD z') w' := fun w' hw => by
  have hck := z1x (w := w') hT h1 h2 (hkey w') es.isEmpty 9998
  have hgw : w'.heap[g]? = some (.map es clk) := hw.trans hg
  simp only [Instr.lookup, Sem.run_bind, run_underlying (z2m hT hd), Result.andThen_ok, MapKept.run_getObj_map hgw, Sem.run_pure, hck, hfk w']
  cases r0 with
  | none => simp [hz w']
  | some p => simp
 refine ⟨_, ?_, fun w' hw => hrun w' (hw g rfl)⟩
 rcases z1O (w := w) hT h1 h2 hu kvs es.toList hp (by simpa using hlen) hrep' with ⟨a1, a2, _⟩ | ⟨j, y, e, a1, a2, a3, a4, a5, _⟩
 ·rw [hfk w] at a2
  cases a2
  rw [a1]
  exact hz2
 ·rw [hfk w] at a2
  cases a2
  rw [a1]
  exact a5
end
def xStep (T : Tab) (o : Oper) (σ : AState) (K : AState → Prop) : Prop :=
 match o.dst with
 | none => False
 | some d => match o.op with
  | .move x => ((σ.ev x).need ∧ d < σ.n) ∧ K (σ.put d (σ.evs x))
  | .fieldAddr t x f => ((σ.ev x).need ∧ d < σ.n ∧ (z0h (T t) σ.H f (σ.evs x)).1) ∧ K (σ.put d (z0h (T t) σ.H f (σ.evs x)).2)
  | .nilCheck x => match σ.evs x with
   | .one (.vp t off) => match σ.H[t]? with
    | some (.var _ _) => ((σ.ev x).need ∧ d < σ.n) ∧ K (σ.put d (.one (.vp t off)))
    | _ => False
   | _ => False
  | .indexAddr t x i => match (T t).desc, σ.evs x, σ.evs i with
   | .slice e, .one (.own ob), .one (.int _ z) => match σ.H[ob]? with
    | some (.row _ sz rows) => ((σ.ev x).need ∧ (σ.ev i).need ∧ d < σ.n ∧ (0 ≤ z ∧ z < rows.length) ∧ (T e).desc ≠ .other ∧ sz = (T e).size) ∧ K (σ.put d (.one (.rp ob z.toNat sz 0)))
    | _ => False
   | _, _, _ => False
  | .load t x => match σ.evs x with
   | .one (.vp ob off) => match σ.H[ob]? with
    | some (.var _ cs) => ((σ.ev x).need ∧ d < σ.n ∧ (T t).desc ≠ .other ∧ (loadV (T t) (cs.drop off)).1) ∧ K (σ.put d (loadV (T t) (cs.drop off)).2)
    | _ => False
   | .one (.rp ob i sz sub) => match σ.H[ob]? with
    | some (.row _ sz' rows) => ((σ.ev x).need ∧ d < σ.n ∧ (T t).desc ≠ .other ∧ sz = sz' ∧ i < rows.length ∧ (loadV (T t) ((rows.getD i []).drop sub)).1) ∧ K (σ.put d (loadV (T t) ((rows.getD i []).drop sub)).2)
    | _ => False
   | _ => False
  | .lookup t x k false => match (T t).desc, σ.evs x with
   | .map kt et, .one (.mp ob) => match σ.H[ob]? with
    | some (.map (.int q) kvs) => ((σ.ev x).need ∧ (σ.ev k).need ∧ d < σ.n ∧ keyOk T kt (.int q) ∧ (T et).desc ≠ .other ∧ z0c (.int q) (σ.evs k) = true) ∧ K (σ.put d ((z0q (σ.evs k) kvs).getD (T et).zeroV))
    | _ => False
   | _, _ => False
  | _ => False
def xWalk (T : Tab) (ops : Array Oper) : List Nat → AState → (AState → Prop) → Prop
 | [], σ, K => K σ
 | i :: is, σ, K => match ops[i]? with | some o => o.guard = none ∧ xStep T o σ (fun σ' => xWalk T ops is σ' K) | none => False
section
variable {P : Program} {T : Tab} {W0 w w' : World} {M0 : Nat → Prop} {F β : List Value} {σ : AState} {a : Act} {ops : Array Oper} {Q : Exit → Act → World → Prop} {K : AState → Prop} {md : Region.Mode} {X : Nat → Prop} {lt : List Nat}
theorem z5n {ad : Addr} {o : Nat} {vs : List Value} (hb : BelowX X w w') (hg : ad.block < w.heap.size) (hx : ¬ X ad.block) (h : reads w ad o vs) : reads w' ad o vs := fun j u hu => by
 have := h j u hu
 unfold World.cell? at this ⊢
 rw [block_add] at this ⊢
 rw [hb.block _ hg hx]
 exact this
theorem z5t (hT : TabOk P T) {t : TypeId} (hk : (T t).desc ≠ .other) {ad : Addr} {cells : List D} {vs : List Value} (hlen : cells.length = vs.length) (h1 : reads w ad 0 vs) (h2 : reads w' ad 0 vs) (h : (loadV (T t) cells).1) {u : Value}
  (hu : (loadVar t ad).run P w = .ok u w) : (loadVar t ad).run P w' = .ok u w' := by
 unfold loadV at h
 cases hagg : (T t).isAgg with
 | true =>
  simp only [hagg, if_true] at h
  have hl : (vs.take (T t).size).length = (T t).size := by rw [List.length_take]; omega
  have key : ∀ w : World, reads w ad 0 vs → (loadVar t ad).run P w = .ok (.agg ⟨vs.take (T t).size⟩) w := fun w h1 => by
   have ha := z1g (w := w) hT hk
   have hs := z0b (w := w) hT hk
   rw [hagg] at ha
   have hld := run_loadCells_list (P := P) w ad (vs.take (T t).size) (fun j v hv => z1C h1 (by rw [List.getElem?_take] at hv; split at hv; exact hv; cases hv))
   rw [hl] at hld
   simp [loadVar, ha, hs, hld]
  rw [key w h1] at hu
  cases hu
  exact key w' h2
 | false =>
  simp only [hagg, Bool.false_eq_true, if_false] at h
  cases vs with
  | nil => simp at hlen; rw [hlen] at h; simp at h
  | cons v vs =>
   have key : ∀ w : World, reads w ad 0 (v :: vs) → (loadVar t ad).run P w = .ok v w := fun w h1 => by
    have ha := z1g (w := w) hT hk
    rw [hagg] at ha
    have hc := z1C h1 (j := 0) (u := v) rfl
    rw [add_zero] at hc
    simp [loadVar, ha, hc]
   rw [key w h1] at hu
   cases hu
   exact key w' h2
theorem zaU (hT : TabOk P T) (hX : ∀ g, X g → M0 g) {o : Oper} (h : SimS W0 M0 F σ a w) (hg : o.guard = none) (hs : xStep T o σ K) : ∃ v σ', YieldsIf P ops (BelowX X w) o v a ∧ SimS W0 M0 F σ' (a.put o.dst v) w ∧ K σ' := by
 have hw : Region.wanted o (yielded ops a.tmps) = true := by simp [Region.wanted, hg]
 unfold xStep at hs
 split at hs
 ·exact hs.elim
 ·rename_i d hd
  split at hs
  ·rename_i x ho
   obtain ⟨v, σ', h1, h2, h3⟩ := z3X (ops := ops) (K := K) hT h hg (by unfold iStep; rw [hd, ho]; exact hs)
   exact ⟨v, σ', h1.yieldsIf, h2, h3⟩
  ·rename_i t x f ho
   obtain ⟨v, σ', h1, h2, h3⟩ := z3X (ops := ops) (K := K) hT h hg (by unfold iStep; rw [hd, ho]; exact hs)
   exact ⟨v, σ', h1.yieldsIf, h2, h3⟩
  ·rename_i x ho
   split at hs
   ·rename_i t off hex
    split at hs
    ·rename_i e cs hH
     obtain ⟨⟨n1, hdn⟩, hK⟩ := hs
     obtain ⟨β, h⟩ := h
     have e1 := h.evs n1
     rw [hex] at e1
     have e2 := e1
     obtain ⟨g, hβ, he⟩ := z2A e1 fun y hy => h.objs t _ y hH hy
     refine ⟨_, _, .inl ⟨hw, fun w' _ => ?_⟩, ⟨β, by rw [hd]; exact h.put hdn e2⟩, hK⟩
     simp [execOp, ho, he, Instr.sureAddr]
    ·exact hs.elim
   ·exact hs.elim
  ·rename_i t x i ho
   split at hs
   ·rename_i e ob k z hdesc hex hei
    split at hs
    ·rename_i e' sz rows hH
     obtain ⟨⟨n1, n2, hdn, hz, he, rfl⟩, hK⟩ := hs
     obtain ⟨β, h⟩ := h
     have e1 := h.evs n1
     have e2 := h.evs n2
     rw [hex] at e1
     rw [hei] at e2
     have e2' := z03 e2
     have hβ := z0u e1 fun y hy => h.objs ob _ y hH hy
     obtain ⟨A, c, hv, hn, hc, hr⟩ := h.objs ob _ _ hH hβ
     rcases hr with rfl | ⟨hc0, g, cur, rfl, hg', hcs, hrr⟩
     ·omega
     ·refine ⟨.pointer (some ((⟨g, 0, none⟩ : Addr).add (z.toNat * (T e).size))), _, .inl ⟨hw, fun w' _ => ?_⟩, ⟨β, by rw [hd]; exact h.put hdn (.inl ⟨g, _, _, hv ▸ hβ, by rw [add_lit]; simp⟩)⟩, hK⟩
      have := z2I (P := P) (w := w') hT hdesc he ⟨g, 0, none⟩ rows.length c k z hz.1 hz.2
      simp [execOp, ho, hv, e2', this]
    ·exact hs.elim
   ·exact hs.elim
  ·rename_i t x ho
   split at hs
   ·rename_i ob off hex
    split at hs
    ·rename_i e cs hH
     obtain ⟨⟨n1, hdn, hk, hl⟩, hK⟩ := hs
     obtain ⟨β, h⟩ := h
     have e1 := h.evs n1
     rw [hex] at e1
     obtain ⟨g, hβ, he⟩ := z2A e1 fun y hy => h.objs ob _ y hH hy
     obtain ⟨g', cur, hge, hg', hcl⟩ := h.objs ob _ _ hH hβ
     cases hge
     have h3 := z3R (k := off) (z0l hg')
     have h4 := z1B (o := off) (k := 0) (by simpa [Nat.add_comm] using h3)
     rw [add_lit] at h4
     obtain ⟨u, hu, hr⟩ := z1i hT hk (ad := ⟨g, 0 + off, none⟩) h4 (hcl.drop off) hl
     have hlt : g < w.heap.size := (Array.getElem?_eq_some_iff.1 hg').1
     have hx : ¬ X g := fun hm => h.disj ⟨ob, _, hβ, rfl⟩ (hX g hm)
     refine ⟨u, _, .inl ⟨hw, fun w' hS => ?_⟩, ⟨β, by rw [hd]; exact h.put hdn hr⟩, hK⟩
     have := z5t hT hk (by rw [(hcl.drop off).1]) h4 (z5n hS hlt hx h4) hl hu
     rw [Nat.zero_add] at this
     simp [execOp, ho, he, Instr.loadAt, Instr.sureAddr, this]
    ·exact hs.elim
   ·rename_i ob i sz sub hex
    split at hs
    ·rename_i e sz' rows hH
     obtain ⟨⟨n1, hdn, hk, rfl, hi, hl⟩, hK⟩ := hs
     obtain ⟨β, h⟩ := h
     have e1 := h.evs n1
     rw [hex] at e1
     obtain ⟨g, n, c, hβ, he⟩ := z4O e1 fun y hy => h.objs ob _ y hH hy
     obtain ⟨A, c', hge, hle, _, hr⟩ := h.objs ob _ _ hH hβ
     cases hge
     rcases hr with hA | ⟨hc0, g', cur, hA, hg', hcs, hrr⟩
     ·omega
     ·cases hA
      have hat := (hrr.atRow (getD_some hi [])).shift sub
      rw [zbR, add_lit] at hat
      obtain ⟨vs, h1, h2⟩ := hat
      obtain ⟨u, hu, hr⟩ := z1i hT hk (ad := ⟨g, 0 + (i * sz + sub), none⟩) h1 (β := β) h2.toC hl
      have hlt : g < w.heap.size := (Array.getElem?_eq_some_iff.1 hg').1
      have hx : ¬ X g := fun hm => h.disj ⟨ob, _, hβ, hblk_row hc0⟩ (hX g hm)
      refine ⟨u, _, .inl ⟨hw, fun w' hS => ?_⟩, ⟨β, by rw [hd]; exact h.put hdn hr⟩, hK⟩
      have := z5t hT hk (by rw [RepL.length_eq _ _ h2]) h1 (z5n hS hlt hx h1) hl hu
      rw [Nat.zero_add] at this
      simp [execOp, ho, he, Instr.loadAt, Instr.sureAddr, this]
    ·exact hs.elim
   ·exact hs.elim
  ·rename_i t x k ho
   split at hs
   ·rename_i kt et ob hdesc hex
    split at hs
    ·rename_i q kvs hH
     obtain ⟨⟨n1, n2, hdn, hk, he, hp⟩, hK⟩ := hs
     obtain ⟨β, h⟩ := h
     have e1 := h.evs n1
     have e2 := h.evs n2
     rw [hex] at e1
     obtain ⟨g, hβ, hge⟩ := z8P e1 fun y hy => h.objs ob _ y hH hy
     obtain ⟨r, hr, hrun⟩ := zdC (P := P) hT hdesc hk he hp e2 (h.objs ob _ _ hH hβ)
     have hlt : g < w.heap.size := (h.fresh g ⟨ob, _, hβ, rfl⟩).2
     have hx : ¬ X g := fun hm => h.disj ⟨ob, _, hβ, rfl⟩ (hX g hm)
     refine ⟨r, _, .inl ⟨hw, fun w' hS => ?_⟩, ⟨β, by rw [hd]; exact h.put hdn hr⟩, hK⟩
     have := hrun w' fun g' hg' => by cases hg'; exact hS.block g hlt hx
     simp [execOp, ho, hge, this]
    ·exact hs.elim
   ·exact hs.elim
  ·exact hs.elim
theorem z61 (hT : TabOk P T) (hX : ∀ g, X g → M0 g) (hsel : Region.noSelect ops = true) (hQ : ∀ c a w, ¬ Q (.panic c) a w) : ∀ (is : List Nat) (listed : Array Bool) (σ : AState) (a : Act) (fuel : Nat), lexI md ops is listed = true → (is.all fun i => lt.all fun j => Region.waitsFor md ops j i) = true → SimS W0 M0 F σ a w → xWalk T ops is σ K →
  (∀ σ' a', K σ' → SimS W0 M0 F σ' a' w → z2W P md ops Q (BelowX X w) lt fuel (z0a is listed) a' w) → z2W P md ops Q (BelowX X w) lt (fuel + is.length) listed a w
 | [], listed, σ, a, fuel, _, _, h, hi, hk => hk σ a hi h
 | i :: is, listed, σ, a, fuel, hl, hw, h, hi, hk => by
  simp only [lexI, Bool.and_eq_true] at hl
  obtain ⟨⟨hr, hf⟩, hl⟩ := hl
  rw [List.all_cons, Bool.and_eq_true] at hw
  simp only [xWalk] at hi
  cases ho : ops[i]? with
  | none => rw [ho] at hi; exact hi.elim
  | some o =>
   rw [ho] at hi
   obtain ⟨hg, hi⟩ := hi
   obtain ⟨v, σ', hy, hs, hi'⟩ := zaU (ops := ops) hT hX h hg hi
   rw [show fuel + (i :: is).length = (fuel + is.length) + 1 by simp only [List.length_cons]; omega]
   exact zaW ho hsel hf hr hw.1 (fun c a w hq => (hQ c _ w hq).elim) hy (BelowX.refl _ _) (z61 hT hX hsel hQ is _ σ' _ fuel hl hw.2 hs hi' hk)
theorem Sim.gainX (h : Sim W0 M0 F σ a w β) {N : Nat → Prop} (hpin : σ.pin = 0) (hb : BelowX X w w') (hX : ∀ g, X g → M0 g) (hN : ∀ g, N g → w.heap.size ≤ g ∧ g < w'.heap.size) : Sim w' (fun g => M0 g ∨ N g) β σ a w' β := by
 have hM : ∀ g, g < w.heap.size → Mof (fun g => M0 g ∨ N g) β g → Mof M0 β g := by
  rintro g hg ((hm | hm) | hm)
  ·exact .inl hm
  ·have := hN g hm; omega
  ·exact .inr hm
 have hgr : Grow w (Mof M0 β) β w' (Mof (fun g => M0 g ∨ N g) β) β :=
  ⟨⟨hb.size, fun g hg hm => hb.block g hg fun hx => hm (.inl (hX g hx)), fun g hg hm hm' => hm (hM g hg hm')⟩, fun t x hx => hx⟩
 refine ⟨BelowX.refl _ _, ⟨fun g hg => ?_, fun x hx => ?_⟩, h.len, fun t o x q1 q2 => (h.objs t o x q1 q2).grow hgr fun g hg => ?_, fun g hg => ⟨.inl hg, Nat.lt_of_lt_of_le (h.fresh g hg).2 hb.size⟩, h.dist, fun i v hv => ?_, h.size, h.defers, fun g hg => ⟨?_, Nat.lt_of_lt_of_le (h.fresh g hg).2 hb.size⟩, by rw [hpin]; exact Nat.zero_le _, fun t _ => rfl⟩
 ·rcases hg with hg | hg
  ·exact Nat.lt_of_lt_of_le (Nat.lt_of_lt_of_le (h.m0.1 g hg) h.below.size) hb.size
  ·exact (hN g hg).2
 ·obtain ⟨h1, ⟨h2, h3⟩, e, fz, h4⟩ := h.m0.2 x hx
  have hlt2 : x.1 < w.heap.size := Nat.lt_of_lt_of_le h1 h.below.size
  have hno : ¬ Mof M0 β x.1 := by
   rintro (hm | hm)
   ·exact h2 hm
   ·rcases (h.fresh _ hm).1 with hf | hf
    ·exact h3 hf
    ·omega
  refine ⟨Nat.lt_of_lt_of_le hlt2 hb.size, ⟨fun hm => hno (hM _ hlt2 (.inl hm)), fun hm => hno (.inr hm)⟩, e, fz, ?_⟩
  rw [hb.block _ hlt2 fun hx' => hno (.inl (hX _ hx')), h.below.block _ h1 h3]
  exact h4
 ·have ho : owned β g := ⟨t, x, q2, hg⟩
  exact hb.block g (h.fresh g ho).2 fun hx => h.disj ho (hX g hx)
 ·obtain ⟨x, q1, q2⟩ := h.slots i v hv
  exact ⟨x, q1, q2.grow hgr _ _⟩
 ·rintro (hm | hm)
  ·exact h.disj hg hm
  ·have := (h.fresh g hg).2
   have := hN g hm
   omega
theorem Sim.less (h : Sim W0 M0 F σ a w β) (hpin : σ.pin = 0) {M1 : Nat → Prop} (hM : ∀ g, M1 g → M0 g) : Sim w M1 β σ a w β := by
 have hsub : ∀ g, Mof M1 β g → Mof M0 β g := fun g hg => hg.imp (hM g) id
 have hgr : Grow w (Mof M0 β) β w (Mof M1 β) β := ⟨⟨Nat.le_refl _, fun _ _ _ => rfl, fun g _ hm hm' => hm (hsub g hm')⟩, fun t x hx => hx⟩
 refine h.renew (σ' := σ) (Below.refl _ _) h.size h.defers (by rw [hpin]; exact Nat.zero_le _) (fun g _ => hsub g) (fun g hg => ?_) h.len (fun t o x q1 q2 => (h.objs t o x q1 q2).grow hgr fun _ _ => rfl) h.dist (fun i v hv => ?_) fun g hg hm => h.disj hg (hM g hm)
 ·rcases hg with hg | hg
  ·exact Nat.lt_of_lt_of_le (h.m0.1 g (hM g hg)) h.below.size
  ·exact (h.fresh g hg).2
 ·obtain ⟨x, q1, q2⟩ := h.slots i v hv
  exact ⟨x, q1, q2.grow hgr _ _⟩
theorem ze6 (hT : TabOk P T) {o : Oper} {s x : Operand} {t d e sz : Nat} {v : Value} {rows news : List (List D)} (ho : o.op = .call { callee := .builtin .append, args := #[s, x], argTypes := #[t, t] }) (hd : o.dst = some d) (h : Sim W0 M0 F σ a w β) (hpin : σ.pin = 0)
  (hs : σ.evs s = .one (.raw v)) (hx : z0J σ.H (σ.evs x) = some news) (hn : (σ.ev s).need ∧ (σ.ev x).need) (hdn : d < σ.n) (hdesc : (T t).desc = .slice e) (hM : ∀ g, hblk v = some g → M0 g) (hobj : ∀ M β, ObjRep w M β (.row e sz rows) v)
  (hf : ∀ r ∈ rows ++ news, r.all D.flat = true) (hk : (T e).desc ≠ .other) (hsz : 0 < (T e).size) (hsz' : sz = (T e).size) (hrl : ∀ r ∈ news, r.length = sz) (hby : (rows.length + news.length) * (T e).bytes ≤ 140737488355328) (hmx : rows.length + news.length ≤ 9223372036854775807) :
  ∃ v' w', (execOp a.eval o).run P w = .ok (.value v') w' ∧ BelowX (fun g => hblk v = some g) w w' ∧ (∀ g, hblk v' = some g → hblk v = some g ∨ (w.heap.size ≤ g ∧ g < w'.heap.size)) ∧ (∀ M β, ObjRep w' M β (.row e sz (rows ++ news)) v') ∧
   Sim w' (fun g => M0 g ∨ (hblk v' = some g ∧ w.heap.size ≤ g)) β (σ.put d (.one (.raw v'))) (a.put (some d) v') w' β := by
 have h1 := h.adopt (x := v) (o := .row e sz rows) hM hobj
 have hev : a.eval s = v := by
  have e1 := h.evs hn.1
  rw [hs] at e1
  exact e1.1
 have hbt : (β ++ [v])[σ.H.length]? = some v := by rw [← h.len]; simp
 have hHt : (σ.H ++ [AObj.row e sz rows])[σ.H.length]? = some (.row e sz rows) := by simp
 have hsub : ∀ g, Mof (fun g => M0 g ∧ hblk v ≠ some g) (β ++ [v]) g → Mof M0 β g := by
  rintro g (hm | hm)
  ·exact .inl hm.1
  ·rcases z1E hm with hm | ⟨t', y, q1, q2⟩
   ·exact .inr hm
   ·cases t' with
    | zero => cases q1; exact .inl (hM g q2)
    | succ t' => cases q1
 have hkp : Keeps w (Mof M0 β) w (Mof (fun g => M0 g ∧ hblk v ≠ some g) (β ++ [v])) := ⟨Nat.le_refl _, fun _ _ _ => rfl, fun g _ hm hm' => hm (hsub g hm')⟩
 obtain ⟨v', w', r1, r2, r3, r4, r5⟩ := z3z (ty := o.type) hT hdesc h1 hbt hHt (v2 := a.eval x) (fun sz hsz => by
  obtain ⟨A2, c2, vs, k1, k2, k3, k4⟩ := z0I h (h.evs hn.2) hx hsz
  exact ⟨A2, c2, vs, k1, k2, RepL.keep hkp _ _ k3, k4⟩) hk hsz hsz' hrl hby hmx
 have hb : BelowX (fun g => hblk v = some g) w w' := ⟨r2.os, r2.tape, r2.output, r2.size, fun k hk hne => r2.block k hk fun e => hne e.symm, drawn_run r1⟩
 refine ⟨v', w', ?_, hb, r3, fun M β' => z2e hf (fun _ _ => rfl) r5, ?_⟩
 ·simp [execOp, ho, resolve, invoke, builtin, hev, r1]
 ·have h2 := h.gainX (N := fun g => hblk v' = some g ∧ w.heap.size ≤ g) hpin hb hM fun g hg => by
   rcases r3 g hg.1 with h3 | h3
   ·have := h.m0.1 g (hM g h3)
    have := h.below.size
    omega
   ·exact h3
  obtain ⟨A', c', rfl⟩ := r4
  exact h2.put hdn ⟨rfl, rfl⟩
theorem zbF (hT : TabOk P T) {o : Oper} {t : TypeId} {len : Nat} {parts : Array (Nat × Operand)} {d : Nat} (ho : o.op = .buildSlice t len parts) (hd : o.dst = some d) (h0 : Sim W0 M0 F σ a w β) (ht : z16 T t len parts.toList d σ K) :
  ∃ v w', (execOp a.eval o).run P w = .ok (.value v) w' ∧ Below w.heap.size w w' ∧ ∃ σ', K σ' ∧ SimS W0 M0 F σ' (a.put (some d) v) w' := by
 unfold z16 at ht
 obtain ⟨β1, h⟩ := Sim.freezeAll (parts.toList.flatMap fun p => (σ.evs p.2).owns) σ β h0
 generalize AState.freezeAll (parts.toList.flatMap fun p => (σ.evs p.2).owns) σ = σ1 at *
 simp only at ht
 cases hs : z1f T t len (parts.toList.map fun p => (p.1, σ1.evs p.2)) with
 | none => rw [hs] at ht; exact ht.elim
 | some r =>
  obtain ⟨e, sz, rows⟩ := r
  rw [hs] at ht
  obtain ⟨⟨hn, hp, hdn⟩, hK'⟩ := ht
  obtain ⟨p1, p2⟩ := z6z (w := w) (M := Mof M0 β1) (β := β1) (ev := σ1.evs) (ρ := a.eval) (parts := parts) (fun x hx => h.evs (z0W _ _ hn x hx))
  obtain ⟨ds, vs, h1, h2, h3, h4, h5, h6⟩ := z1y (w := w) hT t len _ _ p1 p2 hs
  have hb : Below w.heap.size w (w.alloc (.cells ⟨vs⟩ e)) := (Below.refl _ _).alloc (Nat.le_refl _) _
  refine ⟨.slice (some ⟨w.heap.size, 0, none⟩) len len, w.alloc (.cells ⟨vs⟩ e), ?_, hb, ?_⟩
  ·rw [← z1o] at h1
   simp [execOp, ho, h1]
  ·have hrl : rows.length = len := by rw [h3, z11]
   refine ⟨_, hK', _, h.pushObj hdn hb (hd := .slice (some ⟨w.heap.size, 0, none⟩) len len) (fun g hg => by obtain rfl := z0N hg; simp) ?_ ⟨.inl (z1N h _), rfl⟩⟩
   have hk := z1V h hb (hd := .slice (some ⟨w.heap.size, 0, none⟩) len len) (fun g hg => by obtain rfl := z0N hg; exact Nat.le_refl _)
   have hl := RepL.keep hk ds vs (RepCL.toL h2 (zcY h4 h5 (by rw [← h3]; exact hp)))
   refine ⟨some ⟨w.heap.size, 0, none⟩, len, by rw [hrl], by rw [hrl]; exact Nat.le_refl _, ?_, zcc _ ⟨w.heap.size, ⟨vs⟩, rfl, heap_alloc_new w _, ?_, ?_⟩⟩
   ·simp only [maxLen]
    have : len * 1 ≤ len * sz := Nat.mul_le_mul_left len h5
    omega
   ·show vs.length = _
    rw [← h2.1, h4]
   ·rw [h3]
    exact RepRows.of_cells hl (by rw [← h2.1, h4]) (z0l (heap_alloc_new w _))
def tailL (P : Program) (ops : Array Oper) (Q : Exit → Act → World → Prop) (S : World → Prop) (lt : List Nat) : List Nat → Act → World → Prop
 | [], a, w => Q .normal a w
 | i :: tl, a, w => wpOp P ops Q i (fun a' w' => (i ∉ lt → S w') ∧ tailL P ops Q S lt tl a' w') a w
theorem z6a {S : World → Prop} : ∀ (tl : List Nat) (listed : Array Bool) (a : Act) (w : World), seqI md ops tl listed = true → tailL P ops Q S lt tl a w → z2W P md ops Q S lt tl.length listed a w
 | [], listed, a, w, hB, h => ⟨by simpa [seqI] using hB, h⟩
 | t :: ts, listed, a, w, hB, h => by
  simp only [seqI, Bool.and_eq_true, decide_eq_true_eq] at hB
  refine ⟨fun h1 => (by rw [hB.1] at h1; cases h1), fun i hi => ?_⟩
  rw [hB.1] at hi
  have hit : i = t := by simpa using hi
  subst hit
  exact wpOp_mono (fun a' w' h' => ⟨h'.1, z6a ts _ a' w' hB.2 h'.2⟩) h
def xB (ops : Array Oper) (is tl lt : List Nat) : Bool :=
 Region.noSelect ops && lexI .any ops is (Array.replicate ops.size false) && seqI .any ops tl (z0a is (Array.replicate ops.size false)) && (is.all fun i => lt.all fun j => Region.waitsFor .any ops j i) && decide (tl.length + is.length = ops.size)
theorem zaT (hT : TabOk P T) (hm : P.follows .mixedOrders = true) {id : Nat} {is tl lt : List Nat} (hB : xB ops is tl lt = true) (hX : ∀ g, X g → M0 g) (h : SimS W0 M0 F σ a w) {L : AState → Prop} (hw : xWalk T ops is σ L)
  (hK : ∀ σ1 a1, L σ1 → SimS W0 M0 F σ1 a1 { w with drawn := w.drawn + 1 } → tailL P ops (fun e a w => e = .normal ∧ Q .normal a w) (BelowX X { w with drawn := w.drawn + 1 }) lt tl a1 { w with drawn := w.drawn + 1 }) : (Code.region id ops true).wp P Q a w := by
 simp only [xB, Bool.and_eq_true, decide_eq_true_eq] at hB
 obtain ⟨⟨⟨⟨hsel, hli⟩, hsq⟩, hwt⟩, hnum⟩ := hB
 have hdrew : SimS W0 M0 F σ a { w with drawn := w.drawn + 1 } := by
  obtain ⟨β, h⟩ := h
  exact ⟨β, h.ext (w' := w.drew) (Below.drew (Below.refl _ _))⟩
 have key : z2W P .any ops (fun e a w => e = .normal ∧ Q .normal a w) (BelowX X { w with drawn := w.drawn + 1 }) lt (tl.length + is.length) (Array.replicate ops.size false) a { w with drawn := w.drawn + 1 } :=
  z61 hT hX hsel (fun c a w hh => by cases hh.1) is _ σ a _ hli hwt hdrew hw fun σ1 a1 h1 h2 => z6a tl _ a1 _ hsq (hK σ1 a1 h1 h2)
 rw [hnum] at key
 exact wp_mono (zaV hm key) (fun e a w hh => by obtain ⟨rfl, h2⟩ := hh; exact h2)
theorem z7K {S : World → Prop} {i d : Nat} {o : Oper} {tl : List Nat} {v : Value} (hi : ops[i]? = some o) (hg : o.guard = none) (hd : o.dst = some d) (hr : (execOp a.eval o).run P w = .ok (.value v) w') (hS : i ∉ lt → S w') (h : tailL P ops Q S lt tl (a.put (some d) v) w') : tailL P ops Q S lt (i :: tl) a w := by
 simp only [tailL]
 unfold wpOp
 rw [hi]
 simp only
 rw [if_pos (by simp [Region.wanted, hg])]
 refine .inl ?_
 unfold Oper.wp
 rw [hr]
 simp only [Oper.upon, hd]
 exact ⟨hS, h⟩
theorem z8o (hT : TabOk P T) {S : World → Prop} {i : Nat} {tl : List Nat} (hl : i ∈ lt) (h : SimS W0 M0 F σ a w) (ho : match ops[i]? with | some o => aop P T ops o σ K | none => False) (hk : ∀ σ' a' w', K σ' → SimS W0 M0 F σ' a' w' → tailL P ops Q S lt tl a' w') : tailL P ops Q S lt (i :: tl) a w := by
 simp only [tailL]
 cases hi : ops[i]? with
 | none => rw [hi] at ho; exact ho.elim
 | some o =>
  rw [hi] at ho
  have h1 := z2y (Q := Q) hT h ho (Kc := fun a' w' => (i ∉ lt → S w') ∧ tailL P ops Q S lt tl a' w') fun σ' a' w' h1 h2 => ⟨fun hn => absurd hl hn, hk σ' a' w' h1 h2⟩
  unfold wpOp
  rw [hi]
  simp only
  split
  ·rename_i hw'; rw [if_pos hw'] at h1; exact .inl h1
  ·rename_i hw'; rw [if_neg hw'] at h1; exact h1
theorem z7M (hT : TabOk P T) {S : World → Prop} {i : Nat} {o : Oper} {tl : List Nat} {t : TypeId} {len : Nat} {parts : Array (Nat × Operand)} {d : Nat} (hi : ops[i]? = some o) (hg : o.guard = none) (ho : o.op = .buildSlice t len parts) (hd : o.dst = some d) (h : Sim W0 M0 F σ a w β)
  (ht : z16 T t len parts.toList d σ K) (hS : ∀ w', Below w.heap.size w w' → S w') (hk : ∀ σ' a' w', Below w.heap.size w w' → K σ' → SimS W0 M0 F σ' a' w' → tailL P ops Q S lt tl a' w') : tailL P ops Q S lt (i :: tl) a w := by
 obtain ⟨v, w', r1, r2, σ', k1, k2⟩ := zbF hT ho hd h ht
 exact z7K hi hg hd r1 (fun _ => hS w' r2) (hk σ' _ w' r2 k1 k2)
theorem z69 (hT : TabOk P T) {S : World → Prop} {i : Nat} {o : Oper} {tl : List Nat} {s x : Operand} {t d e sz : Nat} {v : Value} {rows news : List (List D)} (hi : ops[i]? = some o) (hg : o.guard = none) (ho : o.op = .call { callee := .builtin .append, args := #[s, x], argTypes := #[t, t] }) (hd : o.dst = some d) (h : Sim W0 M0 F σ a w β) (hpin : σ.pin = 0)
  (hs : σ.evs s = .one (.raw v)) (hx : z0J σ.H (σ.evs x) = some news) (hn : (σ.ev s).need ∧ (σ.ev x).need) (hdn : d < σ.n) (hdesc : (T t).desc = .slice e) (hM : ∀ g, hblk v = some g → M0 g) (hobj : ∀ M β, ObjRep w M β (.row e sz rows) v)
  (hf : ∀ r ∈ rows ++ news, r.all D.flat = true) (hk : (T e).desc ≠ .other) (hsz : 0 < (T e).size) (hsz' : sz = (T e).size) (hrl : ∀ r ∈ news, r.length = sz) (hby : (rows.length + news.length) * (T e).bytes ≤ 140737488355328) (hmx : rows.length + news.length ≤ 9223372036854775807)
  (hS : ∀ w', BelowX (fun g => hblk v = some g) w w' → S w')
  (hK : ∀ v' w', BelowX (fun g => hblk v = some g) w w' → (∀ g, hblk v' = some g → hblk v = some g ∨ (w.heap.size ≤ g ∧ g < w'.heap.size)) → (∀ M β, ObjRep w' M β (.row e sz (rows ++ news)) v') →
   Sim w' (fun g => M0 g ∨ (hblk v' = some g ∧ w.heap.size ≤ g)) β (σ.put d (.one (.raw v'))) (a.put (some d) v') w' β → tailL P ops Q S lt tl (a.put (some d) v') w') : tailL P ops Q S lt (i :: tl) a w := by
 obtain ⟨v', w', r1, r2, r3, r4, r5⟩ := ze6 hT ho hd h hpin hs hx hn hdn hdesc hM hobj hf hk hsz hsz' hrl hby hmx
 exact z7K hi hg hd r1 (fun _ => hS w' r2) (hK v' w' r2 r3 r4 r5)
theorem z9s {S : World → Prop} (h : Q .normal a w) : tailL P ops Q S lt [] a w := h
theorem Sim.gainD (h : Sim W0 M0 F σ a w β) (hpin : σ.pin = 0) (hb : Below w.heap.size w w') {ns : List Value} {Hn : List AObj} (hl : ns.length = Hn.length) (hns : ∀ g, owned ns g → w.heap.size ≤ g ∧ g < w'.heap.size)
  (hd : ∀ (t t' : Nat) (x x' : Value) (g : Nat), ns[t]? = some x → ns[t']? = some x' → hblk x = some g → hblk x' = some g → t = t') (ho : ∀ (t : Nat) (o : AObj) (x : Value), Hn[t]? = some o → ns[t]? = some x → ObjRep w' (Mof M0 (β ++ ns)) (β ++ ns) o x) :
  Sim w' M0 (β ++ ns) ⟨σ.n, σ.slots, σ.H ++ Hn, 0⟩ a w' (β ++ ns) := by
 have hM : ∀ g, g < w.heap.size → Mof M0 (β ++ ns) g → Mof M0 β g := by
  rintro g hg (hm | hm)
  ·exact .inl hm
  ·rcases z1E hm with hm | hm
   ·exact .inr hm
   ·have := hns g hm; omega
 have hgr : Grow w (Mof M0 β) β w' (Mof M0 (β ++ ns)) (β ++ ns) :=
  ⟨⟨hb.size, fun g hg _ => hb.block g hg, fun g hg hm hm' => hm (hM g hg hm')⟩, fun t x hx => by rw [List.getElem?_append_left (List.getElem?_eq_some_iff.1 hx).1]; exact hx⟩
 refine h.renew (σ' := ⟨σ.n, σ.slots, σ.H ++ Hn, 0⟩) hb h.size h.defers (Nat.zero_le _) hM ?_ (by simp only [List.length_append, h.len, hl]) ?_ (zcI h.dist hd fun g h1 h2 => ?_) (fun i v hv => ?_) ?_
 ·rintro g (hm | hm)
  ·exact Nat.lt_of_lt_of_le (Nat.lt_of_lt_of_le (h.m0.1 g hm) h.below.size) hb.size
  ·rcases z1E hm with hm | hm
   ·exact Nat.lt_of_lt_of_le (h.fresh g hm).2 hb.size
   ·exact (hns g hm).2
 ·exact zcl (R := fun _ o x => ObjRep w' (Mof M0 (β ++ ns)) (β ++ ns) o x) h.len (fun t o x q1 q2 => (h.objs t o x q1 q2).grow hgr fun g hg => hb.block g (h.fresh g ⟨t, x, q2, hg⟩).2) ho
 ·have := (h.fresh g h1).2
  have := hns g h2
  omega
 ·obtain ⟨x, q1, q2⟩ := h.slots i v hv
  exact ⟨x, q1, q2.grow hgr _ _⟩
 ·rintro g hg hm
  rcases z1E hg with hg | hg
  ·exact h.disj hg hm
  ·have := hns g hg
   have := Nat.lt_of_lt_of_le (h.m0.1 g hm) h.below.size
   omega
theorem zgK (hT : TabOk P T) {fn : Func} {rs : List ResultVar} (hrs : fn.results.toList = rs) {r : AV} (h : Sim W0 M0 F σ a w β) (hq : retL (resV T σ) rs r) : ∃ v, (results fn a.tmps).run P w = .ok v w ∧ RepV w M0 [] r v :=
 z5P (P := P) hrs (M := M0) (β := []) (fun x hx => by
  obtain ⟨u, k1, k2⟩ := z5Q (P := P) hT h hx
  exact ⟨u, k1, z3y h.lend _ _ k2⟩) hq
theorem ACalls.of_sem {f : FuncId} {fn : Func} {c : Code} {args : List AV} {r : AV} (hT : TabOk P T) (hf : P.funcs[f]? = some fn) (hb : fn.body = some c) (hok : okFn P f = true) {n : Nat} (hnt : fn.ntmps = n) (hn : args.length ≤ n) {rs : List ResultVar} (hrs : fn.results.toList = rs)
  (h : ∀ (w : World) (M : Nat → Prop) (a : Act) (Q : Exit → Act → World → Prop), MOk w M [] → SimS w M [] ⟨n, z00 0 args, [], 0⟩ a w → (∀ (W1 : World) (F : List Value) (σ : AState) (a' : Act) (w1 : World), Below w.heap.size w W1 → (∀ g, owned F g → w.heap.size ≤ g) → SimS W1 M F σ a' w1 → retL (resV T σ) rs r → Q .ret a' w1) → c.wp P Q a w) : ACalls P f args r [] := by
 refine ⟨hok, fun w M vs hM hv => zaA hf hb hnt hn hrs hM hv fun a Q h1 hQ => h w M a Q hM h1 fun W1 F σ a' w1 k1 k2 k3 k4 => ?_⟩
 obtain ⟨β, k3⟩ := k3
 obtain ⟨v, q1, q2⟩ := zgK hT hrs k3 k4
 refine hQ a' w1 k3.defers ⟨v, q1, v, [], rfl, z2i k1 k3.below k2, rfl, fun t o x ho => by simp at ho, fun g hg => (z0j hg).elim, fun t t' x x' g h1 => by simp at h1, ?_⟩
 exact RepV.grow (w := w1) (M := M) (β := []) ⟨⟨Nat.le_refl _, fun _ _ _ => rfl, fun g _ hm hm' => hm (by rcases hm' with h | h; exact h; exact (z0j h).elim)⟩, fun _ _ x => x⟩ r v q2
theorem zg3 (hT : TabOk P T) (hm : P.follows .mixedOrders = true) {c : Code} {rs : List ResultVar} {r : AV} (h : SimS W0 M0 F σ a w) (hc : awp P T c σ (retR T rs r)) (hQ : ∀ σ' a' w', SimS W0 M0 F σ' a' w' → retL (resV T σ') rs r → Q .ret a' w') : c.wp P Q a w := by
 refine wp_mono (z0A hT hm c σ _ a w h hc) ?_
 rintro e a' w' ⟨σ', h1, h2⟩
 cases e <;> first | exact hQ σ' _ _ h2 h1 | exact h1.elim
end
end Go.Eng
