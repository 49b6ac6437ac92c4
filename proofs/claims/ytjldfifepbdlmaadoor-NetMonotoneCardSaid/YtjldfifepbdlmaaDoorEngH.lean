/-
  The abstract machine: the computing operations under one name; guards; choices.
-/
import Derived.Test.YtjldfifepbdlmaaDoorEngG
import Derived.MapKept
import Derived.Laws.StructEq
set_option linter.unusedSimpArgs false
set_option linter.unusedVariables false
namespace Go.Eng
open Go.RowKit

def AV.denil : AV → AV
  | .one .nil => .one (.list [])
  | v => v
def sliceCells (T : Tab) (t : TypeId) (len : Nat) (parts : List (Nat × AV)) : Prop × AV :=
  match sliceRows T t len parts with
  | some (_, _, []) => (True, .one .nil)
  | some (_, _, r :: rows) => (((r :: rows).all fun r => r.all D.pure) = true, .one (.list (r :: rows)))
  | none => (False, .one .unk)
def structV (T : Tab) (op : BinOp) (t : TypeId) (xs ys : List D) : Prop × AV :=
  match (T t).desc, (T t).eqs, op with
  | .struct fs, true, .eql => (plainRows T fs 0 xs ys = true, .one (.bool (eqRow xs ys)))
  | .struct fs, true, .neq => (plainRows T fs 0 xs ys = true, .one (.bool (!eqRow xs ys)))
  | _, _, _ => (False, .one .unk)
def maxV (x y : AV) : Prop × AV :=
  match x, y with
  | .one (.int k a), .one (.int _ b) => (True, .one (.int k (max a b)))
  | _, _ => (False, .one .unk)
def minV (x y : AV) : Prop × AV :=
  match x, y with
  | .one (.int k a), .one (.int _ b) => (True, .one (.int k (min a b)))
  | _, _ => (False, .one .unk)
/-- a pointer that is surely not nil -/
def nilV (H : List AObj) : AV → Prop × AV
  | .one (.vp t off) => match H[t]? with | some (.var _ _) => (True, .one (.vp t off)) | _ => (False, .one .unk)
  | .one (.rp t i sz sub) => match H[t]? with | some (.row _ _ _) => (True, .one (.rp t i sz sub)) | _ => (False, .one .unk)
  | .one (.ref r) => (True, .one (.ref r))
  | _ => (False, .one .unk)
def aval (T : Tab) (H : List AObj) (op : Op) (ev : Operand → AV) : Prop × AV :=
  match op with
  | .move x => (True, ev x)
  | .assign x => (True, ev x)
  | .binOp b t x y _ => match ev x, ev y with | .agg xs, .agg ys => structV T b t xs ys | u, v => binV T b t u v
  | .unOp u _ x => unV u (ev x)
  | .fieldAddr t x f => fieldAddrV (T t) H f (ev x)
  | .indexAddr t x i => indexAddrV T H t (ev x).denil (ev i)
  | .load t x => loadAtV T H t (ev x)
  | .index t x i => indexV T t (ev x) (ev i)
  | .field t x f => fieldV T t (ev x) f
  | .lookup t x k ok => lookupV T H t (ev x) (ev k) ok
  | .extract x i => extractV (ev x) i
  | .slice t x lo hi mx => sliceV T t (ev x).denil (lo.map ev) (hi.map ev) (mx.map ev)
  | .convert s d x => convV T H s d (ev x)
  | .nilCheck x => nilV H (ev x)
  | .makeFunc fn first caps => makeFuncV fn (first.toList.map ev) (caps.toList.map ev)
  | .build t parts => buildV T t (parts.toList.map fun p => (p.1, ev p.2))
  | .buildSlice t len parts => sliceCells T t len (parts.toList.map fun p => (p.1, ev p.2))
  | .call c => match c.callee, c.args.toList, c.argTypes.toList with
    | .builtin .len, [x], [t] => lenV T H t (ev x).denil
    | .builtin .max, [x, y], _ => maxV (ev x) (ev y)
    | .builtin .min, [x, y], _ => minV (ev x) (ev y)
    | _, _, _ => (False, .one .unk)
  | _ => (False, .one .unk)

section
variable {P : Program} {T : Tab} {w : World} {M : Nat → Prop} {β : List Value}
theorem RepV.denil {x : AV} {v : Value} (h : RepV w M β x v) : RepV w M β x.denil v := by
  unfold AV.denil
  split
  · obtain ⟨A, e0⟩ : ∃ A, v = .slice A 0 0 := h
    subst e0
    exact ⟨A, 0, rfl, Nat.le_refl _, Nat.zero_le _, .inl rfl⟩
  · exact h
def NeutOk (P : Program) (w : World) (M : Nat → Prop) (β : List Value) (r : Result Next) (v : AV) : Prop := ∃ u w', r = .ok (.value u) w' ∧ Below w.heap.size w w' ∧ RepV w' M β v u
theorem NeutOk.of {s : Sem Value} {v : AV} (h : RunTo P w M β s v) {r : Result Next} (hr : r = (s.run P w).andThen fun u w' => .ok (.value u) w') : NeutOk P w M β r v := by
  obtain ⟨u, w', h1, h2, h3⟩ := h
  exact ⟨u, w', by rw [hr, h1]; rfl, h2, h3⟩
theorem optEv {ev : Operand → AV} {ρ : Operand → Value} {lo : Option Operand} (h : ∀ x, lo = some x → RepV w M β (ev x) (ρ x)) : (∀ a, lo.map ev = some a → ∃ v, lo.map ρ = some v ∧ RepV w M β a v) ∧ (lo.map ev = none → lo.map ρ = none) := by
  cases lo with
  | none => exact ⟨fun a h => by simp at h, fun _ => rfl⟩
  | some x => exact ⟨fun a ha => by simp at ha; subst ha; exact ⟨_, rfl, h x rfl⟩, fun h => by simp at h⟩
theorem partsEv {ev : Operand → AV} {ρ : Operand → Value} {parts : Array (Nat × Operand)} (h : ∀ x ∈ parts.toList.map (·.2), RepV w M β (ev x) (ρ x)) :
    (parts.toList.map fun p => (p.1, ev p.2)).length = (parts.toList.map fun p => (p.1, ρ p.2)).length ∧
    ∀ (i : Nat) (p : Nat × AV) (q : Nat × Value), (parts.toList.map fun p => (p.1, ev p.2))[i]? = some p → (parts.toList.map fun p => (p.1, ρ p.2))[i]? = some q → p.1 = q.1 ∧ RepV w M β p.2 q.2 := by
  refine ⟨by simp, fun i p q hp hq => ?_⟩
  rw [List.getElem?_map] at hp hq
  cases hg : parts.toList[i]? with
  | none => rw [hg] at hp; cases hp
  | some x =>
    rw [hg] at hp hq
    simp at hp hq
    subst hp; subst hq
    exact ⟨rfl, h x.2 (List.mem_map.2 ⟨x, List.mem_of_getElem? hg, rfl⟩)⟩
theorem parts_array (parts : Array (Nat × Operand)) (ρ : Operand → Value) : (parts.map fun p => (p.1, ρ p.2)) = ⟨parts.toList.map fun p => (p.1, ρ p.2)⟩ := by
  apply Array.ext'
  simp
theorem zeroV_rep (hT : TabOk P T) {t : TypeId} (h : (T t).desc ≠ .other) : ∃ z, (zeroValue t).run P w = .ok z w ∧ RepV w M β (T t).zeroV z := by
  obtain ⟨z, h1, h2, h3, h4, h5⟩ := zeroVal (w := w) (M := M) hT h
  refine ⟨z, h1, ?_⟩
  unfold TyRow.zeroV
  cases hagg : (T t).isAgg with
  | true =>
    rw [hagg] at h3
    cases z <;> first | (cases h3; done) | skip
    rename_i cs
    exact ⟨cs.toList, rfl, RepL.toC h2⟩
  | false =>
    rw [hagg] at h3
    have hz : z.cells = #[z] := by cases z <;> first | (cases h3; done) | rfl
    rw [hz] at h2
    cases hzz : (T t).zero with
    | nil => rw [hzz] at h2; simp [RepL] at h2
    | cons d ds =>
      rw [hzz] at h2
      simp only [RepL] at h2
      obtain ⟨v, rest, he, hd, _⟩ := h2
      cases he
      exact hd.toC
def keyT : KeyKind → TypeDesc | .str => .string | .int k => .int k
theorem key_under (hT : TabOk P T) {t : TypeId} {kd : KeyKind} (h : (T t).desc = keyDesc kd) : P.underlying t = some (keyT kd) := by
  cases kd with
  | str => exact under_string hT h
  | int k => exact under_int hT h
theorem beq_bytes (a b : List UInt8) : ((⟨⟨a⟩⟩ : ByteArray) == ⟨⟨b⟩⟩) = (a == b) := by
  rw [beq_toListBytes, ByteArray.toList_eq, ByteArray.toList_eq]
theorem sameNow_sound {kd : KeyKind} {k k' : AV} {x x' : Value} (h : plainKey kd k = true) (h' : plainKey kd k' = true) (hr : RepV w M β k x) (hr' : RepV w M β k' x') : Instr.sameNow (keyT kd) x x' = some (eqKey k k') := by
  cases kd with
  | str =>
    cases k with
    | one d =>
      cases d <;> first | (cases h; done) | skip
      cases k' with
      | one d' =>
        cases d' <;> first | (cases h'; done) | skip
        have e1 := rep_str_inv hr
        have e2 := rep_str_inv hr'
        subst e1; subst e2
        simp only [keyT, Instr.sameNow, eqKey, beq_bytes]
      | _ => cases h'
    | _ => cases h
  | int q =>
    cases k with
    | one d =>
      cases d <;> first | (cases h; done) | skip
      cases k' with
      | one d' =>
        cases d' <;> first | (cases h'; done) | skip
        have e1 := rep_int_inv hr
        have e2 := rep_int_inv hr'
        subst e1; subst e2
        simp only [plainKey, beq_iff_eq] at h h'
        subst h; subst h'
        simp [keyT, Instr.sameNow, eqKey]
      | _ => cases h'
    | _ => cases h
theorem findNow_sound {kd : KeyKind} {k : AV} {x : Value} (h : plainKey kd k = true) (hr : RepV w M β k x) : ∀ (kvs : List (AV × AV)) (es : List MapEntry) (i : Nat), (∀ kv ∈ kvs, plainKey kd kv.1 = true) → kvs.length = es.length →
    (∀ (j : Nat) (kv : AV × AV) (e : MapEntry), kvs[j]? = some kv → es[j]? = some e → RepV w M β kv.1 e.key ∧ RepV w M β kv.2 e.val) →
    (findKV k kvs = none ∧ Instr.findNow (keyT kd) x es i = some none ∧ ∀ v, setKV k v kvs = kvs ++ [(k, v)]) ∨
    (∃ (j : Nat) (v : AV) (e : MapEntry), findKV k kvs = some v ∧ Instr.findNow (keyT kd) x es i = some (some (i + j, e.val)) ∧ es[j]? = some e ∧ j < kvs.length ∧ RepV w M β v e.val ∧ RepV w M β k e.key ∧ ∀ v', setKV k v' kvs = kvs.set j (k, v'))
  | [], [], i, _, _, _ => .inl ⟨rfl, rfl, fun _ => rfl⟩
  | [], e :: es, i, _, hl, _ => by simp at hl
  | kv :: kvs, [], i, _, hl, _ => by simp at hl
  | kv :: kvs, e :: es, i, hp, hl, hrep => by
    have hkv := hrep 0 kv e rfl rfl
    have hs := sameNow_sound h (hp kv (by simp)) hr hkv.1
    simp only [findKV, setKV, Instr.findNow, hs]
    cases heq : eqKey k kv.1 with
    | true =>
      refine .inr ⟨0, kv.2, e, by simp, by simp, rfl, by simp, hkv.2, ?_, fun v' => by simp⟩
      -- equal plain keys read alike
      obtain ⟨k1, v1⟩ := kv
      have h1 := hkv.1
      have h2 := hp (k1, v1) (by simp)
      cases kd with
      | str =>
        cases k with
        | one d =>
          cases d <;> first | (cases h; done) | skip
          cases k1 with
          | one d' =>
            cases d' <;> first | (cases h2; done) | skip
            simp only [eqKey, beq_iff_eq] at heq
            subst heq
            exact h1
          | _ => cases h2
        | _ => cases h
      | int q =>
        cases k with
        | one d =>
          cases d <;> first | (cases h; done) | skip
          cases k1 with
          | one d' =>
            cases d' <;> first | (cases h2; done) | skip
            simp only [eqKey, beq_iff_eq] at heq
            simp only [plainKey, beq_iff_eq] at h h2
            subst heq; subst h; subst h2
            exact h1
          | _ => cases h2
        | _ => cases h
    | false =>
      simp only [Bool.false_eq_true, if_false]
      rcases findNow_sound h hr kvs es (i + 1) (fun kv hkv => hp kv (by simp [hkv])) (by simpa using hl) (fun j kv e a b => hrep (j + 1) kv e (by simpa using a) (by simpa using b)) with ⟨a1, a2, a3⟩ | ⟨j, v, e', a1, a2, a3, a4, a5, a6, a7⟩
      · exact .inl ⟨a1, a2, fun v => by rw [a3 v]; rfl⟩
      · refine .inr ⟨j + 1, v, e', a1, ?_, by simpa using a3, by simpa using a4, a5, a6, fun v' => by rw [a7 v']; rfl⟩
        rw [a2, show i + 1 + j = i + (j + 1) by omega]
theorem checkKey_plain (hT : TabOk P T) {t : TypeId} {kd : KeyKind} (h : (T t).desc = keyDesc kd) {k : AV} {x : Value} (hp : plainKey kd k = true) (hr : RepV w M β k x) (e : Bool) (n : Nat) : (Instr.checkKey e (n + 1) t x).run P w = .ok () w := by
  have hu := key_under hT h
  cases kd with
  | str =>
    cases k with
    | one d =>
      cases d <;> first | (cases hp; done) | skip
      have e1 := rep_str_inv hr
      subst e1
      simp [Instr.checkKey, run_underlying hu, keyT]
    | _ => cases hp
  | int q =>
    cases k with
    | one d =>
      cases d <;> first | (cases hp; done) | skip
      have e1 := rep_int_inv hr
      subst e1
      simp [Instr.checkKey, run_underlying hu, keyT]
    | _ => cases hp
theorem findKey_run (hT : TabOk P T) {t : TypeId} {kd : KeyKind} (h : (T t).desc = keyDesc kd) {x : Value} {es : List MapEntry} {r : Option (Nat × Value)} (hf : Instr.findNow (keyT kd) x es 0 = some r) : (Instr.findKey t x es).run P w = .ok r w := by
  simp [Instr.findKey, run_underlying (key_under hT h), hf]
theorem lookupV_sound (hT : TabOk P T) {H : List AObj} (hobj : ∀ (t : Nat) (o : AObj) (h : Value), H[t]? = some o → β[t]? = some h → ObjRep w M β o h) (t : TypeId) (x k : AV) (ok : Bool) (v u : Value) (hv : RepV w M β x v) (hu : RepV w M β k u) (h : (lookupV T H t x k ok).1) :
    RunTo P w M β (Instr.lookup t v u ok) (lookupV T H t x k ok).2 := by
  unfold lookupV at h ⊢
  split
  · rename_i kt et o hd
    simp only [hd] at h
    cases hH : H[o]? with
    | none => rw [hH] at h; exact h.elim
    | some ob =>
      rw [hH] at h
      cases ob with
      | map kd kvs =>
        simp only at h ⊢
        obtain ⟨h1, h2, h3⟩ := h
        obtain ⟨g, hβ, rfl⟩ := mp_live hv fun y hy => hobj o _ y hH hy
        obtain ⟨hp, g', es, clk, he, hg, hlen, hrep⟩ := hobj o _ _ hH hβ
        cases he
        obtain ⟨z, hz1, hz2⟩ := zeroV_rep (w := w) (M := M) (β := β) hT h3
        have hck := checkKey_plain (w := w) hT h1 h2 hu es.isEmpty 9999
        have hrun : ∀ (r : Option (Nat × Value)), (Instr.findKey kt u es.toList).run P w = .ok r w → (Instr.lookup t (.map (some g)) u ok).run P w = .ok (if ok then .tuple #[(r.map (·.2)).getD z, .bool r.isSome] else (r.map (·.2)).getD z) w := by
          intro r hr
          simp only [Instr.lookup, Sem.run_bind, run_underlying (under_map hT hd), Result.andThen_ok, MapKept.run_getObj_map hg, Sem.run_pure, hck, hr]
          cases r with
          | none => cases ok <;> simp [hz1]
          | some p => cases ok <;> simp
        rcases findNow_sound h2 hu kvs es.toList 0 hp (by simpa using hlen) (fun j kv e a b => hrep j kv e a (by simpa using b)) with ⟨a1, a2, _⟩ | ⟨j, y, e, a1, a2, a3, a4, a5, _⟩
        · have := hrun none (findKey_run hT h1 a2)
          refine RunTo.pure _ this ?_
          rw [a1]
          cases ok with
          | false => simpa using hz2
          | true => exact ⟨[_, _], rfl, _, _, rfl, hz2, _, _, rfl, rfl, rfl⟩
        · have := hrun _ (findKey_run hT h1 a2)
          refine RunTo.pure _ this ?_
          rw [a1]
          cases ok with
          | false => simpa using a5
          | true => exact ⟨[_, _], rfl, _, _, rfl, a5, _, _, rfl, rfl, rfl⟩
      | _ => exact h.elim
  · exact (by simp_all : False).elim
theorem andThen_assoc {α γ δ : Type} (r : Result α) (f : α → World → Result γ) (g : γ → World → Result δ) : (r.andThen f).andThen g = r.andThen fun a w => (f a w).andThen g := by cases r <;> rfl
theorem keeps_below {w' : World} (hb : Below w.heap.size w w') (M : Nat → Prop) : Keeps w M w' M := ⟨hb.size, fun g hg _ => hb.block g hg, fun _ _ h => h⟩
theorem run_equal_plain (hT : TabOk P T) {t : TypeId} {a b : D} {x y : Value} (hl : likeD a b (T t).desc = true) (hx : RepC w M β a x) (hy : RepC w M β b y) (d : Nat) : (Op.equalIn (d + 1) t x y).run P w = .ok (eqD a b) w := by
  cases a <;> cases b <;> first | (cases hl; done) | skip
  case int.int k z k' z' =>
    cases hd : (T t).desc <;> rw [hd] at hl <;> first | (cases hl; done) | skip
    simp only [likeD, Bool.and_eq_true, beq_iff_eq] at hl
    obtain ⟨rfl, rfl⟩ := hl
    have e1 : x = .int k z := hx
    have e2 : y = .int k z' := hy
    subst e1; subst e2
    simp [Op.equalIn, run_underlying (under_int hT hd), eqD]
  case bool.bool p q =>
    cases hd : (T t).desc <;> rw [hd] at hl <;> first | (cases hl; done) | skip
    have e1 : x = .bool p := hx
    have e2 : y = .bool q := hy
    subst e1; subst e2
    simp [Op.equalIn, run_underlying (under_bool hT hd), eqD]
  case str.str p q =>
    cases hd : (T t).desc <;> rw [hd] at hl <;> first | (cases hl; done) | skip
    have e1 : x = .string ⟨⟨p⟩⟩ := hx
    have e2 : y = .string ⟨⟨q⟩⟩ := hy
    subst e1; subst e2
    simp [Op.equalIn, run_underlying (under_string hT hd), eqD, beq_bytes]
theorem eqFields_run (hT : TabOk P T) (dep : Nat) (xs ys : List Value) : ∀ (gs : List Field) (o : Nat) (as bs : List D), (∀ g ∈ gs, (g.name != "_") = true) → plainRows T (gs.map fun f => (f.offset, f.type)) o as bs = true →
    RepCL w M β as (xs.drop o) → RepCL w M β bs (ys.drop o) → (Op.eqFields (dep + 1) ⟨xs⟩ ⟨ys⟩ gs).run P w = .ok (eqRow as bs) w
  | [], o, as, bs, _, h, _, _ => by
    cases as <;> cases bs <;> simp_all [plainRows, Op.eqFields, eqRow]
  | g :: gs, o, [], bs, _, h, _, _ => by simp [plainRows] at h
  | g :: gs, o, a :: as, [], _, h, _, _ => by simp [plainRows] at h
  | g :: gs, o, a :: as, b :: bs, hn, h, hx, hy => by
    simp only [List.map_cons, plainRows, Bool.and_eq_true, beq_iff_eq] at h
    obtain ⟨⟨rfl, hl⟩, hrest⟩ := h
    have hk : (T g.type).desc ≠ .other := by intro e; rw [e] at hl; cases a <;> cases b <;> cases hl
    have hna : (T g.type).isAgg = false := by
      unfold TyRow.isAgg
      cases hd : (T g.type).desc <;> first | rfl | (rw [hd] at hl; cases a <;> cases b <;> cases hl)
    have pa : ∀ (zs : List Value) (c : D) (cs : List D), RepCL w M β (c :: cs) (zs.drop g.offset) → ∃ v, (part g.type ⟨zs⟩ g.offset).run P w = .ok v w ∧ RepC w M β c v ∧ RepCL w M β cs (zs.drop (g.offset + 1)) := by
      intro zs c cs hz
      have hlen := hz.1
      have hlt : g.offset < zs.length := by simp at hlen; omega
      have hz0 : zs.drop g.offset = zs[g.offset] :: zs.drop (g.offset + 1) := List.drop_eq_getElem_cons hlt
      have ha := run_isAgg (w := w) hT hk
      rw [hna] at ha
      refine ⟨zs[g.offset], by simp [part, ha, List.getElem?_eq_getElem hlt], hz.2 0 c _ rfl (by rw [hz0]; rfl), ?_⟩
      have := hz.drop 1
      simpa [Nat.add_comm] using this
    obtain ⟨v, p1, p2, p3⟩ := pa xs a as hx
    obtain ⟨u, q1, q2, q3⟩ := pa ys b bs hy
    have hname : g.name ≠ "_" := by simpa using hn g (by simp)
    have he := run_equal_plain hT hl p2 q2 dep
    have ih := eqFields_run hT dep xs ys gs (g.offset + 1) as bs (fun g' hg' => hn g' (by simp [hg'])) hrest p3 q3
    simp only [Op.eqFields]
    rw [if_pos hname]
    simp only [Sem.run_bind, p1, q1, he, Result.andThen_ok, eqRow]
    cases hab : eqD a b with
    | true => simpa using ih
    | false => simp
theorem structV_sound (hT : TabOk P T) (op : BinOp) (t : TypeId) (x y : Operand) (xs ys : List D) (a b : Value) (ha : RepV w M β (.agg xs) a) (hb : RepV w M β (.agg ys) b) (h : (structV T op t xs ys).1) :
    RunTo P w M β (do eqGuard op t x y a b; binOp op t a b) (structV T op t xs ys).2 := by
  obtain ⟨us, rfl, hu⟩ := ha
  obtain ⟨vs, rfl, hv⟩ := hb
  have main : ∀ fs, (T t).desc = .struct fs → (T t).eqs = true → plainRows T fs 0 xs ys = true → P.eqGuardType P.depth t = false ∧ (Op.equal t (.agg ⟨us⟩) (.agg ⟨vs⟩)).run P w = .ok (eqRow xs ys) w := by
    intro fs hd he hp
    obtain ⟨gs, hug, hgs, _⟩ := under_struct hT hd
    have hq := (hT t).eqs
    unfold eqsOk at hq
    rw [he, hug] at hq
    simp only [Bool.not_true, Bool.false_or, Bool.and_eq_true, beq_iff_eq, List.all_eq_true] at hq
    have hf : P.fieldsOf t = gs := by simp [Program.fieldsOf, hug]
    have key : ∀ d, (Op.equalIn (d + 2) t (.agg ⟨us⟩) (.agg ⟨vs⟩)).run P w = .ok (eqRow xs ys) w := fun d => by
      rw [run_equalIn_struct w (d + 1) t ⟨us⟩ ⟨vs⟩ (by rw [hf]; exact hug) hq.1.1, hf]
      exact eqFields_run hT d us vs gs.toList 0 xs ys (fun g hg => hq.2 g hg) (by rw [← hgs]; exact hp) (by simpa using hu) (by simpa using hv)
    exact ⟨hq.1.2, key 9998⟩
  unfold structV at h ⊢
  split
  · rename_i fs hd he
    simp only [hd, he] at h
    obtain ⟨h1, h2⟩ := main fs hd he h
    exact RunTo.pure _ (by simp [eqGuard, binOp, h1, h2] <;> rfl) rep_bool
  · rename_i fs hd he
    simp only [hd, he] at h
    obtain ⟨h1, h2⟩ := main fs hd he h
    exact RunTo.pure _ (by simp [eqGuard, binOp, h1, h2] <;> rfl) rep_bool
  · exact (by simp_all : False).elim
theorem maxV_sound {t : Array TypeId} {ty : TypeId} {x y : AV} {a b : Value} (ha : RepV w M β x a) (hb : RepV w M β y b) (h : (maxV x y).1) : RunTo P w M β (Builtin.max_ t ty #[a, b]) (maxV x y).2 := by
  unfold maxV at h ⊢
  split
  · rename_i k p k' q
    rw [rep_int_inv ha, rep_int_inv hb]
    refine RunTo.pure (.int k (max p q)) ?_ rep_int
    have e : (if p < q then q else p) = max p q := by omega
    simp [Builtin.max_, Builtin.max2, e]
  · exact (by simp_all : False).elim
theorem minV_sound {t : Array TypeId} {ty : TypeId} {x y : AV} {a b : Value} (ha : RepV w M β x a) (hb : RepV w M β y b) (h : (minV x y).1) : RunTo P w M β (Builtin.min_ t ty #[a, b]) (minV x y).2 := by
  unfold minV at h ⊢
  split
  · rename_i k p k' q
    rw [rep_int_inv ha, rep_int_inv hb]
    refine RunTo.pure (.int k (min p q)) ?_ rep_int
    have e : (if q < p then q else p) = min p q := by omega
    simp [Builtin.min_, Builtin.min2, e]
  · exact (by simp_all : False).elim
theorem aval_sound (hT : TabOk P T) (hM : ∀ g, M g → g < w.heap.size) {H : List AObj} (hlen : β.length = H.length) (hobj : ∀ (t : Nat) (o : AObj) (h : Value), H[t]? = some o → β[t]? = some h → ObjRep w M β o h) (o : Oper) (ev : Operand → AV) (ρ : Operand → Value)
    (hev : ∀ x ∈ o.op.operands.toList, RepV w M β (ev x) (ρ x)) (h : (aval T H o.op ev).1) : NeutOk P w M β ((execOp ρ o).run P w) (aval T H o.op ev).2 := by
  obtain ⟨dst, op, ty, pos, after, guard⟩ := o
  cases op <;> simp only [aval, Op.operands] at h hev ⊢ <;> try (exact h.elim)
  case move x => exact ⟨ρ x, w, rfl, Below.refl _ _, hev x (by simp)⟩
  case assign x => exact ⟨ρ x, w, rfl, Below.refl _ _, hev x (by simp)⟩
  case binOp b t x y t' =>
    have hx := hev x (by simp)
    have hy := hev y (by simp)
    split
    · rename_i xs ys hex hey
      rw [hex] at hx
      rw [hey] at hy
      simp only [hex, hey] at h
      exact NeutOk.of (structV_sound hT b t x y _ _ _ _ hx hy h) (by simp [execOp, andThen_assoc])
    · rename_i hne
      have h' : (binV T b t (ev x) (ev y)).1 := by
        split at h
        · rename_i xs ys hex hey; exact absurd hey (hne xs ys hex)
        · exact h
      exact NeutOk.of (binV_sound hT b t x y _ _ _ _ hx hy h') (by simp [execOp, andThen_assoc])
  case unOp u t x => exact NeutOk.of (unV_sound u _ _ (hev x (by simp)) h) (by simp [execOp])
  case fieldAddr t x f => exact NeutOk.of (fieldAddrV_sound hT hobj t f _ _ (hev x (by simp)) h) (by simp [execOp])
  case indexAddr t x i => exact NeutOk.of (indexAddrV_sound hT hobj t _ _ _ _ (hev x (by simp)).denil (hev i (by simp)) h) (by simp [execOp])
  case load t x => exact NeutOk.of (loadAtV_sound hT hlen hobj t _ _ (hev x (by simp)) h).to (by simp [execOp])
  case index t x i => exact NeutOk.of (indexV_sound hT t _ _ _ _ (hev x (by simp)) (hev i (by simp)) h) (by simp [execOp])
  case lookup t x k ok => exact NeutOk.of (lookupV_sound hT hobj t _ _ ok _ _ (hev x (by simp)) (hev k (by simp)) h) (by simp [execOp])
  case field t x f => exact NeutOk.of (fieldV_sound hT t _ f _ (hev x (by simp)) h) (by simp [execOp])
  case extract x i => exact NeutOk.of (extractV_sound _ i _ (hev x (by simp)) h) (by simp [execOp])
  case nilCheck x =>
    have hx := hev x (by simp)
    unfold nilV at h ⊢
    split at h
    · rename_i t off hex
      rw [hex] at hx
      split at h
      · rename_i e cs hH
        obtain ⟨g, _, hv⟩ := vp_live (t := t) (off := off) (e := e) (cs := cs) hx (fun y hy => hobj t _ y hH hy)
        simp only [hex, hH]
        refine ⟨ρ x, w, ?_, Below.refl _ _, hx⟩
        simp [execOp, hv]
      · exact h.elim
    · rename_i t i sz sub hex
      rw [hex] at hx
      split at h
      · rename_i e sz' rows hH
        obtain ⟨g, n, c, _, hv⟩ := rp_live (t := t) (i := i) (sz := sz) (sub := sub) (e := e) (sz' := sz') (rows := rows) hx (fun y hy => hobj t _ y hH hy)
        simp only [hex, hH]
        refine ⟨ρ x, w, ?_, Below.refl _ _, hx⟩
        simp [execOp, hv]
      · exact h.elim
    · rename_i r hex
      rw [hex] at hx
      have hx2 := hx
      obtain ⟨ad, hv, _⟩ : ∃ ad, ρ x = .pointer (some ad) ∧ _ := hx2
      simp only [hex]
      refine ⟨ρ x, w, ?_, Below.refl _ _, hx⟩
      simp [execOp, hv]
    · exact h.elim
  case convert s d x => exact NeutOk.of (convV_sound hT hobj s d _ _ (hev x (by simp)) h) (by simp [execOp])
  case slice t x lo hi mx =>
    obtain ⟨l1, l2⟩ := optEv (w := w) (M := M) (β := β) (ev := ev) (ρ := ρ) (lo := lo) (fun x hx => hev x (by simp [hx]))
    obtain ⟨h1, h2⟩ := optEv (w := w) (M := M) (β := β) (ev := ev) (ρ := ρ) (lo := hi) (fun x hx => hev x (by simp [hx]))
    exact NeutOk.of (sliceV_sound hT t _ _ _ (mx.map ev) _ _ _ (mx.map ρ) (hev x (by simp)).denil l1 l2 h1 h2 (fun hm => by cases mx with | none => rfl | some _ => simp at hm) h) (by simp [execOp])
  case build t parts =>
    obtain ⟨p1, p2⟩ := partsEv (w := w) (M := M) (β := β) (ev := ev) (ρ := ρ) (parts := parts) (fun x hx => hev x (by simpa using hx))
    refine NeutOk.of (buildV_sound hT t _ _ p1 p2 h) ?_
    rw [← parts_array]
    simp [execOp]
  case buildSlice t len parts =>
    obtain ⟨p1, p2⟩ := partsEv (w := w) (M := M) (β := β) (ev := ev) (ρ := ρ) (parts := parts) (fun x hx => hev x (by simpa using hx))
    unfold sliceCells at h ⊢
    cases hs : sliceRows T t len (parts.toList.map fun p => (p.1, ev p.2)) with
    | none => rw [hs] at h; exact h.elim
    | some r =>
      obtain ⟨e, sz, rows⟩ := r
      rw [hs] at h
      obtain ⟨ds, vs, h1, h2, h3, h4, h5, h6⟩ := buildSlice_run (w := w) hT t len _ _ p1 p2 hs
      have hb : Below w.heap.size w (w.alloc (.cells ⟨vs⟩ e)) := (Below.refl _ _).alloc (Nat.le_refl _) _
      have hrl : rows.length = len := by rw [h3, chunks_length]
      cases hrows : rows with
      | nil =>
        rw [hrows] at hrl
        simp only [List.length_nil] at hrl
        subst hrl
        have hnil : RepV (w.alloc (.cells ⟨vs⟩ e)) M β (.one .nil) (.slice (some ⟨w.heap.size, 0, none⟩) 0 0) := ⟨_, rfl⟩
        exact NeutOk.of ⟨_, _, h1, hb, hnil⟩ (by rw [← parts_array]; simp [execOp])
      | cons r0 rows0 =>
      rw [hrows] at h
      simp only at h ⊢
      rw [← hrows] at h ⊢
      have hds : ds.all D.pure = true := by
        rw [List.all_eq_true]
        intro d hd
        rw [List.all_eq_true] at h
        obtain ⟨i, hi, rfl⟩ := List.mem_iff_getElem.1 hd
        have hilt : i / sz < len := Nat.div_lt_of_lt_mul (by rw [Nat.mul_comm, ← h4]; exact hi)
        have hmem : (chunks sz len ds)[i / sz]? = some ((ds.drop (i / sz * sz)).take sz) := by
          have hl := chunks_length sz len ds
          have hg : (chunks sz len ds)[i / sz]? = some ((chunks sz len ds)[i / sz]'(by omega)) := List.getElem?_eq_getElem (by omega)
          rw [hg]
          exact congrArg some (chunks_get sz len ds _ _ hg).2
        have hr := h _ (by rw [h3]; exact List.mem_of_getElem? hmem)
        rw [List.all_eq_true] at hr
        apply hr
        have hmod := Nat.mod_lt i h5
        refine List.mem_of_getElem? (i := i % sz) ?_
        rw [List.getElem?_take, if_pos hmod, List.getElem?_drop, Nat.div_add_mod' i sz]
        exact List.getElem?_eq_getElem hi
      have hl := RepL.keep (keeps_below hb M) ds vs (RepCL.toL h2 hds)
      refine NeutOk.of ⟨_, _, h1, hb, ?_⟩ (by rw [← parts_array]; simp [execOp])
      refine ⟨some ⟨w.heap.size, 0, none⟩, len, by rw [hrl], by rw [hrl]; exact Nat.le_refl _, ?_, .inr ⟨⟨w.heap.size, 0, none⟩, sz, rfl, by simp, fun hm => Nat.lt_irrefl _ (hM _ hm), ?_⟩⟩
      · simp only [maxLen]
        have : len * 1 ≤ len * sz := Nat.mul_le_mul_left len h5
        omega
      · rw [h3]
        exact RepRows.of_cells hl (by rw [← h2.1, h4]) (reads_cells (heap_alloc_new w _))
  case makeFunc fn first caps =>
    unfold makeFuncV at h ⊢
    split
    · rename_i f ds he hc
      have hf : first = #[] := by
        have : first.toList = [] := by simpa using he
        exact Array.ext' this
      subst hf
      obtain ⟨c1, c2⟩ := capsV_sound (w := w) (M := M) (β := β) (caps.toList.map ev) (caps.toList.map ρ) ds hc (by simp) (fun i a v ha hv => by
        rw [List.getElem?_map] at ha hv
        cases hg : caps.toList[i]? with
        | none => rw [hg] at ha; cases ha
        | some x =>
          rw [hg] at ha hv
          simp at ha hv
          subst ha; subst hv
          exact hev x (by simpa using List.mem_of_getElem? hg))
      refine ⟨.func (.func f) #[] (caps.map ρ), w, by simp [execOp, Instr.makeFunc], Below.refl _ _, caps.toList.map ρ, ?_, c1, c2⟩
      congr 1
      apply Array.ext'
      simp
    · exact (by simp_all : False).elim
  case call c =>
    obtain ⟨callee, args, ats⟩ := c
    simp only at h ⊢
    split
    · rename_i x t ha hat
      simp only [ha, hat] at h
      have e1 : args = #[x] := Array.ext' ha
      have e2 : ats = #[t] := Array.ext' hat
      subst e1; subst e2
      have hx := hev x (by simp [Call.operands])
      refine NeutOk.of (lenV_sound hT hobj t ty _ _ hx.denil h) ?_
      simp [execOp, resolve, invoke, builtin]
    · rename_i x y ha
      simp only [ha] at h
      have e1 : args = #[x, y] := Array.ext' ha
      subst e1
      refine NeutOk.of (maxV_sound (t := ats) (ty := ty) (hev x (by simp [Call.operands])) (hev y (by simp [Call.operands])) h) ?_
      simp [execOp, resolve, invoke, builtin]
    · rename_i x y ha
      simp only [ha] at h
      have e1 : args = #[x, y] := Array.ext' ha
      subst e1
      refine NeutOk.of (minV_sound (t := ats) (ty := ty) (hev x (by simp [Call.operands])) (hev y (by simp [Call.operands])) h) ?_
      simp [execOp, resolve, invoke, builtin]
    · exact (by simp_all : False).elim
end
end Go.Eng
