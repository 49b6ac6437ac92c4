/-
  The abstract machine: parts, lengths, cuts, literals; all computing operations under one name.
-/
import Derived.Test.YtjldfifepbdlmaaDoorEngE
import Derived.Laws.BytesArg
set_option linter.unusedSimpArgs false
set_option linter.unusedVariables false
namespace Go.Eng
open Go.RowKit

def indexV (T : Tab) (t : TypeId) (x i : AV) : Prop × AV :=
  match (T t).desc, x, i with
  | .string, .one (.str s), .one (.int _ z) => (0 ≤ z ∧ z < s.length, .one (.int .u8 ((s.getD z.toNat 0).toNat : Int)))
  | .array n e, .agg ds, .one (.int _ z) => ((0 ≤ z ∧ z < n) ∧ (T e).desc ≠ .other ∧ (partV T e ds (z.toNat * (T e).size)).1, (partV T e ds (z.toNat * (T e).size)).2)
  | _, _, _ => (False, .one .unk)
def fieldV (T : Tab) (t : TypeId) (x : AV) (f : Nat) : Prop × AV :=
  match (T t).desc, x with
  | .struct fs, .agg ds => match fs[f]? with | some p => partV T p.2 ds p.1 | none => (False, .one .unk)
  | _, _ => (False, .one .unk)
def extractV (x : AV) (i : Nat) : Prop × AV :=
  match x with
  | .tup vs => (i < vs.length, vs.getD i (.one .unk))
  | _ => (False, .one .unk)
def lenV (T : Tab) (H : List AObj) (t : TypeId) (x : AV) : Prop × AV :=
  match (T t).desc, x with
  | .slice _, .one (.list rows) => (True, .one (.int .i64 rows.length))
  | .slice _, .one (.own o) => match H[o]? with | some (.row _ _ rows) => (True, .one (.int .i64 rows.length)) | _ => (False, .one .unk)
  | .string, .one (.str s) => (True, .one (.int .i64 s.length))
  | .array n _, _ => (True, .one (.int .i64 n))
  | .map .., .one (.mp o) => match H[o]? with | some (.map _ kvs) => (True, .one (.int .i64 kvs.length)) | _ => (False, .one .unk)
  | _, _ => (False, .one .unk)
def eqKey : AV → AV → Bool
  | .one (.str a), .one (.str b) => a == b
  | .one (.int _ a), .one (.int _ b) => a == b
  | _, _ => false
def findKV (k : AV) : List (AV × AV) → Option AV
  | [] => none
  | kv :: r => if eqKey k kv.1 = true then some kv.2 else findKV k r
def setKV (k v : AV) : List (AV × AV) → List (AV × AV)
  | [] => [(k, v)]
  | kv :: r => if eqKey k kv.1 = true then (k, v) :: r else kv :: setKV k v r
def keyDesc : KeyKind → Desc | .str => .string | .int k => .int k
def lookupV (T : Tab) (H : List AObj) (t : TypeId) (x k : AV) (ok : Bool) : Prop × AV :=
  match (T t).desc, x with
  | .map kt et, .one (.mp o) =>
    match H[o]? with
    | some (.map kd kvs) => ((T kt).desc = keyDesc kd ∧ plainKey kd k = true ∧ (T et).desc ≠ .other, if ok = true then .tup [(findKV k kvs).getD (T et).zeroV, .one (.bool (findKV k kvs).isSome)] else (findKV k kvs).getD (T et).zeroV)
    | _ => (False, .one .unk)
  | _, _ => (False, .one .unk)
/-- the bounds of a cut -/
def bounds (n : Nat) (lo hi : Option AV) : Prop × Nat × Nat :=
  match lo, hi with
  | none, none => (True, 0, n)
  | some (.one (.int _ l)), none => (0 ≤ l ∧ l ≤ n, l.toNat, n)
  | none, some (.one (.int _ h)) => (0 ≤ h ∧ h ≤ n, 0, h.toNat)
  | some (.one (.int _ l)), some (.one (.int _ h)) => (0 ≤ l ∧ l ≤ h ∧ h ≤ n, l.toNat, h.toNat)
  | _, _ => (False, 0, 0)
def sliceV (T : Tab) (t : TypeId) (x : AV) (lo hi mx : Option AV) : Prop × AV :=
  match (T t).desc, x, mx with
  | .slice e, .one (.list rows), none => ((T e).desc ≠ .other ∧ (∀ r ∈ rows, r.length = (T e).size) ∧ (bounds rows.length lo hi).1, .one (.list ((rows.take (bounds rows.length lo hi).2.2).drop (bounds rows.length lo hi).2.1)))
  | .string, .one (.str s), none => ((bounds s.length lo hi).1, .one (.str ((s.take (bounds s.length lo hi).2.2).drop (bounds s.length lo hi).2.1)))
  | _, _, _ => (False, .one .unk)
/-- what is appended, or turned into a string -/
def srcRows (H : List AObj) : AV → Option (List (List D))
  | .one .nil => some []
  | .one (.list rows) => some rows
  | .one (.own o) => match H[o]? with | some (.row _ _ rows) => some rows | _ => none
  | _ => none
def bytesOf : List (List D) → Option (List UInt8)
  | [] => some []
  | [.int .u8 z] :: r => (bytesOf r).map (UInt8.ofNat z.toNat :: ·)
  | _ => none
def convBytes (T : Tab) (src : TypeId) (r : Option (List UInt8)) : Prop × AV :=
  match (T src).desc, r with
  | .slice e, some s => ((T e).desc = .int .u8, .one (.str s))
  | _, _ => (False, .one .unk)
def AV.str? : AV → Option (List UInt8) | .one (.str s) => some s | _ => none
def convV (T : Tab) (H : List AObj) (src dst : TypeId) (x : AV) : Prop × AV :=
  match (T dst).desc, x with
  | .int k, .one (.int _ z) => ((T src).desc ≠ .other, .one (.int k (k.wrap z)))
  | .string, x => match x.str? with | some s => ((T src).desc = .string, .one (.str s)) | none => convBytes T src ((srcRows H x).bind bytesOf)
  | _, _ => (False, .one .unk)
def capsV : List AV → Option (List D)
  | [] => some []
  | .one d :: r => match d with | .clo .. => none | d => (capsV r).map (d :: ·)
  | _ :: _ => none
def makeFuncV (fn : Fn) (first : List AV) (caps : List AV) : Prop × AV :=
  match fn, first, capsV caps with
  | .func f, [], some ds => (True, .one (.clo f ds))
  | _, _, _ => (False, .one .unk)

section
variable {P : Program} {T : Tab} {w : World} {M : Nat → Prop} {β : List Value}
theorem indexV_sound (hT : TabOk P T) (t : TypeId) (x i : AV) (v u : Value) (hv : RepV w M β x v) (hu : RepV w M β i u) (h : (indexV T t x i).1) : RunTo P w M β (Instr.index t v u) (indexV T t x i).2 := by
  unfold indexV at h ⊢
  split
  · rename_i s k z hd
    simp only [hd] at h
    obtain rfl := rep_int_inv hu
    obtain rfl := rep_str_inv hv
    have hlt : z.toNat < s.length := by omega
    refine RunTo.pure (.int .u8 ((s.getD z.toNat 0).toNat : Int)) ?_ rep_int
    have hg : (⟨⟨s⟩⟩ : ByteArray)[z.toNat]? = some (s.getD z.toNat 0) := by
      rw [getElem?_pos (⟨⟨s⟩⟩ : ByteArray) z.toNat (show z.toNat < (⟨⟨s⟩⟩ : ByteArray).size from hlt)]
      congr 1
      simp [List.getD, List.getElem?_eq_getElem hlt]
      rfl
    simp [Instr.index, asIntOf, run_underlying (under_string hT hd), h.1, hg]
  · rename_i n e ds k z hd
    simp only [hd] at h
    obtain rfl := rep_int_inv hu
    obtain ⟨vs, rfl, hcl⟩ := hv
    obtain ⟨u', w', hr, hrest⟩ := part_sound hT e ds vs (z.toNat * (T e).size) hcl h.2.2
    exact ⟨u', w', by simp [Instr.index, asIntOf, run_underlying (under_array hT hd), h.1.1, h.1.2, run_sizeOf (w := w) hT h.2.1, hr], hrest⟩
  · exact (by simp_all : False).elim
theorem fieldV_sound (hT : TabOk P T) (t : TypeId) (x : AV) (f : Nat) (v : Value) (hv : RepV w M β x v) (h : (fieldV T t x f).1) : RunTo P w M β (Instr.field t v f) (fieldV T t x f).2 := by
  unfold fieldV at h ⊢
  split
  · rename_i fs ds hd
    simp only [hd] at h
    obtain ⟨gs, hu, hgs, hne⟩ := under_struct hT hd
    obtain ⟨vs, rfl, hcl⟩ := hv
    cases hp : fs[f]? with
    | none => rw [hp] at h; exact h.elim
    | some p =>
      rw [hp] at h
      simp only at h ⊢
      have hp' := hp
      rw [hgs, List.getElem?_map] at hp'
      cases hg : gs.toList[f]? with
      | none => rw [hg] at hp'; cases hp'
      | some g =>
        rw [hg] at hp'
        simp at hp'
        have hg' : gs[f]? = some g := by simpa using hg
        rw [← hp'] at h ⊢
        obtain ⟨u', w', hr, hrest⟩ := part_sound hT g.type ds vs g.offset hcl h
        exact ⟨u', w', by simp [Instr.field, run_underlying hu, hg', asAgg, hr], hrest⟩
  · exact (by simp_all : False).elim
theorem RepVL.get : ∀ (as : List AV) (vs : List Value), RepVL w M β as vs → as.length = vs.length ∧ ∀ (i : Nat) (a : AV) (v : Value), as[i]? = some a → vs[i]? = some v → RepV w M β a v
  | [], vs, h => by
    simp only [RepVL] at h
    subst h
    exact ⟨rfl, fun i a v ha => by simp at ha⟩
  | a :: as, vs, h => by
    simp only [RepVL] at h
    obtain ⟨v, rest, rfl, h1, h2⟩ := h
    have ih := RepVL.get as rest h2
    refine ⟨by simp [ih.1], fun i b u hb hu => ?_⟩
    cases i with
    | zero => simp at hb hu; subst hb; subst hu; exact h1
    | succ i => exact ih.2 i b u (by simpa using hb) (by simpa using hu)
theorem RepVL.mk : ∀ (as : List AV) (vs : List Value), as.length = vs.length → (∀ (i : Nat) (a : AV) (v : Value), as[i]? = some a → vs[i]? = some v → RepV w M β a v) → RepVL w M β as vs
  | [], [], _, _ => by simp [RepVL]
  | [], v :: vs, h, _ => by simp at h
  | a :: as, [], h, _ => by simp at h
  | a :: as, v :: vs, h, k => by
    simp only [RepVL]
    exact ⟨v, vs, rfl, k 0 a v rfl rfl, RepVL.mk as vs (by simpa using h) fun i b u hb hu => k (i + 1) b u (by simpa using hb) (by simpa using hu)⟩
theorem extractV_sound (x : AV) (i : Nat) (v : Value) (hv : RepV w M β x v) (h : (extractV x i).1) : RunTo P w M β (Instr.extract v i) (extractV x i).2 := by
  unfold extractV at h ⊢
  split
  · rename_i vs
    obtain ⟨us, rfl, hl⟩ := hv
    have hg := RepVL.get vs us hl
    have hlt : i < us.length := by rw [← hg.1]; exact h
    refine RunTo.pure (us.getD i undef) (by simp [Instr.extract, List.getElem?_eq_getElem hlt]) ?_
    exact hg.2 i _ _ (getD_some h _) (getD_some hlt _)
  · exact (by simp_all : False).elim
theorem lenV_sound (hT : TabOk P T) {H : List AObj} (hobj : ∀ (t : Nat) (o : AObj) (h : Value), H[t]? = some o → β[t]? = some h → ObjRep w M β o h) (t ty : TypeId) (x : AV) (v : Value) (hv : RepV w M β x v) (h : (lenV T H t x).1) :
    RunTo P w M β (Builtin.len_ #[t] ty #[v]) (lenV T H t x).2 := by
  unfold lenV at h ⊢
  split
  · rename_i e rows hd
    obtain ⟨A, c, rfl, _⟩ := hv
    exact RunTo.pure _ (by simp [Builtin.len_, run_underlying (under_slice hT hd)] <;> rfl) rep_int
  · rename_i e o hd
    simp only [hd] at h
    cases hH : H[o]? with
    | none => rw [hH] at h; exact h.elim
    | some ob =>
      rw [hH] at h
      cases ob with
      | row e' sz rows =>
        have hβ := own_live hv fun y hy => hobj o _ y hH hy
        obtain ⟨A, c, rfl, _⟩ := hobj o _ v hH hβ
        exact RunTo.pure _ (by simp [Builtin.len_, run_underlying (under_slice hT hd)] <;> rfl) rep_int
      | _ => exact h.elim
  · rename_i s hd
    obtain rfl := rep_str_inv hv
    exact RunTo.pure _ (by simp [Builtin.len_, run_underlying (under_string hT hd)] <;> rfl) rep_int
  · rename_i n e hd
    exact RunTo.pure _ (by simp [Builtin.len_, run_underlying (under_array hT hd)] <;> rfl) rep_int
  · rename_i k e o hd
    simp only [hd] at h
    cases hH : H[o]? with
    | none => rw [hH] at h; exact h.elim
    | some ob =>
      rw [hH] at h
      cases ob with
      | map kd kvs =>
        obtain ⟨g, hβ, rfl⟩ := mp_live hv fun y hy => hobj o _ y hH hy
        obtain ⟨_, g', es, clk, he, hg, hlen, _⟩ := hobj o _ _ hH hβ
        cases he
        refine RunTo.pure (.int .i64 es.size) ?_ (by show RepV w M β (.one (.int .i64 kvs.length)) _; rw [hlen]; exact rep_int)
        simp [Builtin.len_, run_underlying (under_map hT hd), getObj, Sem.run, hg]
        rfl
      | _ => exact h.elim
  · exact (by simp_all : False).elim
theorem bounds_run (isS : Bool) (n cap : Nat) (hnc : n ≤ cap) (lo hi : Option AV) (lv hv : Option Value) (hl : ∀ a, lo = some a → ∃ v, lv = some v ∧ RepV w M β a v) (hl0 : lo = none → lv = none) (hh : ∀ a, hi = some a → ∃ v, hv = some v ∧ RepV w M β a v) (hh0 : hi = none → hv = none)
    (h : (bounds n lo hi).1) : (Instr.sliceBounds isS n cap lv hv none).run P w = .ok ((bounds n lo hi).2.1, (bounds n lo hi).2.2, cap) w ∧ (bounds n lo hi).2.1 ≤ (bounds n lo hi).2.2 ∧ (bounds n lo hi).2.2 ≤ n := by
  unfold bounds at h ⊢
  split
  · rw [hl0 rfl, hh0 rfl]
    exact ⟨by simp [Instr.sliceBounds], Nat.zero_le _, Nat.le_refl _⟩
  · rename_i k l
    obtain ⟨v, rfl, hv'⟩ := hl _ rfl
    obtain rfl := rep_int_inv hv'
    rw [hh0 rfl]
    simp only at h
    refine ⟨?_, by simp only; omega, Nat.le_refl _⟩
    simp [Instr.sliceBounds, Instr.sliceBound, asIntOf, h.1, h.2]
  · rename_i k l
    obtain ⟨v, rfl, hv'⟩ := hh _ rfl
    obtain rfl := rep_int_inv hv'
    rw [hl0 rfl]
    simp only at h
    have hc : l ≤ (cap : Int) := by omega
    refine ⟨?_, by simp only; omega, by simp only; omega⟩
    cases isS <;> simp [Instr.sliceBounds, Instr.sliceBound, asIntOf, h.1, hc]
  · rename_i k l k' l'
    obtain ⟨v, rfl, hv'⟩ := hl _ rfl
    obtain rfl := rep_int_inv hv'
    obtain ⟨v, rfl, hv'⟩ := hh _ rfl
    obtain rfl := rep_int_inv hv'
    simp only at h
    have hc : l' ≤ (cap : Int) := by omega
    have h0 : 0 ≤ l' := by omega
    have hll : l ≤ (l'.toNat : Int) := by omega
    refine ⟨?_, by simp only; omega, by simp only; omega⟩
    have hm : l ≤ max l' 0 := by omega
    cases isS <;> simp [Instr.sliceBounds, Instr.sliceBound, asIntOf, h.1, hc, h0, hll, hm]
  · exact (by simp_all : False).elim
theorem RepRows.cut {ad : Addr} {sz : Nat} {rows : List (List D)} (h : RepRows w M ad sz 0 rows) (l k : Nat) : RepRows w M (ad.add (l * sz)) sz 0 ((rows.take k).drop l) :=
  RepRows.of_get _ 0 fun i r hr => by
    rw [List.getElem?_drop, List.getElem?_take] at hr
    split at hr
    · obtain ⟨vs, h1, h2, h3⟩ := RepRows.get rows 0 h (l + i) r hr
      refine ⟨vs, h1, ?_, h3⟩
      rw [Nat.zero_add] at h2 ⊢
      exact reads_rebase (o := l * sz) (k := i * sz) (by rw [← Nat.add_mul]; exact h2)
    · cases hr
theorem sliceV_sound (hT : TabOk P T) (t : TypeId) (x : AV) (lo hi mx : Option AV) (v : Value) (lv hv mv : Option Value) (hx : RepV w M β x v) (hl : ∀ a, lo = some a → ∃ v, lv = some v ∧ RepV w M β a v) (hl0 : lo = none → lv = none) (hh : ∀ a, hi = some a → ∃ v, hv = some v ∧ RepV w M β a v) (hh0 : hi = none → hv = none) (hm : mx = none → mv = none)
    (h : (sliceV T t x lo hi mx).1) : RunTo P w M β (Instr.sliceAt t v lv hv mv) (sliceV T t x lo hi mx).2 := by
  unfold sliceV at h ⊢
  split
  · rename_i e rows hd
    simp only [hd] at h
    obtain ⟨he, hrl, h⟩ := h
    obtain rfl := hm rfl
    obtain ⟨A, c, rfl, hn, hc, hr⟩ := hx
    obtain ⟨hb, h1, h2⟩ := bounds_run (P := P) (w := w) (M := M) (β := β) true rows.length c hn lo hi lv hv hl hl0 hh hh0 h
    refine RunTo.pure (.slice (if c = (bounds rows.length lo hi).2.1 then A else A.map (·.add ((bounds rows.length lo hi).2.1 * (T e).size))) ((bounds rows.length lo hi).2.2 - (bounds rows.length lo hi).2.1) (c - (bounds rows.length lo hi).2.1)) ?_ ?_
    · simp [Instr.sliceAt, Instr.slice, run_underlying (under_slice hT hd), hb, run_sizeOf (w := w) hT he]
    · generalize (bounds rows.length lo hi).2.1 = l at *
      generalize (bounds rows.length lo hi).2.2 = k at *
      have hlen : ((rows.take k).drop l).length = k - l := by rw [List.length_drop, List.length_take]; omega
      refine ⟨(if c = l then A else A.map (·.add (l * (T e).size))), c - l, by rw [hlen], by rw [hlen]; omega, by omega, ?_⟩
      · by_cases hkl : k = l
        · left; apply List.eq_nil_of_length_eq_zero; omega
        · right
          rcases hr with rfl | ⟨ad, sz, rfl, hb', hm', hr⟩
          · simp at h2; omega
          · have h0 : rows ≠ [] := by intro e; rw [e] at h2; simp at h2; omega
            obtain ⟨r0, hr0⟩ : ∃ r0, rows[0]? = some r0 := by cases rows with | nil => exact absurd rfl h0 | cons a b => exact ⟨a, rfl⟩
            have hsz : sz = (T e).size := by rw [← hr.rowlen hr0]; exact hrl r0 (List.mem_of_getElem? hr0)
            subst hsz
            refine ⟨ad.add (l * (T e).size), (T e).size, by rw [if_neg (by omega)]; rfl, by rw [block_add]; exact hb', by rw [block_add]; exact hm', hr.cut l k⟩
  · rename_i s hd
    simp only [hd] at h
    obtain rfl := hm rfl
    obtain rfl := rep_str_inv hx
    obtain ⟨hb, h1, h2⟩ := bounds_run (P := P) (w := w) (M := M) (β := β) false s.length s.length (Nat.le_refl _) lo hi lv hv hl hl0 hh hh0 h
    refine RunTo.pure (.string ((⟨⟨s⟩⟩ : ByteArray).extract (bounds s.length lo hi).2.1 (bounds s.length lo hi).2.2)) ?_ ?_
    · have hsz : (⟨⟨s⟩⟩ : ByteArray).size = s.length := rfl
      simp [Instr.sliceAt, Instr.slice, run_underlying (under_string hT hd), hsz, hb]
    · show Value.string _ = Value.string _
      congr 1
      apply ByteArray.ext
      simp [ByteArray.data_extract]
      rw [List.drop_take]
  · exact (by simp_all : False).elim
theorem bytesOf_spec : ∀ (rows : List (List D)) (s : List UInt8), bytesOf rows = some s → ∃ zs : List Int, rows = zs.map (fun z => [.int .u8 z]) ∧ s = zs.map fun z => UInt8.ofNat z.toNat
  | [], s, h => ⟨[], rfl, by simpa [bytesOf] using h.symm⟩
  | r :: rows, s, h => by
    unfold bytesOf at h
    split at h
    · rename_i he; cases he
    · rename_i z r' he
      cases he
      rw [Option.map_eq_some_iff] at h
      obtain ⟨s', h1, rfl⟩ := h
      obtain ⟨zs, rfl, rfl⟩ := bytesOf_spec _ s' h1
      exact ⟨z :: zs, rfl, rfl⟩
    · cases h
theorem bytes_load {ad : Addr} {sz : Nat} {zs : List Int} (h : RepRows w M ad sz 0 (zs.map fun z => [.int .u8 z])) : (loadCells ad zs.length).run P w = .ok (zs.map (Value.int .u8)).toArray w := by
  have := run_loadCells_list (P := P) w ad (zs.map (Value.int .u8)) (fun j v hj => by
    rw [List.getElem?_map] at hj
    cases hz : zs[j]? with
    | none => rw [hz] at hj; cases hj
    | some z =>
      rw [hz] at hj
      cases hj
      have hr : (zs.map fun z => [D.int .u8 z])[j]? = some [D.int .u8 z] := by rw [List.getElem?_map, hz]; rfl
      obtain ⟨vs, h1, h2, h3⟩ := RepRows.get _ 0 h j _ hr
      simp only [RepL] at h3
      obtain ⟨v, rest, rfl, hv, rfl⟩ := h3
      have e : v = .int .u8 z := hv
      subst e
      have hs : sz = 1 := by rw [← h1]; rfl
      have := h2 0 _ rfl
      rw [hs] at this
      simpa using this)
  simpa using this
theorem convBytes_sound (hT : TabOk P T) {src dst e : TypeId} (hd : (T dst).desc = .string) (hs : (T src).desc = .slice e) (he : (T e).desc = .int .u8) {A : Option Addr} {c sz : Nat} {rows : List (List D)} {s : List UInt8} (hb : bytesOf rows = some s)
    (hr : rows = [] ∧ A = none ∨ ∃ ad, A = some ad ∧ RepRows w M ad sz 0 rows) : (convert src dst (.slice A rows.length c)).run P w = .ok (.string ⟨⟨s⟩⟩) w := by
  rw [run_convert_bytes_string w src dst e A rows.length c (under_slice hT hs) (under_int hT he) (under_string hT hd)]
  obtain ⟨zs, h1, rfl⟩ := bytesOf_spec rows s hb
  rcases hr with ⟨rfl, rfl⟩ | ⟨ad, rfl, hr⟩
  · have : zs = [] := by cases zs with | nil => rfl | cons a b => cases h1
    subst this
    simp [Conv.bytesToString]
    rfl
  · subst h1
    rw [List.length_map, run_bytesToString w ad zs.length c zs (bytes_load hr), foldl_push_bytes]
    simp [ByteArray.empty, ByteArray.emptyWithCapacity]
    rfl
theorem convV_sound (hT : TabOk P T) {H : List AObj} (hobj : ∀ (t : Nat) (o : AObj) (h : Value), H[t]? = some o → β[t]? = some h → ObjRep w M β o h) (src dst : TypeId) (x : AV) (v : Value) (hv : RepV w M β x v) (h : (convV T H src dst x).1) : RunTo P w M β (convert src dst v) (convV T H src dst x).2 := by
  unfold convV at h ⊢
  split
  · rename_i k k' z hd
    simp only [hd] at h
    obtain rfl := rep_int_inv hv
    obtain ⟨d, hs⟩ := under_of hT h
    exact RunTo.pure _ (by simp [convert, run_underlying hs, run_underlying (under_int hT hd), Conv.intToInt] <;> rfl) rep_int
  · rename_i x' q1 q2 hd
    simp only [hd] at h
    cases hx : x'.str? with
    | some s =>
      rw [hx] at h
      simp only at h ⊢
      have e : x' = .one (.str s) := by
        cases x' <;> first | (cases hx; done) | skip
        rename_i d; cases d <;> first | (cases hx; done) | (cases hx; rfl)
      subst e
      obtain rfl := rep_str_inv hv
      exact RunTo.pure _ (by simp [convert, run_underlying (under_string hT hd), run_underlying (under_string hT h)] <;> rfl) rep_str
    | none =>
    rw [hx] at h
    simp only at h ⊢
    have h' := h
    clear h
    unfold convBytes at h' ⊢
    cases hs : (T src).desc with
    | slice e =>
      rw [hs] at h'
      cases hr : srcRows H x' with
      | none => rw [hr] at h'; exact h'.elim
      | some rows =>
        rw [hr] at h'
        simp only [Option.bind_some] at h' ⊢
        cases hb : bytesOf rows with
        | none => rw [hb] at h'; exact h'.elim
        | some s =>
          rw [hb] at h'
          simp only at h' ⊢
          have fin : ∀ (A : Option Addr) (c sz : Nat), v = .slice A rows.length c → (rows = [] ∧ A = none ∨ ∃ ad, A = some ad ∧ RepRows w M ad sz 0 rows) → RunTo P w M β (convert src dst v) (.one (.str s)) := by
            rintro A c sz rfl hA
            exact RunTo.pure _ (convBytes_sound hT hd hs h' hb hA) rep_str
          have finE : ∀ (A : Option Addr) (c : Nat), rows = [] → v = .slice A rows.length c → RunTo P w M β (convert src dst v) (.one (.str s)) := by
            rintro A c h0 h1
            cases A with
            | none => exact fin none c 1 h1 (.inl ⟨h0, rfl⟩)
            | some ad => exact fin (some ad) c 1 h1 (.inr ⟨ad, rfl, by rw [h0]; simp only [RepRows]⟩)
          unfold srcRows at hr
          split at hr
          · cases hr
            obtain ⟨A, e0⟩ : ∃ A, v = .slice A 0 0 := hv
            exact finE A 0 rfl e0
          · cases hr
            obtain ⟨A, c, h1, _, _, h4⟩ := hv
            rcases h4 with h4 | ⟨ad, sz, h4, _, _, h5⟩
            · exact finE A c h4 h1
            · exact fin A c sz h1 (.inr ⟨ad, h4, h5⟩)
          · rename_i o
            cases hH : H[o]? with
            | none => rw [hH] at hr; cases hr
            | some ob =>
              rw [hH] at hr
              cases ob with
              | row e' sz rows' =>
                cases hr
                have hβ := own_live hv fun y hy => hobj o _ y hH hy
                obtain ⟨A, c, h1, hle, _, h4⟩ := hobj o _ v hH hβ
                rcases h4 with rfl | ⟨_, g, cur, h4, _, _, h5⟩
                · exact finE A 0 (List.eq_nil_of_length_eq_zero (by omega)) h1
                · exact fin A c sz h1 (.inr ⟨_, h4, h5⟩)
              | _ => cases hr
          · cases hr
    | _ => rw [hs] at h'; exact h'.elim
  · exact (by simp_all : False).elim
theorem capsV_sound : ∀ (as : List AV) (vs : List Value) (ds : List D), capsV as = some ds → as.length = vs.length → (∀ (i : Nat) (a : AV) (v : Value), as[i]? = some a → vs[i]? = some v → RepV w M β a v) →
    ds.length = vs.length ∧ ∀ (i : Nat) (d : D) (u : Value), ds[i]? = some d → vs[i]? = some u → RepC0 w M β d u
  | [], vs, ds, h, hl, _ => by
    simp only [capsV, Option.some.injEq] at h
    subst h
    exact ⟨hl, fun i d u hd => by simp at hd⟩
  | .one d :: as, [], ds, h, hl, _ => by simp at hl
  | .one d :: as, v :: vs, ds, h, hl, k => by
    have hd : RepC w M β d v := k 0 _ v rfl rfl
    have : (∃ ds', capsV as = some ds' ∧ ds = d :: ds') ∧ RepC0 w M β d v := by
      cases d <;> simp only [capsV, Option.map_eq_some_iff] at h
      case clo => cases h
      all_goals
        obtain ⟨ds', h1, h2⟩ := h
        exact ⟨⟨ds', h1, h2.symm⟩, by simpa only [RepC] using hd⟩
    obtain ⟨⟨ds', h1, rfl⟩, h0⟩ := this
    obtain ⟨ih1, ih2⟩ := capsV_sound as vs ds' h1 (by simpa using hl) fun i a v ha hv => k (i + 1) a v (by simpa using ha) (by simpa using hv)
    refine ⟨by simp [ih1], fun i e u he hu => ?_⟩
    cases i with
    | zero => simp at he hu; subst he; subst hu; exact h0
    | succ i => exact ih2 i e u (by simpa using he) (by simpa using hu)
  | .agg _ :: as, vs, ds, h, hl, k => by simp [capsV] at h
  | .tup _ :: as, vs, ds, h, hl, k => by simp [capsV] at h
  | .cond _ _ :: as, vs, ds, h, hl, k => by simp [capsV] at h
  | .any :: as, vs, ds, h, hl, k => by simp [capsV] at h
end
end Go.Eng
