/-
  The abstract machine: literals of structs, arrays and slices; all computing operations under one name.
-/
import Derived.Test.YtjldfifepbdlmaaDoorEngF
set_option linter.unusedSimpArgs false
set_option linter.unusedVariables false
namespace Go.Eng
open Go.RowKit

def setAt {α : Type} : List α → Nat → List α → List α
  | ds, _, [] => ds
  | ds, off, c :: cs => setAt (ds.set off c) (off + 1) cs
def AV.cells? : AV → Option (List D)
  | .one d => some [d]
  | .agg ds => some ds
  | _ => none
/-- 'place i': offset and size of part i -/
def fillD (place : Nat → Option (Nat × Nat)) : List D → List (Nat × AV) → Option (List D)
  | ds, [] => some ds
  | ds, (i, v) :: rest =>
    match place i, v.cells? with
    | some (off, size), some cs => if cs.length = size ∧ off + size ≤ ds.length then fillD place (setAt ds off cs) rest else none
    | _, _ => none
def buildV (T : Tab) (t : TypeId) (parts : List (Nat × AV)) : Prop × AV :=
  match (T t).desc with
  | .struct fs =>
    match fillD (fun i => (fs[i]?).map fun p => (p.1, (T p.2).size)) (T t).zero parts with
    | some ds => (∀ p ∈ fs, (T p.2).desc ≠ .other, .agg ds)
    | none => (False, .one .unk)
  | .array _ e =>
    match fillD (fun i => some (i * (T e).size, (T e).size)) (T t).zero parts with
    | some ds => ((T e).desc ≠ .other, .agg ds)
    | none => (False, .one .unk)
  | _ => (False, .one .unk)
/-- n rows of sz cells each -/
def chunks {α : Type} (sz : Nat) : Nat → List α → List (List α)
  | 0, _ => []
  | n + 1, l => l.take sz :: chunks sz n (l.drop sz)
def sliceRows (T : Tab) (t : TypeId) (len : Nat) (parts : List (Nat × AV)) : Option (TypeId × Nat × List (List D)) :=
  match (T t).desc with
  | .slice e =>
    match fillD (fun i => some (i * (T e).size, (T e).size)) ((List.replicate len (T e).zero).flatten) parts with
    | some ds => if (T e).desc ≠ .other ∧ 0 < (T e).size ∧ len * (T e).size ≤ 16777216 then some (e, (T e).size, chunks (T e).size len ds) else none
    | none => none
  | _ => none

section
variable {P : Program} {T : Tab} {w : World} {M : Nat → Prop} {β : List Value}
theorem RepC0.oneCell {d : D} {v : Value} (h : RepC0 w M β d v) : v.oneCell' = true := by
  cases d
  case unk => exact h
  case own => exact h.2
  case vp => rcases h with ⟨g, _, rfl⟩ | h; rfl; exact h.2
  case rp => rcases h with ⟨g, _, _, _, rfl⟩ | h; rfl; exact h.2
  case mp => rcases h with ⟨g, _, rfl⟩ | h; rfl; exact h.2
  all_goals (simp only [RepC0] at h; exact RepD.one_cell _ _ h)
theorem RepC.oneCell {d : D} {v : Value} (h : RepC w M β d v) : v.oneCell' = true := by
  cases d
  case clo => obtain ⟨vs, rfl, _⟩ := h; rfl
  all_goals (simp only [RepC] at h; exact h.oneCell)
theorem cells_one {v : Value} (h : v.oneCell' = true) : v.cells = #[v] := by cases v <;> first | rfl | (simp [Value.oneCell'] at h)
theorem cells?_rep {x : AV} {v : Value} {cs : List D} (hv : RepV w M β x v) (h : x.cells? = some cs) : RepCL w M β cs v.cells.toList := by
  cases x with
  | one d =>
    simp only [AV.cells?, Option.some.injEq] at h
    subst h
    have hd : RepC w M β d v := hv
    rw [cells_one hd.oneCell]
    refine ⟨rfl, fun i e u he hu => ?_⟩
    cases i with
    | zero => simp at he hu; subst he; subst hu; exact hd
    | succ i => simp at he
  | agg ds =>
    simp only [AV.cells?, Option.some.injEq] at h
    subst h
    obtain ⟨vs, rfl, hl⟩ := hv
    exact hl
  | tup => simp [AV.cells?] at h
  | cond => simp [AV.cells?] at h
  | any => simp [AV.cells?] at h
theorem RepCL.set {ds : List D} {vs : List Value} (h : RepCL w M β ds vs) (i : Nat) {d : D} {v : Value} (hd : RepC w M β d v) : RepCL w M β (ds.set i d) (vs.set i v) := by
  refine ⟨by simp [h.1], fun j e u he hu => ?_⟩
  rw [List.getElem?_set] at he hu
  split at he
  · rename_i hij
    subst hij
    rw [if_pos rfl] at hu
    split at he <;> rename_i hl
    · rw [if_pos (by rw [← h.1]; exact hl)] at hu
      cases he; cases hu; exact hd
    · cases he
  · rename_i hij
    rw [if_neg hij] at hu
    exact h.2 j e u he hu
theorem RepCL.setAt : ∀ {cs : List D} {us : List Value} {ds : List D} {vs : List Value} (off : Nat), RepCL w M β ds vs → RepCL w M β cs us → RepCL w M β (Eng.setAt ds off cs) (Eng.setAt vs off us)
  | [], [], _, _, _, h, _ => h
  | [], u :: us, _, _, _, _, k => by have := k.1; simp at this
  | c :: cs, [], _, _, _, _, k => by have := k.1; simp at this
  | c :: cs, u :: us, ds, vs, off, h, k => by
    simp only [Eng.setAt]
    exact RepCL.setAt (off + 1) (h.set off (k.2 0 c u rfl rfl)) ⟨by simpa using k.1, fun i d x hd hx => k.2 (i + 1) d x (by simpa using hd) (by simpa using hx)⟩
theorem setAt_length {α : Type} : ∀ (cs : List α) (ds : List α) (off : Nat), (Eng.setAt ds off cs).length = ds.length
  | [], _, _ => rfl
  | c :: cs, ds, off => by simp only [Eng.setAt]; rw [setAt_length cs]; simp
theorem fold_setAt : ∀ (cs : List Value) (vs : List Value) (off k : Nat), (cs.zipIdx k).foldl (fun (a : Array Value) (p : Value × Nat) => a.setIfInBounds (off + p.2) p.1) ⟨vs⟩ = ⟨Eng.setAt vs (off + k) cs⟩
  | [], _, _, _ => rfl
  | c :: cs, vs, off, k => by
    simp only [List.zipIdx_cons, List.foldl_cons, List.setIfInBounds_toArray, Eng.setAt]
    rw [fold_setAt cs _ off (k + 1), Nat.add_assoc]
theorem fill_sound (place : Nat → Option (Nat × Nat)) : ∀ (parts : List (Nat × AV)) (vparts : List (Nat × Value)) (ds ds' : List D) (vs : List Value), parts.length = vparts.length →
    (∀ (i : Nat) (p : Nat × AV) (q : Nat × Value), parts[i]? = some p → vparts[i]? = some q → p.1 = q.1 ∧ RepV w M β p.2 q.2) → RepCL w M β ds vs → fillD place ds parts = some ds' →
    ∃ vs', Instr.fill place ⟨vs⟩ vparts = some ⟨vs'⟩ ∧ RepCL w M β ds' vs' ∧ ds'.length = ds.length
  | [], [], ds, ds', vs, _, _, hl, h => by
    simp only [fillD, Option.some.injEq] at h
    subst h
    exact ⟨vs, rfl, hl, rfl⟩
  | [], q :: vp, ds, ds', vs, h, _, _, _ => by simp at h
  | p :: ps, [], ds, ds', vs, h, _, _, _ => by simp at h
  | (i, x) :: ps, (j, v) :: vp, ds, ds', vs, hlen, hp, hl, h => by
    obtain ⟨hij, hx⟩ := hp 0 _ _ rfl rfl
    simp only at hij
    subst hij
    simp only [fillD] at h
    cases hpl : place i with
    | none => rw [hpl] at h; simp at h
    | some os =>
      obtain ⟨off, size⟩ := os
      cases hc : x.cells? with
      | none => rw [hpl, hc] at h; simp at h
      | some cs =>
        rw [hpl, hc] at h
        simp only at h
        split at h
        · rename_i hcond
          have hcl := cells?_rep hx hc
          have hsz : v.cells.size = size := by rw [← hcond.1, hcl.1]; simp
          obtain ⟨vs', h1, h2, h3⟩ := fill_sound place ps vp (Eng.setAt ds off cs) ds' (Eng.setAt vs off v.cells.toList) (by simpa using hlen) (fun k p q a b => hp (k + 1) p q (by simpa using a) (by simpa using b)) (RepCL.setAt off hl hcl) h
          refine ⟨vs', ?_, h2, by rw [h3, setAt_length]⟩
          have hle : ¬ (off + v.cells.size > (⟨vs⟩ : Array Value).size) := by
            have e : (⟨vs⟩ : Array Value).size = vs.length := rfl
            rw [hsz, e, ← hl.1]
            exact Nat.not_lt.2 hcond.2
          have hfold : v.cells.zipIdx.foldl (fun (a : Array Value) (p : Value × Nat) => a.setIfInBounds (off + p.2) p.1) ⟨vs⟩ = ⟨Eng.setAt vs off v.cells.toList⟩ := by
            rw [← Array.foldl_toList, Array.toList_zipIdx]
            exact fold_setAt v.cells.toList vs off 0
          simp only [Instr.fill, hpl]
          rw [if_neg (by simp only [Bool.or_eq_true, decide_eq_true_eq, not_or]; exact ⟨fun hh => hh hsz, hle⟩)]
          rw [hfold]
          exact h1
        · cases h
theorem zeroVal (hT : TabOk P T) {t : TypeId} (h : (T t).desc ≠ .other) : ∃ z : Value, (zeroValue t).run P w = .ok z w ∧ RepL w M (T t).zero z.cells.toList ∧ valueAgg z = (T t).isAgg ∧ z.cells.size = (T t).size ∧ (T t).zero.length = (T t).size := by
  obtain ⟨i, z, h1, h2, h3, h4, h5, h6, h7⟩ := run_info (w := w) hT h
  have hr := zerosOk_rep (w := w) (M := M) _ _ h5
  refine ⟨z, by simp [zeroValue, h1, h4], hr, h6, ?_, h7⟩
  have := RepL.length_eq _ _ hr
  simp at this
  omega
theorem cellsOf_size (hT : TabOk P T) {t : TypeId} (h : (T t).desc ≠ .other) : P.cellsOf t = (T t).size := by
  obtain ⟨i, z, h1, h2, _⟩ := (hT t).info h
  simp [Program.cellsOf, h1, h2]
theorem run_placesT (hT : TabOk P T) : ∀ (gs : List Field), (∀ f ∈ gs, (T f.type).desc ≠ .other) →
    (gs.mapM fun f => Prod.mk f.offset <$> sizeOf f.type).run P w = .ok (gs.map fun f => (f.offset, (T f.type).size)) w
  | [], _ => by simp
  | g :: gs, h => by
    simp [List.mapM_cons, run_sizeOf (w := w) hT (h g (by simp)), run_placesT hT gs (fun f hf => h f (by simp [hf]))]
theorem buildV_sound (hT : TabOk P T) (t : TypeId) (parts : List (Nat × AV)) (vparts : List (Nat × Value)) (hl : parts.length = vparts.length) (hp : ∀ (i : Nat) (p : Nat × AV) (q : Nat × Value), parts[i]? = some p → vparts[i]? = some q → p.1 = q.1 ∧ RepV w M β p.2 q.2)
    (h : (buildV T t parts).1) : RunTo P w M β (Instr.build t ⟨vparts⟩) (buildV T t parts).2 := by
  unfold buildV at h ⊢
  cases hd : (T t).desc with
  | struct fs =>
    rw [hd] at h
    simp only at h ⊢
    cases hf : fillD (fun i => (fs[i]?).map fun p => (p.1, (T p.2).size)) (T t).zero parts with
    | none => rw [hf] at h; exact h.elim
    | some ds =>
      rw [hf] at h
      simp only at h ⊢
      obtain ⟨z, hz1, hz2, hz3, _⟩ := zeroVal (w := w) (M := M) hT (t := t) (by rw [hd]; simp)
      obtain ⟨gs, hu, hgs, hne⟩ := under_struct hT hd
      obtain ⟨vs', h1, h2, _⟩ := fill_sound _ parts vparts _ ds _ hl hp (hz2.toC (β := β)) hf
      have hpl := run_placesT (w := w) hT gs.toList (fun f hf' => h (f.offset, f.type) (by rw [hgs]; exact List.mem_map.2 ⟨f, hf', rfl⟩))
      have hplace : (fun (i : Nat) => ((gs.toList.map fun f => (f.offset, (T f.type).size)).toArray)[i]?) = fun (i : Nat) => (fs[i]?).map fun (p : Nat × TypeId) => (p.1, (T p.2).size) := by
        funext i
        rw [hgs]
        simp [List.getElem?_map]
        cases gs[i]? <;> simp
      refine RunTo.pure (.agg ⟨vs'⟩) ?_ ⟨vs', rfl, h2⟩
      simp only [Instr.build, Sem.run_bind, hz1, Result.andThen_ok, run_underlying hu, Array.mapM_eq_mapM_toList]
      simp only [bind_pure_comp, Sem.run_map, hpl, Result.andThen_ok]
      rw [hplace]
      simp [h1]
  | array n e =>
    rw [hd] at h
    simp only at h ⊢
    cases hf : fillD (fun i => some (i * (T e).size, (T e).size)) (T t).zero parts with
    | none => rw [hf] at h; exact h.elim
    | some ds =>
      rw [hf] at h
      simp only at h ⊢
      obtain ⟨z, hz1, hz2, hz3, _⟩ := zeroVal (w := w) (M := M) hT (t := t) (by rw [hd]; simp)
      obtain ⟨vs', h1, h2, _⟩ := fill_sound _ parts vparts _ ds _ hl hp (hz2.toC (β := β)) hf
      refine RunTo.pure (.agg ⟨vs'⟩) ?_ ⟨vs', rfl, h2⟩
      simp [Instr.build, hz1, run_underlying (under_array hT hd), run_sizeOf (w := w) hT h, h1]
  | _ => rw [hd] at h; exact h.elim

theorem chunks_get {α : Type} (sz : Nat) : ∀ (n : Nat) (l : List α) (i : Nat) (r : List α), (chunks sz n l)[i]? = some r → i < n ∧ r = (l.drop (i * sz)).take sz
  | 0, l, i, r, h => by simp [chunks] at h
  | n + 1, l, 0, r, h => by simp [chunks] at h; simp [← h]
  | n + 1, l, i + 1, r, h => by
    simp only [chunks, List.getElem?_cons_succ] at h
    obtain ⟨h1, h2⟩ := chunks_get sz n (l.drop sz) i r h
    refine ⟨by omega, ?_⟩
    rw [h2, List.drop_drop, Nat.succ_mul, Nat.add_comm sz]
theorem chunks_length {α : Type} (sz : Nat) : ∀ (n : Nat) (l : List α), (chunks sz n l).length = n
  | 0, _ => rfl
  | n + 1, l => by simp [chunks, chunks_length sz n]
/-- a cell that bears no tag: told as immutable -/
def D.pure : D → Bool
  | .int .. | .bool _ | .str _ | .raw _ | .nil | .list _ | .ref _ | .unk => true
  | .clo _ caps => caps.isEmpty
  | _ => false
theorem RepC.toD {d : D} {v : Value} (h : RepC w M β d v) (hp : d.pure = true) : RepD w M d v := by
  cases d with
  | clo f caps =>
    simp only [D.pure, List.isEmpty_iff] at hp
    subst hp
    obtain ⟨vs, rfl, hl, _⟩ := h
    have : vs = [] := List.eq_nil_of_length_eq_zero hl.symm
    subst this
    exact ⟨[], rfl, rfl⟩
  | _ => first | (simp [D.pure] at hp; done) | (simpa only [RepC, RepC0, RepD] using h)
theorem RepCL.toL : ∀ {ds : List D} {vs : List Value}, RepCL w M β ds vs → ds.all D.pure = true → RepL w M ds vs
  | [], [], _, _ => by simp [RepL]
  | [], v :: vs, h, _ => by have := h.1; simp at this
  | d :: ds, [], h, _ => by have := h.1; simp at this
  | d :: ds, v :: vs, h, hp => by
    simp only [List.all_cons, Bool.and_eq_true] at hp
    simp only [RepL]
    exact ⟨v, vs, rfl, (h.2 0 d v rfl rfl).toD hp.1, RepCL.toL ⟨by simpa using h.1, fun i e u he hu => h.2 (i + 1) e u (by simpa using he) (by simpa using hu)⟩ hp.2⟩
theorem RepRows.of_cells {ad : Addr} {sz n : Nat} {ds : List D} {vs : List Value} (hl : RepL w M ds vs) (hlen : vs.length = n * sz) (hr : reads w ad 0 vs) : RepRows w M ad sz 0 (chunks sz n ds) :=
  RepRows.of_get _ 0 fun i r hi => by
    obtain ⟨h1, rfl⟩ := chunks_get sz n ds i r hi
    refine ⟨(vs.drop (i * sz)).take sz, ?_, ?_, RepL.take _ _ sz (RepL.drop _ _ _ hl)⟩
    · rw [List.length_take, List.length_drop, hlen]
      have : (i + 1) * sz ≤ n * sz := Nat.mul_le_mul_right sz h1
      rw [Nat.succ_mul] at this
      omega
    · intro j u hu
      rw [List.getElem?_take] at hu
      split at hu
      · rw [List.getElem?_drop] at hu
        rw [Nat.zero_add]
        have := hr (i * sz + j) u hu
        rwa [Nat.zero_add] at this
      · cases hu
theorem zeros_flatten (z : Array Value) (n : Nat) (hz : z.size ≠ 0) : (Array.range (n * z.size)).map (fun i => z[i % z.size]!) = ⟨(List.replicate n z.toList).flatten⟩ := by
  apply Array.ext'
  simp only [Array.toList_map, Array.toList_range]
  induction n with
  | zero => simp
  | succ n ih =>
    rw [List.replicate_succ', List.flatten_append, ← ih, Nat.succ_mul, List.range_add, List.map_append]
    congr 1
    simp only [List.flatten_cons, List.flatten_nil, List.append_nil, List.map_map]
    apply List.ext_getElem
    · simp
    · intro i h1 h2
      have hi : i < z.size := by simpa using h2
      simp [Nat.mod_eq_of_lt hi, hi]
theorem RepCL.flatten_replicate {ds : List D} {vs : List Value} (h : RepCL w M β ds vs) : ∀ n, RepCL w M β (List.replicate n ds).flatten (List.replicate n vs).flatten
  | 0 => ⟨rfl, fun i d u hd => by simp at hd⟩
  | n + 1 => by
    simp only [List.replicate_succ, List.flatten_cons]
    have ih := RepCL.flatten_replicate h n
    refine ⟨by rw [List.length_append, List.length_append, h.1, ih.1], fun i d u hd hu => ?_⟩
    rw [List.getElem?_append] at hd hu
    rw [← h.1] at hu
    split at hd
    · rename_i hi; rw [if_pos hi] at hu; exact h.2 i d u hd hu
    · rename_i hi; rw [if_neg hi] at hu; exact ih.2 _ d u hd hu
/-- the literal of a slice: a new block -/
theorem buildSlice_run (hT : TabOk P T) (t : TypeId) (len : Nat) (parts : List (Nat × AV)) (vparts : List (Nat × Value)) (hl : parts.length = vparts.length) (hp : ∀ (i : Nat) (p : Nat × AV) (q : Nat × Value), parts[i]? = some p → vparts[i]? = some q → p.1 = q.1 ∧ RepV w M β p.2 q.2)
    {e : TypeId} {sz : Nat} {rows : List (List D)} (h : sliceRows T t len parts = some (e, sz, rows)) :
    ∃ ds vs, (Instr.buildSlice t len ⟨vparts⟩).run P w = .ok (.slice (some ⟨w.heap.size, 0, none⟩) len len) (w.alloc (.cells ⟨vs⟩ e)) ∧ RepCL w M β ds vs ∧ rows = chunks sz len ds ∧ ds.length = len * sz ∧ 0 < sz ∧ len * sz ≤ 16777216 := by
  unfold sliceRows at h
  cases hd : (T t).desc with
  | slice e' =>
    rw [hd] at h
    simp only at h
    cases hf : fillD (fun i => some (i * (T e').size, (T e').size)) ((List.replicate len (T e').zero).flatten) parts with
    | none => rw [hf] at h; cases h
    | some ds =>
      rw [hf] at h
      simp only at h
      split at h
      · rename_i hc
        obtain ⟨hk, hs0, hsmall⟩ := hc
        simp only [Option.some.injEq, Prod.mk.injEq] at h
        obtain ⟨rfl, rfl, rfl⟩ := h
        obtain ⟨z, hz1, hz2, hz3, hz4, hz5⟩ := zeroVal (w := w) (M := M) hT hk
        obtain ⟨vs', h1, h2, h3⟩ := fill_sound _ parts vparts _ ds _ hl hp (RepCL.flatten_replicate (hz2.toC (β := β)) len) hf
        refine ⟨ds, vs', ?_, h2, rfl, ?_, hs0, hsmall⟩
        · have hzz := zeros_flatten z.cells len (by rw [hz4]; omega)
          rw [hz4] at hzz
          by_cases hlen : len = 0
          · subst hlen
            simp only [List.replicate_zero, List.flatten_nil] at h1
            have h0 : ∀ f : Nat → Value, (Array.range 0).map f = ⟨[]⟩ := fun f => by simp [Array.range]
            simp [Instr.buildSlice, run_underlying (under_slice hT hd), run_sizeOf (w := w) hT hk, h0, h1, newRow]
          · have hne : ¬ (len * (T e').size = 0) := by
              intro h0
              rcases Nat.mul_eq_zero.1 h0 with h0 | h0 <;> omega
            simp only [Instr.buildSlice, Sem.run_bind, run_underlying (under_slice hT hd), Result.andThen_ok, run_sizeOf (w := w) hT hk]
            rw [if_neg (by omega), if_neg hne]
            simp only [Sem.run_bind, hz1, Result.andThen_ok, Sem.run_pure, hz4, hzz, h1, newRow, run_newObj_alloc]
        · rw [h3]
          simp [hz5]
      · cases h
  | _ => rw [hd] at h; cases h
end
end Go.Eng
