/-
  The abstract machine: addresses, loads, lengths, parts.
-/
import Derived.Test.YtjldfifepbdlmaaDoorEngD
set_option linter.unusedSimpArgs false
set_option linter.unusedVariables false
namespace Go.Eng
open Go.RowKit

section
variable {P : Program} {T : Tab} {w : World} {M : Nat → Prop} {β : List Value}
theorem run_info (hT : TabOk P T) {t : TypeId} (h : (T t).desc ≠ .other) : ∃ i z, (typeInfo t).run P w = .ok i w ∧ i.size = (T t).size ∧ i.bytes = (T t).bytes ∧ i.zero = some z ∧ zerosOk (T t).zero z.cells.toList = true ∧ valueAgg z = (T t).isAgg ∧ (T t).zero.length = (T t).size := by
  obtain ⟨i, z, h1, h2, h3, h4, h5, h6, h7⟩ := (hT t).info h
  exact ⟨i, z, by simp [typeInfo, h1], h2, h3, h4, h5, h6, h7⟩
theorem run_sizeOf (hT : TabOk P T) {t : TypeId} (h : (T t).desc ≠ .other) : (sizeOf t).run P w = .ok (T t).size w := by
  obtain ⟨i, z, h1, h2, _⟩ := run_info (w := w) hT h
  simp [sizeOf, h1, h2]
theorem under_of (hT : TabOk P T) {t : TypeId} (h : (T t).desc ≠ .other) : ∃ d, P.underlying t = some d := by
  have hd := (hT t).desc
  cases hu : P.underlying t with
  | some d => exact ⟨d, rfl⟩
  | none => cases hc : (T t).desc <;> rw [hc] at hd <;> simp [descOk, hu] at hd <;> exact absurd hc h
theorem run_isAgg (hT : TabOk P T) {t : TypeId} (h : (T t).desc ≠ .other) : (isAgg t).run P w = .ok (T t).isAgg w := by
  have hd := (hT t).desc
  obtain ⟨d, hu⟩ := under_of hT h
  unfold TyRow.isAgg
  cases hc : (T t).desc <;> rw [hc] at hd <;> simp only [descOk, hu] at hd <;> (try exact absurd hc h) <;> cases d <;> simp_all [isAgg, run_underlying hu]
theorem under_slice (hT : TabOk P T) {t e : TypeId} (h : (T t).desc = .slice e) : P.underlying t = some (.slice e) := by
  have := (hT t).desc
  rw [h] at this
  simp only [descOk] at this
  split at this
  · rename_i e' hu; rw [hu]; simp at this; rw [this]
  · cases this
theorem under_array (hT : TabOk P T) {t e : TypeId} {n : Nat} (h : (T t).desc = .array n e) : P.underlying t = some (.array n e) := by
  have := (hT t).desc
  rw [h] at this
  simp only [descOk] at this
  split at this
  · rename_i e' hu; rw [hu]; simp at this; rw [this.1, this.2]
  · cases this
theorem under_map (hT : TabOk P T) {t k e : TypeId} (h : (T t).desc = .map k e) : P.underlying t = some (.map k e) := by
  have := (hT t).desc
  rw [h] at this
  simp only [descOk] at this
  split at this
  · rename_i e' hu; rw [hu]; simp at this; rw [this.1, this.2]
  · cases this
theorem under_string (hT : TabOk P T) {t : TypeId} (h : (T t).desc = .string) : P.underlying t = some .string := by
  have := (hT t).desc
  rw [h] at this
  simp only [descOk] at this
  split at this
  · assumption
  · cases this
theorem under_int (hT : TabOk P T) {t : TypeId} {k : IntKind} (h : (T t).desc = .int k) : P.underlying t = some (.int k) := by
  have := (hT t).desc
  rw [h] at this
  simp only [descOk] at this
  split at this
  · rename_i k' hu; rw [hu]; simp at this; rw [this]
  · cases this
theorem under_struct (hT : TabOk P T) {t : TypeId} {fs : List (Nat × TypeId)} (h : (T t).desc = .struct fs) :
    ∃ gs : Array Field, P.underlying t = some (.struct gs) ∧ fs = gs.toList.map (fun f => (f.offset, f.type)) ∧ ∀ f ∈ fs, P.cellsOf f.2 ≠ 0 := by
  have := (hT t).desc
  rw [h] at this
  simp only [descOk] at this
  split at this
  · rename_i gs hu
    rw [Bool.and_eq_true, beq_iff_eq, List.all_eq_true] at this
    exact ⟨gs, hu, this.1, fun f hf => by have := this.2 f hf; simpa using this⟩
  · cases this

/-! ### rows of cells -/
theorem RepD.at_block : True := trivial
/-- what a pointer to the cells 'ds' at 'ad' offers -/
def AtRow (w : World) (M : Nat → Prop) (ad : Addr) (ds : List D) : Prop := ∃ vs, reads w ad 0 vs ∧ RepL w M ds vs
theorem AtRow.shift {ad : Addr} {ds : List D} (h : AtRow w M ad ds) (k : Nat) : AtRow w M (ad.add k) (ds.drop k) := by
  obtain ⟨vs, h1, h2⟩ := h
  have h3 := reads_shift (k := k) h1
  exact ⟨vs.drop k, reads_rebase (o := k) (k := 0) (by simpa [Nat.add_comm] using h3), RepL.drop ds vs k h2⟩
theorem RepRows.atRow {ad : Addr} {sz : Nat} {rows : List (List D)} (h : RepRows w M ad sz 0 rows) {i : Nat} {r : List D} (hr : rows[i]? = some r) : AtRow w M (ad.add (i * sz)) r := by
  obtain ⟨vs, h1, h2, h3⟩ := RepRows.get rows 0 h i r hr
  exact ⟨vs, reads_rebase (o := i * sz) (k := 0) (by simpa using h2), h3⟩
def RunEq (P : Program) (w : World) (M : Nat → Prop) (β : List Value) (s : Sem Value) (v : AV) : Prop := ∃ u, s.run P w = .ok u w ∧ RepV w M β v u
theorem RunEq.pure {s : Sem Value} {v : AV} (u : Value) (h : s.run P w = .ok u w) (hr : RepV w M β v u) : RunEq P w M β s v := ⟨u, h, hr⟩
theorem RunEq.to {s : Sem Value} {v : AV} (h : RunEq P w M β s v) : RunTo P w M β s v := by obtain ⟨u, h1, h2⟩ := h; exact ⟨u, w, h1, Below.refl _ _, h2⟩
/-- loading: the cells of a variable of type 't' -/
def loadV (r : TyRow) (cells : List D) : Prop × AV :=
  if r.isAgg then (r.size ≤ cells.length, .agg (cells.take r.size)) else (0 < cells.length, .one (cells.headD .unk))
theorem reads_get {ad : Addr} {vs : List Value} (h : reads w ad 0 vs) {j : Nat} {u : Value} (hu : vs[j]? = some u) : w.cell? (ad.add j) = some u := by
  have := h j u hu
  rwa [Nat.zero_add] at this
theorem loadVar_sound (hT : TabOk P T) {t : TypeId} (hk : (T t).desc ≠ .other) {ad : Addr} {cells : List D} {vs : List Value} (h1 : reads w ad 0 vs) (h2 : RepCL w M β cells vs) (h : (loadV (T t) cells).1) :
    RunEq P w M β (loadVar t ad) (loadV (T t) cells).2 := by
  have ha := run_isAgg (w := w) hT hk
  have hs := run_sizeOf (w := w) hT hk
  have hlen := h2.1
  unfold loadV at h ⊢
  cases hagg : (T t).isAgg with
  | true =>
    rw [hagg] at ha
    simp only [hagg, if_true] at h ⊢
    have hl : (vs.take (T t).size).length = (T t).size := by rw [List.length_take]; omega
    have hld := run_loadCells_list (P := P) w ad (vs.take (T t).size) (fun j v hv => reads_get h1 (by rw [List.getElem?_take] at hv; split at hv; exact hv; cases hv))
    rw [hl] at hld
    refine RunEq.pure (.agg ⟨vs.take (T t).size⟩) (by simp [loadVar, ha, hs, hld]) ⟨_, rfl, by rw [List.length_take, List.length_take, hlen], fun i d u hd hu => ?_⟩
    rw [List.getElem?_take] at hd hu
    split at hd
    · rename_i hi; rw [if_pos hi] at hu; exact h2.2 i d u hd hu
    · cases hd
  | false =>
    rw [hagg] at ha
    simp only [hagg, Bool.false_eq_true, if_false] at h ⊢
    cases cells with
    | nil => simp at h
    | cons d ds =>
      cases vs with
      | nil => simp at hlen
      | cons v vs =>
        have hc := reads_get h1 (j := 0) (u := v) rfl
        rw [add_zero] at hc
        exact RunEq.pure v (by simp [loadVar, ha, hc]) (h2.2 0 d v rfl rfl)

/-! ### field addresses -/
def fieldOff (r : TyRow) (f : Nat) : Option Nat := match r.desc with | .struct fs => (fs[f]?).map (·.1) | _ => none
def isVarAt (H : List AObj) (t : Nat) : Prop := match H[t]? with | some (.var ..) => True | _ => False
def isRowAt (H : List AObj) (t : Nat) : Prop := match H[t]? with | some (.row ..) => True | _ => False
theorem isVarAt_iff {H : List AObj} {t : Nat} (h : isVarAt H t) : ∃ e cs, H[t]? = some (.var e cs) := by
  unfold isVarAt at h
  split at h
  · exact ⟨_, _, ‹_›⟩
  · exact h.elim
theorem isRowAt_iff {H : List AObj} {t : Nat} (h : isRowAt H t) : ∃ e sz rows, H[t]? = some (.row e sz rows) := by
  unfold isRowAt at h
  split at h
  · exact ⟨_, _, _, ‹_›⟩
  · exact h.elim
def fieldAddrV (r : TyRow) (H : List AObj) (f : Nat) (x : AV) : Prop × AV :=
  match fieldOff r f, x with
  | some o, .one (.ref row) => (True, .one (.ref (row.drop o)))
  | some o, .one (.vp t off) => (isVarAt H t, .one (.vp t (off + o)))
  | some o, .one (.rp t i sz sub) => (isRowAt H t, .one (.rp t i sz (sub + o)))
  | _, _ => (False, .one .unk)
theorem fieldAt_run (hT : TabOk P T) {s : TypeId} {f o : Nat} (h : fieldOff (T s) f = some o) (ad : Addr) : (Instr.fieldAt s (.pointer (some ad)) f).run P w = .ok (.pointer (some (ad.add o))) w := by
  unfold fieldOff at h
  split at h
  · rename_i fs hd
    obtain ⟨gs, hu, hgs, hne⟩ := under_struct hT hd
    have hf : ∃ p, fs[f]? = some p ∧ p.1 = o := by
      cases hp : fs[f]? with
      | none => rw [hp] at h; cases h
      | some p => rw [hp] at h; exact ⟨p, rfl, by simpa using h⟩
    obtain ⟨p, hp, rfl⟩ := hf
    have hmem := List.mem_of_getElem? hp
    have hc := hne p hmem
    rw [hgs, List.getElem?_map] at hp
    cases hg : gs.toList[f]? with
    | none => rw [hg] at hp; cases hp
    | some g =>
      rw [hg] at hp
      simp at hp
      have hg' : gs[f]? = some g := by simpa using hg
      rw [← hp] at hc
      have hi : ∃ i, P.info? g.type = some i ∧ i.size ≠ 0 := by
        unfold Program.cellsOf at hc
        cases hi : P.info? g.type with
        | none => rw [hi] at hc; simp at hc
        | some i => rw [hi] at hc; exact ⟨i, rfl, by simpa using hc⟩
      obtain ⟨i, hi, hi0⟩ := hi
      simp [Instr.fieldAt, run_underlying hu, hg', Instr.sureAddr, fieldPlace, sizeOf, typeInfo, hi, hi0, ← hp]
  · cases h
theorem fieldAddrV_yields (hT : TabOk P T) {H : List AObj} (hobj : ∀ (t : Nat) (o : AObj) (h : Value), H[t]? = some o → β[t]? = some h → ObjRep w M β o h) (s : TypeId) (f : Nat) (x : AV) (v : Value) (hv : RepV w M β x v) (h : (fieldAddrV (T s) H f x).1) :
    ∃ u, (∀ w' : World, (Instr.fieldAt s v f).run P w' = .ok u w') ∧ RepV w M β (fieldAddrV (T s) H f x).2 u := by
  unfold fieldAddrV at h ⊢
  split
  · rename_i o row ho
    obtain ⟨ad, rfl, hb, hm, vs, h1, h2⟩ := hv
    have := AtRow.shift ⟨vs, h1, h2⟩ o
    exact ⟨_, fun w' => fieldAt_run (w := w') hT ho ad, ad.add o, rfl, by rw [block_add]; exact hb, by rw [block_add]; exact hm, this⟩
  · rename_i o t off ho
    rw [ho] at h
    obtain ⟨e, cs, hH⟩ := isVarAt_iff h
    obtain ⟨g, h1, rfl⟩ := vp_live hv fun y hy => hobj t _ y hH hy
    refine ⟨_, fun w' => fieldAt_run (w := w') hT ho _, .inl ⟨g, h1, ?_⟩⟩
    rw [add_lit]
  · rename_i o t i sz sub ho
    rw [ho] at h
    obtain ⟨e, sz', rows, hH⟩ := isRowAt_iff h
    obtain ⟨g, n, c, h1, rfl⟩ := rp_live hv fun y hy => hobj t _ y hH hy
    refine ⟨_, fun w' => fieldAt_run (w := w') hT ho _, .inl ⟨g, n, c, h1, ?_⟩⟩
    rw [add_lit, Nat.add_assoc]
  · exact (by simp_all : False).elim
theorem fieldAddrV_sound (hT : TabOk P T) {H : List AObj} (hobj : ∀ (t : Nat) (o : AObj) (h : Value), H[t]? = some o → β[t]? = some h → ObjRep w M β o h) (s : TypeId) (f : Nat) (x : AV) (v : Value) (hv : RepV w M β x v) (h : (fieldAddrV (T s) H f x).1) :
    RunTo P w M β (Instr.fieldAt s v f) (fieldAddrV (T s) H f x).2 := by
  obtain ⟨u, h1, h2⟩ := fieldAddrV_yields (P := P) hT hobj s f x v hv h
  exact RunTo.pure u (h1 w) h2

/-! ### element addresses -/
def indexAddrV (T : Tab) (H : List AObj) (t : TypeId) (x i : AV) : Prop × AV :=
  match (T t).desc, x, i with
  | .slice e, .one (.list rows), .one (.int _ z) => ((0 ≤ z ∧ z < rows.length) ∧ (T e).desc ≠ .other ∧ (rows.getD z.toNat (T e).zero).length = (T e).size, .one (.ref (rows.getD z.toNat (T e).zero)))
  | .slice e, .one (.own o), .one (.int _ z) =>
    match H[o]? with
    | some (.row _ sz rows) => ((0 ≤ z ∧ z < rows.length) ∧ (T e).desc ≠ .other ∧ sz = (T e).size, .one (.rp o z.toNat sz 0))
    | _ => (False, .one .unk)
  | .array n e, .one (.ref row), .one (.int _ z) => ((0 ≤ z ∧ z < n) ∧ (T e).desc ≠ .other, .one (.ref (row.drop (z.toNat * (T e).size))))
  | .array n e, .one (.vp o off), .one (.int _ z) => ((0 ≤ z ∧ z < n) ∧ (T e).desc ≠ .other ∧ isVarAt H o, .one (.vp o (off + z.toNat * (T e).size)))
  | _, _, _ => (False, .one .unk)
theorem indexAt_slice (hT : TabOk P T) {t e : TypeId} (ht : (T t).desc = .slice e) (he : (T e).desc ≠ .other) (ad : Addr) (n c : Nat) (k : IntKind) (z : Int) (h0 : 0 ≤ z) (h1 : z < n) :
    (Instr.indexAt t (.slice (some ad) n c) (.int k z)).run P w = .ok (.pointer (some (ad.add (z.toNat * (T e).size)))) w := by
  simp [Instr.indexAt, asIntOf, run_underlying (under_slice hT ht), run_sizeOf (w := w) hT he, h0, h1]
theorem indexAt_array (hT : TabOk P T) {t e : TypeId} {n : Nat} (ht : (T t).desc = .array n e) (he : (T e).desc ≠ .other) (ad : Addr) (k : IntKind) (z : Int) (h0 : 0 ≤ z) (h1 : z < n) :
    (Instr.indexAt t (.pointer (some ad)) (.int k z)).run P w = .ok (.pointer (some (ad.add (z.toNat * (T e).size)))) w := by
  simp [Instr.indexAt, asIntOf, run_underlying (under_array hT ht), Instr.sureAddr, run_sizeOf (w := w) hT he, h0, h1]
theorem getD_some {α : Type} {l : List α} {i : Nat} (h : i < l.length) (d : α) : l[i]? = some (l.getD i d) := by
  simp [List.getD, List.getElem?_eq_getElem h]
theorem indexAddrV_sound (hT : TabOk P T) {H : List AObj} (hobj : ∀ (t : Nat) (o : AObj) (h : Value), H[t]? = some o → β[t]? = some h → ObjRep w M β o h) (t : TypeId) (x i : AV) (v u : Value) (hv : RepV w M β x v) (hu : RepV w M β i u) (h : (indexAddrV T H t x i).1) :
    RunTo P w M β (Instr.indexAt t v u) (indexAddrV T H t x i).2 := by
  unfold indexAddrV at h ⊢
  split
  · rename_i e rows k z hd
    simp only [hd] at h
    obtain ⟨⟨h0, h1⟩, he, hlen⟩ := h
    obtain rfl := rep_int_inv hu
    obtain ⟨A, c, rfl, hn, hc, hr⟩ := hv
    rcases hr with rfl | ⟨ad, sz, rfl, hb, hm, hr⟩
    · simp at h1; omega
    · have hlt : z.toNat < rows.length := by omega
      have hg := getD_some hlt (T e).zero
      have hsz : sz = (T e).size := by rw [← hlen]; exact (hr.rowlen hg).symm
      subst hsz
      have hat := hr.atRow hg
      exact RunTo.pure _ (indexAt_slice hT hd he ad rows.length c k z h0 h1) ⟨_, rfl, by rw [block_add]; exact hb, by rw [block_add]; exact hm, hat⟩
  · rename_i e o k z hd
    simp only [hd] at h
    obtain rfl := rep_int_inv hu
    cases hH : H[o]? with
    | none => rw [hH] at h; exact h.elim
    | some ob =>
      rw [hH] at h
      cases ob with
      | row e' sz rows =>
        simp only at h ⊢
        obtain ⟨⟨h0, h1⟩, he, rfl⟩ := h
        have hβ := own_live hv fun y hy => hobj o _ y hH hy
        obtain ⟨A, c, rfl, hn, hc, hr⟩ := hobj o _ v hH hβ
        rcases hr with rfl | ⟨hc0, g, cur, rfl, hg, hcs, hrr⟩
        · omega
        · refine RunTo.pure _ (indexAt_slice hT hd he ⟨g, 0, none⟩ rows.length c k z h0 h1) (.inl ⟨g, _, _, hβ, ?_⟩)
          rw [add_lit]; simp
      | _ => exact h.elim
  · rename_i n e row k z hd
    simp only [hd] at h
    obtain ⟨⟨h0, h1⟩, he⟩ := h
    obtain rfl := rep_int_inv hu
    obtain ⟨ad, rfl, hb, hm, hat⟩ := hv
    have := AtRow.shift hat (z.toNat * (T e).size)
    exact RunTo.pure _ (indexAt_array hT hd he ad k z h0 h1) ⟨_, rfl, by rw [block_add]; exact hb, by rw [block_add]; exact hm, this⟩
  · rename_i n e o off k z hd
    simp only [hd] at h
    obtain ⟨⟨h0, h1⟩, he, hvar⟩ := h
    obtain rfl := rep_int_inv hu
    obtain ⟨e', cs, hH⟩ := isVarAt_iff hvar
    obtain ⟨g, h2, rfl⟩ := vp_live hv fun y hy => hobj o _ y hH hy
    refine RunTo.pure _ (indexAt_array hT hd he _ k z h0 h1) (.inl ⟨g, h2, ?_⟩)
    rw [add_lit]
  · exact (by simp_all : False).elim

/-! ### loads -/
def loadAtV (T : Tab) (H : List AObj) (t : TypeId) (x : AV) : Prop × AV :=
  match x with
  | .one (.ref row) => ((T t).desc ≠ .other ∧ (loadV (T t) row).1, (loadV (T t) row).2)
  | .one (.vp o off) =>
    match H[o]? with
    | some (.var _ cs) => ((T t).desc ≠ .other ∧ (loadV (T t) (cs.drop off)).1, (loadV (T t) (cs.drop off)).2)
    | _ => (False, .one .unk)
  | .one (.rp o i sz sub) =>
    match H[o]? with
    | some (.row _ sz' rows) => ((T t).desc ≠ .other ∧ sz = sz' ∧ i < rows.length ∧ (loadV (T t) ((rows.getD i []).drop sub)).1, (loadV (T t) ((rows.getD i []).drop sub)).2)
    | _ => (False, .one .unk)
  | _ => (False, .one .unk)
theorem reads_cells {g : Nat} {cur : Array Value} {e : TypeId} {fz : Nat × Nat} (hg : w.heap[g]? = some (.cells cur e fz)) : reads w ⟨g, 0, none⟩ 0 cur.toList := by
  intro j u hu
  rw [add_lit, cell_of_row w g _ cur e fz hg]
  simpa using hu
theorem RepCL.drop {ds : List D} {vs : List Value} (h : RepCL w M β ds vs) (k : Nat) : RepCL w M β (ds.drop k) (vs.drop k) :=
  ⟨by rw [List.length_drop, List.length_drop, h.1], fun i d u hd hu => h.2 (k + i) d u (by rw [← hd, List.getElem?_drop]) (by rw [← hu, List.getElem?_drop])⟩
theorem loadAtV_sound (hT : TabOk P T) {H : List AObj} (hlen : β.length = H.length) (hobj : ∀ (t : Nat) (o : AObj) (h : Value), H[t]? = some o → β[t]? = some h → ObjRep w M β o h) (t : TypeId) (x : AV) (v : Value) (hv : RepV w M β x v) (h : (loadAtV T H t x).1) :
    RunEq P w M β (Instr.loadAt t v) (loadAtV T H t x).2 := by
  have lift : ∀ (ad : Addr) (av : AV), RunEq P w M β (loadVar t ad) av → RunEq P w M β (Instr.loadAt t (.pointer (some ad))) av := by
    intro ad av ⟨u, h1, h2⟩
    exact ⟨u, by simp [Instr.loadAt, Instr.sureAddr, h1], h2⟩
  unfold loadAtV at h ⊢
  split
  · rename_i row
    obtain ⟨hk, h⟩ := h
    obtain ⟨ad, rfl, hb, hm, vs, h1, h2⟩ := hv
    exact lift ad _ (loadVar_sound hT hk h1 h2.toC h)
  · rename_i o off
    simp only at h
    cases hH : H[o]? with
    | none => rw [hH] at h; exact h.elim
    | some ob =>
      rw [hH] at h
      cases ob with
      | var e cs =>
        simp only at h ⊢
        obtain ⟨hk, h⟩ := h
        obtain ⟨g, hβ, rfl⟩ := vp_live hv fun y hy => hobj o _ y hH hy
        obtain ⟨g', cur, he, hg, hcl⟩ := hobj o _ _ hH hβ
        cases he
        have h3 := reads_shift (k := off) (reads_cells hg)
        have h4 := reads_rebase (o := off) (k := 0) (by simpa [Nat.add_comm] using h3)
        rw [add_lit] at h4
        have := loadVar_sound hT hk (ad := ⟨g, 0 + off, none⟩) h4 (hcl.drop off) h
        rw [Nat.zero_add] at this
        exact lift _ _ this
      | _ => exact h.elim
  · rename_i o i sz sub
    simp only at h
    cases hH : H[o]? with
    | none => rw [hH] at h; exact h.elim
    | some ob =>
      rw [hH] at h
      cases ob with
      | row e sz' rows =>
        simp only at h ⊢
        obtain ⟨hk, rfl, hi, h⟩ := h
        obtain ⟨g, n, c, hβ, rfl⟩ := rp_live hv fun y hy => hobj o _ y hH hy
        obtain ⟨A, c', he, hle, _, hr⟩ := hobj o _ _ hH hβ
        cases he
        rcases hr with hA | ⟨hc0, g', cur, hA, hg, hcs, hrr⟩
        · omega
        · cases hA
          have hat := (hrr.atRow (getD_some hi [])).shift sub
          rw [add_add, add_lit] at hat
          obtain ⟨vs, h1, h2⟩ := hat
          have := loadVar_sound hT hk (ad := ⟨g, 0 + (i * sz + sub), none⟩) h1 (β := β) h2.toC h
          rw [Nat.zero_add] at this
          exact lift _ _ this
      | _ => exact h.elim
  · exact (by simp_all : False).elim

/-! ### parts of values -/
def partV (T : Tab) (t : TypeId) (ds : List D) (off : Nat) : Prop × AV :=
  if (T t).isAgg then ((T t).desc ≠ .other ∧ off + (T t).size ≤ ds.length, .agg ((ds.drop off).take (T t).size)) else ((T t).desc ≠ .other ∧ off < ds.length, .one (ds.getD off .unk))
theorem arr_extract (vs : List Value) (o s : Nat) : (⟨vs⟩ : Array Value).extract o (o + s) = ⟨(vs.drop o).take s⟩ := by
  apply Array.ext'
  simp [List.extract]
theorem part_sound (hT : TabOk P T) (t : TypeId) (ds : List D) (vs : List Value) (off : Nat) (hv : RepCL w M β ds vs) (h : (partV T t ds off).1) : RunTo P w M β (part t ⟨vs⟩ off) (partV T t ds off).2 := by
  unfold partV at h ⊢
  cases hagg : (T t).isAgg with
  | true =>
    simp only [hagg, if_true] at h ⊢
    have ha := run_isAgg (w := w) hT h.1
    rw [hagg] at ha
    refine RunTo.pure (.agg ⟨(vs.drop off).take (T t).size⟩) (by rw [← arr_extract]; simp [part, ha, run_sizeOf (w := w) hT h.1]) ⟨_, rfl, ?_, fun i d u hd hu => ?_⟩
    · rw [List.length_take, List.length_take, List.length_drop, List.length_drop, hv.1]
    · rw [List.getElem?_take] at hd hu
      split at hd
      · rename_i hi
        rw [if_pos hi] at hu
        exact (hv.drop off).2 i d u hd hu
      · cases hd
  | false =>
    simp only [hagg, Bool.false_eq_true, if_false] at h ⊢
    have ha := run_isAgg (w := w) hT h.1
    rw [hagg] at ha
    have hlt : off < vs.length := by rw [← hv.1]; exact h.2
    refine RunTo.pure (vs.getD off undef) (by simp [part, ha, List.getElem?_eq_getElem hlt]) ?_
    exact hv.2 off _ _ (getD_some h.2 _) (getD_some hlt _)
end
end Go.Eng
