/-
  The abstract machine: operations that make or turn objects.
-/
import Derived.Test.YtjldfifepbdlmaaDoorEngJ2
set_option linter.unusedSimpArgs false
set_option linter.unusedVariables false
namespace Go.Eng
open Go.RowKit

def D.owns : D → List Nat | .own t => [t] | _ => []
def AV.owns : AV → List Nat
  | .one d => d.owns
  | .agg ds => ds.flatMap D.owns
  | _ => []
def AState.freezeAll : List Nat → AState → AState
  | [], σ => σ
  | t :: ts, σ => AState.freezeAll ts (if σ.pin ≤ t ∧ t < σ.H.length then σ.freeze t else σ)
def AState.evs (σ : AState) (x : Operand) : AV := (σ.ev x).strip
def needs (σ : AState) : List Operand → Prop
  | [] => True
  | x :: xs => (σ.ev x).need ∧ needs σ xs
def AState.pushObj (σ : AState) (d : Nat) (o : AObj) (v : AV) : AState := { n := σ.n, slots := (d, v) :: σ.slots, H := σ.H ++ [o], pin := σ.pin }

def tAlloc (T : Tab) (e : TypeId) (d : Nat) (σ : AState) (K : AState → Prop) : Prop :=
  ((T e).desc ≠ .other ∧ d < σ.n) ∧ K (σ.pushObj d (.var e (T e).zero) (.one (.vp σ.H.length 0)))
def tBox (e : TypeId) (x : Operand) (d : Nat) (σ : AState) (K : AState → Prop) : Prop :=
  match (σ.evs x).cells? with
  | some cs => ((σ.ev x).need ∧ d < σ.n) ∧ K (σ.pushObj d (.var e cs) (.one (.vp σ.H.length 0)))
  | none => False
def tNil (T : Tab) (t : TypeId) (d : Nat) (σ : AState) (K : AState → Prop) : Prop :=
  match (T t).desc with
  | .slice e => d < σ.n ∧ K (σ.pushObj d (.row e (T e).size []) (.one (.own σ.H.length)))
  | _ => False
def tBuildSlice (T : Tab) (t : TypeId) (len : Nat) (parts : List (Nat × Operand)) (d : Nat) (σ : AState) (K : AState → Prop) : Prop :=
  let σ1 := AState.freezeAll (parts.flatMap fun p => (σ.evs p.2).owns) σ
  match sliceRows T t len (parts.map fun p => (p.1, σ1.evs p.2)) with
  | some (e, sz, rows) => (needs σ1 (parts.map (·.2)) ∧ (rows.all fun r => r.all D.pure) = true ∧ d < σ1.n) ∧ K (σ1.pushObj d (.row e sz rows) (.one (.own σ1.H.length)))
  | none => False
def tMake (T : Tab) (t : TypeId) (l c : Operand) (d : Nat) (σ : AState) (K : AState → Prop) : Prop :=
  match (T t).desc, σ.evs l, σ.evs c with
  | .slice e, .one (.int .i64 n), .one (.int .i64 m) =>
    ((σ.ev l).need ∧ (σ.ev c).need ∧ (T e).desc ≠ .other ∧ 0 < (T e).size ∧ 0 ≤ n ∧ n ≤ m ∧ m ≤ 9223372036854775807 ∧ (T e).bytes * m ≤ 281474976710656 ∧ d < σ.n) ∧ K (σ.pushObj d (.row e (T e).size (List.replicate n.toNat (T e).zero)) (.one (.own σ.H.length)))
  | _, _, _ => False
def tStore (T : Tab) (t : TypeId) (ad v : Operand) (σ : AState) (K : AState → Prop) : Prop :=
  match σ.evs ad, (σ.evs v).cells? with
  | .one (.vp o off), some cells =>
    match σ.H[o]? with
    | some (.var e cs) => ((σ.ev ad).need ∧ (σ.ev v).need ∧ (T t).desc ≠ .other ∧ cells.length = (T t).size ∧ off + cells.length ≤ cs.length) ∧ K (σ.setObj o (.var e (setAt cs off cells)))
    | _ => False
  | .one (.rp o i sz sub), some cells =>
    let σ1 := AState.freezeAll (cells.flatMap D.owns) σ
    match σ1.H[o]?, (σ1.evs v).cells? with
    | some (.row e sz' rows), some cells1 => ((σ1.ev ad).need ∧ σ1.evs ad = .one (.rp o i sz sub) ∧ (σ1.ev v).need ∧ (T t).desc ≠ .other ∧ cells1.length = (T t).size ∧ sz = sz' ∧ i < rows.length ∧ sub + cells1.length ≤ sz ∧ cells1.all D.pure = true) ∧ K (σ1.setObj o (.row e sz' (rows.set i (setAt (rows.getD i []) sub cells1))))
    | _, _ => False
  | _, _ => False
/-- append onto the own slice 'o' -/
def tAppendAt (T : Tab) (e o : Nat) (nd : Prop) (news : List (List D)) (d : Nat) (σ : AState) (K : AState → Prop) : Prop :=
  match σ.H[o]? with
  | some (.row e' sz rows) => (nd ∧ σ.pin ≤ o ∧ (T e).desc ≠ .other ∧ 0 < (T e).size ∧ e' = e ∧ sz = (T e).size ∧ (∀ r ∈ news, r.length = sz) ∧ (rows.length + news.length) * (T e).bytes ≤ 140737488355328 ∧ rows.length + news.length ≤ 9223372036854775807 ∧ d < σ.n) ∧
      K (((σ.fz o .gone).setObj o (.row e sz (rows ++ news))).put d (.one (.own o)))
  | _ => False
def tAppend (T : Tab) (s x : Operand) (t : TypeId) (d : Nat) (σ : AState) (K : AState → Prop) : Prop :=
  match (T t).desc, σ.evs s, srcRows σ.H (σ.evs x) with
  | .slice e, .one (.own o), some news => tAppendAt T e o ((σ.ev s).need ∧ (σ.ev x).need) news d σ K
  | .slice e, .one .nil, some news => ((σ.ev s).need ∧ (σ.ev x).need) ∧ tAppendAt T e σ.H.length True news d ({ n := σ.n, slots := σ.slots, H := σ.H ++ [.row e (T e).size []], pin := σ.pin }) K
  | _, _, _ => False

section
variable {P : Program} {T : Tab} {W0 w : World} {M0 : Nat → Prop} {F : List Value} {σ : AState} {a : Act} {β : List Value} {Kc : Act → World → Prop} {Q : Exit → Act → World → Prop} {K : AState → Prop}
def SimS (W0 : World) (M0 : Nat → Prop) (F : List Value) (σ : AState) (a : Act) (w : World) : Prop := ∃ β, Sim W0 M0 F σ a w β
theorem Sim.evs (h : Sim W0 M0 F σ a w β) {x : Operand} (hn : (σ.ev x).need) : RepV w (Mof M0 β) β (σ.evs x) (a.eval x) := (h.ev x).strip hn
theorem Sim.freezeAll : ∀ (ts : List Nat) (σ : AState) (β : List Value), Sim W0 M0 F σ a w β → ∃ β', Sim W0 M0 F (AState.freezeAll ts σ) a w β'
  | [], σ, β, h => ⟨β, h⟩
  | t :: ts, σ, β, h => by
    simp only [AState.freezeAll]
    split
    · rename_i ht
      exact Sim.freezeAll ts _ _ (h.freeze t ht.1 ht.2)
    · exact Sim.freezeAll ts _ _ h
/-- a new object and its handle in a slot -/
theorem Sim.pushObj (h : Sim W0 M0 F σ a w β) {w' : World} {o : AObj} {hd : Value} {v : AV} {x : Value} {d : Nat} (hd' : d < σ.n) (hb : Below w.heap.size w w') (hf : ∀ g, hblk hd = some g → w.heap.size ≤ g ∧ g < w'.heap.size)
    (ho : ObjRep w' (Mof M0 (β ++ [hd])) (β ++ [hd]) o hd) (hv : RepV w' (Mof M0 (β ++ [hd])) (β ++ [hd]) v x) : Sim W0 M0 F (σ.pushObj d o v) (a.put (some d) x) w' (β ++ [hd]) := by
  have one : ∀ (t : Nat) (y : Value), ([hd] : List Value)[t]? = some y → t = 0 ∧ y = hd := fun t y hy => by
    cases t with
    | zero => simp at hy; exact ⟨rfl, hy.symm⟩
    | succ t => simp at hy
  have h1 := h.push (Hn := [o]) (βn := [hd]) hb rfl (fun g ⟨t, y, hy, hg⟩ => by obtain ⟨_, rfl⟩ := one t y hy; exact hf g hg)
    (fun t t' y y' g hy hy' _ _ => by rw [(one t y hy).1, (one t' y' hy').1])
    (fun t o' y ho' hy => by
      obtain ⟨rfl, rfl⟩ := one t y hy
      simp at ho'
      subst ho'
      exact ho)
  exact Sim.put (σ := { σ with H := σ.H ++ [o] }) h1 hd' hv
theorem last_tag (h : Sim W0 M0 F σ a w β) (hd : Value) : (β ++ [hd])[σ.H.length]? = some hd := by rw [← h.len]; simp
theorem Mof_push {hd : Value} {g : Nat} (hm : Mof M0 (β ++ [hd]) g) : Mof M0 β g ∨ hblk hd = some g := by
  rcases hm with hm | ⟨t, y, hy, hg⟩
  · exact .inl (.inl hm)
  · rw [List.getElem?_append] at hy
    split at hy
    · exact .inl (.inr ⟨t, y, hy, hg⟩)
    · cases hi : t - β.length with
      | zero => rw [hi] at hy; simp at hy; subst hy; exact .inr hg
      | succ k => rw [hi] at hy; simp at hy
theorem keeps_push (h : Sim W0 M0 F σ a w β) {w' : World} (hb : Below w.heap.size w w') {hd : Value} (hf : ∀ g, hblk hd = some g → w.heap.size ≤ g) : Keeps w (Mof M0 β) w' (Mof M0 (β ++ [hd])) :=
  ⟨hb.size, fun g hlt _ => hb.block g hlt, fun g hlt hm hm' => by
    rcases Mof_push hm' with hm' | hm'
    · exact hm hm'
    · have := hf g hm'; omega⟩
theorem upon_value {P : Program} {o : Oper} {a : Act} {w w' : World} {next : Act → World → Prop} {Q : Exit → Act → World → Prop} {u : Value} (hr : (execOp a.eval o).run P w = .ok (.value u) w') (h : next (a.put o.dst u) w') : o.wp P a w next Q := by
  unfold Oper.wp; rw [hr]; exact h
theorem upon_skip {P : Program} {o : Oper} {a : Act} {w w' : World} {next : Act → World → Prop} {Q : Exit → Act → World → Prop} (hd : o.dst = none) (hr : (execOp a.eval o).run P w = .ok .skip w') (h : next a w') : o.wp P a w next Q := by
  unfold Oper.wp; rw [hr]; simp only [Oper.upon, hd, Act.put]; exact h

theorem tAlloc_sound (hT : TabOk P T) {o : Oper} {e : TypeId} {d : Nat} (ho : o.op = .alloc e) (hd : o.dst = some d) (h : Sim W0 M0 F σ a w β) (ht : tAlloc T e d σ K) (hK : ∀ σ' a' w', K σ' → SimS W0 M0 F σ' a' w' → Kc a' w') : o.wp P a w Kc Q := by
  obtain ⟨⟨hk, hdn⟩, hK'⟩ := ht
  obtain ⟨z, hz1, hz2, hz3, hz4, hz5⟩ := zeroVal (w := w) (M := Mof M0 β) hT hk
  have hb : Below w.heap.size w (w.alloc (.cells z.cells e)) := (Below.refl _ _).alloc (Nat.le_refl _) _
  refine upon_value (u := .pointer (some ⟨w.heap.size, 0, none⟩)) (w' := w.alloc (.cells z.cells e)) ?_ ?_
  · simp [execOp, ho, Instr.alloc, hz1, newVar, newRow]
  · rw [hd]
    refine hK _ _ _ hK' ⟨_, h.pushObj hdn hb (hd := .pointer (some ⟨w.heap.size, 0, none⟩)) (fun g hg => by cases hg; simp) ?_ ?_⟩
    · exact ⟨w.heap.size, z.cells, rfl, heap_alloc_new w _, (zerosOk_rep _ _ (by
        obtain ⟨i, z', h1, _, _, _, h5, _⟩ := run_info (w := w) hT hk
        have : z' = z := by
          have h6 : (zeroValue e).run P w = .ok z' w := by simp [zeroValue, h1, *]
          rw [hz1] at h6
          cases h6
          rfl
        rw [← this]; exact h5)).toC⟩
    · exact .inl ⟨w.heap.size, last_tag h _, rfl⟩
theorem tBox_sound {o : Oper} {e : TypeId} {x : Operand} {d : Nat} (ho : o.op = .box e x) (hd : o.dst = some d) (h : Sim W0 M0 F σ a w β) (ht : tBox e x d σ K) (hK : ∀ σ' a' w', K σ' → SimS W0 M0 F σ' a' w' → Kc a' w') : o.wp P a w Kc Q := by
  unfold tBox at ht
  cases hc : (σ.evs x).cells? with
  | none => rw [hc] at ht; exact ht.elim
  | some cs =>
    rw [hc] at ht
    obtain ⟨⟨hn, hdn⟩, hK'⟩ := ht
    have hcl := cells?_rep (h.evs hn) hc
    have hb : Below w.heap.size w (w.alloc (.cells (a.eval x).cells e)) := (Below.refl _ _).alloc (Nat.le_refl _) _
    refine upon_value (u := .pointer (some ⟨w.heap.size, 0, none⟩)) (w' := w.alloc (.cells (a.eval x).cells e)) ?_ ?_
    · simp [execOp, ho, Instr.box, newVar, newRow]
    · rw [hd]
      have hkeep := keeps_push h hb (hd := .pointer (some ⟨w.heap.size, 0, none⟩)) (fun g hg => by cases hg; exact Nat.le_refl _)
      refine hK _ _ _ hK' ⟨_, h.pushObj hdn hb (hd := .pointer (some ⟨w.heap.size, 0, none⟩)) (fun g hg => by cases hg; simp) ?_ (.inl ⟨w.heap.size, last_tag h _, rfl⟩)⟩
      exact ⟨w.heap.size, (a.eval x).cells, rfl, heap_alloc_new w _, hcl.grow ⟨hkeep, fun t y hy => by rw [List.getElem?_append, if_pos (List.getElem?_eq_some_iff.1 hy).1]; exact hy⟩⟩
theorem tNil_sound {o : Oper} {t : TypeId} {d : Nat} (ho : o.op = .assign (.const (.slice none 0 0))) (hd : o.dst = some d) (h : Sim W0 M0 F σ a w β) (ht : tNil T t d σ K) (hK : ∀ σ' a' w', K σ' → SimS W0 M0 F σ' a' w' → Kc a' w') : o.wp P a w Kc Q := by
  unfold tNil at ht
  split at ht
  · obtain ⟨hdn, hK'⟩ := ht
    refine upon_value (u := .slice none 0 0) (w' := w) (by simp [execOp, ho, Act.eval]) ?_
    rw [hd]
    refine hK _ _ _ hK' ⟨_, h.pushObj hdn (Below.refl _ _) (hd := .slice none 0 0) (fun g hg => by cases hg) ?_ ⟨.inl (last_tag h _), rfl⟩⟩
    exact ⟨none, 0, rfl, Nat.le_refl _, Nat.zero_le _, .inl rfl⟩
  · exact ht.elim
theorem needs_mem : ∀ (xs : List Operand) (σ : AState), needs σ xs → ∀ x ∈ xs, (σ.ev x).need
  | [], _, _, x, hx => by simp at hx
  | y :: ys, σ, h, x, hx => by
    simp only [List.mem_cons] at hx
    rcases hx with rfl | hx
    · exact h.1
    · exact needs_mem ys σ h.2 x hx
theorem all_pure {sz len : Nat} {ds : List D} (hlen : ds.length = len * sz) (hsz : 0 < sz) (h : ((chunks sz len ds).all fun r => r.all D.pure) = true) : ds.all D.pure = true := by
  rw [List.all_eq_true]
  intro d hd
  rw [List.all_eq_true] at h
  obtain ⟨i, hi, rfl⟩ := List.mem_iff_getElem.1 hd
  have hilt : i / sz < len := Nat.div_lt_of_lt_mul (by rw [Nat.mul_comm, ← hlen]; exact hi)
  have hmem : (chunks sz len ds)[i / sz]? = some ((ds.drop (i / sz * sz)).take sz) := by
    have hl := chunks_length sz len ds
    have hg : (chunks sz len ds)[i / sz]? = some ((chunks sz len ds)[i / sz]'(by omega)) := List.getElem?_eq_getElem (by omega)
    rw [hg]
    exact congrArg some (chunks_get sz len ds _ _ hg).2
  have hr := h _ (List.mem_of_getElem? hmem)
  rw [List.all_eq_true] at hr
  apply hr
  have hmod := Nat.mod_lt i hsz
  refine List.mem_of_getElem? (i := i % sz) ?_
  rw [List.getElem?_take, if_pos hmod, List.getElem?_drop, Nat.div_add_mod' i sz]
  exact List.getElem?_eq_getElem hi
theorem tBuildSlice_sound (hT : TabOk P T) {o : Oper} {t : TypeId} {len : Nat} {parts : Array (Nat × Operand)} {d : Nat} (ho : o.op = .buildSlice t len parts) (hd : o.dst = some d) (h0 : Sim W0 M0 F σ a w β) (ht : tBuildSlice T t len parts.toList d σ K) (hK : ∀ σ' a' w', K σ' → SimS W0 M0 F σ' a' w' → Kc a' w') : o.wp P a w Kc Q := by
  unfold tBuildSlice at ht
  obtain ⟨β1, h⟩ := Sim.freezeAll (parts.toList.flatMap fun p => (σ.evs p.2).owns) σ β h0
  generalize AState.freezeAll (parts.toList.flatMap fun p => (σ.evs p.2).owns) σ = σ1 at *
  simp only at ht
  cases hs : sliceRows T t len (parts.toList.map fun p => (p.1, σ1.evs p.2)) with
  | none => rw [hs] at ht; exact ht.elim
  | some r =>
    obtain ⟨e, sz, rows⟩ := r
    rw [hs] at ht
    obtain ⟨⟨hn, hp, hdn⟩, hK'⟩ := ht
    obtain ⟨p1, p2⟩ := partsEv (w := w) (M := Mof M0 β1) (β := β1) (ev := σ1.evs) (ρ := a.eval) (parts := parts) (fun x hx => h.evs (needs_mem _ _ hn x hx))
    obtain ⟨ds, vs, h1, h2, h3, h4, h5, h6⟩ := buildSlice_run (w := w) hT t len _ _ p1 p2 hs
    have hb : Below w.heap.size w (w.alloc (.cells ⟨vs⟩ e)) := (Below.refl _ _).alloc (Nat.le_refl _) _
    refine upon_value (u := .slice (some ⟨w.heap.size, 0, none⟩) len len) (w' := w.alloc (.cells ⟨vs⟩ e)) ?_ ?_
    · rw [← parts_array] at h1
      simp [execOp, ho, h1]
    · rw [hd]
      have hrl : rows.length = len := by rw [h3, chunks_length]
      refine hK _ _ _ hK' ⟨_, h.pushObj hdn hb (hd := .slice (some ⟨w.heap.size, 0, none⟩) len len) (fun g hg => by obtain rfl := hblk_slice hg; simp) ?_ ⟨.inl (last_tag h _), rfl⟩⟩
      have hk := keeps_push h hb (hd := .slice (some ⟨w.heap.size, 0, none⟩) len len) (fun g hg => by obtain rfl := hblk_slice hg; exact Nat.le_refl _)
      have hl := RepL.keep hk ds vs (RepCL.toL h2 (all_pure h4 h5 (by rw [← h3]; exact hp)))
      refine ⟨some ⟨w.heap.size, 0, none⟩, len, by rw [hrl], by rw [hrl]; exact Nat.le_refl _, ?_, rowAlt _ ⟨w.heap.size, ⟨vs⟩, rfl, heap_alloc_new w _, ?_, ?_⟩⟩
      · simp only [maxLen]
        have : len * 1 ≤ len * sz := Nat.mul_le_mul_left len h5
        omega
      · show vs.length = _
        rw [← h2.1, h4]
      · rw [h3]
        exact RepRows.of_cells hl (by rw [← h2.1, h4]) (reads_cells (heap_alloc_new w _))
theorem tMake_sound (hT : TabOk P T) {o : Oper} {t : TypeId} {l c : Operand} {d : Nat} (ho : o.op = .makeSlice t l c) (hd : o.dst = some d) (h : Sim W0 M0 F σ a w β) (ht : tMake T t l c d σ K) (hK : ∀ σ' a' w', K σ' → SimS W0 M0 F σ' a' w' → Kc a' w') : o.wp P a w Kc Q := by
  unfold tMake at ht
  split at ht
  · rename_i e n m hdesc hl hc
    obtain ⟨⟨hn1, hn2, hk, hsz, h0, hnm, hmx, hby, hdn⟩, hK'⟩ := ht
    have e1 := h.evs hn1
    have e2 := h.evs hn2
    rw [hl] at e1
    rw [hc] at e2
    have e1' := rep_int_inv e1
    have e2' := rep_int_inv e2
    obtain ⟨i, z, hz1, hi2, hi3, hz4, hz5, hz6, hz7⟩ := run_info (w := w) hT hk
    have hzr := zerosOk_rep (w := w) (M := Mof M0 β) _ _ hz5
    have hzs : z.cells.size = (T e).size := by
      have := RepL.length_eq _ _ hzr
      simp at this
      omega
    have hrun : (Instr.makeSlice t (.int .i64 n) (.int .i64 m)).run P w = .ok (.slice (some ⟨w.heap.size, 0, none⟩) n.toNat m.toNat) (w.alloc (.cells ⟨(List.replicate m.toNat z.cells.toList).flatten⟩ e)) := by
      have w1 : IntKind.i64.wrap n = n := wrap_fits ((fits_i64 n).2 ⟨by omega, by omega⟩)
      have w2 : IntKind.i64.wrap m = m := wrap_fits ((fits_i64 m).2 ⟨by omega, by omega⟩)
      have hzz := zeros_flatten z.cells m.toNat (by rw [hzs]; omega)
      rw [hzs] at hzz
      have hby' : ¬ ((T e).bytes * m > 281474976710656) := by omega
      simp only [Instr.makeSlice, Sem.run_bind, run_underlying (under_slice hT hdesc), Result.andThen_ok, asInt, asIntOf, Sem.run_pure, hz1, hi3, w1, w2]
      have hcond : ¬ ((decide (m < 0) || decide (((T e).bytes : Int) * m > 2 ^ 48)) = true ∨ n < 0 ∨ n > m) := by
        rintro (hh | hh | hh)
        · rw [Bool.or_eq_true, decide_eq_true_eq, decide_eq_true_eq] at hh
          rcases hh with hh | hh
          · omega
          · exact hby' (by simpa using hh)
        · omega
        · omega
      rw [if_neg (by simpa [and_assoc] using hcond)]
      simp only [Sem.run_bind, Sem.run_pure, Result.andThen_ok, run_askRoom, run_sizeOf (w := w) hT hk]
      by_cases hm0 : m.toNat * (T e).size = 0
      · have hmz : m.toNat = 0 := by
          rcases Nat.mul_eq_zero.1 hm0 with h | h
          · exact h
          · omega
        have h00 : ∀ f : Nat → Value, (Array.range 0).map f = ⟨[]⟩ := fun f => by simp [Array.range]
        rw [if_pos hm0, hm0]
        simp [hmz, h00, newRow]
      · rw [if_neg hm0]
        have hzv : (zeroValue e).run P w = .ok z w := by simp [zeroValue, hz1, hz4]
        simp only [Sem.run_bind, hzv, Result.andThen_ok, Sem.run_pure, hzs, hzz, newRow, run_newObj_alloc]
    have hb : Below w.heap.size w (w.alloc (.cells ⟨(List.replicate m.toNat z.cells.toList).flatten⟩ e)) := (Below.refl _ _).alloc (Nat.le_refl _) _
    refine upon_value (u := .slice (some ⟨w.heap.size, 0, none⟩) n.toNat m.toNat) (w' := w.alloc (.cells ⟨(List.replicate m.toNat z.cells.toList).flatten⟩ e)) ?_ ?_
    · simp [execOp, ho, e1', e2', hrun]
    · rw [hd]
      refine hK _ _ _ hK' ⟨_, h.pushObj hdn hb (hd := .slice (some ⟨w.heap.size, 0, none⟩) n.toNat m.toNat) (fun g hg => by obtain rfl := hblk_slice hg; simp) ?_ ⟨.inl (last_tag h _), rfl⟩⟩
      have hk' := keeps_push h hb (hd := .slice (some ⟨w.heap.size, 0, none⟩) n.toNat m.toNat) (fun g hg => by obtain rfl := hblk_slice hg; exact Nat.le_refl _)
      have hfl : ∀ k : Nat, (List.replicate k z.cells.toList).flatten.length = k * (T e).size := fun k => by simp [hzs]
      refine ⟨some ⟨w.heap.size, 0, none⟩, m.toNat, by simp, by simp; omega, by simp only [maxLen]; omega, rowAlt _ ⟨w.heap.size, _, rfl, heap_alloc_new w _, hfl _, ?_⟩⟩
      refine RepRows.of_get _ 0 fun i r hi => ?_
      have hin : i < n.toNat := by have := (List.getElem?_eq_some_iff.1 hi).1; simpa using this
      have hr : r = (T e).zero := by
        have := List.mem_of_getElem? hi
        exact List.eq_of_mem_replicate this
      subst hr
      refine ⟨z.cells.toList, by simpa using hzs, ?_, RepL.keep hk' _ _ hzr⟩
      intro j u hu
      have hrd := reads_cells (heap_alloc_new w (.cells ⟨(List.replicate m.toNat z.cells.toList).flatten⟩ e)) (i * (T e).size + j) u
      rw [Nat.zero_add] at hrd ⊢
      refine hrd ?_
      show (List.replicate m.toNat z.cells.toList).flatten[i * (T e).size + j]? = some u
      have hjl : j < (T e).size := by have := (List.getElem?_eq_some_iff.1 hu).1; simp at this; omega
      have hsplit : List.replicate m.toNat z.cells.toList = List.replicate i z.cells.toList ++ List.replicate (m.toNat - i) z.cells.toList := by
        rw [List.replicate_append_replicate]; congr 1; omega
      rw [hsplit, List.flatten_append, List.getElem?_append_right (by rw [hfl]; omega), hfl]
      have hpos : m.toNat - i = (m.toNat - i - 1) + 1 := by omega
      rw [hpos, List.replicate_succ, List.flatten_cons, List.getElem?_append, if_pos (by simp; omega)]
      rw [← hu]
      congr 1
      omega
  · exact ht.elim
theorem setAt_eq {α : Type} : ∀ (cs vs : List α) (off : Nat), off + cs.length ≤ vs.length → Eng.setAt vs off cs = vs.take off ++ cs ++ vs.drop (off + cs.length)
  | [], vs, off, h => by simp [Eng.setAt]
  | c :: cs, vs, off, h => by
    simp only [Eng.setAt, List.length_cons] at h ⊢
    rw [setAt_eq cs (vs.set off c) (off + 1) (by simp; omega)]
    rw [List.set_eq_take_append_cons_drop, if_pos (by omega)]
    have h1 : (vs.take off).length = off := by rw [List.length_take]; omega
    rw [List.take_append, h1, List.drop_append, h1]
    simp only [List.take_take, Nat.add_sub_cancel_left, List.take_succ_cons, List.take_zero]
    rw [List.drop_eq_nil_of_le (by rw [h1]; omega)]
    have h2 : off + 1 + cs.length - off = cs.length + 1 := by omega
    rw [h2, List.drop_succ_cons, List.drop_drop, Nat.min_eq_right (by omega)]
    simp only [List.append_assoc, List.cons_append, List.nil_append]
    congr 4
    omega
theorem setAt_get {α : Type} {vs cs : List α} {off : Nat} (h : off + cs.length ≤ vs.length) (j : Nat) : (Eng.setAt vs off cs)[j]? = if off ≤ j ∧ j < off + cs.length then cs[j - off]? else vs[j]? := by
  rw [setAt_eq cs vs off h]
  have h1 : (vs.take off).length = off := by rw [List.length_take]; omega
  by_cases hj : j < off
  · rw [if_neg (by omega), List.append_assoc, List.getElem?_append, if_pos (by omega), List.getElem?_take, if_pos hj]
  · by_cases hj2 : j < off + cs.length
    · rw [if_pos ⟨by omega, hj2⟩, List.append_assoc, List.getElem?_append_right (by omega), h1, List.getElem?_append, if_pos (by omega)]
    · rw [if_neg (by omega), List.getElem?_append_right (by simp; omega), List.getElem?_drop]
      congr 1
      simp
      omega
theorem setRow_grown (w : World) (g : Nat) (cs : Array Value) : w.grownBy (w.setRow g cs) (some g) :=
  ⟨rfl, rfl, rfl, by simp [World.setRow], fun k _ hk => setRow_other w g k cs (fun e => hk (by rw [e]))⟩
theorem storeAt_run (hT : TabOk P T) {t : TypeId} (hk : (T t).desc ≠ .other) {g off : Nat} {cur : Array Value} {e : TypeId} (hg : w.heap[g]? = some (.cells cur e (0, 0))) {v : Value} (hsz : v.cells.size = (T t).size) (hfit : off + v.cells.size ≤ cur.size) (h1 : ∀ u ∈ v.cells.toList, u.oneCell' = true) :
    (Instr.storeAt t (.pointer (some ⟨g, off, none⟩)) v).run P w = .ok () (w.setRow g ⟨Eng.setAt cur.toList off v.cells.toList⟩) := by
  have hst := run_storeCells_at P g off e v.cells.toList 0 cur w hg (by simpa using hfit) h1
  have he : cur.toList.take (off + 0) ++ v.cells.toList ++ cur.toList.drop (off + 0 + v.cells.toList.length) = Eng.setAt cur.toList off v.cells.toList := by
    rw [setAt_eq _ _ _ (by simpa using hfit)]; rfl
  rw [he] at hst
  simp [Instr.storeAt, Instr.sureAddr, storeVar, run_sizeOf (w := w) hT hk, hsz, hst]
theorem RepCL.oneCell {w : World} {M : Nat → Prop} {ds : List D} {vs : List Value} (h : RepCL w M β ds vs) : ∀ u ∈ vs, u.oneCell' = true := by
  intro u hu
  obtain ⟨i, hi, rfl⟩ := List.mem_iff_getElem.1 hu
  have hid : i < ds.length := by rw [h.1]; exact hi
  exact (h.2 i _ _ (List.getElem?_eq_getElem hid) (List.getElem?_eq_getElem hi)).oneCell
theorem RepL.mk {w : World} {M : Nat → Prop} : ∀ (ds : List D) (vs : List Value), ds.length = vs.length → (∀ (i : Nat) (d : D) (v : Value), ds[i]? = some d → vs[i]? = some v → RepD w M d v) → RepL w M ds vs
  | [], [], _, _ => by simp [RepL]
  | [], v :: vs, h, _ => by simp at h
  | d :: ds, [], h, _ => by simp at h
  | d :: ds, v :: vs, h, k => by
    simp only [RepL]
    exact ⟨v, vs, rfl, k 0 d v rfl rfl, RepL.mk ds vs (by simpa using h) fun i b u hb hu => k (i + 1) b u (by simpa using hb) (by simpa using hu)⟩
theorem RepL.at2 {w : World} {M : Nat → Prop} {ds : List D} {vs : List Value} (h : RepL w M ds vs) {i : Nat} {d : D} {v : Value} (hd : ds[i]? = some d) (hv : vs[i]? = some v) : RepD w M d v := by
  obtain ⟨x, h1, h2⟩ := RepL.get ds vs h i d hd
  rw [hv] at h1
  cases h1
  exact h2
theorem RepL.set {w : World} {M : Nat → Prop} {ds : List D} {vs : List Value} (h : RepL w M ds vs) (i : Nat) {d : D} {v : Value} (hd : RepD w M d v) : RepL w M (ds.set i d) (vs.set i v) := by
  have hl := RepL.length_eq _ _ h
  refine RepL.mk _ _ (by simp [hl]) fun j e u he hu => ?_
  rw [List.getElem?_set] at he hu
  split at he
  · rename_i hij
    subst hij
    rw [if_pos rfl] at hu
    split at he <;> rename_i hlt
    · rw [if_pos (by rw [← hl]; exact hlt)] at hu
      cases he; cases hu; exact hd
    · cases he
  · rename_i hij
    rw [if_neg hij] at hu
    exact h.at2 he hu
theorem RepL.setAt {w : World} {M : Nat → Prop} : ∀ {cs : List D} {us : List Value} {ds : List D} {vs : List Value} (off : Nat), RepL w M ds vs → RepL w M cs us → RepL w M (Eng.setAt ds off cs) (Eng.setAt vs off us)
  | [], us, _, _, _, h, k => by simp only [RepL] at k; subst k; exact h
  | c :: cs, us, ds, vs, off, h, k => by
    simp only [RepL] at k
    obtain ⟨u, rest, rfl, k1, k2⟩ := k
    simp only [Eng.setAt]
    exact RepL.setAt (off + 1) (h.set off k1) k2
theorem tStore_sound (hT : TabOk P T) {o : Oper} {t : TypeId} {ad v : Operand} (ho : o.op = .store t ad v) (hd : o.dst = none) (h0 : Sim W0 M0 F σ a w β) (ht : tStore T t ad v σ K) (hK : ∀ σ' a' w', K σ' → SimS W0 M0 F σ' a' w' → Kc a' w') : o.wp P a w Kc Q := by
  unfold tStore at ht
  split at ht
  · rename_i ob off cells hev hc
    cases hH : σ.H[ob]? with
    | none => rw [hH] at ht; exact ht.elim
    | some obj =>
      rw [hH] at ht
      cases obj with
      | var e cs =>
        obtain ⟨⟨hn1, hn2, hk, hsz, hfit⟩, hK'⟩ := ht
        have e1 := h0.evs hn1
        rw [hev] at e1
        obtain ⟨g, hβ, he1⟩ := vp_live e1 fun y hy => h0.objs ob _ y hH hy
        have hcl := cells?_rep (h0.evs hn2) hc
        obtain ⟨g', cur, hgg, hg, hcc⟩ := h0.objs ob _ _ hH hβ
        cases hgg
        have hvs : (a.eval v).cells.size = (T t).size := by rw [← hsz, hcl.1]; simp
        have hcur : cur.size = cs.length := by rw [hcc.1]; simp
        have hfit' : off + (a.eval v).cells.size ≤ cur.size := by rw [hcur, hvs, ← hsz]; exact hfit
        have hrun := storeAt_run hT hk hg hvs hfit' hcl.oneCell
        refine upon_skip hd (w' := w.setRow g ⟨Eng.setAt cur.toList off (a.eval v).cells.toList⟩) (by simp [execOp, ho, he1, hrun]) ?_
        have hgr := setRow_grown w g ⟨Eng.setAt cur.toList off (a.eval v).cells.toList⟩
        refine hK _ _ _ hK' ⟨β, h0.write hβ hgr ⟨g, _, rfl, setRow_heap w g cur _ e _ hg, ?_⟩⟩
        have hkeep : Keeps w (Mof M0 β) (w.setRow g ⟨Eng.setAt cur.toList off (a.eval v).cells.toList⟩) (Mof M0 β) :=
          ⟨hgr.size, fun g' hlt hm => hgr.block g' hlt fun e => hm (.inr ⟨ob, _, hβ, e.symm⟩), fun g' _ hm => hm⟩
        exact (RepCL.setAt off hcc hcl).grow ⟨hkeep, fun _ _ x => x⟩
      | _ => exact ht.elim
  · rename_i ob i sz sub cells hev hc
    obtain ⟨β1, h⟩ := Sim.freezeAll (cells.flatMap D.owns) σ β h0
    generalize AState.freezeAll (cells.flatMap D.owns) σ = σ1 at *
    simp only at ht
    cases hH : σ1.H[ob]? with
    | none => rw [hH] at ht; exact ht.elim
    | some obj =>
      rw [hH] at ht
      cases hc1 : (σ1.evs v).cells? with
      | none => rw [hc1] at ht; cases obj <;> exact ht.elim
      | some cells1 =>
        rw [hc1] at ht
        cases obj with
        | row e sz' rows =>
          obtain ⟨⟨hn1, hev1, hn2, hk, hsz, rfl, hi, hfit, hpure⟩, hK'⟩ := ht
          have e1 := h.evs hn1
          rw [hev1] at e1
          obtain ⟨g, n, c, hβ, he1⟩ := rp_live e1 fun y hy => h.objs ob _ y hH hy
          have hcl := cells?_rep (h.evs hn2) hc1
          obtain ⟨A, c', hgg, hlen, hcm, hr⟩ := h.objs ob _ _ hH hβ
          cases hgg
          rcases hr with hA | ⟨hc0, g', cur, hA, hg, hcs, hrr⟩
          · exfalso; omega
          · cases hA
            have hvs : (a.eval v).cells.size = (T t).size := by rw [← hsz, hcl.1]; simp
            have hvl : (a.eval v).cells.toList.length = cells1.length := hcl.1.symm
            have hisz : (i + 1) * sz ≤ c * sz := Nat.mul_le_mul_right sz (by omega)
            rw [Nat.succ_mul] at hisz
            have hfit' : i * sz + sub + (a.eval v).cells.size ≤ cur.size := by rw [hcs, hvs, ← hsz]; omega
            have hrun := storeAt_run hT hk hg hvs hfit' hcl.oneCell
            refine upon_skip hd (w' := w.setRow g ⟨Eng.setAt cur.toList (i * sz + sub) (a.eval v).cells.toList⟩) (by simp [execOp, ho, he1, hrun]) ?_
            have hgr := setRow_grown w g ⟨Eng.setAt cur.toList (i * sz + sub) (a.eval v).cells.toList⟩
            have hkeep : Keeps w (Mof M0 β1) (w.setRow g ⟨Eng.setAt cur.toList (i * sz + sub) (a.eval v).cells.toList⟩) (Mof M0 β1) :=
              ⟨hgr.size, fun g' hlt hm => hgr.block g' hlt fun e => hm (.inr ⟨ob, _, hβ, by rw [hblk_row hc0]; exact e.symm⟩), fun g' _ hm => hm⟩
            refine hK _ _ _ hK' ⟨β1, h.write hβ (by rw [hblk_row hc0]; exact hgr) ⟨some ⟨g, 0, none⟩, c, by simp, by simpa using hlen, hcm, .inr ⟨hc0, g, _, rfl, setRow_heap w g cur _ e _ hg, ?_, ?_⟩⟩⟩
            · show (Eng.setAt cur.toList (i * sz + sub) (a.eval v).cells.toList).length = _
              rw [setAt_length]; simpa using hcs
            · refine RepRows.of_get _ 0 fun k r hk' => ?_
              have hklt : k < rows.length := by have := (List.getElem?_eq_some_iff.1 hk').1; simpa using this
              obtain ⟨vs, v1, v2, v3⟩ := RepRows.get rows 0 hrr k _ (getD_some hklt [])
              have hvs1 : ∀ j u, vs[j]? = some u → cur.toList[k * sz + j]? = some u := fun j u hu => by
                have := v2 j u hu
                rw [add_lit, Nat.zero_add, Nat.zero_add, cell_of_row w g _ cur e _ hg] at this
                simpa using this
              have hkc : (k + 1) * sz ≤ c * sz := Nat.mul_le_mul_right sz (by omega)
              rw [Nat.succ_mul] at hkc
              rw [List.getElem?_set] at hk'
              have hcell := reads_cells (setRow_heap w g cur (⟨Eng.setAt cur.toList (i * sz + sub) (a.eval v).cells.toList⟩) e _ hg)
              by_cases hki : i = k
              · subst hki
                rw [if_pos rfl, if_pos hklt] at hk'
                cases hk'
                refine ⟨Eng.setAt vs sub (a.eval v).cells.toList, by rw [setAt_length, v1], ?_, ?_⟩
                · intro j u hu
                  have hjl : j < sz := by have := (List.getElem?_eq_some_iff.1 hu).1; rw [setAt_length, v1] at this; exact this
                  rw [Nat.zero_add]
                  have := hcell (i * sz + j) u
                  rw [Nat.zero_add] at this
                  refine this ?_
                  show (Eng.setAt cur.toList (i * sz + sub) (a.eval v).cells.toList)[i * sz + j]? = some u
                  rw [setAt_get (by rw [hvl]; simp only [Array.length_toList]; omega)]
                  rw [setAt_get (by rw [hvl, v1]; exact hfit)] at hu
                  by_cases hin : sub ≤ j ∧ j < sub + (a.eval v).cells.toList.length
                  · rw [if_pos hin] at hu
                    rw [if_pos ⟨by omega, by omega⟩, ← hu]
                    congr 1
                    omega
                  · rw [if_neg hin] at hu
                    rw [if_neg (by intro hh; exact hin ⟨by omega, by omega⟩)]
                    exact hvs1 j u hu
                · have h3 := RepL.keep hkeep _ _ v3
                  have h4 := RepL.keep hkeep _ _ (RepCL.toL hcl hpure)
                  exact RepL.setAt sub h3 h4
              · rw [if_neg hki] at hk'
                have hrr' : r = rows.getD k [] := by
                  have := getD_some hklt []
                  rw [hk'] at this
                  cases this; rfl
                subst hrr'
                refine ⟨vs, v1, ?_, RepL.keep hkeep _ _ v3⟩
                intro j u hu
                have hjl : j < sz := by have := (List.getElem?_eq_some_iff.1 hu).1; rw [v1] at this; exact this
                rw [Nat.zero_add]
                have := hcell (k * sz + j) u
                rw [Nat.zero_add] at this
                refine this ?_
                show (Eng.setAt cur.toList (i * sz + sub) (a.eval v).cells.toList)[k * sz + j]? = some u
                rw [setAt_get (by rw [hvl]; simp only [Array.length_toList]; omega)]
                rw [if_neg ?_]
                · exact hvs1 j u hu
                · rintro ⟨q1, q2⟩
                  rw [hvl] at q2
                  rcases Nat.lt_or_gt_of_ne hki with hlt | hgt
                  · have : (i + 1) * sz ≤ k * sz := Nat.mul_le_mul_right sz hlt
                    rw [Nat.succ_mul] at this
                    omega
                  · have : (k + 1) * sz ≤ i * sz := Nat.mul_le_mul_right sz hgt
                    rw [Nat.succ_mul] at this
                    omega
        | _ => exact ht.elim
  · exact ht.elim
end
end Go.Eng
