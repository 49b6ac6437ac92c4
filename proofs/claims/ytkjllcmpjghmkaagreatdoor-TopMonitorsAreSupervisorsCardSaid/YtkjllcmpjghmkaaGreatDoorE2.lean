/-
 The abstract machine over data, part 2: see the headings.
-/
import Derived.Test.YtkjllcmpjghmkaaGreatDoorE1
import Derived.Maps.AppendAt
import Derived.Still
import Derived.StillTail
import Derived.Deep.LoopGhost
import Derived.Lib.AppendZerosOnto
import Derived.Lib.AppendStr
set_option linter.unusedSimpArgs false
set_option linter.unusedVariables false
namespace Go.Eng
open Go.RowKit
def D.owns : D → List Nat | .own t => [t] | _ => []
def AV.owns : AV → List Nat
 | .one d => d.owns
 | .agg ds => ds.flatMap D.owns
 | _ => []
def AState.freezeAll : List Nat → AState → AState
 | [], σ => σ
 | t :: ts, σ => AState.freezeAll ts (if σ.pin ≤ t ∧ t < σ.H.length then σ.freeze t else σ)
def AState.evs (σ : AState) (x : Operand) : AV := (σ.ev x).strip
def needs (σ : AState) : List Operand → Prop
 | [] => True
 | x :: xs => (σ.ev x).need ∧ needs σ xs
def AState.pushObj (σ : AState) (d : Nat) (o : AObj) (v : AV) : AState := { n := σ.n, slots := (d, v) :: σ.slots, H := σ.H ++ [o], pin := σ.pin }
def zet (T : Tab) (e : TypeId) (d : Nat) (σ : AState) (K : AState → Prop) : Prop :=
 ((T e).desc ≠ .other ∧ d < σ.n) ∧ K (σ.pushObj d (.var e (T e).zero) (.one (.vp σ.H.length 0)))
def tBox (e : TypeId) (x : Operand) (d : Nat) (σ : AState) (K : AState → Prop) : Prop :=
 match (σ.evs x).cells? with
 | some cs => ((σ.ev x).need ∧ d < σ.n) ∧ K (σ.pushObj d (.var e cs) (.one (.vp σ.H.length 0)))
 | none => False
def tNil (T : Tab) (t : TypeId) (d : Nat) (σ : AState) (K : AState → Prop) : Prop :=
 match (T t).desc with
 | .slice e => d < σ.n ∧ K (σ.pushObj d (.row e (T e).size []) (.one (.own σ.H.length)))
 | _ => False
def z16 (T : Tab) (t : TypeId) (len : Nat) (parts : List (Nat × Operand)) (d : Nat) (σ : AState) (K : AState → Prop) : Prop :=
 let σ1 := AState.freezeAll (parts.flatMap fun p => (σ.evs p.2).owns) σ
 match z1f T t len (parts.map fun p => (p.1, σ1.evs p.2)) with
 | some (e, sz, rows) => (needs σ1 (parts.map (·.2)) ∧ (rows.all fun r => r.all D.pure) = true ∧ d < σ1.n) ∧ K (σ1.pushObj d (.row e sz rows) (.one (.own σ1.H.length)))
 | none => False
def tMake (T : Tab) (t : TypeId) (l c : Operand) (d : Nat) (σ : AState) (K : AState → Prop) : Prop :=
 match (T t).desc, σ.evs l, σ.evs c with
 | .slice e, .one (.int .i64 n), .one (.int .i64 m) =>
  ((σ.ev l).need ∧ (σ.ev c).need ∧ (T e).desc ≠ .other ∧ 0 < (T e).size ∧ 0 ≤ n ∧ n ≤ m ∧ m ≤ 9223372036854775807 ∧ (T e).bytes * m ≤ 281474976710656 ∧ d < σ.n) ∧ K (σ.pushObj d (.row e (T e).size (List.replicate n.toNat (T e).zero)) (.one (.own σ.H.length)))
 | _, _, _ => False
def zc4 (T : Tab) (t : TypeId) (ad v : Operand) (σ : AState) (K : AState → Prop) : Prop :=
 match σ.evs ad, (σ.evs v).cells? with
 | .one (.vp o off), some cells =>
  match σ.H[o]? with
  | some (.var e cs) => ((σ.ev ad).need ∧ (σ.ev v).need ∧ (T t).desc ≠ .other ∧ cells.length = (T t).size ∧ off + cells.length ≤ cs.length) ∧ K (σ.setObj o (.var e (setAt cs off cells)))
  | _ => False
 | .one (.rp o i sz sub), some cells =>
  let σ1 := AState.freezeAll (cells.flatMap D.owns) σ
  match σ1.H[o]?, (σ1.evs v).cells? with
  | some (.row e sz' rows), some cells1 => ((σ1.ev ad).need ∧ σ1.evs ad = .one (.rp o i sz sub) ∧ (σ1.ev v).need ∧ (T t).desc ≠ .other ∧ cells1.length = (T t).size ∧ sz = sz' ∧ i < rows.length ∧ sub + cells1.length ≤ sz ∧ cells1.all D.pure = true) ∧ K (σ1.setObj o (.row e sz' (rows.set i (setAt (rows.getD i []) sub cells1))))
  | _, _ => False
 | _, _ => False
def z0U (T : Tab) (e o : Nat) (nd : Prop) (news : List (List D)) (d : Nat) (σ : AState) (K : AState → Prop) : Prop :=
 match σ.H[o]? with
 | some (.row e' sz rows) => (nd ∧ σ.pin ≤ o ∧ (T e).desc ≠ .other ∧ 0 < (T e).size ∧ e' = e ∧ sz = (T e).size ∧ (∀ r ∈ news, r.length = sz) ∧ (rows.length + news.length) * (T e).bytes ≤ 140737488355328 ∧ rows.length + news.length ≤ 9223372036854775807 ∧ d < σ.n) ∧
   K (((σ.fz o .gone).setObj o (.row e sz (rows ++ news))).put d (.one (.own o)))
 | _ => False
def z3P (T : Tab) (e : Nat) (nd : Prop) (rows news : List (List D)) (d : Nat) (σ : AState) (K : AState → Prop) : Prop :=
 (nd ∧ (T e).desc ≠ .other ∧ 0 < (T e).size ∧ 0 < news.length ∧ (∀ r ∈ rows, r.length = (T e).size) ∧ (∀ r ∈ news, r.length = (T e).size) ∧ (rows.length + news.length) * (T e).bytes ≤ 140737488355328 ∧ rows.length + news.length ≤ 9223372036854775807 ∧ d < σ.n) ∧
  K (σ.pushObj d (.row e (T e).size (rows ++ news)) (.one (.own σ.H.length)))
def z3Q (s : List UInt8) : List (List D) := s.map fun b => [.int .u8 b.toNat]
def z5K (T : Tab) (s x : Operand) (t tn : TypeId) (d : Nat) (σ : AState) (K : AState → Prop) : Prop :=
 match (T t).desc, (T tn).desc, σ.evs s, σ.evs x with
 | .slice e, .int _, .one (.own o), .one (.int _ z) => (σ.ev x).need ∧ 0 ≤ z ∧ z0U T e o (σ.ev s).need  (List.replicate z.toNat (T e).zero) d σ K
 | .slice e, .string, .one (.own o), .one (.str b) => ((T e).desc = .int .u8 ∧ (T e).size = 1 ∧ (σ.ev x).need) ∧ z0U T e o (σ.ev s).need (z3Q b) d σ K
 | _, _, _, _ => False
def z8s (T : Tab) (s x : Operand) (t : TypeId) (d : Nat) (σ : AState) (K : AState → Prop) : Prop :=
 match (T t).desc, σ.evs s, z0J σ.H (σ.evs x) with
 | .slice e, .one (.own o), some news => z0U T e o ((σ.ev s).need ∧ (σ.ev x).need) news d σ K
 | .slice e, .one .nil, some news => ((σ.ev s).need ∧ (σ.ev x).need) ∧ z0U T e σ.H.length True news d ({ n := σ.n, slots := σ.slots, H := σ.H ++ [.row e (T e).size []], pin := σ.pin }) K
 | .slice e, .one (.full rows), some news => z3P T e ((σ.ev s).need ∧ (σ.ev x).need) rows news d σ K
 | _, _, _ => False
section
variable {P : Program} {T : Tab} {W0 w : World} {M0 : Nat → Prop} {F : List Value} {σ : AState} {a : Act} {β : List Value} {Kc : Act → World → Prop} {Q : Exit → Act → World → Prop} {K : AState → Prop}
def SimS (W0 : World) (M0 : Nat → Prop) (F : List Value) (σ : AState) (a : Act) (w : World) : Prop := ∃ β, Sim W0 M0 F σ a w β
theorem Sim.evs (h : Sim W0 M0 F σ a w β) {x : Operand} (hn : (σ.ev x).need) : RepV w (Mof M0 β) β (σ.evs x) (a.eval x) := (h.ev x).strip hn
theorem Sim.freezeAll : ∀ (ts : List Nat) (σ : AState) (β : List Value), Sim W0 M0 F σ a w β → ∃ β', Sim W0 M0 F (AState.freezeAll ts σ) a w β'
 | [], σ, β, h => ⟨β, h⟩
 | t :: ts, σ, β, h => by
  simp only [AState.freezeAll]
  split
  ·rename_i ht
   exact Sim.freezeAll ts _ _ (h.freeze t ht.1 ht.2)
  ·exact Sim.freezeAll ts _ _ h
theorem Sim.pushObj (h : Sim W0 M0 F σ a w β) {w' : World} {o : AObj} {hd : Value} {v : AV} {x : Value} {d : Nat} (hd' : d < σ.n) (hb : Below w.heap.size w w') (hf : ∀ g, hblk hd = some g → w.heap.size ≤ g ∧ g < w'.heap.size)
  (ho : ObjRep w' (Mof M0 (β ++ [hd])) (β ++ [hd]) o hd) (hv : RepV w' (Mof M0 (β ++ [hd])) (β ++ [hd]) v x) : Sim W0 M0 F (σ.pushObj d o v) (a.put (some d) x) w' (β ++ [hd]) := by
 have one : ∀ (t : Nat) (y : Value), ([hd] : List Value)[t]? = some y → t = 0 ∧ y = hd := fun t y hy => by
  cases t with
  | zero => simp at hy; exact ⟨rfl, hy.symm⟩
  | succ t => simp at hy
 have h1 := h.push (Hn := [o]) (βn := [hd]) hb rfl (fun g ⟨t, y, hy, hg⟩ => by obtain ⟨_, rfl⟩ := one t y hy; exact hf g hg)
  (fun t t' y y' g hy hy' _ _ => by rw [(one t y hy).1, (one t' y' hy').1])
  (fun t o' y ho' hy => by
   obtain ⟨rfl, rfl⟩ := one t y hy
   simp at ho'
   subst ho'
   exact ho)
 exact Sim.put (σ := { σ with H := σ.H ++ [o] }) h1 hd' hv
theorem z1N (h : Sim W0 M0 F σ a w β) (hd : Value) : (β ++ [hd])[σ.H.length]? = some hd := by rw [← h.len]; simp
theorem zhP {hd : Value} {g : Nat} (hm : Mof M0 (β ++ [hd]) g) : Mof M0 β g ∨ hblk hd = some g := by
 rcases hm with hm | ⟨t, y, hy, hg⟩
 ·exact .inl (.inl hm)
 ·rw [List.getElem?_append] at hy
  split at hy
  ·exact .inl (.inr ⟨t, y, hy, hg⟩)
  ·cases hi : t - β.length with
   | zero => rw [hi] at hy; simp at hy; subst hy; exact .inr hg
   | succ k => rw [hi] at hy; simp at hy
theorem z1V (h : Sim W0 M0 F σ a w β) {w' : World} (hb : Below w.heap.size w w') {hd : Value} (hf : ∀ g, hblk hd = some g → w.heap.size ≤ g) : Keeps w (Mof M0 β) w' (Mof M0 (β ++ [hd])) :=
 ⟨hb.size, fun g hlt _ => hb.block g hlt, fun g hlt hm hm' => by
  rcases zhP hm' with hm' | hm'
  ·exact hm hm'
  ·have := hf g hm'; omega⟩
theorem upon_value {P : Program} {o : Oper} {a : Act} {w w' : World} {next : Act → World → Prop} {Q : Exit → Act → World → Prop} {u : Value} (hr : (execOp a.eval o).run P w = .ok (.value u) w') (h : next (a.put o.dst u) w') : o.wp P a w next Q := by
 unfold Oper.wp; rw [hr]; exact h
theorem z64 {P : Program} {o : Oper} {a : Act} {w w' : World} {next : Act → World → Prop} {Q : Exit → Act → World → Prop} (hd : o.dst = none) (hr : (execOp a.eval o).run P w = .ok .skip w') (h : next a w') : o.wp P a w next Q := by
 unfold Oper.wp; rw [hr]; simp only [Oper.upon, hd, Act.put]; exact h
theorem z5h (hT : TabOk P T) {o : Oper} {e : TypeId} {d : Nat} (ho : o.op = .alloc e) (hd : o.dst = some d) (h : Sim W0 M0 F σ a w β) (ht : zet T e d σ K) (hK : ∀ σ' a' w', K σ' → SimS W0 M0 F σ' a' w' → Kc a' w') : o.wp P a w Kc Q := by
 obtain ⟨⟨hk, hdn⟩, hK'⟩ := ht
 obtain ⟨z, hz1, hz2, hz3, hz4, hz5⟩ := z5Z (w := w) (M := Mof M0 β) hT hk
 have hb : Below w.heap.size w (w.alloc (.cells z.cells e)) := (Below.refl _ _).alloc (Nat.le_refl _) _
 refine upon_value (u := .pointer (some ⟨w.heap.size, 0, none⟩)) (w' := w.alloc (.cells z.cells e)) ?_ ?_
 ·simp [execOp, ho, Instr.alloc, hz1, newVar, newRow]
 ·rw [hd]
  refine hK _ _ _ hK' ⟨_, h.pushObj hdn hb (hd := .pointer (some ⟨w.heap.size, 0, none⟩)) (fun g hg => by cases hg; simp) ?_ ?_⟩
  ·exact ⟨w.heap.size, z.cells, rfl, heap_alloc_new w _, (z0C _ _ (by
    obtain ⟨i, z', h1, _, _, _, h5, _⟩ := z5O (w := w) hT hk
    have : z' = z := by
     have h6 : (zeroValue e).run P w = .ok z' w := by simp [zeroValue, h1, *]
     rw [hz1] at h6
     cases h6
     rfl
    rw [← this]; exact h5)).toC⟩
  ·exact .inl ⟨w.heap.size, z1N h _, rfl⟩
theorem z7N {o : Oper} {e : TypeId} {x : Operand} {d : Nat} (ho : o.op = .box e x) (hd : o.dst = some d) (h : Sim W0 M0 F σ a w β) (ht : tBox e x d σ K) (hK : ∀ σ' a' w', K σ' → SimS W0 M0 F σ' a' w' → Kc a' w') : o.wp P a w Kc Q := by
 unfold tBox at ht
 cases hc : (σ.evs x).cells? with
 | none => rw [hc] at ht; exact ht.elim
 | some cs =>
  rw [hc] at ht
  obtain ⟨⟨hn, hdn⟩, hK'⟩ := ht
  have hcl := cells?_rep (h.evs hn) hc
  have hb : Below w.heap.size w (w.alloc (.cells (a.eval x).cells e)) := (Below.refl _ _).alloc (Nat.le_refl _) _
  refine upon_value (u := .pointer (some ⟨w.heap.size, 0, none⟩)) (w' := w.alloc (.cells (a.eval x).cells e)) ?_ ?_
  ·simp [execOp, ho, Instr.box, newVar, newRow]
  ·rw [hd]
   have hkeep := z1V h hb (hd := .pointer (some ⟨w.heap.size, 0, none⟩)) (fun g hg => by cases hg; exact Nat.le_refl _)
   refine hK _ _ _ hK' ⟨_, h.pushObj hdn hb (hd := .pointer (some ⟨w.heap.size, 0, none⟩)) (fun g hg => by cases hg; simp) ?_ (.inl ⟨w.heap.size, z1N h _, rfl⟩)⟩
   exact ⟨w.heap.size, (a.eval x).cells, rfl, heap_alloc_new w _, hcl.grow ⟨hkeep, fun t y hy => by rw [List.getElem?_append, if_pos (List.getElem?_eq_some_iff.1 hy).1]; exact hy⟩⟩
theorem zda {o : Oper} {t : TypeId} {d : Nat} (ho : o.op = .assign (.const (.slice none 0 0))) (hd : o.dst = some d) (h : Sim W0 M0 F σ a w β) (ht : tNil T t d σ K) (hK : ∀ σ' a' w', K σ' → SimS W0 M0 F σ' a' w' → Kc a' w') : o.wp P a w Kc Q := by
 unfold tNil at ht
 split at ht
 ·obtain ⟨hdn, hK'⟩ := ht
  refine upon_value (u := .slice none 0 0) (w' := w) (by simp [execOp, ho, Act.eval]) ?_
  rw [hd]
  refine hK _ _ _ hK' ⟨_, h.pushObj hdn (Below.refl _ _) (hd := .slice none 0 0) (fun g hg => by cases hg) ?_ ⟨.inl (z1N h _), rfl⟩⟩
  exact ⟨none, 0, rfl, Nat.le_refl _, Nat.zero_le _, .inl rfl⟩
 ·exact ht.elim
theorem z0W : ∀ (xs : List Operand) (σ : AState), needs σ xs → ∀ x ∈ xs, (σ.ev x).need
 | [], _, _, x, hx => by simp at hx
 | y :: ys, σ, h, x, hx => by
  simp only [List.mem_cons] at hx
  rcases hx with rfl | hx
  ·exact h.1
  ·exact z0W ys σ h.2 x hx
theorem zcY {sz len : Nat} {ds : List D} (hlen : ds.length = len * sz) (hsz : 0 < sz) (h : ((z1b sz len ds).all fun r => r.all D.pure) = true) : ds.all D.pure = true := by
 rw [List.all_eq_true]
 intro d hd
 rw [List.all_eq_true] at h
 obtain ⟨i, hi, rfl⟩ := List.mem_iff_getElem.1 hd
 have hilt : i / sz < len := Nat.div_lt_of_lt_mul (by rw [Nat.mul_comm, ← hlen]; exact hi)
 have hmem : (z1b sz len ds)[i / sz]? = some ((ds.drop (i / sz * sz)).take sz) := by
  have hl := z11 sz len ds
  have hg : (z1b sz len ds)[i / sz]? = some ((z1b sz len ds)[i / sz]'(by omega)) := List.getElem?_eq_getElem (by omega)
  rw [hg]
  exact congrArg some (z3x sz len ds _ _ hg).2
 have hr := h _ (List.mem_of_getElem? hmem)
 rw [List.all_eq_true] at hr
 apply hr
 have hmod := Nat.mod_lt i hsz
 refine List.mem_of_getElem? (i := i % sz) ?_
 rw [List.getElem?_take, if_pos hmod, List.getElem?_drop, Nat.div_add_mod' i sz]
 exact List.getElem?_eq_getElem hi
theorem z4K (hT : TabOk P T) {o : Oper} {t : TypeId} {len : Nat} {parts : Array (Nat × Operand)} {d : Nat} (ho : o.op = .buildSlice t len parts) (hd : o.dst = some d) (h0 : Sim W0 M0 F σ a w β) (ht : z16 T t len parts.toList d σ K) (hK : ∀ σ' a' w', K σ' → SimS W0 M0 F σ' a' w' → Kc a' w') : o.wp P a w Kc Q := by
 unfold z16 at ht
 obtain ⟨β1, h⟩ := Sim.freezeAll (parts.toList.flatMap fun p => (σ.evs p.2).owns) σ β h0
 generalize AState.freezeAll (parts.toList.flatMap fun p => (σ.evs p.2).owns) σ = σ1 at *
 simp only at ht
 cases hs : z1f T t len (parts.toList.map fun p => (p.1, σ1.evs p.2)) with
 | none => rw [hs] at ht; exact ht.elim
 | some r =>
  obtain ⟨e, sz, rows⟩ := r
  rw [hs] at ht
  obtain ⟨⟨hn, hp, hdn⟩, hK'⟩ := ht
  obtain ⟨p1, p2⟩ := z6z (w := w) (M := Mof M0 β1) (β := β1) (ev := σ1.evs) (ρ := a.eval) (parts := parts) (fun x hx => h.evs (z0W _ _ hn x hx))
  obtain ⟨ds, vs, h1, h2, h3, h4, h5, h6⟩ := z1y (w := w) hT t len _ _ p1 p2 hs
  have hb : Below w.heap.size w (w.alloc (.cells ⟨vs⟩ e)) := (Below.refl _ _).alloc (Nat.le_refl _) _
  refine upon_value (u := .slice (some ⟨w.heap.size, 0, none⟩) len len) (w' := w.alloc (.cells ⟨vs⟩ e)) ?_ ?_
  ·rw [← z1o] at h1
   simp [execOp, ho, h1]
  ·rw [hd]
   have hrl : rows.length = len := by rw [h3, z11]
   refine hK _ _ _ hK' ⟨_, h.pushObj hdn hb (hd := .slice (some ⟨w.heap.size, 0, none⟩) len len) (fun g hg => by obtain rfl := z0N hg; simp) ?_ ⟨.inl (z1N h _), rfl⟩⟩
   have hk := z1V h hb (hd := .slice (some ⟨w.heap.size, 0, none⟩) len len) (fun g hg => by obtain rfl := z0N hg; exact Nat.le_refl _)
   have hl := RepL.keep hk ds vs (RepCL.toL h2 (zcY h4 h5 (by rw [← h3]; exact hp)))
   refine ⟨some ⟨w.heap.size, 0, none⟩, len, by rw [hrl], by rw [hrl]; exact Nat.le_refl _, ?_, zcc _ ⟨w.heap.size, ⟨vs⟩, rfl, heap_alloc_new w _, ?_, ?_⟩⟩
   ·simp only [maxLen]
    have : len * 1 ≤ len * sz := Nat.mul_le_mul_left len h5
    omega
   ·show vs.length = _
    rw [← h2.1, h4]
   ·rw [h3]
    exact RepRows.of_cells hl (by rw [← h2.1, h4]) (z0l (heap_alloc_new w _))
theorem z6e (hT : TabOk P T) {o : Oper} {t : TypeId} {l c : Operand} {d : Nat} (ho : o.op = .makeSlice t l c) (hd : o.dst = some d) (h : Sim W0 M0 F σ a w β) (ht : tMake T t l c d σ K) (hK : ∀ σ' a' w', K σ' → SimS W0 M0 F σ' a' w' → Kc a' w') : o.wp P a w Kc Q := by
 unfold tMake at ht
 split at ht
 ·rename_i e n m hdesc hl hc
  obtain ⟨⟨hn1, hn2, hk, hsz, h0, hnm, hmx, hby, hdn⟩, hK'⟩ := ht
  have e1 := h.evs hn1
  have e2 := h.evs hn2
  rw [hl] at e1
  rw [hc] at e2
  have e1' := z03 e1
  have e2' := z03 e2
  obtain ⟨i, z, hz1, hi2, hi3, hz4, hz5, hz6, hz7⟩ := z5O (w := w) hT hk
  have hzr := z0C (w := w) (M := Mof M0 β) _ _ hz5
  have hzs : z.cells.size = (T e).size := by
   have := RepL.length_eq _ _ hzr
   simp at this
   omega
  have hrun : (Instr.makeSlice t (.int .i64 n) (.int .i64 m)).run P w = .ok (.slice (some ⟨w.heap.size, 0, none⟩) n.toNat m.toNat) (w.alloc (.cells ⟨(List.replicate m.toNat z.cells.toList).flatten⟩ e)) := by
   have w1 : IntKind.i64.wrap n = n := z12 ((z3r n).2 ⟨by omega, by omega⟩)
   have w2 : IntKind.i64.wrap m = m := z12 ((z3r m).2 ⟨by omega, by omega⟩)
   have hzz := z2z z.cells m.toNat (by rw [hzs]; omega)
   rw [hzs] at hzz
   have hby' : ¬ ((T e).bytes * m > 281474976710656) := by omega
   simp only [Instr.makeSlice, Sem.run_bind, run_underlying (z06 hT hdesc), Result.andThen_ok, asInt, asIntOf, Sem.run_pure, hz1, hi3, w1, w2]
   have hcond : ¬ ((decide (m < 0) || decide (((T e).bytes : Int) * m > 2 ^ 48)) = true ∨ n < 0 ∨ n > m) := by
    rintro (hh | hh | hh)
    ·rw [Bool.or_eq_true, decide_eq_true_eq, decide_eq_true_eq] at hh
     rcases hh with hh | hh
     ·omega
     ·exact hby' (by simpa using hh)
    ·omega
    ·omega
   rw [if_neg (by simpa [and_assoc] using hcond)]
   simp only [Sem.run_bind, Sem.run_pure, Result.andThen_ok, run_askRoom, z0b (w := w) hT hk]
   by_cases hm0 : m.toNat * (T e).size = 0
   ·have hmz : m.toNat = 0 := by
     rcases Nat.mul_eq_zero.1 hm0 with h | h
     ·exact h
     ·omega
    have h00 : ∀ f : Nat → Value, (Array.range 0).map f = ⟨[]⟩ := fun f => by simp [Array.range]
    rw [if_pos hm0, hm0]
    simp [hmz, h00, newRow]
   ·rw [if_neg hm0]
    have hzv : (zeroValue e).run P w = .ok z w := by simp [zeroValue, hz1, hz4]
    simp only [Sem.run_bind, hzv, Result.andThen_ok, Sem.run_pure, hzs, hzz, newRow, run_newObj_alloc]
  have hb : Below w.heap.size w (w.alloc (.cells ⟨(List.replicate m.toNat z.cells.toList).flatten⟩ e)) := (Below.refl _ _).alloc (Nat.le_refl _) _
  refine upon_value (u := .slice (some ⟨w.heap.size, 0, none⟩) n.toNat m.toNat) (w' := w.alloc (.cells ⟨(List.replicate m.toNat z.cells.toList).flatten⟩ e)) ?_ ?_
  ·simp [execOp, ho, e1', e2', hrun]
  ·rw [hd]
   refine hK _ _ _ hK' ⟨_, h.pushObj hdn hb (hd := .slice (some ⟨w.heap.size, 0, none⟩) n.toNat m.toNat) (fun g hg => by obtain rfl := z0N hg; simp) ?_ ⟨.inl (z1N h _), rfl⟩⟩
   have hk' := z1V h hb (hd := .slice (some ⟨w.heap.size, 0, none⟩) n.toNat m.toNat) (fun g hg => by obtain rfl := z0N hg; exact Nat.le_refl _)
   have hfl : ∀ k : Nat, (List.replicate k z.cells.toList).flatten.length = k * (T e).size := fun k => by simp [hzs]
   refine ⟨some ⟨w.heap.size, 0, none⟩, m.toNat, by simp, by simp; omega, by simp only [maxLen]; omega, zcc _ ⟨w.heap.size, _, rfl, heap_alloc_new w _, hfl _, ?_⟩⟩
   refine RepRows.of_get _ 0 fun i r hi => ?_
   have hin : i < n.toNat := by have := (List.getElem?_eq_some_iff.1 hi).1; simpa using this
   have hr : r = (T e).zero := by
    have := List.mem_of_getElem? hi
    exact List.eq_of_mem_replicate this
   subst hr
   refine ⟨z.cells.toList, by simpa using hzs, ?_, RepL.keep hk' _ _ hzr⟩
   intro j u hu
   have hrd := z0l (heap_alloc_new w (.cells ⟨(List.replicate m.toNat z.cells.toList).flatten⟩ e)) (i * (T e).size + j) u
   rw [Nat.zero_add] at hrd ⊢
   refine hrd ?_
   show (List.replicate m.toNat z.cells.toList).flatten[i * (T e).size + j]? = some u
   have hjl : j < (T e).size := by have := (List.getElem?_eq_some_iff.1 hu).1; simp at this; omega
   have hsplit : List.replicate m.toNat z.cells.toList = List.replicate i z.cells.toList ++ List.replicate (m.toNat - i) z.cells.toList := by
    rw [List.replicate_append_replicate]; congr 1; omega
   rw [hsplit, List.flatten_append, List.getElem?_append_right (by rw [hfl]; omega), hfl]
   have hpos : m.toNat - i = (m.toNat - i - 1) + 1 := by omega
   rw [hpos, List.replicate_succ, List.flatten_cons, List.getElem?_append, if_pos (by simp; omega)]
   rw [← hu]
   congr 1
   omega
 ·exact ht.elim
theorem z8C {α : Type} : ∀ (cs vs : List α) (off : Nat), off + cs.length ≤ vs.length → Eng.setAt vs off cs = vs.take off ++ cs ++ vs.drop (off + cs.length)
 | [], vs, off, h => by simp [Eng.setAt]
 | c :: cs, vs, off, h => by
  simp only [Eng.setAt, List.length_cons] at h ⊢
  rw [z8C cs (vs.set off c) (off + 1) (by simp; omega)]
  rw [List.set_eq_take_append_cons_drop, if_pos (by omega)]
  have h1 : (vs.take off).length = off := by rw [List.length_take]; omega
  rw [List.take_append, h1, List.drop_append, h1]
  simp only [List.take_take, Nat.add_sub_cancel_left, List.take_succ_cons, List.take_zero]
  rw [List.drop_eq_nil_of_le (by rw [h1]; omega)]
  have h2 : off + 1 + cs.length - off = cs.length + 1 := by omega
  rw [h2, List.drop_succ_cons, List.drop_drop, Nat.min_eq_right (by omega)]
  simp only [List.append_assoc, List.cons_append, List.nil_append]
  congr 4
  omega
theorem z6p {α : Type} {vs cs : List α} {off : Nat} (h : off + cs.length ≤ vs.length) (j : Nat) : (Eng.setAt vs off cs)[j]? = if off ≤ j ∧ j < off + cs.length then cs[j - off]? else vs[j]? := by
 rw [z8C cs vs off h]
 have h1 : (vs.take off).length = off := by rw [List.length_take]; omega
 by_cases hj : j < off
 ·rw [if_neg (by omega), List.append_assoc, List.getElem?_append, if_pos (by omega), List.getElem?_take, if_pos hj]
 ·by_cases hj2 : j < off + cs.length
  ·rw [if_pos ⟨by omega, hj2⟩, List.append_assoc, List.getElem?_append_right (by omega), h1, List.getElem?_append, if_pos (by omega)]
  ·rw [if_neg (by omega), List.getElem?_append_right (by simp; omega), List.getElem?_drop]
   congr 1
   simp
   omega
theorem z5k (w : World) (g : Nat) (cs : Array Value) : w.grownBy (w.setRow g cs) (some g) :=
 ⟨rfl, rfl, rfl, by simp [World.setRow], fun k _ hk => setRow_other w g k cs (fun e => hk (by rw [e]))⟩
theorem z6k (hT : TabOk P T) {t : TypeId} (hk : (T t).desc ≠ .other) {g off : Nat} {cur : Array Value} {e : TypeId} (hg : w.heap[g]? = some (.cells cur e (0, 0))) {v : Value} (hsz : v.cells.size = (T t).size) (hfit : off + v.cells.size ≤ cur.size) (h1 : ∀ u ∈ v.cells.toList, u.oneCell' = true) :
  (Instr.storeAt t (.pointer (some ⟨g, off, none⟩)) v).run P w = .ok () (w.setRow g ⟨Eng.setAt cur.toList off v.cells.toList⟩) := by
 have hst := run_storeCells_at P g off e v.cells.toList 0 cur w hg (by simpa using hfit) h1
 have he : cur.toList.take (off + 0) ++ v.cells.toList ++ cur.toList.drop (off + 0 + v.cells.toList.length) = Eng.setAt cur.toList off v.cells.toList := by
  rw [z8C _ _ _ (by simpa using hfit)]; rfl
 rw [he] at hst
 simp [Instr.storeAt, Instr.sureAddr, storeVar, z0b (w := w) hT hk, hsz, hst]
theorem RepCL.oneCell {w : World} {M : Nat → Prop} {ds : List D} {vs : List Value} (h : RepCL w M β ds vs) : ∀ u ∈ vs, u.oneCell' = true := by
 intro u hu
 obtain ⟨i, hi, rfl⟩ := List.mem_iff_getElem.1 hu
 have hid : i < ds.length := by rw [h.1]; exact hi
 exact (h.2 i _ _ (List.getElem?_eq_getElem hid) (List.getElem?_eq_getElem hi)).oneCell
theorem RepL.mk {w : World} {M : Nat → Prop} : ∀ (ds : List D) (vs : List Value), ds.length = vs.length → (∀ (i : Nat) (d : D) (v : Value), ds[i]? = some d → vs[i]? = some v → RepD w M d v) → RepL w M ds vs
 | [], [], _, _ => by simp [RepL]
 | [], v :: vs, h, _ => by simp at h
 | d :: ds, [], h, _ => by simp at h
 | d :: ds, v :: vs, h, k => by
  simp only [RepL]
  exact ⟨v, vs, rfl, k 0 d v rfl rfl, RepL.mk ds vs (by simpa using h) fun i b u hb hu => k (i + 1) b u (by simpa using hb) (by simpa using hu)⟩
theorem RepL.at2 {w : World} {M : Nat → Prop} {ds : List D} {vs : List Value} (h : RepL w M ds vs) {i : Nat} {d : D} {v : Value} (hd : ds[i]? = some d) (hv : vs[i]? = some v) : RepD w M d v := by
 obtain ⟨x, h1, h2⟩ := RepL.get ds vs h i d hd
 rw [hv] at h1
 cases h1
 exact h2
theorem RepL.set {w : World} {M : Nat → Prop} {ds : List D} {vs : List Value} (h : RepL w M ds vs) (i : Nat) {d : D} {v : Value} (hd : RepD w M d v) : RepL w M (ds.set i d) (vs.set i v) := by
 have hl := RepL.length_eq _ _ h
 refine RepL.mk _ _ (by simp [hl]) fun j e u he hu => ?_
 rw [List.getElem?_set] at he hu
 split at he
 ·rename_i hij
  subst hij
  rw [if_pos rfl] at hu
  split at he <;> rename_i hlt
  ·rw [if_pos (by rw [← hl]; exact hlt)] at hu
   cases he; cases hu; exact hd
  ·cases he
 ·rename_i hij
  rw [if_neg hij] at hu
  exact h.at2 he hu
theorem RepL.setAt {w : World} {M : Nat → Prop} : ∀ {cs : List D} {us : List Value} {ds : List D} {vs : List Value} (off : Nat), RepL w M ds vs → RepL w M cs us → RepL w M (Eng.setAt ds off cs) (Eng.setAt vs off us)
 | [], us, _, _, _, h, k => by simp only [RepL] at k; subst k; exact h
 | c :: cs, us, ds, vs, off, h, k => by
  simp only [RepL] at k
  obtain ⟨u, rest, rfl, k1, k2⟩ := k
  simp only [Eng.setAt]
  exact RepL.setAt (off + 1) (h.set off k1) k2
theorem z9v (hT : TabOk P T) {o : Oper} {t : TypeId} {ad v : Operand} (ho : o.op = .store t ad v) (hd : o.dst = none) (h0 : Sim W0 M0 F σ a w β) (ht : zc4 T t ad v σ K) (hK : ∀ σ' a' w', K σ' → SimS W0 M0 F σ' a' w' → Kc a' w') : o.wp P a w Kc Q := by
 unfold zc4 at ht
 split at ht
 ·rename_i ob off cells hev hc
  cases hH : σ.H[ob]? with
  | none => rw [hH] at ht; exact ht.elim
  | some obj =>
   rw [hH] at ht
   cases obj with
   | var e cs =>
    obtain ⟨⟨hn1, hn2, hk, hsz, hfit⟩, hK'⟩ := ht
    have e1 := h0.evs hn1
    rw [hev] at e1
    obtain ⟨g, hβ, he1⟩ := z2A e1 fun y hy => h0.objs ob _ y hH hy
    have hcl := cells?_rep (h0.evs hn2) hc
    obtain ⟨g', cur, hgg, hg, hcc⟩ := h0.objs ob _ _ hH hβ
    cases hgg
    have hvs : (a.eval v).cells.size = (T t).size := by rw [← hsz, hcl.1]; simp
    have hcur : cur.size = cs.length := by rw [hcc.1]; simp
    have hfit' : off + (a.eval v).cells.size ≤ cur.size := by rw [hcur, hvs, ← hsz]; exact hfit
    have hrun := z6k hT hk hg hvs hfit' hcl.oneCell
    refine z64 hd (w' := w.setRow g ⟨Eng.setAt cur.toList off (a.eval v).cells.toList⟩) (by simp [execOp, ho, he1, hrun]) ?_
    have hgr := z5k w g ⟨Eng.setAt cur.toList off (a.eval v).cells.toList⟩
    refine hK _ _ _ hK' ⟨β, h0.write hβ hgr (Nat.le_refl _) ⟨g, _, rfl, setRow_heap w g cur _ e _ hg, ?_⟩⟩
    have hkeep : Keeps w (Mof M0 β) (w.setRow g ⟨Eng.setAt cur.toList off (a.eval v).cells.toList⟩) (Mof M0 β) :=
     ⟨hgr.size, fun g' hlt hm => hgr.block g' hlt fun e => hm (.inr ⟨ob, _, hβ, e.symm⟩), fun g' _ hm => hm⟩
    exact (RepCL.setAt off hcc hcl).grow ⟨hkeep, fun _ _ x => x⟩
   | _ => exact ht.elim
 ·rename_i ob i sz sub cells hev hc
  obtain ⟨β1, h⟩ := Sim.freezeAll (cells.flatMap D.owns) σ β h0
  generalize AState.freezeAll (cells.flatMap D.owns) σ = σ1 at *
  simp only at ht
  cases hH : σ1.H[ob]? with
  | none => rw [hH] at ht; exact ht.elim
  | some obj =>
   rw [hH] at ht
   cases hc1 : (σ1.evs v).cells? with
   | none => rw [hc1] at ht; cases obj <;> exact ht.elim
   | some cells1 =>
    rw [hc1] at ht
    cases obj with
    | row e sz' rows =>
     obtain ⟨⟨hn1, hev1, hn2, hk, hsz, rfl, hi, hfit, hpure⟩, hK'⟩ := ht
     have e1 := h.evs hn1
     rw [hev1] at e1
     obtain ⟨g, n, c, hβ, he1⟩ := z4O e1 fun y hy => h.objs ob _ y hH hy
     have hcl := cells?_rep (h.evs hn2) hc1
     obtain ⟨A, c', hgg, hlen, hcm, hr⟩ := h.objs ob _ _ hH hβ
     cases hgg
     rcases hr with hA | ⟨hc0, g', cur, hA, hg, hcs, hrr⟩
     ·exfalso; omega
     ·cases hA
      have hvs : (a.eval v).cells.size = (T t).size := by rw [← hsz, hcl.1]; simp
      have hvl : (a.eval v).cells.toList.length = cells1.length := hcl.1.symm
      have hisz : (i + 1) * sz ≤ c * sz := Nat.mul_le_mul_right sz (by omega)
      rw [Nat.succ_mul] at hisz
      have hfit' : i * sz + sub + (a.eval v).cells.size ≤ cur.size := by rw [hcs, hvs, ← hsz]; omega
      have hrun := z6k hT hk hg hvs hfit' hcl.oneCell
      refine z64 hd (w' := w.setRow g ⟨Eng.setAt cur.toList (i * sz + sub) (a.eval v).cells.toList⟩) (by simp [execOp, ho, he1, hrun]) ?_
      have hgr := z5k w g ⟨Eng.setAt cur.toList (i * sz + sub) (a.eval v).cells.toList⟩
      have hkeep : Keeps w (Mof M0 β1) (w.setRow g ⟨Eng.setAt cur.toList (i * sz + sub) (a.eval v).cells.toList⟩) (Mof M0 β1) :=
       ⟨hgr.size, fun g' hlt hm => hgr.block g' hlt fun e => hm (.inr ⟨ob, _, hβ, by rw [hblk_row hc0]; exact e.symm⟩), fun g' _ hm => hm⟩
      refine hK _ _ _ hK' ⟨β1, h.write hβ (by rw [hblk_row hc0]; exact hgr) (Nat.le_refl _) ⟨some ⟨g, 0, none⟩, c, by simp, by simpa using hlen, hcm, .inr ⟨hc0, g, _, rfl, setRow_heap w g cur _ e _ hg, ?_, ?_⟩⟩⟩
      ·show (Eng.setAt cur.toList (i * sz + sub) (a.eval v).cells.toList).length = _
       rw [z1A]; simpa using hcs
      ·refine RepRows.of_get _ 0 fun k r hk' => ?_
       have hklt : k < rows.length := by have := (List.getElem?_eq_some_iff.1 hk').1; simpa using this
       obtain ⟨vs, v1, v2, v3⟩ := RepRows.get rows 0 hrr k _ (getD_some hklt [])
       have hvs1 : ∀ j u, vs[j]? = some u → cur.toList[k * sz + j]? = some u := fun j u hu => by
        have := v2 j u hu
        rw [add_lit, Nat.zero_add, Nat.zero_add, cell_of_row w g _ cur e _ hg] at this
        simpa using this
       have hkc : (k + 1) * sz ≤ c * sz := Nat.mul_le_mul_right sz (by omega)
       rw [Nat.succ_mul] at hkc
       rw [List.getElem?_set] at hk'
       have hcell := z0l (setRow_heap w g cur (⟨Eng.setAt cur.toList (i * sz + sub) (a.eval v).cells.toList⟩) e _ hg)
       by_cases hki : i = k
       ·subst hki
        rw [if_pos rfl, if_pos hklt] at hk'
        cases hk'
        refine ⟨Eng.setAt vs sub (a.eval v).cells.toList, by rw [z1A, v1], ?_, ?_⟩
        ·intro j u hu
         have hjl : j < sz := by have := (List.getElem?_eq_some_iff.1 hu).1; rw [z1A, v1] at this; exact this
         rw [Nat.zero_add]
         have := hcell (i * sz + j) u
         rw [Nat.zero_add] at this
         refine this ?_
         show (Eng.setAt cur.toList (i * sz + sub) (a.eval v).cells.toList)[i * sz + j]? = some u
         rw [z6p (by rw [hvl]; simp only [Array.length_toList]; omega)]
         rw [z6p (by rw [hvl, v1]; exact hfit)] at hu
         by_cases hin : sub ≤ j ∧ j < sub + (a.eval v).cells.toList.length
         ·rw [if_pos hin] at hu
          rw [if_pos ⟨by omega, by omega⟩, ← hu]
          congr 1
          omega
         ·rw [if_neg hin] at hu
          rw [if_neg (by intro hh; exact hin ⟨by omega, by omega⟩)]
          exact hvs1 j u hu
        ·have h3 := RepL.keep hkeep _ _ v3
         have h4 := RepL.keep hkeep _ _ (RepCL.toL hcl hpure)
         exact RepL.setAt sub h3 h4
       ·rw [if_neg hki] at hk'
        have hrr' : r = rows.getD k [] := by
         have := getD_some hklt []
         rw [hk'] at this
         cases this; rfl
        subst hrr'
        refine ⟨vs, v1, ?_, RepL.keep hkeep _ _ v3⟩
        intro j u hu
        have hjl : j < sz := by have := (List.getElem?_eq_some_iff.1 hu).1; rw [v1] at this; exact this
        rw [Nat.zero_add]
        have := hcell (k * sz + j) u
        rw [Nat.zero_add] at this
        refine this ?_
        show (Eng.setAt cur.toList (i * sz + sub) (a.eval v).cells.toList)[k * sz + j]? = some u
        rw [z6p (by rw [hvl]; simp only [Array.length_toList]; omega)]
        rw [if_neg ?_]
        ·exact hvs1 j u hu
        ·rintro ⟨q1, q2⟩
         rw [hvl] at q2
         rcases Nat.lt_or_gt_of_ne hki with hlt | hgt
         ·have : (i + 1) * sz ≤ k * sz := Nat.mul_le_mul_right sz hlt
          rw [Nat.succ_mul] at this
          omega
         ·have : (k + 1) * sz ≤ i * sz := Nat.mul_le_mul_right sz hgt
          rw [Nat.succ_mul] at this
          omega
    | _ => exact ht.elim
 ·exact ht.elim
end
end Go.Eng
namespace Go.Eng
open Go.RowKit
section
variable {P : Program} {T : Tab} {W0 w : World} {M M0 : Nat → Prop} {F : List Value} {σ : AState} {a : Act} {β : List Value} {Kc : Act → World → Prop} {Q : Exit → Act → World → Prop} {K : AState → Prop}
theorem RepL.pieces : ∀ (rows : List (List D)) (vss : List (List Value)), rows.length = vss.length → (∀ (i : Nat) (r : List D) (vs : List Value), rows[i]? = some r → vss[i]? = some vs → RepL w M r vs) → RepL w M rows.flatten vss.flatten
 | [], [], _, _ => by simp [RepL]
 | [], v :: vs, h, _ => by simp at h
 | d :: ds, [], h, _ => by simp at h
 | d :: ds, v :: vs, h, k => by
  simp only [List.flatten_cons]
  exact RepL.append _ _ _ _ (k 0 d v rfl rfl) (RepL.pieces ds vs (by simpa using h) fun i b u hb hu => k (i + 1) b u (by simpa using hb) (by simpa using hu))
theorem RepRows.cellList {ad : Addr} {sz : Nat} : ∀ (rows : List (List D)) (o : Nat), RepRows w M ad sz o rows → ∃ vs, vs.length = rows.length * sz ∧ reads w ad o vs ∧ RepL w M rows.flatten vs
 | [], o, _ => ⟨[], by simp, fun j u hu => by simp at hu, by simp [RepL]⟩
 | r :: rs, o, h => by
  simp only [RepRows] at h
  obtain ⟨⟨vs, h1, h2, h3⟩, h4⟩ := h
  obtain ⟨us, k1, k2, k3⟩ := RepRows.cellList rs (o + sz) h4
  refine ⟨vs ++ us, by simp [h1, k1, Nat.succ_mul, Nat.add_comm], ?_, by simp only [List.flatten_cons]; exact RepL.append _ _ _ _ h3 k3⟩
  intro j u hu
  rw [List.getElem?_append] at hu
  split at hu
  ·exact h2 j u hu
  ·have := k2 (j - vs.length) u hu
   rwa [show o + sz + (j - vs.length) = o + j by omega] at this
theorem z13 {α : Type} {sz : Nat} : ∀ (rows : List (List α)), (∀ r ∈ rows, r.length = sz) → z1b sz rows.length rows.flatten = rows
 | [], _ => rfl
 | r :: rs, h => by
  have hr := h r (by simp)
  simp only [List.length_cons, z1b, List.flatten_cons]
  rw [List.take_append, List.drop_append, hr]
  simp only [Nat.sub_self, List.take_zero, List.append_nil, List.drop_zero]
  rw [List.take_of_length_le (by omega), List.drop_of_length_le (by omega), List.nil_append, z13 rs (fun q hq => h q (by simp [hq]))]
theorem z0I (h : Sim W0 M0 F σ a w β) {x : AV} {v : Value} {news : List (List D)} {sz : Nat} (hv : RepV w (Mof M0 β) β x v) (hs : z0J σ.H x = some news) (hsz : ∀ r ∈ news, r.length = sz) :
  ∃ (A : Option Addr) (c : Nat) (vs : List Value), v = .slice A news.length c ∧ vs.length = news.length * sz ∧ RepL w (Mof M0 β) news.flatten vs ∧ ((A = none ∧ news = []) ∨ ∃ ad, A = some ad ∧ ∀ j u, vs[j]? = some u → w.cell? (ad.add j) = some u) := by
 have key : ∀ (ad : Addr) (sz' : Nat), RepRows w (Mof M0 β) ad sz' 0 news → ∃ vs : List Value, vs.length = news.length * sz ∧ RepL w (Mof M0 β) news.flatten vs ∧ ∀ j u, vs[j]? = some u → w.cell? (ad.add j) = some u := by
  intro ad sz' hr
  obtain ⟨vs, h1, h2, h3⟩ := RepRows.cellList news 0 hr
  refine ⟨vs, ?_, h3, fun j u hu => z1C h2 hu⟩
  cases news with
  | nil => simpa using h1
  | cons r rs =>
   have e1 := hr.rowlen (i := 0) (r := r) rfl
   have e2 := hsz r (by simp)
   rw [h1, ← e1, e2]
 unfold z0J at hs
 split at hs
 ·cases hs
  obtain ⟨A, e0⟩ : ∃ A, v = .slice A 0 0 := hv
  subst e0
  cases A with
  | none => exact ⟨none, 0, [], rfl, by simp, by simp [RepL], .inl ⟨rfl, rfl⟩⟩
  | some ad => exact ⟨some ad, 0, [], rfl, by simp, by simp [RepL], .inr ⟨ad, rfl, fun j u hu => by simp at hu⟩⟩
 ·rename_i rows
  cases hs
  obtain ⟨A, c, rfl, h1, h2, h3⟩ := hv
  rcases h3 with rfl | ⟨ad, sz', rfl, _, _, hr⟩
  ·cases A with
   | none => exact ⟨none, c, [], rfl, by simp, by simp [RepL], .inl ⟨rfl, rfl⟩⟩
   | some ad => exact ⟨some ad, c, [], rfl, by simp, by simp [RepL], .inr ⟨ad, rfl, fun j u hu => by simp at hu⟩⟩
  ·obtain ⟨vs, k1, k2, k3⟩ := key ad sz' hr
   exact ⟨some ad, c, vs, rfl, k1, k2, .inr ⟨ad, rfl, k3⟩⟩
 ·rename_i o
  split at hs
  ·rename_i e sz' rows hH
   cases hs
   have hβ := z0u hv fun y hy => h.objs o _ y hH hy
   obtain ⟨A, c, rfl, h1, h2, h3⟩ := h.objs o _ v hH hβ
   rcases h3 with rfl | ⟨_, g, cur, rfl, _, _, hr⟩
   ·have : news = [] := List.eq_nil_of_length_eq_zero (by omega)
    subst this
    cases A with
    | none => exact ⟨none, 0, [], rfl, by simp, by simp [RepL], .inl ⟨rfl, rfl⟩⟩
    | some ad => exact ⟨some ad, 0, [], rfl, by simp, by simp [RepL], .inr ⟨ad, rfl, fun j u hu => by simp at hu⟩⟩
   ·obtain ⟨vs, k1, k2, k3⟩ := key _ sz' hr
    exact ⟨_, c, vs, rfl, k1, k2, .inr ⟨_, rfl, k3⟩⟩
  ·cases hs
 ·cases hs
structure AppRun (P : Program) (w : World) (e k size bytes : Nat) (vs : List Value) (z : Value) (S : Value → Sem Value) : Prop where
 nothing : k = 0 → ∀ A n c, n ≤ c → (S (.slice A n c)).run P w = .ok (.slice A n c) w
 room : 0 < k → ∀ g n c (cur : Array Value), w.heap[g]? = some (.cells cur e (0, 0)) → n + k ≤ c → n * size + vs.length ≤ cur.size →
  (S (.slice (some ⟨g, 0, none⟩) n c)).run P w = .ok (.slice (some ⟨g, 0, none⟩) (n + k) c) (w.setRow g (cur.toList.take (n * size) ++ vs ++ cur.toList.drop (n * size + vs.length)).toArray)
 grow : 0 < k → ∀ A n c (xs : List Value), xs.length = n * size → ((A = none ∧ n = 0 ∧ c = 0) ∨ ∃ b, A = some b ∧ ∀ j u, xs[j]? = some u → w.cell? (b.add j) = some u) → c < n + k → (n + k) * bytes ≤ 140737488355328 → n + k ≤ 9223372036854775807 →
  (S (.slice A n c)).run P w = .ok (.slice (some ⟨w.heap.size, 0, none⟩) (n + k) (grownCap w (n + k) c e)) (w.drew.alloc (.cells (xs.toArray ++ vs.toArray ++ Builtin.zeroCells z.cells (grownCap w (n + k) c e - (n + k))) e))
theorem z49 {e ob sz size k : Nat} {rows news : List (List D)} {vs : List Value} {z hd0 : Value} {S : Value → Sem Value} (h : Sim W0 M0 F σ a w β) (hβ : β[ob]? = some hd0) (hH : σ.H[ob]? = some (.row e sz rows))
  {bytes : Nat} (hS : AppRun P w e k size bytes vs z S) (hzs : z.cells.size = size) (hkl : news.length = k) (hvl : vs.length = k * size) (hvr : RepL w (Mof M0 β) news.flatten vs)
  (hsz' : sz = size) (hrl : ∀ r ∈ news, r.length = sz) (hby : (rows.length + news.length) * bytes ≤ 140737488355328) (hmx : rows.length + news.length ≤ 9223372036854775807) :
  ∃ v' w', (S hd0).run P w = .ok v' w' ∧ w.grownBy w' (hblk hd0) ∧ (∀ g, hblk v' = some g → hblk hd0 = some g ∨ (w.heap.size ≤ g ∧ g < w'.heap.size)) ∧ (∃ A' c', v' = .slice A' (rows.length + news.length) c') ∧
   ObjRep w' (Mof M0 (β.set ob v')) (β.set ob v') (.row e sz (rows ++ news)) v' := by
 subst hsz'
 subst hkl
 obtain ⟨A, c, hev, hlen, hcm, hr⟩ := h.objs ob _ _ hH hβ
 subst hev
 by_cases hn0 : news.length = 0
 ·obtain rfl : news = [] := List.eq_nil_of_length_eq_zero hn0
  have hset : β.set ob (.slice A rows.length c) = β := by
   apply List.ext_getElem?
   intro j
   rw [List.getElem?_set]
   split
   ·rename_i hj
    subst hj
    rw [if_pos (List.getElem?_eq_some_iff.1 hβ).1, hβ]
   ·rfl
  refine ⟨_, w, hS.nothing rfl A _ c hlen, z1H w _, fun g hg => .inl hg, ⟨A, c, rfl⟩, A, c, ?_⟩
  rw [List.append_nil, hset]
  exact ⟨rfl, hlen, hcm, hr⟩
 have hn1 : 0 < news.length := Nat.pos_of_ne_zero hn0
 have keepOf : ∀ (v' : Value) (w' : World), w.grownBy w' (hblk (.slice A rows.length c)) → (∀ g, hblk v' = some g → hblk (.slice A rows.length c) = some g ∨ (w.heap.size ≤ g ∧ g < w'.heap.size)) → Keeps w (Mof M0 β) w' (Mof M0 (β.set ob v')) := by
  intro v' w' r3 hnew
  refine ⟨r3.size, fun g hlt hm => r3.block g hlt fun e => hm (.inr ⟨ob, _, hβ, e.symm⟩), fun g hlt hm hm' => ?_⟩
  rcases hm' with hm' | hm'
  ·exact hm (.inl hm')
  ·rcases z2r hm' with hb | ⟨t', y, _, h1, h2⟩
   ·rcases hnew g hb with hb | hb
    ·exact hm (.inr ⟨ob, _, hβ, hb⟩)
    ·omega
   ·exact hm (.inr ⟨t', y, h1, h2⟩)
 obtain ⟨xs, hxl, hold, hcells, hrows⟩ : ∃ xs : List Value, xs.length = rows.length * sz ∧ RepL w (Mof M0 β) rows.flatten xs ∧ ((A = none ∧ rows.length = 0 ∧ c = 0) ∨ ∃ b, A = some b ∧ ∀ j u, xs[j]? = some u → w.cell? (b.add j) = some u) ∧ ∀ r ∈ rows, r.length = sz := by
  rcases hr with rfl | ⟨hc0, g, cur, rfl, hg, hcs, hrr⟩
  ·obtain rfl : rows = [] := List.eq_nil_of_length_eq_zero (by omega)
   refine ⟨[], by simp, by simp [RepL], ?_, by simp⟩
   cases A with
   | none => exact .inl ⟨rfl, rfl, rfl⟩
   | some b => exact .inr ⟨b, rfl, fun j u hu => by simp at hu⟩
  ·obtain ⟨vs', k1, k2, k3⟩ := RepRows.cellList rows 0 hrr
   refine ⟨vs', k1, k3, .inr ⟨_, rfl, fun j u hu => z1C k2 hu⟩, fun r hrm => ?_⟩
   obtain ⟨q, hq, rfl⟩ := List.mem_iff_getElem.1 hrm
   exact hrr.rowlen (List.getElem?_eq_getElem hq)
 have hrows' : ∀ r ∈ rows ++ news, r.length = sz := fun r hrm => by
  rcases List.mem_append.1 hrm with hrm | hrm
  ·exact hrows r hrm
  ·exact hrl r hrm
 have fin : ∀ (g' cap : Nat) (w1 : World) (cells : Array Value), rows.length + news.length ≤ cap → cap ≤ maxLen → w1.heap[g']? = some (.cells cells e (0, 0)) → cells.size = cap * sz → cells.toList.take ((rows.length + news.length) * sz) = xs ++ vs →
   w.grownBy w1 (hblk (.slice A rows.length c)) → (hblk (.slice A rows.length c) = some g' ∨ (w.heap.size ≤ g' ∧ g' < w1.heap.size)) → (S (.slice A rows.length c)).run P w = .ok (.slice (some ⟨g', 0, none⟩) (rows.length + news.length) cap) w1 →
   ∃ v' w', (S (.slice A rows.length c)).run P w = .ok v' w' ∧ w.grownBy w' (hblk (.slice A rows.length c)) ∧ (∀ g, hblk v' = some g → hblk (.slice A rows.length c) = some g ∨ (w.heap.size ≤ g ∧ g < w'.heap.size)) ∧ (∃ A' c', v' = .slice A' (rows.length + news.length) c') ∧ ObjRep w' (Mof M0 (β.set ob v')) (β.set ob v') (.row e sz (rows ++ news)) v' := by
  intro g' cap w1 cells hroom hcapm hheap hcs htake hgr hg' hrun
  have hnew : ∀ g, hblk (Value.slice (some ⟨g', 0, none⟩) (rows.length + news.length) cap) = some g → hblk (.slice A rows.length c) = some g ∨ (w.heap.size ≤ g ∧ g < w1.heap.size) := fun g hg => by
   have := z0N hg
   simp at this
   subst this
   exact hg'
  have hkeep := keepOf _ w1 hgr hnew
  have hall : RepL w1 (Mof M0 (β.set ob (.slice (some ⟨g', 0, none⟩) (rows.length + news.length) cap))) (rows ++ news).flatten (xs ++ vs) := by
   rw [List.flatten_append]
   exact RepL.append _ _ _ _ (RepL.keep hkeep _ _ hold) (RepL.keep hkeep _ _ hvr)
  refine ⟨_, w1, hrun, hgr, hnew, ⟨_, _, rfl⟩, some ⟨g', 0, none⟩, cap, by rw [List.length_append], by rw [List.length_append]; exact hroom, hcapm, .inr ⟨by omega, g', cells, rfl, hheap, hcs, ?_⟩⟩
  have hch := RepRows.of_cells (w := w1) (ad := ⟨g', 0, none⟩) (sz := sz) (n := (rows ++ news).length) hall (by rw [List.length_append, List.length_append, hxl, hvl, Nat.add_mul]) (by
   intro j u hu
   refine z0l hheap j u ?_
   rw [← htake, List.getElem?_take] at hu
   split at hu
   ·exact hu
   ·cases hu)
  rwa [z13 _ hrows'] at hch
 by_cases hroom : rows.length + news.length ≤ c
 ·rcases hr with hc | ⟨hc0, g, cur, hA, hg, hcs, hrr⟩
  ·omega
  subst hA
  have hfit : rows.length * sz + vs.length ≤ cur.size := by rw [hvl, hcs, ← Nat.add_mul]; exact Nat.mul_le_mul_right _ hroom
  have hxs : cur.toList.take (rows.length * sz) = xs := by
   apply List.ext_getElem?
   intro j
   rw [List.getElem?_take]
   split
   ·rename_i hj
    have hjl : j < xs.length := by omega
    rcases hcells with ⟨h0, _⟩ | ⟨b, hb, hc⟩
    ·cases h0
    ·cases hb
     have := hc j _ (List.getElem?_eq_getElem hjl)
     rw [add_lit, Nat.zero_add, cell_of_row w g _ cur _ _ hg] at this
     rw [List.getElem?_eq_getElem hjl]
     simpa using this
   ·rename_i hj
    rw [List.getElem?_eq_none (by omega)]
  refine fin g c _ _ hroom hcm (setRow_heap w g cur _ e _ hg) ?_ ?_ ⟨rfl, rfl, rfl, by simp, fun k _ hk => setRow_other w g k _ (fun e => hk (by rw [hblk_row hc0, e]))⟩ (.inl (hblk_row hc0)) (hS.room hn1 g _ c cur hg hroom hfit)
  ·simp only [List.size_toArray, List.length_append, List.length_take, List.length_drop, Array.length_toList]
   omega
  ·rw [hxs, show (rows.length + news.length) * sz = (xs ++ vs).length by rw [List.length_append, hxl, hvl, Nat.add_mul]]
   exact List.take_left
 ·have hcap := grownCap_ge w (rows.length + news.length) c e
  have hcapm := grownCap_le_maxLen w (rows.length + news.length) c e (by simp only [maxLen]; omega)
  have hzc : (Builtin.zeroCells z.cells (grownCap w (rows.length + news.length) c e - (rows.length + news.length))).size = (grownCap w (rows.length + news.length) c e - (rows.length + news.length)) * sz := by rw [size_zeroCells, hzs]
  refine fin _ _ _ _ hcap hcapm (heap_alloc_new w.drew _) ?_ ?_ ⟨rfl, rfl, rfl, by simp, fun k hk _ => heap_alloc_old w.drew _ hk⟩ (.inr ⟨Nat.le_refl _, by simp⟩) (hS.grow hn1 A _ c xs hxl hcells (by omega) hby hmx)
  ·simp only [Array.size_append, List.size_toArray, hzc, hvl, hxl, ← Nat.add_mul]
   congr 1
   omega
  ·simp only [Array.toList_append]
   rw [show (rows.length + news.length) * sz = (xs ++ vs).length by rw [List.length_append, hxl, hvl, Nat.add_mul]]
   exact List.take_left
theorem zaN {t ty e k size bytes : Nat} {i : TypeInfo} {z : Value} {vs : List Value} {A2 : Option Addr} {c2 : Nat} (ht : P.underlying t = some (.slice e)) (hi : P.info? e = some i) (hz : i.zero = some z) (hsize : i.size = size) (hbytes : i.bytes = bytes) (hvl : vs.length = k * size)
  (h1 : ∀ u ∈ vs, u.oneCell' = true) (hs : (A2 = none ∧ k = 0) ∨ ∃ ad, A2 = some ad ∧ ∀ j u, vs[j]? = some u → w.cell? (ad.add j) = some u) : AppRun P w e k size bytes vs z fun v => Builtin.append_ #[t, t] ty #[v, .slice A2 k c2] := by
 subst hsize
 subst hbytes
 refine ⟨fun hk A n c hnc => ?_, fun hk g n c cur hg hroom hfit => ?_, fun hk A n c xs hxl hcells hg hby hmx => ?_⟩
 ·subst hk
  have hnc' : n + 0 ≤ c := by omega
  cases A <;> cases A2 <;> simp [Builtin.append_, run_underlying ht, sizeOf, typeInfo, hi, Builtin.lenOf, Builtin.firstCells, hnc, storeCells, loadCells, loadCellsFrom]
 ·rcases hs with ⟨_, h0⟩ | ⟨ad, rfl, hcell⟩
  ·omega
  ·exact run_append_room (P := P) w t ty e i ht hi g n c cur hg ad k c2 vs hvl hcell h1 hroom hfit
 ·rcases hs with ⟨_, h0⟩ | ⟨ad, rfl, hcell⟩
  ·omega
  ·have hfit := growslice_fits (old := c) (need := n + k) (bytes := i.bytes) hg hby
   rcases hcells with ⟨rfl, rfl, rfl⟩ | ⟨b, rfl, hb⟩
   ·obtain rfl : xs = [] := List.eq_nil_of_length_eq_zero (by simpa using hxl)
    simp only [Nat.zero_add] at *
    have := run_append_nil (P := P) w t ty e i z ht hi hz ad k c2 vs hvl hcell hk (by omega) (by omega)
    simpa using this
   ·exact run_append_grow (P := P) w t ty e i z ht hi hz b n c xs hxl hb ad k c2 vs hvl hcell hg (by omega) hfit
theorem zaM {t tn ty e k size bytes : Nat} {kq kn : IntKind} {i : TypeInfo} {z : Value} (ht : P.underlying t = some (.slice e)) (htn : P.underlying tn = some (.int kn)) (hi : P.info? e = some i) (hz : i.zero = some z) (hsize : i.size = size) (hbytes : i.bytes = bytes) (hzs : z.cells.size = size) (hs0 : 0 < size)
  (h1 : ∀ u ∈ z.cells.toList, u.oneCell' = true) (hk63 : (k : Int) ≤ 9223372036854775807) (hk48 : k * bytes ≤ 281474976710656) : AppRun P w e k size bytes (Builtin.zeroCells z.cells k).toList z fun v => Builtin.append_ #[t, tn] ty #[v, .int kq k] := by
 subst hsize
 subst hbytes
 have hw : IntKind.i64.wrap (k : Int) = k := by rw [IntKind.wrap_i64]; omega
 have h48i : ¬ (281474976710656 < (k : Int) * (i.bytes : Int)) := by rw [← Int.natCast_mul]; omega
 have hneg : ¬ ((k : Int) < 0) := by omega
 refine ⟨fun hk A n c hnc => ?_, fun hk g n c cur hg hroom hfit => ?_, fun hk A n c xs hxl hcells hg hby hmx => ?_⟩
 ·subst hk
  have hnc' : n + 0 ≤ c := by omega
  have hw0 : IntKind.i64.wrap (0 : Int) = 0 := by decide
  cases A <;> simp [Builtin.append_, run_underlying ht, run_underlying htn, sizeOf, typeInfo, hi, asInt, asIntOf, hw0, hnc, storeCells]
 ·have hns : ¬ (k * i.size = 0) := Nat.mul_ne_zero (by omega) (by omega)
  have hst := run_storeCells_at P g (n * i.size) e (Builtin.zeroCells z.cells k).toList 0 cur w hg (by simpa using hfit) (by
   intro u hu
   simp only [Builtin.zeroCells, Array.toList_map, List.mem_map, Array.toList_range, List.mem_range] at hu
   obtain ⟨j, hj, rfl⟩ := hu
   rw [getElem!_pos z.cells _ (Nat.mod_lt _ (by omega))]
   exact h1 _ (by simp))
  simp only [Nat.add_zero] at hst
  simp [Builtin.append_, run_underlying ht, run_underlying htn, sizeOf, typeInfo, zeroValue, hi, hz, asInt, asIntOf, hw, hneg, h48i, hns, hroom, Addr.add_lit, hst]
 ·refine Lib.run_append_grow_zeros w t tn ty e i z kq kn ht htn hi hz A n c xs ?_ k hk hs0 hg (by omega) hk48 (growslice_fits hg hby) |>.trans ?_
  ·rcases hcells with ⟨rfl, rfl, rfl⟩ | ⟨b, rfl, hb⟩
   ·obtain rfl : xs = [] := List.eq_nil_of_length_eq_zero (by simpa using hxl)
    simp [Builtin.firstCells]
   ·exact run_firstCells_some (P := P) w.drew i.size n b n c xs hxl (by simpa using hb)
  ·simp
theorem ze7 {t u ty e bytes : Nat} {i : TypeInfo} {z : Value} (ht : P.underlying t = some (.slice e)) (hu : P.underlying u = some .string) (hi : P.info? e = some i) (hz : i.zero = some z) (hsize : i.size = 1) (hbytes : i.bytes = bytes) (s : ByteArray) : AppRun P w e s.size 1 bytes (Lib.strCells s) z fun v => Builtin.append_ #[t, u] ty #[v, .string s] := by
 subst hbytes
 refine ⟨fun hk A n c hnc => ?_, fun hk g n c cur hg hroom hfit => ?_, fun hk A n c xs hxl hcells hg hby hmx => ?_⟩
 ·have hn : Lib.strCells s = [] := List.eq_nil_of_length_eq_zero (by rw [Lib.strCells_length]; exact hk)
  have hf := Lib.run_firstCells_string (P := P) w 1 s
  rw [hk] at hf
  cases A <;> simp [Builtin.append_, run_underlying ht, run_underlying hu, sizeOf, typeInfo, hi, hsize, Builtin.lenOf, hk, hf, hnc, storeCells, hn]
 ·have := Lib.run_append_room_string (P := P) w t u ty e i ht hu hi hsize g n c cur hg s hroom (by rw [Lib.strCells_length] at hfit; omega)
  rw [Nat.mul_one, Lib.strCells_length]
  exact this
 ·rcases hcells with ⟨rfl, rfl, rfl⟩ | ⟨b, rfl, hb⟩
  ·obtain rfl : xs = [] := List.eq_nil_of_length_eq_zero (by simpa using hxl)
   simp only [Nat.zero_add] at *
   have hr := run_append_nil_string (P := P) w t u ty e i z ht hu hi hz s hk (by omega) (by omega)
   have e1 : (s.data.map fun b => Value.int .u8 b.toNat) = (Lib.strCells s).toArray := by
    apply Array.ext'
    simp [Lib.strCells]
   rw [e1] at hr
   simpa using hr
  ·exact Lib.run_append_grow_string (P := P) w t u ty e i z ht hu hi hz b n c xs (by rw [hsize]; exact hxl) hb s hg (by omega) (growslice_fits hg hby)
theorem z3z (hT : TabOk P T) {t ty : TypeId} {e ob sz : Nat} {rows news : List (List D)} {v2 hd0 : Value} (hdesc : (T t).desc = .slice e) (h : Sim W0 M0 F σ a w β) (hβ : β[ob]? = some hd0) (hH : σ.H[ob]? = some (.row e sz rows))
  (hsrc : ∀ sz, (∀ r ∈ news, r.length = sz) → ∃ (A : Option Addr) (c : Nat) (vs : List Value), v2 = .slice A news.length c ∧ vs.length = news.length * sz ∧ RepL w (Mof M0 β) news.flatten vs ∧ ((A = none ∧ news = []) ∨ ∃ ad, A = some ad ∧ ∀ j u, vs[j]? = some u → w.cell? (ad.add j) = some u))
  (hk : (T e).desc ≠ .other) (hsz : 0 < (T e).size) (hsz' : sz = (T e).size) (hrl : ∀ r ∈ news, r.length = sz) (hby : (rows.length + news.length) * (T e).bytes ≤ 140737488355328) (hmx : rows.length + news.length ≤ 9223372036854775807) :
  ∃ v' w', (Builtin.append_ #[t, t] ty #[hd0, v2]).run P w = .ok v' w' ∧ w.grownBy w' (hblk hd0) ∧ (∀ g, hblk v' = some g → hblk hd0 = some g ∨ (w.heap.size ≤ g ∧ g < w'.heap.size)) ∧ (∃ A' c', v' = .slice A' (rows.length + news.length) c') ∧
   ObjRep w' (Mof M0 (β.set ob v')) (β.set ob v') (.row e sz (rows ++ news)) v' := by
 obtain ⟨A2, c2, vs, rfl, hvl, hvr, hs⟩ := hsrc sz hrl
 obtain ⟨i, z, hinfo, hi1, hi2, hi3, hi4⟩ := (hT e).info hk
 have hzr := z0C (w := w) (M := fun _ => False) _ _ hi4.1
 have hzs : z.cells.size = (T e).size := by
  have := RepL.length_eq _ _ hzr
  simp at this
  have := hi4.2.2
  omega
 exact z49 (S := fun v => Builtin.append_ #[t, t] ty #[v, .slice A2 news.length c2]) h hβ hH (zaN (z06 hT hdesc) hinfo hi3 hi1 hi2 (by rw [← hsz']; exact hvl) (RepCL.oneCell (RepL.toC (β := β) hvr)) (hs.imp (fun x => ⟨x.1, by rw [x.2]; rfl⟩) id)) hzs rfl (by rw [← hsz']; exact hvl) hvr hsz' hrl hby hmx
theorem z7p (hT : TabOk P T) {t tn ty : TypeId} {e ob sz k : Nat} {kq kn : IntKind} {rows : List (List D)} {hd0 : Value} (hdesc : (T t).desc = .slice e) (hdn : (T tn).desc = .int kn) (h : Sim W0 M0 F σ a w β) (hβ : β[ob]? = some hd0) (hH : σ.H[ob]? = some (.row e sz rows))
  (hk : (T e).desc ≠ .other) (hsz : 0 < (T e).size) (hsz' : sz = (T e).size) (hby : (rows.length + k) * (T e).bytes ≤ 140737488355328) (hmx : rows.length + k ≤ 9223372036854775807) :
  ∃ v' w', (Builtin.append_ #[t, tn] ty #[hd0, .int kq k]).run P w = .ok v' w' ∧ w.grownBy w' (hblk hd0) ∧ (∀ g, hblk v' = some g → hblk hd0 = some g ∨ (w.heap.size ≤ g ∧ g < w'.heap.size)) ∧ (∃ A' c', v' = .slice A' (rows.length + (List.replicate k (T e).zero).length) c') ∧
   ObjRep w' (Mof M0 (β.set ob v')) (β.set ob v') (.row e sz (rows ++ List.replicate k (T e).zero)) v' := by
 obtain ⟨i, z, hinfo, hi1, hi2, hi3, hi4⟩ := (hT e).info hk
 have hzr := z0C (w := w) (M := Mof M0 β) _ _ hi4.1
 have hzl := RepL.length_eq _ _ hzr
 have hzs : z.cells.size = (T e).size := by
  simp at hzl
  have := hi4.2.2
  omega
 have hkb : k * (T e).bytes ≤ (rows.length + k) * (T e).bytes := Nat.mul_le_mul_right _ (Nat.le_add_left _ _)
 have hzz : (Builtin.zeroCells z.cells k).toList = (List.replicate k z.cells.toList).flatten := by
  have := z2z z.cells k (by omega)
  unfold Builtin.zeroCells
  rw [this]
 refine z49 (S := fun v => Builtin.append_ #[t, tn] ty #[v, .int kq k]) h hβ hH (zaM (z06 hT hdesc) (z0S hT hdn) hinfo hi3 hi1 hi2 hzs hsz (RepCL.oneCell (RepL.toC (β := β) hzr)) (by omega) (by omega)) hzs (by simp) (by rw [Array.length_toList, size_zeroCells, hzs]) ?_ hsz' (fun r hr => ?_) (by simpa using hby) (by simpa using hmx)
 ·rw [hzz]
  exact RepL.pieces _ _ (by simp) fun i r vs hr hv => by
   have e1 := (List.getElem?_replicate ▸ hr : (if i < k then some (T e).zero else none) = some r)
   have e2 := (List.getElem?_replicate ▸ hv : (if i < k then some z.cells.toList else none) = some vs)
   split at e1
   ·rename_i hi
    rw [if_pos hi] at e2
    cases e1
    cases e2
    exact hzr
   ·cases e1
 ·rw [(List.mem_replicate.1 hr).2, hsz', ← hzs, ← Array.length_toList]
  exact hzl
theorem z6j {M : Nat → Prop} : ∀ b : List UInt8, RepL w M (z3Q b).flatten (Lib.strCells ⟨⟨b⟩⟩)
 | [] => rfl
 | x :: b => ⟨.int .u8 x.toNat, _, rfl, rfl, z6j b⟩
theorem zbN (hT : TabOk P T) {t u ty : TypeId} {e ob sz : Nat} {rows : List (List D)} {hd0 : Value} (b : List UInt8) (hdesc : (T t).desc = .slice e) (hdu : (T u).desc = .string) (h : Sim W0 M0 F σ a w β) (hβ : β[ob]? = some hd0) (hH : σ.H[ob]? = some (.row e sz rows))
  (hk : (T e).desc ≠ .other) (hs1 : (T e).size = 1) (hsz' : sz = (T e).size) (hby : (rows.length + (z3Q b).length) * (T e).bytes ≤ 140737488355328) (hmx : rows.length + (z3Q b).length ≤ 9223372036854775807) :
  ∃ v' w', (Builtin.append_ #[t, u] ty #[hd0, .string ⟨⟨b⟩⟩]).run P w = .ok v' w' ∧ w.grownBy w' (hblk hd0) ∧ (∀ g, hblk v' = some g → hblk hd0 = some g ∨ (w.heap.size ≤ g ∧ g < w'.heap.size)) ∧ (∃ A' c', v' = .slice A' (rows.length + (z3Q b).length) c') ∧
   ObjRep w' (Mof M0 (β.set ob v')) (β.set ob v') (.row e sz (rows ++ z3Q b)) v' := by
 obtain ⟨i, z, hinfo, hi1, hi2, hi3, hi4⟩ := (hT e).info hk
 have hzr := z0C (w := w) (M := Mof M0 β) _ _ hi4.1
 have hzl := RepL.length_eq _ _ hzr
 have hzs : z.cells.size = (T e).size := by
  simp at hzl
  have := hi4.2.2
  omega
 have hbs : (⟨⟨b⟩⟩ : ByteArray).size = b.length := rfl
 refine z49 (k := b.length) (size := 1) (S := fun v => Builtin.append_ #[t, u] ty #[v, .string ⟨⟨b⟩⟩]) h hβ hH (ze7 (z06 hT hdesc) (z0n hT hdu) hinfo hi3 (by rw [hi1]; exact hs1) hi2 ⟨⟨b⟩⟩) (by rw [hzs]; exact hs1) (by simp [z3Q]) (by rw [Lib.strCells_length, hbs, Nat.mul_one]) (z6j b) (by rw [hsz']; exact hs1) (fun r hr => ?_) (by simpa using hby) (by simpa using hmx)
 obtain ⟨x, _, rfl⟩ := List.mem_map.1 hr
 rw [hsz', hs1]; rfl
theorem z1e (hT : TabOk P T) {o : Oper} {d : Nat} {e ob : Nat} {nd : Prop} {news : List (List D)} {hd0 : Value} {S : Value → Sem Value} (hd : o.dst = some d) (h : Sim W0 M0 F σ a w β) (hβ : β[ob]? = some hd0)
  (hrun : ∀ (sz : Nat) (rows : List (List D)), σ.H[ob]? = some (.row e sz rows) → (T e).desc ≠ .other → 0 < (T e).size → sz = (T e).size → (∀ r ∈ news, r.length = sz) → (rows.length + news.length) * (T e).bytes ≤ 140737488355328 → rows.length + news.length ≤ 9223372036854775807 →
   ∃ v' w', (S hd0).run P w = .ok v' w' ∧ w.grownBy w' (hblk hd0) ∧ (∀ g, hblk v' = some g → hblk hd0 = some g ∨ (w.heap.size ≤ g ∧ g < w'.heap.size)) ∧ (∃ A' c', v' = .slice A' (rows.length + news.length) c') ∧ ObjRep w' (Mof M0 (β.set ob v')) (β.set ob v') (.row e sz (rows ++ news)) v')
  (hex : ∀ v' w', (S hd0).run P w = .ok v' w' → (execOp a.eval o).run P w = .ok (.value v') w')
  (ht : z0U T e ob nd news d σ K) (hK : ∀ σ' a' w', K σ' → SimS W0 M0 F σ' a' w' → Kc a' w') : o.wp P a w Kc Q := by
 unfold z0U at ht
 cases hH : σ.H[ob]? with
 | none => rw [hH] at ht; exact ht.elim
 | some obj =>
  rw [hH] at ht
  cases obj with
  | row e' sz rows =>
   obtain ⟨⟨_, hpin, hk, hsz, rfl, hsz', hrl, hby, hmx, hdn⟩, hK'⟩ := ht
   obtain ⟨v', w', r1, r3, hnew, hv', hobj⟩ := hrun _ _ hH hk hsz hsz' hrl hby hmx
   refine upon_value (u := v') (w' := w') (hex v' w' r1) ?_
   rw [hd]
   refine hK _ _ _ hK' ⟨β.set ob v', Sim.put (h.turn (o := .gone) (.inl hpin) hβ r3 (drawn_run r1) hnew ⟨(fun _ _ _ hh => by cases hh), (fun _ _ hh => by cases hh), (fun _ _ _ hh => by cases hh)⟩ hobj) hdn ⟨.inl ?_, ?_⟩⟩
   ·rw [List.getElem?_set, if_pos rfl, if_pos (List.getElem?_eq_some_iff.1 hβ).1]
   ·obtain ⟨A', c', rfl⟩ := hv'
    rfl
  | _ => exact ht.elim
theorem z4L (hT : TabOk P T) {o : Oper} {t : TypeId} {d e : Nat} {nd : Prop} {rows news : List (List D)} {v1 v2 : Value} (hdesc : (T t).desc = .slice e) (hd : o.dst = some d) (h : Sim W0 M0 F σ a w β)
  (hv1 : RepV w (Mof M0 β) β (.one (.full rows)) v1)
  (hsrc : ∀ sz, (∀ r ∈ news, r.length = sz) → ∃ (A : Option Addr) (c : Nat) (vs : List Value), v2 = .slice A news.length c ∧ vs.length = news.length * sz ∧ RepL w (Mof M0 β) news.flatten vs ∧ ((A = none ∧ news = []) ∨ ∃ ad, A = some ad ∧ ∀ j u, vs[j]? = some u → w.cell? (ad.add j) = some u))
  (hex : ∀ v' w', (Builtin.append_ #[t, t] o.type #[v1, v2]).run P w = .ok v' w' → (execOp a.eval o).run P w = .ok (.value v') w')
  (ht : z3P T e nd rows news d σ K) (hK : ∀ σ' a' w', K σ' → SimS W0 M0 F σ' a' w' → Kc a' w') : o.wp P a w Kc Q := by
 obtain ⟨⟨_, hk, hsz, hnp, hrows, hrl, hby, hmx, hdn⟩, hK'⟩ := ht
 obtain ⟨A, rfl, hcm, hr⟩ := hv1
 obtain ⟨A2, c2, vs, rfl, hvl, hvr, hsrc'⟩ := hsrc (T e).size hrl
 obtain ⟨i, z, hinfo, hi1, hi2, hi3, hi4⟩ := (hT e).info hk
 have hzr := z0C (w := w) (M := fun _ => False) _ _ hi4.1
 have hzs : z.cells.size = (T e).size := by
  have := RepL.length_eq _ _ hzr
  simp at this
  have := hi4.2.2
  omega
 rcases hsrc' with ⟨_, hn0⟩ | ⟨ad, rfl, hcell⟩
 ·rw [hn0] at hnp; simp at hnp
 obtain ⟨xs, hxl, hold, hrun⟩ : ∃ xs : List Value, xs.length = rows.length * (T e).size ∧ RepL w (Mof M0 β) rows.flatten xs ∧ (Builtin.append_ #[t, t] o.type #[.slice A rows.length rows.length, .slice (some ad) news.length c2]).run P w = .ok (.slice (some ⟨w.heap.size, 0, none⟩) (rows.length + news.length) (grownCap w (rows.length + news.length) rows.length e)) (w.drew.alloc (.cells (xs.toArray ++ vs.toArray ++ Builtin.zeroCells z.cells (grownCap w (rows.length + news.length) rows.length e - (rows.length + news.length))) e)) := by
  have hcapb := nextslicecap_le (need := rows.length + news.length) (old := rows.length) (by omega)
  have hfit : Builtin.nextslicecap (rows.length + news.length) rows.length * i.bytes ≤ 281474976710656 := by
   rw [hi2]
   have := Nat.mul_le_mul_right (T e).bytes hcapb
   rw [Nat.mul_assoc] at this
   omega
  rcases hr with rfl | ⟨ad0, sz, rfl, _, _, hrr⟩
  ·refine ⟨[], by simp, by simp [RepL], ?_⟩
   simp only [List.length_nil, Nat.zero_add] at *
   cases A with
   | none =>
    have := run_append_nil (P := P) w t o.type e i z (z06 hT hdesc) hinfo hi3 ad news.length c2 vs (by rw [hvl, hi1]) hcell (by omega) (by omega) (by rw [nextslicecap_zero (by omega)] at hfit; omega)
    simpa using this
   | some b =>
    have := run_append_grow (P := P) w t o.type e i z (z06 hT hdesc) hinfo hi3 b 0 0 [] (by simp) (fun j v hv => by simp at hv) ad news.length c2 vs (by rw [hvl, hi1]) hcell (by omega) (by omega) (by rw [Nat.zero_add]; exact hfit)
    simpa using this
  ·obtain ⟨xs, k1, k2, k3⟩ := RepRows.cellList rows 0 hrr
   have hxl : xs.length = rows.length * (T e).size := by
    cases hrw : rows with
    | nil => rw [hrw] at k1; simpa using k1
    | cons r rs =>
     have e1 := hrr.rowlen (i := 0) (r := r) (by rw [hrw]; rfl)
     have e2 := hrows r (by rw [hrw]; simp)
     rw [← hrw, k1, ← e1, e2]
   exact ⟨xs, hxl, k3, run_append_grow (P := P) w t o.type e i z (z06 hT hdesc) hinfo hi3 ad0 rows.length rows.length xs (by rw [hxl, hi1]) (fun j u hu => z1C k2 hu) ad news.length c2 vs (by rw [hvl, hi1]) hcell (by omega) (by omega) hfit⟩
 have hcap := grownCap_ge w (rows.length + news.length) rows.length e
 have hcapm := grownCap_le_maxLen w (rows.length + news.length) rows.length e (by simp only [maxLen]; omega)
 have hb : Below w.heap.size w (w.drew.alloc (.cells (xs.toArray ++ vs.toArray ++ Builtin.zeroCells z.cells (grownCap w (rows.length + news.length) rows.length e - (rows.length + news.length))) e)) := (Below.refl _ _).drew.alloc (Nat.le_refl _) _
 refine upon_value (hex _ _ hrun) ?_
 rw [hd]
 refine hK _ _ _ hK' ⟨_, h.pushObj hdn hb (hd := .slice (some ⟨w.heap.size, 0, none⟩) (rows.length + news.length) (grownCap w (rows.length + news.length) rows.length e)) (fun g hg => by obtain rfl := z0N hg; simp) ?_ ⟨.inl (z1N h _), rfl⟩⟩
 have hk' := z1V h hb (hd := .slice (some ⟨w.heap.size, 0, none⟩) (rows.length + news.length) (grownCap w (rows.length + news.length) rows.length e)) (fun g hg => by obtain rfl := z0N hg; exact Nat.le_refl _)
 have hheap := heap_alloc_new w.drew (.cells (xs.toArray ++ vs.toArray ++ Builtin.zeroCells z.cells (grownCap w (rows.length + news.length) rows.length e - (rows.length + news.length))) e)
 have hzc : (Builtin.zeroCells z.cells (grownCap w (rows.length + news.length) rows.length e - (rows.length + news.length))).size = (grownCap w (rows.length + news.length) rows.length e - (rows.length + news.length)) * (T e).size := by rw [size_zeroCells, hzs]
 refine ⟨some ⟨w.heap.size, 0, none⟩, _, by rw [List.length_append], by rw [List.length_append]; exact hcap, hcapm, zcc _ ⟨w.heap.size, _, rfl, hheap, ?_, ?_⟩⟩
 ·simp only [Array.size_append, List.size_toArray, hzc, hvl, hxl, ← Nat.add_mul]
  congr 1
  omega
 ·have hall : RepL (w.drew.alloc (.cells (xs.toArray ++ vs.toArray ++ Builtin.zeroCells z.cells (grownCap w (rows.length + news.length) rows.length e - (rows.length + news.length))) e)) (Mof M0 (β ++ [.slice (some ⟨w.heap.size, 0, none⟩) (rows.length + news.length) (grownCap w (rows.length + news.length) rows.length e)])) (rows ++ news).flatten (xs ++ vs) := by
   rw [List.flatten_append]
   exact RepL.append _ _ _ _ (RepL.keep hk' _ _ hold) (RepL.keep hk' _ _ hvr)
  have hrows' : ∀ r ∈ rows ++ news, r.length = (T e).size := fun r hrm => by
   rcases List.mem_append.1 hrm with hrm | hrm
   ·exact hrows r hrm
   ·exact hrl r hrm
  have hch := RepRows.of_cells (ad := ⟨w.heap.size, 0, none⟩) (sz := (T e).size) (n := (rows ++ news).length) hall (by rw [List.length_append, List.length_append, hxl, hvl, Nat.add_mul]) (by
   intro j u hu
   refine z0l hheap j u ?_
   simp only [Array.toList_append]
   rw [List.getElem?_append_left (by simp; have := (List.getElem?_eq_some_iff.1 hu).1; simpa using this)]
   exact hu)
  rwa [z13 _ hrows'] at hch
theorem z7E (hT : TabOk P T) {o : Oper} {t : TypeId} {e : Nat} {rows news : List (List D)} {v1 v2 : Value} (hdesc : (T t).desc = .slice e) (h : Sim W0 M0 F σ a w β)
  (hv1 : RepV w (Mof M0 β) β (.one (.full rows)) v1)
  (hsrc : ∀ sz, (∀ r ∈ news, r.length = sz) → ∃ (A : Option Addr) (c : Nat) (vs : List Value), v2 = .slice A news.length c ∧ vs.length = news.length * sz ∧ RepL w (Mof M0 β) news.flatten vs ∧ ((A = none ∧ news = []) ∨ ∃ ad, A = some ad ∧ ∀ j u, vs[j]? = some u → w.cell? (ad.add j) = some u))
  (hex : ∀ v' w', (Builtin.append_ #[t, t] o.type #[v1, v2]).run P w = .ok v' w' → (execOp a.eval o).run P w = .ok (.value v') w')
  (hk : (T e).desc ≠ .other) (hsz : 0 < (T e).size) (hrows : ∀ r ∈ rows, r.length = (T e).size) (hrl : ∀ r ∈ news, r.length = (T e).size) (hby : (rows.length + news.length) * (T e).bytes ≤ 140737488355328) (hmx : rows.length + news.length ≤ 9223372036854775807) :
  ∃ u w', (execOp a.eval o).run P w = .ok (.value u) w' ∧ Sim W0 M0 F σ a w' β ∧ RepV w' (Mof M0 β) β (.one (.list (rows ++ news))) u := by
 obtain ⟨A, rfl, hcm, hr⟩ := hv1
 obtain ⟨A2, c2, vs, rfl, hvl, hvr, hsrc'⟩ := hsrc (T e).size hrl
 obtain ⟨i, z, hinfo, hi1, hi2, hi3, hi4⟩ := (hT e).info hk
 have hzr := z0C (w := w) (M := fun _ => False) _ _ hi4.1
 have hzs : z.cells.size = (T e).size := by
  have := RepL.length_eq _ _ hzr
  simp at this
  have := hi4.2.2
  omega
 rcases Nat.eq_zero_or_pos news.length with hn0 | hnp
 ·have hnn := List.length_eq_zero_iff.1 hn0
  subst hnn
  have hz0 : (Builtin.append_ #[t, t] o.type #[.slice A rows.length rows.length, .slice A2 0 c2]).run P w = .ok (.slice A rows.length rows.length) w := by
   have hc0 : rows.length + 0 ≤ rows.length := Nat.le_refl _
   cases A <;> cases A2 <;> simp [Builtin.append_, run_underlying (z06 hT hdesc), sizeOf, typeInfo, hinfo, Builtin.lenOf, Builtin.firstCells, loadCells, loadCellsFrom, storeCells]
  refine ⟨_, w, hex _ _ hz0, h, ?_⟩
  rw [List.append_nil]
  exact ⟨A, rows.length, rfl, Nat.le_refl _, hcm, hr⟩
 rcases hsrc' with ⟨_, hn0⟩ | ⟨ad, rfl, hcell⟩
 ·rw [hn0] at hnp; simp at hnp
 obtain ⟨xs, hxl, hold, hrun⟩ : ∃ xs : List Value, xs.length = rows.length * (T e).size ∧ RepL w (Mof M0 β) rows.flatten xs ∧ (Builtin.append_ #[t, t] o.type #[.slice A rows.length rows.length, .slice (some ad) news.length c2]).run P w = .ok (.slice (some ⟨w.heap.size, 0, none⟩) (rows.length + news.length) (grownCap w (rows.length + news.length) rows.length e)) (w.drew.alloc (.cells (xs.toArray ++ vs.toArray ++ Builtin.zeroCells z.cells (grownCap w (rows.length + news.length) rows.length e - (rows.length + news.length))) e)) := by
  have hcapb := nextslicecap_le (need := rows.length + news.length) (old := rows.length) (by omega)
  have hfit : Builtin.nextslicecap (rows.length + news.length) rows.length * i.bytes ≤ 281474976710656 := by
   rw [hi2]
   have := Nat.mul_le_mul_right (T e).bytes hcapb
   rw [Nat.mul_assoc] at this
   omega
  rcases hr with rfl | ⟨ad0, sz, rfl, _, _, hrr⟩
  ·refine ⟨[], by simp, by simp [RepL], ?_⟩
   simp only [List.length_nil, Nat.zero_add] at *
   cases A with
   | none =>
    have := run_append_nil (P := P) w t o.type e i z (z06 hT hdesc) hinfo hi3 ad news.length c2 vs (by rw [hvl, hi1]) hcell (by omega) (by omega) (by rw [nextslicecap_zero (by omega)] at hfit; omega)
    simpa using this
   | some b =>
    have := run_append_grow (P := P) w t o.type e i z (z06 hT hdesc) hinfo hi3 b 0 0 [] (by simp) (fun j v hv => by simp at hv) ad news.length c2 vs (by rw [hvl, hi1]) hcell (by omega) (by omega) (by rw [Nat.zero_add]; exact hfit)
    simpa using this
  ·obtain ⟨xs, k1, k2, k3⟩ := RepRows.cellList rows 0 hrr
   have hxl : xs.length = rows.length * (T e).size := by
    cases hrw : rows with
    | nil => rw [hrw] at k1; simpa using k1
    | cons r rs =>
     have e1 := hrr.rowlen (i := 0) (r := r) (by rw [hrw]; rfl)
     have e2 := hrows r (by rw [hrw]; simp)
     rw [← hrw, k1, ← e1, e2]
   exact ⟨xs, hxl, k3, run_append_grow (P := P) w t o.type e i z (z06 hT hdesc) hinfo hi3 ad0 rows.length rows.length xs (by rw [hxl, hi1]) (fun j u hu => z1C k2 hu) ad news.length c2 vs (by rw [hvl, hi1]) hcell (by omega) (by omega) hfit⟩
 have hcap := grownCap_ge w (rows.length + news.length) rows.length e
 have hcapm := grownCap_le_maxLen w (rows.length + news.length) rows.length e (by simp only [maxLen]; omega)
 have hb : Below w.heap.size w (w.drew.alloc (.cells (xs.toArray ++ vs.toArray ++ Builtin.zeroCells z.cells (grownCap w (rows.length + news.length) rows.length e - (rows.length + news.length))) e)) := (Below.refl _ _).drew.alloc (Nat.le_refl _) _
 refine ⟨_, _, hex _ _ hrun, h.ext hb, ?_⟩
 have hk' : Keeps w (Mof M0 β) (w.drew.alloc (.cells (xs.toArray ++ vs.toArray ++ Builtin.zeroCells z.cells (grownCap w (rows.length + news.length) rows.length e - (rows.length + news.length))) e)) (Mof M0 β) := (z4j hb (fun g hg => (h.fresh g hg).2) (Mof M0 β)).keeps
 have hheap := heap_alloc_new w.drew (.cells (xs.toArray ++ vs.toArray ++ Builtin.zeroCells z.cells (grownCap w (rows.length + news.length) rows.length e - (rows.length + news.length))) e)
 have hall : RepL (w.drew.alloc (.cells (xs.toArray ++ vs.toArray ++ Builtin.zeroCells z.cells (grownCap w (rows.length + news.length) rows.length e - (rows.length + news.length))) e)) (Mof M0 β) (rows ++ news).flatten (xs ++ vs) := by
  rw [List.flatten_append]
  exact RepL.append _ _ _ _ (RepL.keep hk' _ _ hold) (RepL.keep hk' _ _ hvr)
 have hrows' : ∀ r ∈ rows ++ news, r.length = (T e).size := fun r hrm => by
  rcases List.mem_append.1 hrm with hrm | hrm
  ·exact hrows r hrm
  ·exact hrl r hrm
 have hch := RepRows.of_cells (ad := ⟨w.heap.size, 0, none⟩) (sz := (T e).size) (n := (rows ++ news).length) hall (by rw [List.length_append, List.length_append, hxl, hvl, Nat.add_mul]) (by
  intro j u hu
  refine z0l hheap j u ?_
  simp only [Array.toList_append]
  rw [List.getElem?_append_left (by simp; have := (List.getElem?_eq_some_iff.1 hu).1; simpa using this)]
  exact hu)
 rw [z13 _ hrows'] at hch
 refine ⟨some ⟨w.heap.size, 0, none⟩, _, by rw [List.length_append], by rw [List.length_append]; exact hcap, hcapm, .inr ⟨⟨w.heap.size, 0, none⟩, (T e).size, rfl, by simp, fun hm => ?_, hch⟩⟩
 exact absurd (zgi h _ hm) (by simp)
theorem z7x (hT : TabOk P T) {o : Oper} {s x : Operand} {t tn : TypeId} {d : Nat} (ho : o.op = .call { callee := .builtin .append, args := #[s, x], argTypes := #[t, tn] }) (hd : o.dst = some d) (h : Sim W0 M0 F σ a w β) (ht : z5K T s x t tn d σ K) (hK : ∀ σ' a' w', K σ' → SimS W0 M0 F σ' a' w' → Kc a' w') : o.wp P a w Kc Q := by
 have hex : ∀ v' w', (Builtin.append_ #[t, tn] o.type #[a.eval s, a.eval x]).run P w = .ok v' w' → (execOp a.eval o).run P w = .ok (.value v') w' := fun v' w' r => by
  simp [execOp, ho, resolve, invoke, builtin, r]
 unfold z5K at ht
 split at ht
 ·rename_i e kn ob kq z hdesc hdn hes hex2
  obtain ⟨hnx, hz0, ht⟩ := ht
  have e2 := h.evs hnx
  rw [hex2] at e2
  have e2' := z03 e2
  obtain ⟨k, rfl⟩ : ∃ k : Nat, z = k := ⟨z.toNat, by omega⟩
  have hβ : β[ob]? = some (a.eval s) := by
   unfold z0U at ht
   split at ht
   ·rename_i hH
    have e1 := h.evs ht.1.1
    rw [hes] at e1
    exact z0u e1 fun y hy => h.objs ob _ y hH hy
   ·exact ht.elim
  rw [e2'] at hex
  exact z1e (S := fun v => Builtin.append_ #[t, tn] o.type #[v, .int kq k]) hT hd h hβ (fun sz rows hH hk hsz hsz' hrl hby hmx => z7p hT hdesc hdn h hβ hH hk hsz hsz' (by simpa using hby) (by simpa using hmx)) hex ht hK
 ·rename_i e ob b hdesc hdn hes hex2
  obtain ⟨⟨hu8, hs1, hnx⟩, ht⟩ := ht
  have e2 := h.evs hnx
  rw [hex2] at e2
  have e2' : a.eval x = .string ⟨⟨b⟩⟩ := e2
  have hβ : β[ob]? = some (a.eval s) := by
   unfold z0U at ht
   split at ht
   ·rename_i hH
    have e1 := h.evs ht.1.1
    rw [hes] at e1
    exact z0u e1 fun y hy => h.objs ob _ y hH hy
   ·exact ht.elim
  rw [e2'] at hex
  exact z1e (S := fun v => Builtin.append_ #[t, tn] o.type #[v, .string ⟨⟨b⟩⟩]) hT hd h hβ (fun sz rows hH hk hsz hsz' hrl hby hmx => zbN hT b hdesc hdn h hβ hH hk hs1 hsz' (by simpa using hby) (by simpa using hmx)) hex ht hK
 ·exact ht.elim
theorem z8r (hT : TabOk P T) {o : Oper} {s x : Operand} {t : TypeId} {d : Nat} (ho : o.op = .call { callee := .builtin .append, args := #[s, x], argTypes := #[t, t] }) (hd : o.dst = some d) (h : Sim W0 M0 F σ a w β) (ht : z8s T s x t d σ K) (hK : ∀ σ' a' w', K σ' → SimS W0 M0 F σ' a' w' → Kc a' w') : o.wp P a w Kc Q := by
 have hex : ∀ v' w', (Builtin.append_ #[t, t] o.type #[a.eval s, a.eval x]).run P w = .ok v' w' → (execOp a.eval o).run P w = .ok (.value v') w' := fun v' w' r => by
  simp [execOp, ho, resolve, invoke, builtin, r]
 unfold z8s at ht
 split at ht
 ·rename_i e ob news hdesc hes hsrc
  have hn : (σ.ev s).need ∧ (σ.ev x).need := by
   unfold z0U at ht
   split at ht
   ·exact ht.1.1
   ·exact ht.elim
  have e1 := h.evs hn.1
  rw [hes] at e1
  have hβ : β[ob]? = some (a.eval s) := by
   unfold z0U at ht
   split at ht
   ·rename_i hH
    exact z0u e1 fun y hy => h.objs ob _ y hH hy
   ·exact ht.elim
  exact z1e (S := fun v => Builtin.append_ #[t, t] o.type #[v, a.eval x]) hT hd h hβ (fun sz rows hH hk hsz hsz' hrl hby hmx => z3z hT hdesc h hβ hH (fun sz hsz => z0I h (h.evs hn.2) hsrc hsz) hk hsz hsz' hrl hby hmx) hex ht hK
 ·rename_i e news hdesc hes hsrc
  obtain ⟨hn, ht⟩ := ht
  have e1 := h.evs hn.1
  rw [hes] at e1
  obtain ⟨A, hA⟩ : ∃ A, a.eval s = .slice A 0 0 := e1
  have hp := h.push (Hn := [.row e (T e).size []]) (βn := [.slice A 0 0]) (Below.refl w.heap.size w) rfl (fun g ⟨t, y, hy, hg⟩ => by
    cases t with
    | zero => simp at hy; subst hy; rw [z4q] at hg; cases hg
    | succ t => simp at hy) (fun t t' y y' g hy hy' _ _ => by
    cases t <;> cases t' <;> first | rfl | (simp at hy; done) | (simp at hy'; done)) (fun t o' y ho' hy => by
    cases t with
    | zero => simp at ho' hy; subst ho'; subst hy; exact ⟨A, 0, rfl, Nat.le_refl _, Nat.zero_le _, .inl rfl⟩
    | succ t => simp at hy)
  have hob : (β ++ [Value.slice A 0 0])[σ.H.length]? = some (.slice A 0 0) := by rw [← h.len]; simp
  have hk : Keeps w (Mof M0 β) w (Mof M0 (β ++ [Value.slice A 0 0])) := ⟨Nat.le_refl _, fun _ _ _ => rfl, fun g _ hm hm' => hm (by
   rcases hm' with hm' | ⟨t, y, hy, hg⟩
   ·exact .inl hm'
   ·rw [List.getElem?_append] at hy
    split at hy
    ·exact .inr ⟨t, y, hy, hg⟩
    ·cases hi : t - β.length with
     | zero => rw [hi] at hy; simp at hy; subst hy; rw [z4q] at hg; cases hg
     | succ q => rw [hi] at hy; simp at hy)⟩
  refine z1e (S := fun v => Builtin.append_ #[t, t] o.type #[v, a.eval x]) hT hd hp hob (fun sz rows hH hke hsz hsz' hrl hby hmx => z3z hT hdesc hp hob hH (fun sz hsz => ?_) hke hsz hsz' hrl hby hmx) (fun v' w' r => hex v' w' (by rw [hA]; exact r)) ht hK
  obtain ⟨A2, c2, vs, k1, k2, k3, k4⟩ := z0I h (h.evs hn.2) hsrc hsz
  exact ⟨A2, c2, vs, k1, k2, RepL.keep hk _ _ k3, k4⟩
 ·rename_i e rows news hdesc hes hsrc
  have hn : (σ.ev s).need ∧ (σ.ev x).need := ht.1.1
  have e1 := h.evs hn.1
  rw [hes] at e1
  exact z4L hT hdesc hd h e1 (fun sz hsz => z0I h (h.evs hn.2) hsrc hsz) hex ht hK
 ·exact ht.elim
end
def NilK (rows : List (List D)) (t : Bool) (k : Bool → Prop) : Prop := ∀ b, (b = t → rows = []) → k b
def z6d (T : Tab) (t : TypeId) (yes : Bool) (x : Operand) (d : Nat) (σ : AState) (K : AState → Prop) : Prop :=
 match (T t).desc, z0J σ.H (σ.evs x) with
 | .slice _, some rows => ((σ.ev x).need ∧ d < σ.n) ∧ NilK rows yes fun b => K (σ.put d (.one (.bool b)))
 | _, _ => False
section
variable {P : Program} {T : Tab} {W0 w : World} {M M0 : Nat → Prop} {F : List Value} {σ : AState} {a : Act} {β : List Value} {Kc : Act → World → Prop} {Q : Exit → Act → World → Prop} {K : AState → Prop}
theorem z4f (hT : TabOk P T) {o : Oper} {yes : Bool} {t t' : TypeId} {x : Operand} {d : Nat} (ho : o.op = .binOp (if yes then .eql else .neq) t x (.const (.slice none 0 0)) t') (hd : o.dst = some d) (h : Sim W0 M0 F σ a w β) (ht : z6d T t yes x d σ K) (hK : ∀ σ' a' w', K σ' → SimS W0 M0 F σ' a' w' → Kc a' w') : o.wp P a w Kc Q := by
 unfold z6d at ht
 split at ht
 ·rename_i e rows hdesc hsrc
  obtain ⟨⟨hn, hdn⟩, hk⟩ := ht
  obtain ⟨A, c, hx, hA⟩ : ∃ A c, a.eval x = .slice A rows.length c ∧ (A = none → rows = []) := by
   have hv := h.evs hn
   unfold z0J at hsrc
   split at hsrc
   ·rename_i he
    rw [he] at hv
    cases hsrc
    obtain ⟨A, e0⟩ : ∃ A, a.eval x = .slice A 0 0 := hv
    exact ⟨A, 0, e0, fun _ => rfl⟩
   ·rename_i rows' he
    rw [he] at hv
    cases hsrc
    obtain ⟨A, c, h1, _, _, h4⟩ := hv
    refine ⟨A, c, h1, fun hA => ?_⟩
    rcases h4 with h4 | ⟨ad, sz, h4, _⟩
    ·exact h4
    ·rw [hA] at h4; cases h4
   ·rename_i ob he
    rw [he] at hv
    cases hH : σ.H[ob]? with
    | none => rw [hH] at hsrc; cases hsrc
    | some obj =>
     rw [hH] at hsrc
     cases obj with
     | row e' sz rows' =>
      cases hsrc
      have hβ := z0u hv fun y hy => h.objs ob _ y hH hy
      obtain ⟨A, c, h1, h2, _, h4⟩ := h.objs ob _ _ hH hβ
      refine ⟨A, c, h1, fun hA => ?_⟩
      rcases h4 with rfl | ⟨_, g, cur, h4, _⟩
      ·exact List.eq_nil_of_length_eq_zero (by omega)
      ·rw [hA] at h4; cases h4
     | _ => cases hsrc
   ·cases hsrc
  have heq : ∀ w : World, (Op.equal t (.slice A rows.length c) (.slice none 0 0)).run P w = .ok A.isNone w := fun w => by
   have key : ∀ n, (Op.equalIn (n + 1) t (.slice A rows.length c) (.slice none 0 0)).run P w = .ok A.isNone w := fun n => by
    cases A <;> simp [Op.equalIn, run_underlying (z06 hT hdesc)]
   exact key 9999
  have hconst : a.eval (.const (.slice none 0 0)) = .slice none 0 0 := rfl
  cases yes with
  | true =>
   refine upon_value (u := .bool A.isNone) (w' := w) ?_ ?_
   ·simp [execOp, ho, hx, hconst, eqGuard, binOp, heq]
   ·rw [hd]
    exact hK _ _ _ (hk A.isNone fun hb => hA (by simpa using hb)) ⟨β, h.put hdn rfl⟩
  | false =>
   refine upon_value (u := .bool (!A.isNone)) (w' := w) ?_ ?_
   ·simp [execOp, ho, hx, hconst, eqGuard, binOp, heq]
   ·rw [hd]
    exact hK _ _ _ (hk (!A.isNone) fun hb => hA (by simpa using hb)) ⟨β, h.put hdn rfl⟩
 ·exact ht.elim
end
def z3m (T : Tab) (t : TypeId) (d : Nat) (σ : AState) (K : AState → Prop) : Prop :=
 match (T t).desc with
 | .map kt _ => match (T kt).desc with
  | .string => d < σ.n ∧ K (σ.pushObj d (.map .str []) (.one (.mp σ.H.length)))
  | .int k => d < σ.n ∧ K (σ.pushObj d (.map (.int k) []) (.one (.mp σ.H.length)))
  | .struct [(0, q), (1, _)] => d < σ.n ∧ K (σ.pushObj d (.map (.pair q) []) (.one (.mp σ.H.length)))
  | .array _ q => d < σ.n ∧ K (σ.pushObj d (.map (.pair q) []) (.one (.mp σ.H.length)))
  | _ => False
 | _ => False
def z6c (T : Tab) (t : TypeId) (m k v : Operand) (σ : AState) (K : AState → Prop) : Prop :=
 match (T t).desc, σ.evs m with
 | .map kt _, .one (.mp o) =>
  match σ.H[o]? with
  | some (.map kd kvs) => ((σ.ev m).need ∧ (σ.ev k).need ∧ (σ.ev v).need ∧ keyOk T kt kd ∧ z0c kd (σ.evs k) = true) ∧ K (σ.setObj o (.map kd (setKV (σ.evs k) (σ.evs v) kvs)))
  | _ => False
 | _, _ => False
section
variable {P : Program} {T : Tab} {W0 w : World} {M M0 : Nat → Prop} {F : List Value} {σ : AState} {a : Act} {β : List Value} {Kc : Act → World → Prop} {Q : Exit → Act → World → Prop} {K : AState → Prop}
theorem z3D {o : Oper} {t : TypeId} {d : Nat} (ho : o.op = .makeMap t none) (hd : o.dst = some d) (h : Sim W0 M0 F σ a w β) (ht : z3m T t d σ K) (hK : ∀ σ' a' w', K σ' → SimS W0 M0 F σ' a' w' → Kc a' w') : o.wp P a w Kc Q := by
 have hb : Below w.heap.size w (w.alloc (.map #[] 0)) := (Below.refl _ _).alloc (Nat.le_refl _) _
 have main : ∀ kd, d < σ.n → K (σ.pushObj d (.map kd []) (.one (.mp σ.H.length))) → o.wp P a w Kc Q := by
  intro kd hdn hK'
  refine upon_value (u := .map (some w.heap.size)) (w' := w.alloc (.map #[] 0)) (by simp [execOp, ho, Instr.makeMap]) ?_
  rw [hd]
  refine hK _ _ _ hK' ⟨_, h.pushObj hdn hb (hd := .map (some w.heap.size)) (fun g hg => by cases hg; simp) ?_ (.inl ⟨w.heap.size, z1N h _, rfl⟩)⟩
  exact ⟨fun kv hkv => by simp at hkv, w.heap.size, #[], 0, rfl, heap_alloc_new w _, rfl, fun i kv e a => by simp at a⟩
 unfold z3m at ht
 split at ht
 ·split at ht
  ·exact main _ ht.1 ht.2
  ·exact main _ ht.1 ht.2
  ·exact main _ ht.1 ht.2
  ·exact main _ ht.1 ht.2
  ·exact ht.elim
 ·exact ht.elim
theorem zac {w : World} {g : Nat} {o : Obj} (hg : g < w.heap.size) : (({ w with heap := w.heap.setIfInBounds g o } : World).heap[g]? = some o) ∧ w.grownBy { w with heap := w.heap.setIfInBounds g o } (some g) := by
 refine ⟨by simp [hg], rfl, rfl, rfl, by simp, fun k _ hk => ?_⟩
 have : g ≠ k := fun e => hk (by rw [e])
 simp [Array.getElem?_setIfInBounds, this]
theorem z7y {w : World} {M : Nat → Prop} {β : List Value} {kd : KeyKind} {k : AV} {x y : Value} (hp : z0c kd k = true) (hx : RepV w M β k x) (hy : RepV w M β k y) (n : Nat) : Instr.sameBits (n + 1) x y = true ∧ x = y := by
 cases z1k hp with
 | str s =>
  have e1 := z0k hx
  have e2 := z0k hy
  subst e1; subst e2
  exact ⟨by simp [Instr.sameBits, z7k], rfl⟩
 | int q z =>
  have e1 := z03 hx
  have e2 := z03 hy
  subst e1; subst e2
  exact ⟨by simp [Instr.sameBits], rfl⟩
 | pair q a b =>
  have e1 := z1M hx
  have e2 := z1M hy
  subst e1; subst e2
  exact ⟨by simp [Instr.sameBits], rfl⟩
theorem z4e (hT : TabOk P T) {o : Oper} {t : TypeId} {m k v : Operand} (ho : o.op = .mapUpdate t m k v ∨ o.op = .insert t m k v) (hd : o.dst = none) (h : Sim W0 M0 F σ a w β) (ht : z6c T t m k v σ K) (hK : ∀ σ' a' w', K σ' → SimS W0 M0 F σ' a' w' → Kc a' w') : o.wp P a w Kc Q := by
 unfold z6c at ht
 split at ht
 ·rename_i kt et ob hdesc hm
  cases hH : σ.H[ob]? with
  | none => rw [hH] at ht; exact ht.elim
  | some obj =>
   rw [hH] at ht
   cases obj with
   | map kd kvs =>
    obtain ⟨⟨hn1, hn2, hn3, hkd, hpk⟩, hK'⟩ := ht
    have e1 := h.evs hn1
    rw [hm] at e1
    obtain ⟨g, hβ, hmv⟩ := z8P e1 fun y hy => h.objs ob _ y hH hy
    have hkr := h.evs hn2
    have hvr := h.evs hn3
    obtain ⟨hp, g', es, clk, hge, hg, hlen, hrep⟩ := h.objs ob _ _ hH hβ
    cases hge
    have hglt : g < w.heap.size := (Array.getElem?_eq_some_iff.1 hg).1
    have hck := z1x (w := w) hT hkd hpk hkr false 9998
    have fin : ∀ (es' : Array MapEntry) (clk' : Nat), (Instr.mapUpdate t (a.eval m) (a.eval k) (a.eval v)).run P w = .ok () { w with heap := w.heap.setIfInBounds g (.map es' clk') } →
      (setKV (σ.evs k) (σ.evs v) kvs).length = es'.size →
      (∀ (i : Nat) (kv : AV × AV) (e : MapEntry), (setKV (σ.evs k) (σ.evs v) kvs)[i]? = some kv → es'[i]? = some e → RepV w (Mof M0 β) β kv.1 e.key ∧ RepV w (Mof M0 β) β kv.2 e.val) →
      (∀ kv ∈ setKV (σ.evs k) (σ.evs v) kvs, z0c kd kv.1 = true) → o.wp P a w Kc Q := by
     intro es' clk' hrun hl2 hr2 hp2
     obtain ⟨q1, q2⟩ := zac (w := w) (g := g) (o := .map es' clk') hglt
     refine z64 hd (w' := { w with heap := w.heap.setIfInBounds g (.map es' clk') }) (by rcases ho with ho | ho <;> simp [execOp, ho, hrun]) ?_
     have hkeep : Keeps w (Mof M0 β) { w with heap := w.heap.setIfInBounds g (.map es' clk') } (Mof M0 β) :=
      ⟨q2.size, fun g' hlt hm' => q2.block g' hlt fun e => hm' (.inr ⟨ob, _, hβ, e.symm⟩), fun g' _ hm' => hm'⟩
     refine hK _ _ _ hK' ⟨β, h.write hβ q2 (Nat.le_refl _) ⟨hp2, g, es', clk', rfl, q1, hl2, fun i kv e b c => ?_⟩⟩
     have := hr2 i kv e b c
     exact ⟨RepV.grow ⟨hkeep, fun _ _ x => x⟩ _ _ this.1, RepV.grow ⟨hkeep, fun _ _ x => x⟩ _ _ this.2⟩
    rcases z1O (w := w) hT hkd hpk hkr kvs es.toList hp (by simpa using hlen) (fun j kv e a b => hrep j kv e a (by simpa using b)) with ⟨a1, a2, a3⟩ | ⟨j, y, e, a1, a2, a3, a4, a5, a6, a7⟩
    ·refine fin (es.push { key := a.eval k, val := a.eval v, born := clk }) (clk + 1) ?_ (by rw [a3]; simp [hlen]) (fun i kv e b c => ?_) (fun kv hkv => ?_)
     ·simp only [hmv, Instr.mapUpdate, Sem.run_bind, run_underlying (z2m hT hdesc), Result.andThen_ok, MapKept.run_getObj_map hg, hck, a2, MapKept.run_setObj_map _ hg]
     ·rw [a3, List.getElem?_append] at b
      rw [Array.getElem?_push] at c
      split at b
      ·rename_i hi
       rw [if_neg (by omega)] at c
       exact hrep i kv e b c
      ·rename_i hi
       cases hii : i - kvs.length with
       | zero =>
        rw [hii] at b
        simp at b
        rw [if_pos (by omega)] at c
        cases c
        subst b
        exact ⟨hkr, hvr⟩
       | succ q => rw [hii] at b; simp at b
     ·rw [a3] at hkv
      rcases List.mem_append.1 hkv with hkv | hkv
      ·exact hp kv hkv
      ·simp at hkv; subst hkv; exact hpk
    ·have a3' : es[j]? = some e := by simpa using a3
     have hsb := z7y hpk a6 hkr 9999
     refine fin (es.modify j fun e => { e with key := a.eval k, val := a.eval v }) clk ?_ (by rw [a7]; simp [hlen]) (fun i kv e' b c => ?_) (fun kv hkv => ?_)
     ·simp only [hmv, Instr.mapUpdate, Sem.run_bind, run_underlying (z2m hT hdesc), Result.andThen_ok, MapKept.run_getObj_map hg, hck, a2]
      have hgetD : (es[j]?.map (·.key)).getD (a.eval k) = e.key := by rw [a3']; rfl
      rw [hgetD]
      simp only [Instr.keyThatStays, hsb.1, if_true, Sem.run_pure, Result.andThen_ok, MapKept.run_setObj_map _ hg]
     ·rw [a7, List.getElem?_set] at b
      rw [Array.getElem?_modify] at c
      by_cases hij : j = i
      ·subst hij
       rw [if_pos rfl, if_pos a4] at b
       rw [if_pos rfl, a3'] at c
       cases b
       cases c
       exact ⟨hkr, hvr⟩
      ·rw [if_neg hij] at b
       rw [if_neg hij] at c
       exact hrep i kv e' b c
     ·rw [a7] at hkv
      rcases List.mem_or_eq_of_mem_set hkv with hkv | hkv
      ·exact hp kv hkv
      ·subst hkv; exact hpk
   | _ => exact ht.elim
 ·exact ht.elim
end
end Go.Eng
namespace Go.Eng
open Go.RowKit
def pickV (σ : AState) (c x y : Operand) : Prop × AV :=
 match σ.evs c, σ.evs x, σ.evs y with
 | .one (.bool b), .one (.bool bx), .one (.bool by') => ((σ.ev c).need ∧ (b = true → (σ.ev x).need) ∧ (b = false → (σ.ev y).need), .one (.bool (bif b then bx else by')))
 | _, _, _ => (False, .one .unk)
def callee (σ : AState) (fo : Operand) (args : List Operand) : Option (FuncId × List AV) :=
 match σ.evs fo with
 | .one (.clo f caps) => some (f, args.map σ.evs ++ caps.map AV.one)
 | _ => none
def Into (σ σ1 : AState) : Prop := ∀ (W0 : World) (M0 : Nat → Prop) (F : List Value) (a : Act) (w : World) (β : List Value), Sim W0 M0 F σ a w β → ∃ β', Sim W0 M0 F σ1 a w β'
structure CallAt (P : Program) (f : FuncId) (as as' : List AV) (nd : Prop) (fo : Operand) (args : List Operand) (d : Nat) (σ : AState) (K : AState → Prop) : Prop where
 out :
 (∃ r Hn, ((nd ∧ d < σ.n) ∧ ACalls P f as' r Hn ∧ z0d as r Hn) ∧ K (AState.put { n := σ.n, slots := σ.slots, H := σ.H ++ Hn, pin := σ.pin } d (r.shift σ.H.length))) ∨
 ∃ (σ1 : AState) (ts : List Nat) (p : Nat) (f' : FuncId) (as1 : List AV) (r : AV) (Hout : List AObj), Into σ σ1 ∧ (callee σ1 fo args = some (f', as1) ∧ needs σ1 (fo :: args) ∧ d < σ1.n ∧ z2a σ1 ts p) ∧
  MCalls P f' p (z5w ts σ1.H) (as1.map (AV.ren (idxIn ts))) r Hout ∧ K ((σ1.handed ts p Hout).put d (r.ren (nthT ts)))
structure GCallAt (P : Program) (g : Bool) (f : FuncId) (as as' : List AV) (nd : Prop) (fo : Operand) (args : List Operand) (d : Nat) (σ : AState) (K : AState → Prop) : Prop where
 out :
 (∃ r, (d < σ.n ∧ (g = true → nd ∧ ACalls P f as' r [] ∧ z0d as r [])) ∧ K (σ.put d (.cond g (r.shift σ.H.length)))) ∨
 ((g = true → CallAt P f as as' nd fo args d σ K) ∧ (g = false → ∃ v, d < σ.n ∧ K (σ.put d (.cond false v))))
structure DGCallAt (P : Program) (g : Bool) (f : FuncId) (as as' : List AV) (nd : Prop) (d : Nat) (σ : AState) (K : AState → Prop) : Prop where
 out :
 ∃ r, (d < σ.n ∧ (g = true → nd ∧ ACalls P f as' r [] ∧ z0d as r [])) ∧ K (σ.put d (.cond g (r.shift σ.H.length)))
structure DCallAt (P : Program) (f : FuncId) (as as' : List AV) (nd : Prop) (d : Nat) (σ : AState) (K : AState → Prop) : Prop where
 out :
 ∃ r, (d < σ.n ∧ nd ∧ ACalls P f as' r [] ∧ z0d as r []) ∧ K (σ.put d (r.shift σ.H.length))
def cstep (P : Program) (fo : Operand) (args : List Operand) (d : Nat) (σ : AState) (K : AState → Prop) : Prop :=
 match callee σ fo args with
 | some (f, as) => CallAt P f as (as.map (AV.bor σ.H)) (needs σ (fo :: args)) fo args d σ K
 | none => False
def zfw (P : Program) (g : Bool) (fo : Operand) (args : List Operand) (d : Nat) (σ : AState) (K : AState → Prop) : Prop :=
 match callee σ fo args with
 | some (f, as) => GCallAt P g f as (as.map (AV.bor σ.H)) (needs σ (fo :: args)) fo args d σ K
 | none => False
def nstep (T : Tab) (op : Op) (d : Nat) (σ : AState) (K : AState → Prop) : Prop :=
 (needs σ op.operands.toList ∧ d < σ.n ∧ (aval T σ.H op σ.evs).1) ∧ K (σ.put d (aval T σ.H op σ.evs).2)
def z3K (T : Tab) (g : Bool) (op : Op) (d : Nat) (σ : AState) (K : AState → Prop) : Prop :=
 (d < σ.n ∧ (g = true → needs σ op.operands.toList ∧ (aval T σ.H op σ.evs).1)) ∧ K (σ.put d (.cond g (aval T σ.H op σ.evs).2))
def z8q (T : Tab) (op : Op) (t : TypeId) (x hi : Operand) (d : Nat) (σ : AState) (K : AState → Prop) : Prop :=
 match σ.evs x with
 | .one (.own o) =>
  match (T t).desc, σ.H[o]?, σ.evs hi with
  | .slice e, some (.row e' sz rows), .one (.int _ z) => ((σ.ev x).need ∧ (σ.ev hi).need ∧ σ.pin ≤ o ∧ (T e).desc ≠ .other ∧ (0 ≤ z ∧ z ≤ rows.length) ∧ d < σ.n) ∧ K (((σ.fz o .gone).setObj o (.row e' sz (rows.take z.toNat))).put d (.one (.own o)))
  | _, _, _ => False
 | _ => nstep T op d σ K
def pstep (c x y : Operand) (d : Nat) (σ : AState) (K : AState → Prop) : Prop := (d < σ.n ∧ (pickV σ c x y).1) ∧ K (σ.put d (pickV σ c x y).2)
def zcD (g : Bool) (c x y : Operand) (d : Nat) (σ : AState) (K : AState → Prop) : Prop := (d < σ.n ∧ (g = true → (pickV σ c x y).1)) ∧ K (σ.put d (.cond g (pickV σ c x y).2))
def aop1 (P : Program) (T : Tab) (o : Oper) (σ : AState) (K : AState → Prop) : Prop :=
 match o.dst with
 | none => match o.op with
  | .store t ad v => zc4 T t ad v σ K
  | .mapUpdate t m k v => z6c T t m k v σ K
  | .insert t m k v => z6c T t m k v σ K
  | _ => False
 | some d => match o.op with
  | .alloc e => zet T e d σ K
  | .box e x => tBox e x d σ K
  | .buildSlice t len parts => z16 T t len parts.toList d σ K
  | .makeSlice t l c => tMake T t l c d σ K
  | .makeMap t none => z3m T t d σ K
  | .assign (.const (.slice none 0 0)) => tNil T o.type d σ K
  | .pick c x y => pstep c x y d σ K
  | .slice t x none (some hi) none => z8q T o.op t x hi d σ K
  | .binOp .eql t x (.const (.slice none 0 0)) _ => z6d T t true x d σ K
  | .binOp .neq t x (.const (.slice none 0 0)) _ => z6d T t false x d σ K
  | .call c => match c.callee with
   | .value fo => cstep P fo c.args.toList d σ K
   | .builtin .append => match c.args.toList, c.argTypes.toList with
    | [s, x], [t, t'] => if t = t' then z8s T s x t d σ K else z5K T s x t t' d σ K
    | _, _ => False
   | .builtin .len => nstep T o.op d σ K
   | .builtin .max => nstep T o.op d σ K
   | .builtin .min => nstep T o.op d σ K
   | _ => False
  | op => nstep T op d σ K
def aopG (P : Program) (T : Tab) (g : Bool) (o : Oper) (σ : AState) (K : AState → Prop) : Prop :=
 match o.dst with
 | none => False
 | some d => match o.op with
  | .pick c x y => zcD g c x y d σ K
  | .call c => match c.callee with
   | .value fo => zfw P g fo c.args.toList d σ K
   | .builtin .len => z3K T g o.op d σ K
   | .builtin .max => z3K T g o.op d σ K
   | .builtin .min => z3K T g o.op d σ K
   | _ => False
  | op => z3K T g op d σ K
def z0m (ops : Array Oper) (σ : AState) (j : Nat) : AV := (((ops[j]?).bind (·.dst)).bind (lookS σ.slots)).getD .any
def zfk : Op → Bool
 | .buildSlice _ 0 _ => true
 | .alloc _ => true
 | .box .. => true
 | .makeSlice .. => true
 | .makeMap .. => true
 | .call c => match c.callee with | .builtin .append => true | _ => false
 | _ => false
def zjL (P : Program) (T : Tab) (g : Bool) (o : Oper) (σ : AState) (K : AState → Prop) : Prop :=
 (g = true → aop1 P T o σ K) ∧ (g = false → match o.dst with | some d => d < σ.n ∧ K (σ.put d (.cond false .any)) | none => False)
def aop (P : Program) (T : Tab) (ops : Array Oper) (o : Oper) (σ : AState) (K : AState → Prop) : Prop :=
 match o.guard with
 | none => aop1 P T o σ K
 | some (j, want) => (z0m ops σ j).isB = true ∧ (if zfk o.op = true then zjL P T ((z0m ops σ j).says want) o σ K else aopG P T ((z0m ops σ j).says want) o σ K)
def aops (P : Program) (T : Tab) (ops : Array Oper) : List Oper → AState → (AState → Prop) → Prop
 | [], σ, K => K σ
 | o :: rest, σ, K => aop P T ops o σ fun σ' => aops P T ops rest σ' K
section
variable {P : Program} {T : Tab} {W0 w : World} {M0 : Nat → Prop} {F : List Value} {σ : AState} {a : Act} {β : List Value} {Kc : Act → World → Prop} {Q : Exit → Act → World → Prop} {K : AState → Prop}
theorem z7R (w : World) (M : Nat → Prop) (β : List Value) (want : Bool) : ∀ (v : AV) (x : Value), v.isB = true → RepV w M β v x → ((match x with | .bool b => some b | _ => none) == some want) = v.says want
 | .one d, x, hb, hr => by
  cases d <;> first | (cases hb; done) | skip
  rename_i b
  have : x = .bool b := hr
  subst this
  show (some b == some want) = (b == want)
  rfl
 | .cond g v, x, hb, hr => by
  have hr' : (g = true → RepV w M β v x) ∧ (g = false → x = undef) := hr
  cases g with
  | true => simpa [AV.says] using z7R w M β want v x hb (hr'.1 rfl)
  | false => rw [hr'.2 rfl]; rfl
 | .agg _, _, hb, _ => by cases hb
 | .tup _, _, hb, _ => by cases hb
 | .any, _, hb, _ => by cases hb
theorem z6O (h : Sim W0 M0 F σ a w β) {ops : Array Oper} {o : Oper} {j : Nat} {want : Bool} (hg : o.guard = some (j, want)) (hb : (z0m ops σ j).isB = true) : Region.wanted o (yielded ops a.tmps) = (z0m ops σ j).says want := by
 unfold z0m at hb ⊢
 cases hd : (ops[j]?).bind (·.dst) with
 | none => rw [hd] at hb; cases hb
 | some d =>
  rw [hd] at hb
  simp only [Option.bind_some] at hb ⊢
  cases hl : lookS σ.slots d with
  | none => rw [hl] at hb; cases hb
  | some v =>
   rw [hl] at hb
   simp only [Option.getD_some] at hb ⊢
   obtain ⟨x, h1, h2⟩ := h.slots d v hl
   rw [← z7R _ _ _ want v x hb h2]
   simp only [Region.wanted, hg, yielded, hd, Option.bind_some, h1]
   cases x <;> rfl
theorem z3S (h : Sim W0 M0 F σ a w β) {o : Oper} {c x y : Operand} (ho : o.op = .pick c x y) (hp : (pickV σ c x y).1) : ∃ u, (execOp a.eval o).run P w = .ok (.value u) w ∧ RepV w (Mof M0 β) β (pickV σ c x y).2 u := by
 unfold pickV at hp ⊢
 split at hp
 ·rename_i b bx by' hc hx hy
  obtain ⟨h1, h2, h3⟩ := hp
  have ec := h.evs h1
  rw [hc] at ec
  have ec' := z0V ec
  simp only [hc, hx, hy]
  cases b with
  | true =>
   have ex := h.evs (h2 rfl)
   rw [hx] at ex
   have ex' := z0V ex
   exact ⟨.bool bx, by simp [execOp, ho, ec', asBool, ex'], rfl⟩
  | false =>
   have ey := h.evs (h3 rfl)
   rw [hy] at ey
   have ey' := z0V ey
   exact ⟨.bool by', by simp [execOp, ho, ec', asBool, ey'], rfl⟩
 ·exact hp.elim
theorem z3p (hT : TabOk P T) (h : Sim W0 M0 F σ a w β) {o : Oper} (hn : needs σ o.op.operands.toList) (hv : (aval T σ.H o.op σ.evs).1) :
  ∃ u w', (execOp a.eval o).run P w = .ok (.value u) w' ∧ Sim W0 M0 F σ a w' β ∧ RepV w' (Mof M0 β) β (aval T σ.H o.op σ.evs).2 u := by
 obtain ⟨u, w', h1, h2, h3⟩ := ze2 hT (zgi h) h.len h.objs o σ.evs a.eval (fun x hx => h.evs (z0W _ _ hn x hx)) hv
 exact ⟨u, w', h1, h.ext h2, h3⟩
theorem RepVL.append {w : World} {M : Nat → Prop} {β : List Value} : ∀ {as bs : List AV} {us vs : List Value}, RepVL w M β as us → RepVL w M β bs vs → RepVL w M β (as ++ bs) (us ++ vs)
 | [], bs, us, vs, h, k => by simp only [RepVL] at h; subst h; exact k
 | a :: as, bs, us, vs, h, k => by
  simp only [RepVL] at h
  obtain ⟨v, rest, rfl, h1, h2⟩ := h
  simp only [List.cons_append, RepVL]
  exact ⟨v, _, rfl, h1, RepVL.append h2 k⟩
theorem RepC0.toC' {w : World} {M : Nat → Prop} {β : List Value} {d : D} {v : Value} (h : RepC0 w M β d v) : RepC w M β d v := by
 cases d
 case clo f caps =>
  simp only [RepC0] at h
  exact RepD.toC h
 all_goals (simp only [RepC]; exact h)
theorem z1I (h : Sim W0 M0 F σ a w β) {o : Oper} {fo : Operand} {args : Array Operand} {ats : Array TypeId} (ho : o.op = .call { callee := .value fo, args := args, argTypes := ats }) {f : FuncId} {as : List AV} (hc : callee σ fo args.toList = some (f, as)) (hn : needs σ (fo :: args.toList)) (hok : okFn P f = true) :
  ∃ vs, (execOp a.eval o).run P w = .ok (.enter f ⟨vs⟩) w ∧ RepVL w (Mof M0 β) β as vs := by
 unfold callee at hc
 split at hc
 ·rename_i f' caps hev
  cases hc
  have hfo := h.evs hn.1
  rw [hev] at hfo
  obtain ⟨cvs, hfv, hcl, hcr⟩ := hfo
  refine ⟨args.toList.map a.eval ++ cvs, ?_, RepVL.append (RepVL.mk _ _ (by simp) fun i b u hb hu => ?_) (RepVL.mk _ _ (by simpa using hcl) fun i b u hb hu => ?_)⟩
  ·unfold okFn at hok
   cases hfn : P.funcs[f]? with
   | none => rw [hfn] at hok; cases hok
   | some fn =>
    rw [hfn] at hok
    simp only [Bool.and_eq_true, bne_iff_ne] at hok
    obtain ⟨c, hbody⟩ : ∃ c, fn.body = some c := by cases hb : fn.body with | none => rw [hb] at hok; simp at hok | some c => exact ⟨c, rfl⟩
    have hcf : ∀ xs, (callFunc f xs).run P w = .ok (.enter f xs) w := fun xs => by simp [callFunc, hfn, hok.1, hbody]
    have harr : (#[] ++ args.map a.eval) ++ (⟨cvs⟩ : Array Value) = ⟨args.toList.map a.eval ++ cvs⟩ := by apply Array.ext'; simp
    have hrun : (execOp a.eval o).run P w = (callFunc f ((#[] ++ args.map a.eval) ++ (⟨cvs⟩ : Array Value))).run P w := by
     simp only [execOp, ho, resolve, hfv, Deferred.ofValue, Sem.run_bind, Sem.run_pure, Result.andThen_ok, invoke]
    rw [hrun, hcf, harr]
  ·rw [List.getElem?_map] at hb hu
   cases hg : args.toList[i]? with
   | none => rw [hg] at hb; cases hb
   | some x =>
    rw [hg] at hb hu
    simp at hb hu
    subst hb; subst hu
    exact h.evs (z0W _ _ hn.2 x (List.mem_of_getElem? hg))
  ·rw [List.getElem?_map] at hb
   cases hg : caps[i]? with
   | none => rw [hg] at hb; cases hb
   | some x =>
    rw [hg] at hb
    simp at hb
    subst hb
    exact (hcr i x u hg hu).toC'
 ·cases hc
theorem z8p (hT : TabOk P T) {o : Oper} {t : TypeId} {x hi : Operand} {d : Nat} (ho : o.op = .slice t x none (some hi) none) (hd : o.dst = some d) (h : Sim W0 M0 F σ a w β) (neutral : nstep T o.op d σ K → o.wp P a w Kc Q)
  (ht : z8q T o.op t x hi d σ K) (hK : ∀ σ' a' w', K σ' → SimS W0 M0 F σ' a' w' → Kc a' w') : o.wp P a w Kc Q := by
 unfold z8q at ht
 split at ht
 ·rename_i ob hev
  split at ht
  ·rename_i e e' sz rows k z hdesc hH hh
   obtain ⟨⟨hn1, hn2, hpin, hk, hz, hdn⟩, hK'⟩ := ht
   have e1 := h.evs hn1
   rw [hev] at e1
   have hβ : β[ob]? = some (a.eval x) := z0u e1 fun y hy => h.objs ob _ y hH hy
   have e2 := h.evs hn2
   rw [hh] at e2
   have e2' := z03 e2
   obtain ⟨A, c, hev', h1, h2, h3⟩ := h.objs ob _ _ hH hβ
   have hb := (z4Y (P := P) (w := w) (M := Mof M0 β) (β := β) true rows.length c h1 none (some (.one (.int k z))) none (some (.int k z)) (fun _ hh => by cases hh) (fun _ => rfl) (fun b hb => by cases hb; exact ⟨_, rfl, rfl⟩) (fun hh => by cases hh) (by simpa [z0Q] using hz)).1
   have hb' : (Instr.sliceBounds true rows.length c none (some (.int k z)) none).run P w = .ok (0, z.toNat, c) w := hb w
   have hzl : (rows.take z.toNat).length = z.toNat := by rw [List.length_take]; omega
   have hA : (if c = 0 then A else A.map (·.add (0 * (T e).size))) = A := by
    split
    ·rfl
    ·rcases h3 with h3 | ⟨_, g, cur, rfl, _⟩
     ·omega
     ·rw [Nat.zero_mul]; simp [add_lit]
   refine upon_value (u := .slice A z.toNat c) (w' := w) ?_ ?_
   ·have hs : (Instr.sliceAt t (a.eval x) none (some (a.eval hi)) none).run P w = .ok (.slice (if c = 0 then A else A.map (·.add (0 * (T e).size))) (z.toNat - 0) (c - 0)) w := by
     rw [hev', e2']
     simp [Instr.sliceAt, Instr.slice, run_underlying (z06 hT hdesc), hb', z0b (w := w) hT hk]
    rw [hA] at hs
    simp [execOp, ho, hs]
   ·rw [hd]
    have hbe : ∀ g, hblk (.slice A z.toNat c) = some g → hblk (a.eval x) = some g := fun g hg => by
     rw [hev']
     cases A with
     | none => cases c <;> cases hg
     | some ad => cases c with
      | zero => cases hg
      | succ c => cases hg; rfl
    have hkeep : Keeps w (Mof M0 β) w (Mof M0 (β.set ob (.slice A z.toNat c))) := ⟨Nat.le_refl _, fun _ _ _ => rfl, fun g _ hm hm' => by
     rcases hm' with hm' | hm'
     ·exact hm (.inl hm')
     ·rcases z2r hm' with hq | ⟨t', y, _, q1, q2⟩
      ·exact hm (.inr ⟨ob, _, hβ, hbe g hq⟩)
      ·exact hm (.inr ⟨t', y, q1, q2⟩)⟩
    have hrow : ObjRep w (Mof M0 (β.set ob (.slice A z.toNat c))) (β.set ob (.slice A z.toNat c)) (.row e' sz (rows.take z.toNat)) (.slice A z.toNat c) := by
     refine ⟨A, c, by rw [hzl], by rw [hzl]; omega, h2, h3.imp id ?_⟩
     rintro ⟨hc, g, cur, q1, q2, q3, q4⟩
     refine ⟨hc, g, cur, q1, q2, q3, ?_⟩
     have := (q4.cut 0 z.toNat).keeps hkeep (fun _ _ hr => hr)
     rwa [Nat.zero_mul, add_lit, List.drop_zero] at this
    refine hK _ _ _ hK' ⟨β.set ob (.slice A z.toNat c), Sim.put (h.turn (o := .gone) (.inl hpin) hβ (z1H w _) (Nat.le_refl _) (fun g hg => .inl (hbe g hg)) ⟨(fun _ _ _ hh => by cases hh), (fun _ _ hh => by cases hh), (fun _ _ _ hh => by cases hh)⟩ hrow) hdn ⟨.inl ?_, rfl⟩⟩
    rw [List.getElem?_set, if_pos rfl, if_pos (List.getElem?_eq_some_iff.1 hβ).1]
  ·exact ht.elim
 ·exact neutral ht
theorem z3A (hT : TabOk P T) {o : Oper} (h : Sim W0 M0 F σ a w β) (hop : aop1 P T o σ K) (hK : ∀ σ' a' w', K σ' → SimS W0 M0 F σ' a' w' → Kc a' w') : o.wp P a w Kc Q := by
 have neutral : ∀ d, o.dst = some d → nstep T o.op d σ K → o.wp P a w Kc Q := by
  rintro d hd ⟨⟨hn, hdn, hv⟩, hK'⟩
  obtain ⟨u, w', h1, h2, h3⟩ := z3p (P := P) hT h hn hv
  refine upon_value h1 ?_
  rw [hd]
  exact hK _ _ _ hK' ⟨β, h2.put hdn h3⟩
 unfold aop1 at hop
 split at hop
 ·rename_i hd
  split at hop
  ·rename_i t ad v ho
   exact z9v hT ho hd h hop hK
  ·rename_i t m k v ho; exact z4e hT (.inl ho) hd h hop hK
  ·rename_i t m k v ho; exact z4e hT (.inr ho) hd h hop hK
  ·exact hop.elim
 ·rename_i d hd
  split at hop
  ·rename_i e ho; exact z5h hT ho hd h hop hK
  ·rename_i e x ho; exact z7N ho hd h hop hK
  ·rename_i t len parts ho; exact z4K hT ho hd h hop hK
  ·rename_i t l c ho; exact z6e hT ho hd h hop hK
  ·rename_i t ho; exact z3D ho hd h hop hK
  ·rename_i ho; exact zda ho hd h hop hK
  ·rename_i c x y ho
   obtain ⟨⟨hdn, hp⟩, hK'⟩ := hop
   obtain ⟨u, h1, h2⟩ := z3S (P := P) h ho hp
   refine upon_value h1 ?_
   rw [hd]
   exact hK _ _ _ hK' ⟨β, h.put hdn h2⟩
  ·rename_i t x hi ho
   exact z8p hT ho hd h (neutral d hd) hop hK
  ·rename_i t x t' ho
   exact z4f (yes := true) hT ho hd h hop hK
  ·rename_i t x t' ho
   exact z4f (yes := false) hT ho hd h hop hK
  ·rename_i c ho
   obtain ⟨cal, args, ats⟩ := c
   simp only at hop
   split at hop
   ·rename_i fo
    unfold cstep at hop
    split at hop
    ·rename_i f as hc
     rcases hop.out with ⟨r, Hn, ⟨⟨hn, hdn⟩, hcall, hsafe⟩, hK'⟩ | ⟨σ1, ts, p, f', as1, r, Hout, hinto, ⟨hc1, hn, hdn, hok⟩, hcall, hK'⟩
     ·obtain ⟨vs, h1, h2⟩ := z1I (P := P) h ho hc hn hcall.1
      unfold Oper.wp
      rw [h1]
      simp only [Oper.upon]
      refine (h.call h2 hcall hsafe).mono ?_
      rintro e w' ⟨v, β', rfl, hs, hr⟩
      simp only [hd]
      exact hK _ _ _ hK' ⟨β', Sim.put (σ := { σ with H := σ.H ++ Hn }) hs hdn hr⟩
     ·obtain ⟨β1, hf⟩ := hinto _ _ _ _ _ β h
      obtain ⟨vs, h1, h2⟩ := z1I (P := P) hf ho hc1 hn hcall.1
      unfold Oper.wp
      rw [h1]
      simp only [Oper.upon]
      refine (hf.mcall hok h2 hcall).mono ?_
      rintro e w' ⟨v, β', rfl, hs, hr⟩
      simp only [hd]
      exact hK _ _ _ hK' ⟨β', hs.put hdn hr⟩
    ·exact hop.elim
   ·split at hop
    ·rename_i s x t t' ha hat
     have e1 : args = #[s, x] := Array.ext' ha
     have e2 : ats = #[t, t'] := Array.ext' hat
     subst e1; subst e2
     split at hop
     ·rename_i htt
      subst htt
      exact z8r hT ho hd h hop hK
     ·exact z7x hT ho hd h hop hK
    ·exact hop.elim
   ·exact neutral d hd hop
   ·exact neutral d hd hop
   ·exact neutral d hd hop
   ·exact hop.elim
  ·exact neutral d hd hop
theorem ze8 (hT : TabOk P T) {o : Oper} {g : Bool} (h : Sim W0 M0 F σ a w β) (hop : aopG P T g o σ K) (hK : ∀ σ' a' w', K σ' → SimS W0 M0 F σ' a' w' → Kc a' w') : if g = true then o.wp P a w Kc Q else Kc (a.put o.dst undef) w := by
 have key : ∀ d (v : AV), o.dst = some d → d < σ.n → K (σ.put d (.cond g v)) → (g = true → ∃ u w', (execOp a.eval o).run P w = .ok (.value u) w' ∧ Sim W0 M0 F σ a w' β ∧ RepV w' (Mof M0 β) β v u) → if g = true then o.wp P a w Kc Q else Kc (a.put o.dst undef) w := by
  intro d v hd hdn hK' hv
  cases g with
  | true =>
   obtain ⟨u, w', h1, h2, h3⟩ := hv rfl
   simp only [if_true]
   refine upon_value h1 ?_
   rw [hd]
   exact hK _ _ _ hK' ⟨β, h2.put hdn ⟨fun _ => h3, fun hh => by cases hh⟩⟩
  | false =>
   simp only [Bool.false_eq_true, if_false]
   rw [hd]
   exact hK _ _ _ hK' ⟨β, h.put hdn ⟨fun hh => (by cases hh), fun _ => rfl⟩⟩
 have neutral : ∀ d, o.dst = some d → z3K T g o.op d σ K → if g = true then o.wp P a w Kc Q else Kc (a.put o.dst undef) w := by
  rintro d hd ⟨⟨hdn, hv⟩, hK'⟩
  exact key d _ hd hdn hK' fun hg => z3p (P := P) hT h (hv hg).1 (hv hg).2
 unfold aopG at hop
 split at hop
 ·exact hop.elim
 ·rename_i d hd
  split at hop
  ·rename_i c x y ho
   obtain ⟨⟨hdn, hp⟩, hK'⟩ := hop
   exact key d _ hd hdn hK' fun hg => by
    obtain ⟨u, h1, h2⟩ := z3S (P := P) h ho (hp hg)
    exact ⟨u, w, h1, h, h2⟩
  ·rename_i c ho
   obtain ⟨cal, args, ats⟩ := c
   simp only at hop
   split at hop
   ·rename_i fo
    unfold zfw at hop
    split at hop
    ·rename_i f as hc
     rcases hop.out with ⟨r, ⟨hdn, hcall⟩, hK'⟩ | ⟨hy, hn⟩
     case inr =>
      cases g with
      | true =>
       simp only [if_true]
       refine z3A hT h ?_ hK
       unfold aop1
       rw [hd]
       simp only [ho]
       unfold cstep
       rw [hc]
       exact hy rfl
      | false =>
       simp only [Bool.false_eq_true, if_false]
       rw [hd]
       obtain ⟨v, hdn, hK'⟩ := hn rfl
       exact hK _ _ _ hK' ⟨β, h.put hdn ⟨fun hh => (by cases hh), fun _ => rfl⟩⟩
     cases g with
     | true =>
      obtain ⟨hn, hcall, hsafe⟩ := hcall rfl
      simp only [if_true]
      obtain ⟨vs, h1, h2⟩ := z1I (P := P) h ho hc hn hcall.1
      unfold Oper.wp
      rw [h1]
      simp only [Oper.upon]
      refine (h.call h2 hcall hsafe).mono ?_
      rintro e w' ⟨v, β', rfl, hs, hr⟩
      simp only [hd]
      have hs' : Sim W0 M0 F σ a w' β' := by simpa using hs
      exact hK _ _ _ hK' ⟨β', hs'.put hdn ⟨fun _ => hr, fun hh => by cases hh⟩⟩
     | false =>
      simp only [Bool.false_eq_true, if_false]
      rw [hd]
      exact hK _ _ _ hK' ⟨β, h.put hdn ⟨fun hh => (by cases hh), fun _ => rfl⟩⟩
    ·exact hop.elim
   ·exact neutral d hd hop
   ·exact neutral d hd hop
   ·exact neutral d hd hop
   ·exact hop.elim
  ·exact neutral d hd hop
theorem z2y (hT : TabOk P T) {ops : Array Oper} {o : Oper} (h : SimS W0 M0 F σ a w) (hop : aop P T ops o σ K) (hK : ∀ σ' a' w', K σ' → SimS W0 M0 F σ' a' w' → Kc a' w') : if Region.wanted o (yielded ops a.tmps) = true then o.wp P a w Kc Q else Kc (a.put o.dst undef) w := by
 obtain ⟨β, h⟩ := h
 unfold aop at hop
 split at hop
 ·rename_i hg
  rw [if_pos (by simp [Region.wanted, hg])]
  exact z3A hT h hop hK
 ·rename_i j want hg
  rw [z6O h hg hop.1]
  have hop2 := hop.2
  split at hop2
  ·generalize (z0m ops σ j).says want = g at hop2 ⊢
   cases g with
   | true => simp only [if_true]; exact z3A hT h (hop2.1 rfl) hK
   | false =>
    have h2 := hop2.2 rfl
    simp only [Bool.false_eq_true, if_false]
    cases hd : o.dst with
    | none => rw [hd] at h2; exact h2.elim
    | some d =>
     rw [hd] at h2
     exact hK _ _ _ h2.2 ⟨β, h.put h2.1 ⟨fun hh => (by cases hh), fun _ => rfl⟩⟩
  ·exact ze8 hT h hop2 hK
theorem z58 (hT : TabOk P T) {ops : Array Oper} : ∀ (l : List Oper) (σ : AState) (a : Act) (w : World), SimS W0 M0 F σ a w → aops P T ops l σ K → (∀ σ' a' w', K σ' → SimS W0 M0 F σ' a' w' → Q .normal a' w') → wpList P ops Q l a w
 | [], σ, a, w, h, hop, hK => hK _ _ _ hop h
 | o :: rest, σ, a, w, h, hop, hK => by
  refine wpList_step fun Kk hKk => ?_
  exact z2y hT h hop fun σ' a' w' h1 h2 => hKk _ _ (z58 hT rest σ' a' w' h2 h1 hK)
end
end Go.Eng
namespace Go.Eng
open Go.RowKit
def dVal (P : Program) (T : Tab) (o : Oper) (v : AV) (σ : AState) : Prop :=
 match o.op with
 | .pick c x y => (pickV σ c x y).1 ∧ v = (pickV σ c x y).2
 | .call c => match c.callee with
  | .value fo => ∃ f as r, callee σ fo c.args.toList = some (f, as) ∧ needs σ (fo :: c.args.toList) ∧ ACalls P f (as.map (AV.bor σ.H)) r [] ∧ z0d as r [] ∧ v = r.shift σ.H.length
  | _ => needs σ o.op.operands.toList ∧ (aval T σ.H o.op σ.evs).1 ∧ v = (aval T σ.H o.op σ.evs).2
 | op => needs σ op.operands.toList ∧ (aval T σ.H op σ.evs).1 ∧ v = (aval T σ.H op σ.evs).2
def zae : AV → AV
 | .one (.list rows) => .one (.full rows)
 | v => v
theorem zdM {w : World} {M : Nat → Prop} {β : List Value} {v : AV} {A : Option Addr} {n : Nat} (h : RepV w M β v (.slice A n n)) : RepV w M β (zae v) (.slice A n n) := by
 unfold zae
 split
 ·obtain ⟨A', c, e, h1, h2, h3⟩ := h
  cases e
  exact ⟨_, rfl, h2, h3⟩
 ·exact h
def appOk (T : Tab) (e : Nat) (rows news : List (List D)) : Prop := (T e).desc ≠ .other ∧ 0 < (T e).size ∧ (∀ r ∈ rows, r.length = (T e).size) ∧ (∀ r ∈ news, r.length = (T e).size) ∧ (rows.length + news.length) * (T e).bytes ≤ 140737488355328 ∧ rows.length + news.length ≤ 9223372036854775807
def dValX (T : Tab) (o : Oper) (v : AV) (σ : AState) : Prop :=
 match o.op with
 | .buildSlice _ _ _ => needs σ o.op.operands.toList ∧ (aval T σ.H o.op σ.evs).1 ∧ v = zae (aval T σ.H o.op σ.evs).2
 | .call c => ∃ s x t e rows news, c = { callee := .builtin .append, args := #[s, x], argTypes := #[t, t] } ∧ (T t).desc = .slice e ∧ σ.evs s = .one (.full rows) ∧ z0J σ.H (σ.evs x) = some news ∧ (σ.ev s).need ∧ (σ.ev x).need ∧ appOk T e rows news ∧ v = .one (.list (rows ++ news))
 | _ => False
def dY (P : Program) (T : Tab) (ops : Array Oper) (o : Oper) (d : Nat) (v : AV) (σ : AState) : Prop :=
 o.dst = some d ∧ d < σ.n ∧
 match o.guard with
 | none => dVal P T o v σ
 | some (j, want) => (z0m ops σ j).isB = true ∧ ∃ v0, v = .cond ((z0m ops σ j).says want) v0 ∧ ((z0m ops σ j).says want = true → dVal P T o v0 σ ∨ dValX T o v0 σ)
def dWalk (P : Program) (T : Tab) (ops : Array Oper) : List Oper → AState → (AState → Prop) → Prop
 | [], σ, K => K σ
 | o :: rest, σ, K => ∃ d v, dY P T ops o d v σ ∧ dWalk P T ops rest (σ.put d v) K
def dops (P : Program) (T : Tab) (ops : Array Oper) (σ : AState) (K : AState → Prop) : Prop :=
 Region.lexB .any ops = true ∧ dWalk P T ops ops.toList σ K
structure Like (σ τ : AState) : Prop where
 n : σ.n = τ.n
 H : σ.H = τ.H
 pin : σ.pin = τ.pin
 slots : ∀ i, lookS σ.slots i = lookS τ.slots i
theorem Like.refl (σ : AState) : Like σ σ := ⟨rfl, rfl, rfl, fun _ => rfl⟩
theorem Like.trans {σ τ υ : AState} (h : Like σ τ) (k : Like τ υ) : Like σ υ := ⟨h.n.trans k.n, h.H.trans k.H, h.pin.trans k.pin, fun i => (h.slots i).trans (k.slots i)⟩
theorem Like.symm {σ τ : AState} (h : Like σ τ) : Like τ σ := ⟨h.n.symm, h.H.symm, h.pin.symm, fun i => (h.slots i).symm⟩
theorem Like.put {σ τ : AState} (h : Like σ τ) (d : Nat) (v : AV) : Like (σ.put d v) (τ.put d v) := ⟨h.n, h.H, h.pin, fun i => by simp only [AState.put, lookS]; split; rfl; exact h.slots i⟩
theorem zcg (σ : AState) {d e : Nat} (h : d ≠ e) (u v : AV) : Like ((σ.put d u).put e v) ((σ.put e v).put d u) := ⟨rfl, rfl, rfl, fun i => by
 simp only [AState.put, lookS]
 by_cases h1 : e = i <;> by_cases h2 : d = i <;> simp [h1, h2]
 exact absurd (h2.trans h1.symm) h⟩
section
variable {P : Program} {T : Tab} {W0 w : World} {M0 : Nat → Prop} {F : List Value} {σ τ : AState} {a : Act} {ops : Array Oper} {md : Region.Mode} {Q : Exit → Act → World → Prop} {K : AState → Prop}
theorem SimS.like (h : SimS W0 M0 F σ a w) (k : Like σ τ) : SimS W0 M0 F τ a w := by
 obtain ⟨β, h⟩ := h
 exact ⟨β, h.below, h.m0, by rw [h.len, k.H], fun t o x ho hx => h.objs t o x (by rw [k.H]; exact ho) hx, h.fresh, h.dist, fun i v hv => h.slots i v (by rw [k.slots i]; exact hv), by rw [h.size, k.n], h.defers, h.out, by rw [← k.pin]; exact h.pins⟩
structure Agree (ops : Array Oper) (o : Oper) (σ τ : AState) : Prop where
 n : σ.n = τ.n
 H : σ.H = τ.H
 slots : ∀ i, i ∈ o.looksAt ops → lookS σ.slots i = lookS τ.slots i
theorem Like.agree (h : Like σ τ) (o : Oper) : Agree ops o σ τ := ⟨h.n, h.H, fun i _ => h.slots i⟩
theorem z4F {o : Oper} {d : Nat} (h : d ∉ o.looksAt ops) (σ : AState) (v : AV) : Agree ops o σ (σ.put d v) :=
 ⟨rfl, rfl, fun i hi => by simp only [AState.put, lookS]; rw [if_neg (by rintro rfl; exact h hi)]⟩
theorem Agree.ev {o : Oper} (h : Agree ops o σ τ) {x : Operand} (hx : x ∈ o.op.operands.toList) : σ.ev x = τ.ev x := by
 cases x with
 | tmp t =>
  have : t ∈ o.looksAt ops := by
   unfold Oper.looksAt
   simp only [List.mem_append, List.mem_filterMap]
   left
   exact ⟨.tmp t, hx, rfl⟩
  simp only [AState.ev]
  rw [h.slots t this]
 | _ => rfl
theorem z0X : ∀ (xs : List Operand), (∀ x ∈ xs, σ.ev x = τ.ev x) → needs σ xs → needs τ xs
 | [], _, _ => trivial
 | x :: xs, h, k => ⟨by rw [← h x (by simp)]; exact k.1, z0X xs (fun y hy => h y (by simp [hy])) k.2⟩
theorem z56 (H : List AObj) (op : Op) (ev ev' : Operand → AV) (h : ∀ x ∈ op.operands.toList, ev x = ev' x) : aval T H op ev = aval T H op ev' := by
 cases op <;> simp only [aval, Op.operands] at h ⊢
 case move x => rw [h x (by simp)]
 case assign x => rw [h x (by simp)]
 case binOp b t x y t' => rw [h x (by simp), h y (by simp)]
 case unOp u t x => rw [h x (by simp)]
 case fieldAddr t x f => rw [h x (by simp)]
 case indexAddr t x i => rw [h x (by simp), h i (by simp)]
 case load t x => rw [h x (by simp)]
 case index t x i => rw [h x (by simp), h i (by simp)]
 case field t x f => rw [h x (by simp)]
 case lookup t x k ok => rw [h x (by simp), h k (by simp)]
 case extract x i => rw [h x (by simp)]
 case convert s d x => rw [h x (by simp)]
 case nilCheck x => rw [h x (by simp)]
 case slice t x lo hi mx =>
  have opt : ∀ (l : Option Operand), (∀ y, l = some y → ev y = ev' y) → l.map ev = l.map ev' := fun l hl => by cases l with | none => rfl | some y => simp [hl y rfl]
  rw [h x (by simp), opt lo (fun y hy => h y (by simp [hy])), opt hi (fun y hy => h y (by simp [hy])), opt mx (fun y hy => h y (by simp [hy]))]
 case build t parts =>
  have : (parts.toList.map fun p => (p.1, ev p.2)) = parts.toList.map fun p => (p.1, ev' p.2) := List.map_congr_left fun p hp => by rw [h p.2 (by simp; exact ⟨p.1, by simpa using hp⟩)]
  rw [this]
 case buildSlice t len parts =>
  have : (parts.toList.map fun p => (p.1, ev p.2)) = parts.toList.map fun p => (p.1, ev' p.2) := List.map_congr_left fun p hp => by rw [h p.2 (by simp; exact ⟨p.1, by simpa using hp⟩)]
  rw [this]
 case makeFunc fn first caps =>
  have h1 : first.toList.map ev = first.toList.map ev' := List.map_congr_left fun p hp => h p (by simp at hp ⊢; exact .inl hp)
  have h2 : caps.toList.map ev = caps.toList.map ev' := List.map_congr_left fun p hp => h p (by simp at hp ⊢; exact .inr hp)
  rw [h1, h2]
 case call c =>
  obtain ⟨cal, args, ats⟩ := c
  cases cal with
  | builtin b =>
   have ha : ∀ x ∈ args.toList, ev x = ev' x := fun x hx => h x (by simp [Call.operands]; simpa using hx)
   clear h
   simp only
   generalize args.toList = l at ha
   generalize ats.toList = q
   cases b <;> try rfl
   all_goals
    rcases l with _ | ⟨x, _ | ⟨y, _ | ⟨z, l⟩⟩⟩ <;> rcases q with _ | ⟨t, _ | ⟨t2, q⟩⟩ <;> first
     | rfl
     | (simp only [ha x (by simp), ha y (by simp)]; done)
     | (simp only [ha x (by simp)]; done)
  | _ => rfl
theorem z8f {o : Oper} {v : AV} (h : Agree ops o σ τ) (hv : dVal P T o v σ) : dVal P T o v τ := by
 have hev : ∀ x ∈ o.op.operands.toList, σ.ev x = τ.ev x := fun x hx => h.ev hx
 have hevs : ∀ x ∈ o.op.operands.toList, σ.evs x = τ.evs x := fun x hx => by simp only [AState.evs]; rw [hev x hx]
 have plain : needs σ o.op.operands.toList ∧ (aval T σ.H o.op σ.evs).1 ∧ v = (aval T σ.H o.op σ.evs).2 → needs τ o.op.operands.toList ∧ (aval T τ.H o.op τ.evs).1 ∧ v = (aval T τ.H o.op τ.evs).2 := by
  rintro ⟨h1, h2, h3⟩
  rw [h.H, z56 _ _ _ _ hevs] at h2 h3
  exact ⟨z0X _ hev h1, h2, h3⟩
 unfold dVal at hv ⊢
 split at hv
 ·rename_i c x y ho
  simp only [ho, Op.operands] at hev hevs
  have e : pickV σ c x y = pickV τ c x y := by
   unfold pickV
   rw [hevs c (by simp), hevs x (by simp), hevs y (by simp), hev c (by simp), hev x (by simp), hev y (by simp)]
  rw [← e]
  exact hv
 ·rename_i c ho
  obtain ⟨cal, args, ats⟩ := c
  simp only at hv ⊢
  split at hv
  ·rename_i fo
   obtain ⟨f, as, r, h1, h2, h3, h4, h5⟩ := hv
   simp only [ho, Op.operands, Call.operands] at hev hevs
   have hfo := hevs fo (by simp)
   have hargs : args.toList.map σ.evs = args.toList.map τ.evs := List.map_congr_left fun x hx => hevs x (by simp at hx ⊢; exact .inr hx)
   refine ⟨f, as, r, ?_, z0X _ (fun x hx => hev x (by simpa using hx)) h2, by rw [← h.H]; exact h3, h4, by rw [← h.H]; exact h5⟩
   unfold callee at h1 ⊢
   rw [← hfo, ← hargs]
   exact h1
  ·exact plain hv
 ·exact plain hv
theorem zbw {o : Oper} {v : AV} (h : Agree ops o σ τ) (hv : dValX T o v σ) : dValX T o v τ := by
 have hev : ∀ x ∈ o.op.operands.toList, σ.ev x = τ.ev x := fun x hx => h.ev hx
 have hevs : ∀ x ∈ o.op.operands.toList, σ.evs x = τ.evs x := fun x hx => by simp only [AState.evs]; rw [hev x hx]
 unfold dValX at hv ⊢
 split at hv
 ·obtain ⟨h1, h2, h3⟩ := hv
  rw [h.H, z56 _ _ _ _ hevs] at h2 h3
  exact ⟨z0X _ hev h1, h2, h3⟩
 ·rename_i c ho
  obtain ⟨s, x, t, e, rows, news, rfl, h1, h2, h3, h4, h5, h6, h7⟩ := hv
  simp only [ho, Op.operands, Call.operands] at hev hevs
  have e1 := hev s (by simp)
  have e2 := hev x (by simp)
  have e3 := hevs s (by simp)
  have e4 := hevs x (by simp)
  exact ⟨s, x, t, e, rows, news, rfl, h1, by rw [← e3]; exact h2, by rw [← e4, ← h.H]; exact h3, by rw [← e1]; exact h4, by rw [← e2]; exact h5, h6, h7⟩
 ·exact hv
theorem zbv (hT : TabOk P T) {β : List Value} (h : Sim W0 M0 F σ a w β) {o : Oper} {v : AV} (hv : dValX T o v σ) : ∃ u w', (execOp a.eval o).run P w = .ok (.value u) w' ∧ Sim W0 M0 F σ a w' β ∧ RepV w' (Mof M0 β) β v u := by
 unfold dValX at hv
 split at hv
 ·rename_i t len parts ho
  obtain ⟨h1, h2, rfl⟩ := hv
  obtain ⟨u, w', r1, r2, r3⟩ := z3p (P := P) hT h h1 h2
  have hevs : ∀ x ∈ parts.toList.map (·.2), RepV w (Mof M0 β) β (σ.evs x) (a.eval x) := fun x hx => h.evs (z0W _ _ h1 x (by rw [ho]; simpa [Op.operands] using hx))
  obtain ⟨p1, p2⟩ := z6z (w := w) (M := Mof M0 β) (β := β) (ev := σ.evs) (ρ := a.eval) (parts := parts) hevs
  rw [ho] at h2
  have h2' : (z2p T t len (parts.toList.map fun p => (p.1, σ.evs p.2))).1 := h2
  unfold z2p at h2'
  cases hs : z1f T t len (parts.toList.map fun p => (p.1, σ.evs p.2)) with
  | none => rw [hs] at h2'; exact h2'.elim
  | some r =>
   obtain ⟨e, sz, rows⟩ := r
   obtain ⟨ds, vs, k1, _⟩ := z1y (w := w) hT t len _ _ p1 p2 hs
   have hrun : (execOp a.eval o).run P w = .ok (.value (.slice (some ⟨w.heap.size, 0, none⟩) len len)) (w.alloc (.cells ⟨vs⟩ e)) := by
    rw [← z1o] at k1
    simp [execOp, ho, k1]
   rw [r1] at hrun
   cases hrun
   exact ⟨_, _, r1, r2, zdM r3⟩
 ·rename_i c ho
  obtain ⟨s, x, t, e, rows, news, rfl, h1, h2, h3, h4, h5, ⟨q1, q2, q3, q4, q5, q6⟩, rfl⟩ := hv
  have hex : ∀ v' w', (Builtin.append_ #[t, t] o.type #[a.eval s, a.eval x]).run P w = .ok v' w' → (execOp a.eval o).run P w = .ok (.value v') w' := fun v' w' r => by
   simp [execOp, ho, resolve, invoke, builtin, r]
  have e1 := h.evs h4
  rw [h2] at e1
  exact z7E hT h1 h e1 (fun sz hsz => z0I h (h.evs h5) h3 hsz) hex q1 q2 q3 q4 q5 q6
 ·exact hv.elim
theorem z4r {o : Oper} {j : Nat} {want : Bool} (hg : o.guard = some (j, want)) (h : Agree ops o σ τ) : z0m ops σ j = z0m ops τ j := by
 unfold z0m
 cases hd : (ops[j]?).bind (·.dst) with
 | none => rfl
 | some d =>
  simp only [Option.bind_some]
  rw [h.slots d (by simp [Oper.looksAt, hg, hd])]
theorem z2P {o : Oper} {d : Nat} {v : AV} (h : Agree ops o σ τ) (hv : dY P T ops o d v σ) : dY P T ops o d v τ := by
 obtain ⟨h1, h2, h3⟩ := hv
 refine ⟨h1, by rw [← h.n]; exact h2, ?_⟩
 split
 ·rename_i hg
  rw [hg] at h3
  exact z8f h h3
 ·rename_i j want hg
  rw [hg] at h3
  simp only at h3
  rw [← z4r hg h]
  obtain ⟨k1, v0, k2, k3⟩ := h3
  exact ⟨k1, v0, k2, fun hh => (k3 hh).imp (z8f h) (zbw h)⟩
theorem z96 (hT : TabOk P T) {o : Oper} {d : Nat} {v : AV} (h : SimS W0 M0 F σ a w) (hv : dY P T ops o d v σ) {Kc : Act → World → Prop} (hK : ∀ a' w', SimS W0 M0 F (σ.put d v) a' w' → Kc a' w') :
  if Region.wanted o (yielded ops a.tmps) = true then o.wp P a w Kc Q else Kc (a.put o.dst undef) w := by
 obtain ⟨β, h⟩ := h
 obtain ⟨hd, hdn, hv⟩ := hv
 have main : ∀ (v0 : AV), (dVal P T o v0 σ ∨ dValX T o v0 σ) → (∀ u w' β', RepV w' (Mof M0 β') β' v0 u → Sim W0 M0 F σ a w' β' → Kc (a.put o.dst u) w') → o.wp P a w Kc Q := by
  intro v0 hv0 hk
  rcases hv0 with hv0 | hv0
  rotate_left
  ·obtain ⟨u, w', r1, r2, r3⟩ := zbv (P := P) hT h hv0
   exact upon_value r1 (hk u w' β r3 r2)
  have plain : needs σ o.op.operands.toList ∧ (aval T σ.H o.op σ.evs).1 ∧ v0 = (aval T σ.H o.op σ.evs).2 → o.wp P a w Kc Q := by
   rintro ⟨h1, h2, rfl⟩
   obtain ⟨u, w', r1, r2, r3⟩ := z3p (P := P) hT h h1 h2
   exact upon_value r1 (hk u w' β r3 r2)
  unfold dVal at hv0
  split at hv0
  ·rename_i c x y ho
   obtain ⟨k1, rfl⟩ := hv0
   obtain ⟨u, r1, r2⟩ := z3S (P := P) h ho k1
   exact upon_value r1 (hk u w β r2 h)
  ·rename_i c ho
   obtain ⟨cal, args, ats⟩ := c
   simp only at hv0
   split at hv0
   ·rename_i fo
    obtain ⟨f, as, r, h1, h2, h3, h4, rfl⟩ := hv0
    obtain ⟨vs, r1, r2⟩ := z1I (P := P) h ho h1 h2 h3.1
    unfold Oper.wp
    rw [r1]
    simp only [Oper.upon]
    refine (h.call r2 h3 h4).mono ?_
    rintro e w' ⟨u, β', rfl, hs, hr⟩
    have hs' : Sim W0 M0 F σ a w' β' := by simpa using hs
    exact hk u w' β' hr hs'
   ·rw [ho] at hv0
    exact plain (by rw [ho]; exact hv0)
  ·exact plain hv0
 split at hv
 ·rename_i hg
  rw [if_pos (by simp [Region.wanted, hg])]
  refine main v (.inl hv) fun u w' β' h1 h2 => ?_
  rw [hd]
  exact hK _ _ ⟨β', h2.put hdn h1⟩
 ·rename_i j want hg
  obtain ⟨hb, v0, rfl, hv0⟩ := hv
  rw [z6O h hg hb]
  cases hs : (z0m ops σ j).says want with
  | true =>
   rw [hs] at hK
   simp only [if_true]
   refine main v0 (hv0 hs) fun u w' β' h1 h2 => ?_
   rw [hd]
   exact hK _ _ ⟨β', h2.put hdn ⟨fun _ => h1, fun hh => by cases hh⟩⟩
  | false =>
   rw [hs] at hK
   simp only [Bool.false_eq_true, if_false]
   rw [hd]
   exact hK _ _ ⟨β, h.put hdn ⟨fun hh => (by cases hh), fun _ => rfl⟩⟩
def dAny (P : Program) (T : Tab) (md : Region.Mode) (ops : Array Oper) (K : AState → Prop) : Nat → Array Bool → AState → Prop
 | 0, listed, σ => Region.ready md ops listed = [] ∧ K σ
 | fuel + 1, listed, σ => (Region.ready md ops listed = [] → K σ) ∧ ∀ i ∈ Region.ready md ops listed, ∀ o, ops[i]? = some o → ∃ d v, dY P T ops o d v σ ∧ dAny P T md ops K fuel (listed.setIfInBounds i true) (σ.put d v)
theorem zat (hK : ∀ σ τ, Like σ τ → K σ → K τ) : ∀ (fuel : Nat) (listed : Array Bool) (σ τ : AState), Like σ τ → dAny P T md ops K fuel listed σ → dAny P T md ops K fuel listed τ
 | 0, _, _, _, h, k => ⟨k.1, hK _ _ h k.2⟩
 | fuel + 1, listed, σ, τ, h, k => ⟨fun h0 => hK _ _ h (k.1 h0), fun i hi o ho => by
  obtain ⟨d, v, h1, h2⟩ := k.2 i hi o ho
  exact ⟨d, v, z2P (h.agree o) h1, zat hK fuel _ _ _ (h.put d v) h2⟩⟩
theorem z4b (hT : TabOk P T) (hQ : ∀ σ a w, K σ → SimS W0 M0 F σ a w → Q .normal a w) : ∀ (fuel : Nat) (listed : Array Bool) (σ : AState) (a : Act) (w : World), SimS W0 M0 F σ a w → dAny P T md ops K fuel listed σ → wpAny P md ops Q fuel listed a w
 | 0, _, σ, a, w, h, k => ⟨k.1, hQ σ a w k.2 h⟩
 | fuel + 1, listed, σ, a, w, h, k => ⟨fun h0 => hQ σ a w (k.1 h0) h, fun i hi => by
  unfold wpOp
  obtain ⟨_, o, ho, _⟩ := mem_ready.1 hi
  rw [ho]
  simp only
  obtain ⟨d, v, h1, h2⟩ := k.2 i hi o ho
  have := z96 (Q := Q) hT h h1 (Kc := wpAny P md ops Q fuel (listed.setIfInBounds i true)) fun a' w' hs => z4b hT hQ fuel _ _ a' w' hs h2
  split
  ·rename_i hw; rw [if_pos hw] at this; exact .inl this
  ·rename_i hw; rw [if_neg hw] at this; exact this⟩
theorem zdT (hK : ∀ σ τ, Like σ τ → K σ → K τ) {i : Nat} {oi : Oper} {d : Nat} {v : AV} (hi : ops[i]? = some oi) :
  ∀ (fuel : Nat) (listed : Array Bool) (σ : AState),
   (∀ j oj, ops[j]? = some oj → j ≠ i → listed.getD j true = false → (∀ e ∈ oj.after, Region.binds md e = true → e.on ≠ i) → oi.apart ops oj = true) →
   i ∈ Region.ready md ops listed → dY P T ops oi d v σ →
   dAny P T md ops K fuel (listed.setIfInBounds i true) (σ.put d v) → dAny P T md ops K (fuel + 1) listed σ := by
 intro fuel
 induction fuel with
 | zero =>
  intro listed σ _ hr hy H
  refine ⟨fun h => (by rw [h] at hr; cases hr), fun j hj o ho => ?_⟩
  by_cases hji : j = i
  ·subst hji; rw [hi] at ho; cases ho; exact ⟨d, v, hy, H⟩
  ·have := ready_mono hj hji
   rw [H.1] at this
   cases this
 | succ fuel ih =>
  intro listed σ hfree hr hy H
  refine ⟨fun h => (by rw [h] at hr; cases hr), fun j hj o ho => ?_⟩
  by_cases hji : j = i
  ·subst hji; rw [hi] at ho; cases ho; exact ⟨d, v, hy, H⟩
  ·obtain ⟨dj, vj, h1, h2⟩ := H.2 j (ready_mono hj hji) o ho
   obtain ⟨hjun, oj, hoj, hall⟩ := mem_ready.1 hj
   rw [ho] at hoj
   cases hoj
   have hnot : ∀ e ∈ o.after, Region.binds md e = true → e.on ≠ i := fun e he hb heq => by
    have h1 := hall e he hb
    have h0 := (mem_ready.1 hr).1
    rw [heq] at h1
    rcases Nat.lt_or_ge i listed.size with h' | h'
    ·simp [h'] at h0 h1; rw [h0] at h1; cases h1
    ·simp [Array.getElem?_eq_none h'] at h1
   obtain ⟨a1, a2, a3⟩ := Oper.apart_spec (hfree j o ho hji hjun hnot)
   have hyj : dY P T ops o dj vj σ := by
    refine z2P (σ := σ.put d v) ⟨rfl, rfl, fun k hk => ?_⟩ h1
    exact ((z4F (a1 d hy.1) σ v).slots k hk).symm
   refine ⟨dj, vj, hyj, ih (listed.setIfInBounds j true) _ ?_ (ready_mono hr (Ne.symm hji)) (z2P (z4F (a3 dj h1.1) σ vj) hy) ?_⟩
   ·intro k ok hk hki hun hno
    refine hfree k ok hk hki ?_ hno
    by_cases hjk : j = k
    ·subst hjk; exact hjun
    ·rw [getD_set_ne true hjk] at hun; exact hun
   ·rw [Array.setIfInBounds_comm _ _ hji]
    refine zat hK _ _ _ _ (zcg σ (fun e => a2 d hy.1 (by rw [h1.1, e])) v vj) ?_
    exact h2
theorem zcM (hK : ∀ σ τ, Like σ τ → K σ → K τ) : ∀ (l : List Oper) (k : Nat) (listed : Array Bool) (σ : AState), (∀ j, l[j]? = ops[k + j]?) →
  Region.lexFrom md ops l.length k listed = true → dWalk P T ops l σ K → dAny P T md ops K l.length listed σ
 | [], _, _, _, _, hB, h => ⟨by simpa [Region.lexFrom] using hB, h⟩
 | o :: l, k, listed, σ, hl, hB, h => by
  have h0 : ops[k]? = some o := by simpa using (hl 0).symm
  simp only [List.length_cons, Region.lexFrom, Bool.and_eq_true] at hB
  obtain ⟨⟨hr, hf⟩, hB'⟩ := hB
  obtain ⟨d, v, hy, hw⟩ := h
  exact zdT hK h0 l.length listed σ (Region.free_spec h0 hf) (by simpa using hr) hy
   (zcM hK l (k + 1) _ _ (fun j => by have := hl (j + 1); simpa [Nat.add_assoc, Nat.add_comm 1 j] using this) hB' hw)
theorem z8e {K' : AState → Prop} (h : ∀ σ, K σ → K' σ) : ∀ (l : List Oper) (σ : AState), dWalk P T ops l σ K → dWalk P T ops l σ K'
 | [], _, k => h _ k
 | _ :: l, _, ⟨d, v, h1, h2⟩ => ⟨d, v, h1, z8e h l _ h2⟩
theorem zdR (hT : TabOk P T) (hm : P.follows .mixedOrders = true) {id : Nat} (h : SimS W0 M0 F σ a w) (hop : dops P T ops σ K) (hK : ∀ σ' a' w', K σ' → SimS W0 M0 F σ' a' w' → Q .normal a' w') : (Code.region id ops true).wp P Q a w := by
 obtain ⟨hB, hw⟩ := hop
 simp only [Region.lexB, Bool.and_eq_true] at hB
 refine wp_region_any hm ?_
 have h' : SimS W0 M0 F σ a { w with drawn := w.drawn + 1 } := by
  obtain ⟨β, h⟩ := h
  exact ⟨β, h.ext (w' := w.drew) (Below.drew (Below.refl _ _))⟩
 have hwalk := z8e (K' := fun σ => ∃ τ, Like τ σ ∧ K τ) (fun σ hk => ⟨σ, Like.refl σ, hk⟩) ops.toList σ hw
 have := zcM (P := P) (T := T) (md := .any) (K := fun σ => ∃ τ, Like τ σ ∧ K τ) (fun σ τ hl hk => by obtain ⟨υ, k1, k2⟩ := hk; exact ⟨υ, k1.trans hl, k2⟩) ops.toList 0 (Array.replicate ops.size false) σ (by simp) (by simpa using hB.2) hwalk
 refine z4b hT (fun σ' a' w' hk hs => ?_) ops.size _ σ a _ h' (by simpa using this)
 obtain ⟨υ, k1, k2⟩ := hk
 exact hK υ a' w' k2 (hs.like k1.symm)
end
def zfL (P : Program) (fo : Operand) (args : List Operand) (d : Nat) (σ : AState) (K : AState → Prop) : Prop :=
 match callee σ fo args with
 | some (f, as) => DCallAt P f as (as.map (AV.bor σ.H)) (needs σ (fo :: args)) d σ K
 | none => False
def dop1 (P : Program) (T : Tab) (o : Oper) (σ : AState) (K : AState → Prop) : Prop :=
 match o.dst with
 | none => False
 | some d => match o.op with
  | .pick c x y => pstep c x y d σ K
  | .call c => match c.callee with
   | .value fo => zfL P fo c.args.toList d σ K
   | _ => nstep T o.op d σ K
  | op => nstep T op d σ K
def zbu (P : Program) (g : Bool) (fo : Operand) (args : List Operand) (d : Nat) (σ : AState) (K : AState → Prop) : Prop :=
 match callee σ fo args with
 | some (f, as) => DGCallAt P g f as (as.map (AV.bor σ.H)) (needs σ (fo :: args)) d σ K
 | none => False
def gfull (T : Tab) (g : Bool) (op : Op) (d : Nat) (σ : AState) (K : AState → Prop) : Prop :=
 (d < σ.n ∧ (g = true → needs σ op.operands.toList ∧ (aval T σ.H op σ.evs).1)) ∧ K (σ.put d (.cond g (zae (aval T σ.H op σ.evs).2)))
def zbo (T : Tab) (g : Bool) (c : Call) (d : Nat) (σ : AState) (K : AState → Prop) : Prop :=
 match c.args.toList, c.argTypes.toList with
 | [s, x], [t, t'] => (match (T t).desc, σ.evs s, z0J σ.H (σ.evs x) with
  | .slice e, .one (.full rows), some news => (d < σ.n ∧ (g = true → t = t' ∧ (σ.ev s).need ∧ (σ.ev x).need ∧ appOk T e rows news)) ∧ K (σ.put d (.cond g (.one (.list (rows ++ news)))))
  | _, _, _ => False)
 | _, _ => False
def dopG (P : Program) (T : Tab) (g : Bool) (o : Oper) (σ : AState) (K : AState → Prop) : Prop :=
 match o.dst with
 | none => False
 | some d => match o.op with
  | .pick c x y => zcD g c x y d σ K
  | .call c => match c.callee with
   | .value fo => zbu P g fo c.args.toList d σ K
   | .builtin .len => z3K T g o.op d σ K
   | .builtin .max => z3K T g o.op d σ K
   | .builtin .min => z3K T g o.op d σ K
   | .builtin .append => zbo T g c d σ K
   | _ => False
  | .buildSlice t len parts => gfull T g (.buildSlice t len parts) d σ K
  | op => z3K T g op d σ K
def dop (P : Program) (T : Tab) (ops : Array Oper) (o : Oper) (σ : AState) (K : AState → Prop) : Prop :=
 match o.guard with
 | none => dop1 P T o σ K
 | some (j, want) => (z0m ops σ j).isB = true ∧ dopG P T ((z0m ops σ j).says want) o σ K
def dopsF (P : Program) (T : Tab) (ops : Array Oper) : List Oper → AState → (AState → Prop) → Prop
 | [], σ, K => K σ
 | o :: rest, σ, K => dop P T ops o σ fun σ' => dopsF P T ops rest σ' K
section
variable {P : Program} {T : Tab} {ops : Array Oper}
theorem zaq {o : Oper} {σ : AState} {K : AState → Prop} (h : dop P T ops o σ K) : ∃ d v, dY P T ops o d v σ ∧ K (σ.put d v) := by
 unfold dop at h
 split at h
 ·rename_i hg
  unfold dop1 at h
  split at h
  ·exact h.elim
  ·rename_i d hd
   have fin : ∀ v, d < σ.n → dVal P T o v σ → K (σ.put d v) → ∃ d v, dY P T ops o d v σ ∧ K (σ.put d v) := fun v h1 h2 h3 => ⟨d, v, ⟨hd, h1, by rw [hg]; exact h2⟩, h3⟩
   split at h
   ·rename_i c x y ho
    obtain ⟨⟨h1, h2⟩, h3⟩ := h
    exact fin _ h1 (by unfold dVal; rw [ho]; exact ⟨h2, rfl⟩) h3
   ·rename_i c ho
    obtain ⟨cal, args, ats⟩ := c
    simp only at h
    split at h
    ·rename_i fo
     unfold zfL at h
     split at h
     ·rename_i f as hc
      obtain ⟨r, ⟨h1, h2, h3, h4⟩, h5⟩ := h.out
      exact fin _ h1 (by unfold dVal; rw [ho]; exact ⟨f, as, r, hc, h2, h3, h4, rfl⟩) h5
     ·exact h.elim
    ·rename_i hnv
     obtain ⟨⟨h1, h2, h3⟩, h4⟩ := h
     refine fin _ h2 ?_ h4
     unfold dVal
     rw [ho] at h1 h3 ⊢
     cases cal with
     | value fo => exact absurd rfl (hnv fo)
     | _ => exact ⟨h1, h3, rfl⟩
   ·rename_i hnp hnc
    obtain ⟨⟨h1, h2, h3⟩, h4⟩ := h
    refine fin _ h2 ?_ h4
    unfold dVal
    split
    ·rename_i c x y ho; exact absurd ho (hnp c x y)
    ·rename_i c ho; exact absurd ho (hnc c)
    ·exact ⟨h1, h3, rfl⟩
 ·rename_i j want hg
  obtain ⟨hb, h⟩ := h
  unfold dopG at h
  split at h
  ·exact h.elim
  ·rename_i d hd
   have fin : ∀ v, d < σ.n → ((z0m ops σ j).says want = true → dVal P T o v σ ∨ dValX T o v σ) → K (σ.put d (.cond ((z0m ops σ j).says want) v)) → ∃ d v, dY P T ops o d v σ ∧ K (σ.put d v) :=
    fun v h1 h2 h3 => ⟨d, _, ⟨hd, h1, by rw [hg]; exact ⟨hb, v, rfl, h2⟩⟩, h3⟩
   split at h
   ·rename_i c x y ho
    obtain ⟨⟨h1, h2⟩, h3⟩ := h
    exact fin _ h1 (fun hh => .inl (by unfold dVal; rw [ho]; exact ⟨h2 hh, rfl⟩)) h3
   ·rename_i c ho
    obtain ⟨cal, args, ats⟩ := c
    simp only at h
    split at h
    ·rename_i fo
     unfold zbu at h
     split at h
     ·rename_i f as hc
      obtain ⟨r, ⟨h1, h2⟩, h5⟩ := h.out
      exact fin _ h1 (fun hh => .inl (by
       unfold dVal
       rw [ho]
       obtain ⟨k1, k2, k3⟩ := h2 hh
       exact ⟨f, as, r, hc, k1, k2, k3, rfl⟩)) h5
     ·exact h.elim
    ·obtain ⟨⟨h1, h2⟩, h4⟩ := h
     refine fin _ h1 (fun hh => .inl ?_) h4
     unfold dVal
     rw [ho] at h2 ⊢
     exact ⟨(h2 hh).1, (h2 hh).2, rfl⟩
    ·obtain ⟨⟨h1, h2⟩, h4⟩ := h
     refine fin _ h1 (fun hh => .inl ?_) h4
     unfold dVal
     rw [ho] at h2 ⊢
     exact ⟨(h2 hh).1, (h2 hh).2, rfl⟩
    ·obtain ⟨⟨h1, h2⟩, h4⟩ := h
     refine fin _ h1 (fun hh => .inl ?_) h4
     unfold dVal
     rw [ho] at h2 ⊢
     exact ⟨(h2 hh).1, (h2 hh).2, rfl⟩
    ·unfold zbo at h
     split at h
     ·rename_i s x t t' ha hat
      split at h
      ·rename_i e rows news q1 q2 q3
       obtain ⟨⟨h1, h2⟩, h4⟩ := h
       refine fin _ h1 (fun hh => .inr ?_) h4
       obtain ⟨rfl, k1, k2, k3⟩ := h2 hh
       unfold dValX
       rw [ho]
       refine ⟨s, x, t, e, rows, news, ?_, q1, q2, q3, k1, k2, k3, rfl⟩
       have ha' : args = #[s, x] := Array.ext' (by simpa using ha)
       have hat' : ats = #[t, t] := Array.ext' (by simpa using hat)
       rw [ha', hat']
      ·exact h.elim
     ·exact h.elim
    ·exact h.elim
   ·rename_i t len parts ho
    obtain ⟨⟨h1, h2⟩, h4⟩ := h
    refine fin _ h1 (fun hh => .inr ?_) h4
    unfold dValX
    rw [ho]
    exact ⟨(h2 hh).1, (h2 hh).2, rfl⟩
   ·rename_i hnp hnc _
    obtain ⟨⟨h1, h2⟩, h4⟩ := h
    refine fin _ h1 (fun hh => .inl ?_) h4
    unfold dVal
    split
    ·rename_i c x y ho; exact absurd ho (hnp c x y)
    ·rename_i c ho; exact absurd ho (hnc c)
    ·exact ⟨(h2 hh).1, (h2 hh).2, rfl⟩
theorem zcL : ∀ (l : List Oper) (σ : AState) (K : AState → Prop), dopsF P T ops l σ K → dWalk P T ops l σ K
 | [], _, _, h => h
 | _ :: l, _, K, h => by
  obtain ⟨d, v, h1, h2⟩ := zaq h
  exact ⟨d, v, h1, zcL l _ K h2⟩
end
end Go.Eng
namespace Go.Eng
open Go.RowKit
def memN (i : Nat) : List Nat → Bool
 | [] => false
 | j :: l => if i = j then true else memN i l
theorem memN_iff {i : Nat} : ∀ {l : List Nat}, memN i l = true ↔ i ∈ l
 | [] => by simp [memN]
 | j :: l => by
  simp only [memN, List.mem_cons]
  by_cases h : i = j
  ·simp [h]
  ·simp [h, memN_iff]
def isEff : Op → Bool
 | .store .. => true
 | .mapUpdate .. => true
 | .insert .. => true
 | .alloc _ => true
 | .box .. => true
 | .makeSlice .. => true
 | .makeMap .. => true
 | .call c => match c.callee with | .builtin .append => true | _ => false
 | _ => false
def zi6 : List Oper → Bool
 | [] => false
 | o :: os => isEff o.op || zi6 os
def lexI (md : Region.Mode) (ops : Array Oper) : List Nat → Array Bool → Bool
 | [], _ => true
 | i :: is, listed => (Region.ready md ops listed).contains i && Region.free md ops listed i && lexI md ops is (listed.setIfInBounds i true)
def z0a : List Nat → Array Bool → Array Bool
 | [], l => l
 | i :: is, l => z0a is (l.setIfInBounds i true)
def seqI (md : Region.Mode) (ops : Array Oper) : List Nat → Array Bool → Bool
 | [], listed => (Region.ready md ops listed).isEmpty
 | t :: ts, listed => decide (Region.ready md ops listed = [t]) && seqI md ops ts (listed.setIfInBounds t true)
def sinkI (md : Region.Mode) (ops : Array Oper) (hd : List Nat) (t0 : Nat) : Bool :=
 hd.all fun i => Region.waitsFor md ops t0 i || hd.any fun j => decide (i < j) && Region.waitsFor md ops j i
def z5A (md : Region.Mode) (ops : Array Oper) : List Nat → Bool
 | [] => true
 | [_] => true
 | t :: u :: ts => Region.waitsFor md ops u t && z5A md ops (u :: ts)
def zjV (n : Nat) (is hd tl : List Nat) : Bool := (List.range n).all fun i => memN i is || memN i hd || memN i tl
def edB (ops : Array Oper) (is hd tl : List Nat) : Bool :=
 Region.noSelect ops && lexI .any ops is (Array.replicate ops.size false) && lexI .any ops hd (z0a is (Array.replicate ops.size false)) &&
 seqI .any ops tl (z0a hd (z0a is (Array.replicate ops.size false))) && (match tl with | [] => false | t0 :: _ => sinkI .any ops hd t0) && z5A .any ops tl && zjV ops.size is hd tl &&
 tl.all (fun t => !(z0a hd (z0a is (Array.replicate ops.size false))).getD t true) && decide (tl.all (fun t => decide (t < ops.size)) = true) && hd.all (fun t => decide (t < ops.size)) && decide (hd.length + tl.length + is.length = ops.size)
def iStep (T : Tab) (o : Oper) (σ : AState) (K : AState → Prop) : Prop :=
 match o.dst with
 | none => False
 | some d => match o.op with
  | .move x => ((σ.ev x).need ∧ d < σ.n) ∧ K (σ.put d (σ.evs x))
  | .fieldAddr t x f => ((σ.ev x).need ∧ d < σ.n ∧ (z0h (T t) σ.H f (σ.evs x)).1) ∧ K (σ.put d (z0h (T t) σ.H f (σ.evs x)).2)
  | _ => False
def iWalk (T : Tab) (ops : Array Oper) : List Nat → AState → (AState → Prop) → Prop
 | [], σ, K => K σ
 | i :: is, σ, K => match ops[i]? with | some o => o.guard = none ∧ iStep T o σ (fun σ' => iWalk T ops is σ' K) | none => False
def hWalk (P : Program) (T : Tab) (ops : Array Oper) : List Nat → AState → (AState → Prop) → Prop
 | [], σ, K => K σ
 | i :: is, σ, K => match ops[i]? with | some o => dop P T ops o σ (fun σ' => hWalk P T ops is σ' K) | none => False
def tWalk (P : Program) (T : Tab) (ops : Array Oper) : List Nat → AState → (AState → Prop) → Prop
 | [], σ, K => K σ
 | i :: is, σ, K => match ops[i]? with | some o => aop P T ops o σ (fun σ' => tWalk P T ops is σ' K) | none => False
def edops (P : Program) (T : Tab) (ops : Array Oper) (is hd tl : List Nat) (σ : AState) (K : AState → Prop) : Prop :=
 edB ops is hd tl = true ∧ iWalk T ops is σ fun σ1 => hWalk P T ops hd σ1 fun σ2 => tWalk P T ops tl σ2 K
section
variable {P : Program} {T : Tab} {W0 w : World} {M0 : Nat → Prop} {F : List Value} {σ τ : AState} {a : Act} {ops : Array Oper} {md : Region.Mode} {Q : Exit → Act → World → Prop} {K : AState → Prop}
theorem z3X (hT : TabOk P T) {o : Oper} (h : SimS W0 M0 F σ a w) (hg : o.guard = none) (hs : iStep T o σ K) : ∃ v σ', Yields P ops o v a ∧ SimS W0 M0 F σ' (a.put o.dst v) w ∧ K σ' := by
 obtain ⟨β, h⟩ := h
 have hw : Region.wanted o (yielded ops a.tmps) = true := by simp [Region.wanted, hg]
 unfold iStep at hs
 split at hs
 ·exact hs.elim
 ·rename_i d hd
  split at hs
  ·rename_i x ho
   obtain ⟨⟨hn, hdn⟩, hK⟩ := hs
   exact ⟨a.eval x, _, .inl ⟨hw, fun w' => by simp [execOp, ho]⟩, ⟨β, by rw [hd]; exact h.put hdn (h.evs hn)⟩, hK⟩
  ·rename_i t x f ho
   obtain ⟨⟨hn, hdn, hf⟩, hK⟩ := hs
   obtain ⟨u, h1, h2⟩ := z1p (P := P) hT h.objs t f _ _ (h.evs hn) hf
   exact ⟨u, _, .inl ⟨hw, fun w' => by simp [execOp, ho, h1]⟩, ⟨β, by rw [hd]; exact h.put hdn h2⟩, hK⟩
  ·exact hs.elim
theorem z2K (hT : TabOk P T) (hsel : Region.noSelect ops = true) (hQ : ∀ c a w, ¬ Q (.panic c) a w) : ∀ (is : List Nat) (listed : Array Bool) (σ : AState) (a : Act) (fuel : Nat), lexI md ops is listed = true → SimS W0 M0 F σ a w → iWalk T ops is σ K →
  (∀ σ' a', K σ' → SimS W0 M0 F σ' a' w → wpAny P md ops Q fuel (z0a is listed) a' w) → wpAny P md ops Q (fuel + is.length) listed a w
 | [], listed, σ, a, fuel, _, h, hi, hk => hk σ a hi h
 | i :: is, listed, σ, a, fuel, hl, h, hi, hk => by
  simp only [lexI, Bool.and_eq_true] at hl
  obtain ⟨⟨hr, hf⟩, hl⟩ := hl
  simp only [iWalk] at hi
  cases ho : ops[i]? with
  | none => rw [ho] at hi; exact hi.elim
  | some o =>
   rw [ho] at hi
   obtain ⟨hg, hi⟩ := hi
   obtain ⟨v, σ', hy, hs, hi'⟩ := z3X (ops := ops) hT h hg hi
   rw [show fuel + (i :: is).length = (fuel + is.length) + 1 by simp only [List.length_cons]; omega]
   exact wpAny_take ho hsel hf hr (fun c a w hq => (hQ c _ w hq).elim) hy (z2K hT hsel hQ is _ σ' _ fuel hl hs hi' hk)
structure HInv (md : Region.Mode) (ops : Array Oper) (hd tl : List Nat) (listed : Array Bool) : Prop where
 size : listed.size = ops.size
 closed : ∀ j oj, ops[j]? = some oj → listed.getD j false = true → ∀ e ∈ oj.after, Region.binds md e = true → listed.getD e.on false = true
 tail : ∀ t ∈ tl, listed.getD t true = false
 cover : ∀ i, i < ops.size → listed.getD i true = false → i ∈ hd ∨ i ∈ tl
theorem HInv.set {hd tl : List Nat} {i : Nat} {listed : Array Bool} (inv : HInv md ops hd tl listed) (hi : i ∈ Region.ready md ops listed) (hit : i ∉ tl) : HInv md ops hd tl (listed.setIfInBounds i true) := by
 obtain ⟨_, oi, hoi, hall⟩ := mem_ready.1 hi
 refine ⟨by simp [inv.size], fun j oj hj hl e he hb => ?_, fun t ht => by rw [getD_set_ne true (fun (e : i = t) => hit (by rw [e]; exact ht))]; exact inv.tail t ht, fun k hk hu => ?_⟩
 ·by_cases hij : i = j
  ·subst hij
   have : oj = oi := Option.some.inj (hj.symm.trans hoi)
   subst this
   exact getD_set_true (hall e he hb)
  ·rw [getD_set_ne false hij] at hl
   exact getD_set_true (inv.closed j oj hj hl e he hb)
 ·by_cases hij : i = k
  ·subst hij
   rw [← inv.size] at hk
   simp [hk] at hu
  ·rw [getD_set_ne true hij] at hu
   exact inv.cover k hk hu
theorem zaz : ∀ {ts : List Nat} {k : Nat} {t u : Nat}, z5A md ops ts = true → ts[k]? = some t → ts[k + 1]? = some u → Region.waitsFor md ops u t = true
 | [], k, t, u, _, h, _ => by simp at h
 | [x], k, t, u, _, _, h => by simp at h
 | x :: y :: ts, 0, t, u, hc, h1, h2 => by
  simp only [z5A, Bool.and_eq_true] at hc
  simp at h1 h2
  subst h1; subst h2
  exact hc.1
 | x :: y :: ts, k + 1, t, u, hc, h1, h2 => by
  simp only [z5A, Bool.and_eq_true] at hc
  exact zaz hc.2 (by simpa using h1) (by simpa using h2)
theorem z2X {j i : Nat} {listed : Array Bool} (h : Region.waitsFor md ops j i = true) (hi : listed.getD i true = false) : j ∉ Region.ready md ops listed := by
 intro hj
 obtain ⟨oj, hoj, e, he, hb, hon⟩ := Region.waitsFor_spec h
 obtain ⟨_, o, ho, hall⟩ := mem_ready.1 hj
 have : o = oj := Option.some.inj (ho.symm.trans hoj)
 subst this
 have := hall e he hb
 rw [hon, getD_both hi] at this
 cases this
theorem zd8 {hd : List Nat} {t0 : Nat} {tl : List Nat} {listed : Array Bool} (hs : sinkI md ops hd t0 = true) (hc : z5A md ops (t0 :: tl) = true) (hsz : ∀ i ∈ hd, i < ops.size) (inv : HInv md ops hd (t0 :: tl) listed) :
  ∀ (d i : Nat), ops.size - i = d → i ∈ hd → listed.getD i true = false → ∀ t ∈ t0 :: tl, t ∉ Region.ready md ops listed := by
 intro d
 induction d using Nat.strongRecOn with
 | _ d ih =>
  intro i hd' hi hun t ht
  obtain ⟨k, hk⟩ := List.mem_iff_getElem?.1 ht
  cases k with
  | succ k =>
   obtain ⟨u, hu⟩ : ∃ u, (t0 :: tl)[k]? = some u := by
    have := (List.getElem?_eq_some_iff.1 hk).1
    exact ⟨(t0 :: tl)[k]'(by omega), List.getElem?_eq_getElem _⟩
   exact z2X (zaz hc hu hk) (inv.tail u (List.mem_of_getElem? hu))
  | zero =>
   simp at hk
   subst hk
   have h1 := List.all_eq_true.1 hs i hi
   rw [Bool.or_eq_true] at h1
   rcases h1 with h1 | h1
   ·exact z2X h1 hun
   ·obtain ⟨j, hj, hj2⟩ := List.any_eq_true.1 h1
    simp only [Bool.and_eq_true, decide_eq_true_eq] at hj2
    have hjs := hsz j hj
    have hjun : listed.getD j true = false := by
     cases hl : listed.getD j true with
     | false => rfl
     | true =>
      exfalso
      obtain ⟨oj, hoj, e, he, hb, hon⟩ := Region.waitsFor_spec hj2.2
      have hl' : listed.getD j false = true := by
       have hjl : j < listed.size := by rw [inv.size]; exact hjs
       simp [hjl] at hl ⊢; exact hl
      have := inv.closed j oj hoj hl' e he hb
      rw [hon, getD_both hun] at this
      cases this
    exact ih (ops.size - j) (by have := hsz i hi; omega) j rfl hj hjun _ ht
def dAnyL (P : Program) (T : Tab) (md : Region.Mode) (ops : Array Oper) (hd : List Nat) (L : Array Bool → AState → Prop) : Nat → Array Bool → AState → Prop
 | 0, listed, σ => L listed σ
 | f + 1, listed, σ => Region.ready md ops listed ≠ [] ∧ ∀ i ∈ Region.ready md ops listed, i ∈ hd ∧ ∀ o, ops[i]? = some o → ∃ d v, dY P T ops o d v σ ∧ dAnyL P T md ops hd L f (listed.setIfInBounds i true) (σ.put d v)
theorem z8g {hd : List Nat} {L : Array Bool → AState → Prop} (hL : ∀ l σ τ, Like σ τ → L l σ → L l τ) : ∀ (fuel : Nat) (listed : Array Bool) (σ τ : AState), Like σ τ → dAnyL P T md ops hd L fuel listed σ → dAnyL P T md ops hd L fuel listed τ
 | 0, _, _, _, h, k => hL _ _ _ h k
 | fuel + 1, listed, σ, τ, h, k => ⟨k.1, fun i hi => ⟨(k.2 i hi).1, fun o ho => by
  obtain ⟨d, v, h1, h2⟩ := (k.2 i hi).2 o ho
  exact ⟨d, v, z2P (h.agree o) h1, z8g hL fuel _ _ _ (h.put d v) h2⟩⟩⟩
theorem z3B (hT : TabOk P T) {hd : List Nat} {L : Array Bool → AState → Prop} {g : Nat} (hL : ∀ listed σ a w, L listed σ → SimS W0 M0 F σ a w → wpAny P md ops Q g listed a w) :
  ∀ (f : Nat) (listed : Array Bool) (σ : AState) (a : Act) (w : World), SimS W0 M0 F σ a w → dAnyL P T md ops hd L f listed σ → wpAny P md ops Q (f + g) listed a w
 | 0, listed, σ, a, w, h, k => by rw [Nat.zero_add]; exact hL _ _ _ _ k h
 | f + 1, listed, σ, a, w, h, k => by
  rw [show f + 1 + g = (f + g) + 1 by omega]
  refine ⟨fun h0 => absurd h0 k.1, fun i hi => ?_⟩
  unfold wpOp
  obtain ⟨_, o, ho, _⟩ := mem_ready.1 hi
  rw [ho]
  simp only
  obtain ⟨d, v, h1, h2⟩ := (k.2 i hi).2 o ho
  have := z96 (Q := Q) hT h h1 (Kc := wpAny P md ops Q (f + g) (listed.setIfInBounds i true)) fun a' w' hs => z3B hT hL f _ _ a' w' hs h2
  split
  ·rename_i hw; rw [if_pos hw] at this; exact .inl this
  ·rename_i hw; rw [if_neg hw] at this; exact this
theorem zbx {hd : List Nat} {t0 : Nat} {tl : List Nat} {L : Array Bool → AState → Prop} (hL : ∀ l σ τ, Like σ τ → L l σ → L l τ) (hs : sinkI md ops hd t0 = true) (hc : z5A md ops (t0 :: tl) = true) (hsz : ∀ i ∈ hd, i < ops.size)
  (hdone : ∀ listed σ, L listed σ → ∀ j ∈ Region.ready md ops listed, j ∈ t0 :: tl) {i : Nat} {oi : Oper} {d : Nat} {v : AV} (hi : ops[i]? = some oi) (hin : i ∈ hd) (hdt : ∀ i ∈ hd, i ∉ t0 :: tl) :
  ∀ (fuel : Nat) (listed : Array Bool) (σ : AState), HInv md ops hd (t0 :: tl) listed →
   (∀ j oj, ops[j]? = some oj → j ≠ i → listed.getD j true = false → (∀ e ∈ oj.after, Region.binds md e = true → e.on ≠ i) → oi.apart ops oj = true) →
   i ∈ Region.ready md ops listed → dY P T ops oi d v σ →
   dAnyL P T md ops hd L fuel (listed.setIfInBounds i true) (σ.put d v) → dAnyL P T md ops hd L (fuel + 1) listed σ := by
 have inHead : ∀ (listed : Array Bool), HInv md ops hd (t0 :: tl) listed → i ∈ Region.ready md ops listed → ∀ j ∈ Region.ready md ops listed, j ∈ hd := by
  intro listed inv hr j hj
  obtain ⟨hju, oj, hoj, _⟩ := mem_ready.1 hj
  have hjs : j < ops.size := (Array.getElem?_eq_some_iff.1 hoj).1
  rcases inv.cover j hjs hju with h | h
  ·exact h
  ·exact absurd hj (zd8 hs hc hsz inv _ i rfl hin (mem_ready.1 hr).1 j h)
 intro fuel
 induction fuel with
 | zero =>
  intro listed σ inv _ hr hy H
  refine ⟨fun h => (by rw [h] at hr; cases hr), fun j hj => ?_⟩
  have hjh := inHead listed inv hr j hj
  refine ⟨hjh, fun o ho => ?_⟩
  by_cases hji : j = i
  ·subst hji; rw [hi] at ho; cases ho; exact ⟨d, v, hy, H⟩
  ·exact absurd (hdone _ _ H j (ready_mono hj hji)) (hdt j hjh)
 | succ fuel ih =>
  intro listed σ inv hfree hr hy H
  refine ⟨fun h => (by rw [h] at hr; cases hr), fun j hj => ?_⟩
  have hjh := inHead listed inv hr j hj
  refine ⟨hjh, fun o ho => ?_⟩
  by_cases hji : j = i
  ·subst hji; rw [hi] at ho; cases ho; exact ⟨d, v, hy, H⟩
  ·obtain ⟨dj, vj, h1, h2⟩ := (H.2 j (ready_mono hj hji)).2 o ho
   obtain ⟨hjun, oj, hoj, hall⟩ := mem_ready.1 hj
   rw [ho] at hoj
   cases hoj
   have hnot : ∀ e ∈ o.after, Region.binds md e = true → e.on ≠ i := fun e he hb heq => by
    have h1 := hall e he hb
    rw [heq, getD_both (mem_ready.1 hr).1] at h1
    cases h1
   obtain ⟨a1, a2, a3⟩ := Oper.apart_spec (hfree j o ho hji hjun hnot)
   have hyj : dY P T ops o dj vj σ := by
    refine z2P (σ := σ.put d v) ⟨rfl, rfl, fun k hk => ?_⟩ h1
    exact ((z4F (a1 d hy.1) σ v).slots k hk).symm
   refine ⟨dj, vj, hyj, ih (listed.setIfInBounds j true) _ (inv.set hj (hdt j hjh)) ?_ (ready_mono hr (Ne.symm hji)) (z2P (z4F (a3 dj h1.1) σ vj) hy) ?_⟩
   ·intro k ok hk hki hun hno
    refine hfree k ok hk hki ?_ hno
    by_cases hjk : j = k
    ·subst hjk; exact hjun
    ·rw [getD_set_ne true hjk] at hun; exact hun
   ·rw [Array.setIfInBounds_comm _ _ hji]
    exact z8g hL _ _ _ _ (zcg σ (fun e => a2 d hy.1 (by rw [h1.1, e])) v vj) h2
theorem zau {hd : List Nat} {t0 : Nat} {tl : List Nat} {L : Array Bool → AState → Prop} (hL : ∀ l σ τ, Like σ τ → L l σ → L l τ) (hs : sinkI md ops hd t0 = true) (hc : z5A md ops (t0 :: tl) = true) (hsz : ∀ i ∈ hd, i < ops.size)
  (hdone : ∀ listed σ, L listed σ → ∀ j ∈ Region.ready md ops listed, j ∈ t0 :: tl) (hdt : ∀ i ∈ hd, i ∉ t0 :: tl) :
  ∀ (l : List Nat) (listed : Array Bool) (σ : AState), (∀ i ∈ l, i ∈ hd) → HInv md ops hd (t0 :: tl) listed → lexI md ops l listed = true → hWalk P T ops l σ K → (∀ τ, K τ → L (z0a l listed) τ) → dAnyL P T md ops hd L l.length listed σ
 | [], listed, σ, _, _, _, hw, hk => hk σ hw
 | i :: l, listed, σ, hsub, inv, hB, hw, hk => by
  simp only [lexI, Bool.and_eq_true] at hB
  obtain ⟨⟨hr, hf⟩, hB'⟩ := hB
  have hr' : i ∈ Region.ready md ops listed := by simpa using hr
  simp only [hWalk] at hw
  cases ho : ops[i]? with
  | none => rw [ho] at hw; exact hw.elim
  | some o =>
   rw [ho] at hw
   obtain ⟨d, v, hy, hw'⟩ := zaq hw
   have hin := hsub i (by simp)
   exact zbx hL hs hc hsz hdone ho hin hdt l.length listed σ inv (Region.free_spec ho hf) hr' hy
    (zau hL hs hc hsz hdone hdt l _ _ (fun j hj => hsub j (by simp [hj])) (inv.set hr' (hdt i hin)) hB' hw' hk)
theorem z6b (hT : TabOk P T) : ∀ (ts : List Nat) (listed : Array Bool) (σ : AState) (a : Act) (w : World), seqI md ops ts listed = true → SimS W0 M0 F σ a w → tWalk P T ops ts σ K → (∀ σ' a' w', K σ' → SimS W0 M0 F σ' a' w' → Q .normal a' w') → wpAny P md ops Q ts.length listed a w
 | [], listed, σ, a, w, hB, h, hw, hk => ⟨by simpa [seqI] using hB, hk _ _ _ hw h⟩
 | t :: ts, listed, σ, a, w, hB, h, hw, hk => by
  simp only [seqI, Bool.and_eq_true, decide_eq_true_eq] at hB
  refine ⟨fun h1 => (by rw [hB.1] at h1; cases h1), fun i hi => ?_⟩
  rw [hB.1] at hi
  have hit : i = t := by simpa using hi
  subst hit
  simp only [tWalk] at hw
  cases ho : ops[i]? with
  | none => rw [ho] at hw; exact hw.elim
  | some o =>
   rw [ho] at hw
   have := z2y (Q := Q) hT h hw (Kc := wpAny P md ops Q ts.length (listed.setIfInBounds i true)) fun σ' a' w' h1 h2 => z6b hT ts _ σ' a' w' hB.2 h2 h1 hk
   unfold wpOp
   rw [ho]
   simp only
   split
   ·rename_i hw'; rw [if_pos hw'] at this; exact .inl this
   ·rename_i hw'; rw [if_neg hw'] at this; exact this
theorem z17 : ∀ (is : List Nat) (l : Array Bool), (z0a is l).size = l.size
 | [], _ => rfl
 | i :: is, l => by simp [z0a, z17 is]
theorem z6r : ∀ (is : List Nat) (l : Array Bool) (j : Nat), l.getD j false = true → (z0a is l).getD j false = true
 | [], _, _, h => h
 | i :: is, l, j, h => z6r is _ j (getD_set_true h)
theorem z4N : ∀ (is : List Nat) (l : Array Bool) (j : Nat), j < l.size → j ∈ is → (z0a is l).getD j false = true
 | i :: is, l, j, hj, h => by
  simp only [List.mem_cons] at h
  rcases h with rfl | h
  ·exact z6r is _ j (by simp [hj])
  ·exact z4N is _ j (by simpa using hj) h
theorem z6q : ∀ (is : List Nat) (l : Array Bool) (j : Nat), (z0a is l).getD j true = false → l.getD j true = false ∧ (j < l.size → j ∉ is)
 | [], _, _, h => ⟨h, fun _ => by simp⟩
 | i :: is, l, j, h => by
  obtain ⟨h1, h2⟩ := z6q is _ j h
  by_cases hij : i = j
  ·subst hij
   rcases Nat.lt_or_ge i l.size with hl | hl
   ·simp [hl] at h1
   ·simp [Array.getElem?_eq_none hl] at h1
  ·rw [getD_set_ne true hij] at h1
   exact ⟨h1, fun hj => by simp only [List.mem_cons, not_or]; exact ⟨fun e => hij e.symm, h2 (by simpa using hj)⟩⟩
theorem z3w : ∀ (is : List Nat) (listed : Array Bool), lexI md ops is listed = true → (∀ j oj, ops[j]? = some oj → listed.getD j false = true → ∀ e ∈ oj.after, Region.binds md e = true → listed.getD e.on false = true) →
  ∀ j oj, ops[j]? = some oj → (z0a is listed).getD j false = true → ∀ e ∈ oj.after, Region.binds md e = true → (z0a is listed).getD e.on false = true
 | [], _, _, h => h
 | i :: is, listed, hl, h => by
  simp only [lexI, Bool.and_eq_true] at hl
  have hr : i ∈ Region.ready md ops listed := by simpa using hl.1.1
  obtain ⟨_, oi, hoi, hall⟩ := mem_ready.1 hr
  refine z3w is _ hl.2 fun j oj hj hlj e he hb => ?_
  by_cases hij : i = j
  ·subst hij
   have : oj = oi := Option.some.inj (hj.symm.trans hoi)
   subst this
   exact getD_set_true (hall e he hb)
  ·rw [getD_set_ne false hij] at hlj
   exact getD_set_true (h j oj hj hlj e he hb)
theorem zbq (hT : TabOk P T) (hm : P.follows .mixedOrders = true) {id : Nat} {is hd tl : List Nat} (hK : ∀ σ τ, Like σ τ → K σ → K τ) (h : SimS W0 M0 F σ a w) (hop : edops P T ops is hd tl σ K) (hq : ∀ σ' a' w', K σ' → SimS W0 M0 F σ' a' w' → Q .normal a' w') : (Code.region id ops true).wp P Q a w := by
 obtain ⟨hB, hw⟩ := hop
 simp only [edB, Bool.and_eq_true, decide_eq_true_eq] at hB
 obtain ⟨⟨⟨⟨⟨⟨⟨⟨⟨⟨hsel, hli⟩, hlh⟩, hsq⟩, hsink⟩, hch⟩, hcov⟩, htl⟩, htsz⟩, hhsz⟩, hnum⟩ := hB
 cases tl with
 | nil => cases hsink
 | cons t0 tl =>
  simp only at hsink
  have hsz : ∀ i ∈ hd, i < ops.size := fun i hi => by have := List.all_eq_true.1 hhsz i hi; simpa using this
  have hts : ∀ i ∈ t0 :: tl, i < ops.size := fun i hi => by have := List.all_eq_true.1 htsz i hi; simpa using this
  have htun : ∀ t ∈ t0 :: tl, (z0a hd (z0a is (Array.replicate ops.size false))).getD t true = false := fun t ht => by have := List.all_eq_true.1 htl t ht; simpa using this
  have hdt : ∀ i ∈ hd, i ∉ t0 :: tl := fun i hi ht => by
   have h1 := htun i ht
   have h2 := z4N hd (z0a is (Array.replicate ops.size false)) i (by rw [z17]; simp; exact hsz i hi) hi
   rw [getD_both h1] at h2
   cases h2
  obtain ⟨Q', hQ'⟩ : ∃ Q' : Exit → Act → World → Prop, Q' = fun e a w => e = .normal ∧ Q .normal a w := ⟨_, rfl⟩
  have hmono : ∀ e a w, Q' e a w → Q e a w := fun e a w hh => by rw [hQ'] at hh; obtain ⟨rfl, h2⟩ := hh; exact h2
  have hnp : ∀ c a w, ¬ Q' (.panic c) a w := fun c a w hh => by rw [hQ'] at hh; cases hh.1
  have hdrew : SimS W0 M0 F σ a { w with drawn := w.drawn + 1 } := by
   obtain ⟨β, h⟩ := h
   exact ⟨β, h.ext (w' := w.drew) (Below.drew (Below.refl _ _))⟩
  have hun0 : ∀ j, (Array.replicate ops.size false).getD j false = false := fun j => getD_replicate_false _ _
  have inv0 : HInv .any ops hd (t0 :: tl) (z0a is (Array.replicate ops.size false)) := by
   refine ⟨by rw [z17]; simp, z3w is _ hli (fun j oj _ hl => by rw [hun0] at hl; cases hl), fun t ht => ?_, fun i hi hu => ?_⟩
   ·exact (z6q hd _ t (htun t ht)).1
   ·have h1 := List.all_eq_true.1 hcov i (List.mem_range.2 hi)
    simp only [Bool.or_eq_true, memN_iff] at h1
    rcases h1 with (h1 | h1) | h1
    ·exact absurd h1 ((z6q is _ i hu).2 (by simpa using hi))
    ·exact .inl h1
    ·exact .inr h1
  have key : wpAny P .any ops Q' ((hd.length + (t0 :: tl).length) + is.length) (Array.replicate ops.size false) a { w with drawn := w.drawn + 1 } := by
   refine z2K (K := fun σ1 => hWalk P T ops hd σ1 fun σ2 => tWalk P T ops (t0 :: tl) σ2 K) hT hsel hnp is _ σ a _ hli hdrew hw fun σ1 a1 hw1 hs1 => ?_
   have hlex := zau (K := fun σ2 => tWalk P T ops (t0 :: tl) σ2 K) (L := fun l τ => l = z0a hd (z0a is (Array.replicate ops.size false)) ∧ ∃ τ0, Like τ0 τ ∧ tWalk P T ops (t0 :: tl) τ0 K) (fun l σ τ hl hh => ⟨hh.1, by obtain ⟨τ0, k1, k2⟩ := hh.2; exact ⟨τ0, k1.trans hl, k2⟩⟩) hsink hch hsz
    (fun l τ hh j hj => by
     rw [hh.1] at hj
     simp only [seqI, Bool.and_eq_true, decide_eq_true_eq] at hsq
     rw [hsq.1] at hj
     simp at hj
     simp [hj]) hdt hd _ σ1 (fun i hi => hi) inv0 hlh hw1 (fun τ hτ => ⟨rfl, τ, Like.refl τ, hτ⟩)
   refine z3B (Q := Q') hT (fun l τ a2 w2 hh hs2 => ?_) hd.length _ σ1 a1 _ hs1 hlex
   obtain ⟨rfl, τ0, k1, k2⟩ := hh
   exact z6b (Q := Q') hT (t0 :: tl) _ τ0 a2 w2 hsq (hs2.like k1.symm) k2 (fun σ' a' w' k3 k4 => by rw [hQ']; exact ⟨rfl, hq σ' a' w' k3 k4⟩)
  rw [hnum] at key
  exact wp_mono (wp_region_any hm key) hmono
end
end Go.Eng
namespace Go.Eng
open Go.RowKit
def D.tagsLt0 (m : Nat) : D → Bool
 | .own t => t < m
 | .vp t _ => t < m
 | .rp t _ _ _ => t < m
 | .mp t => t < m
 | _ => true
def D.tagsLt (m : Nat) : D → Bool
 | .clo _ caps => caps.all (D.tagsLt0 m)
 | d => d.tagsLt0 m
def AV.tagsLt (m : Nat) : AV → Bool
 | .one d => d.tagsLt m
 | .agg ds => ds.all (D.tagsLt m)
 | .tup vs => vs.all fun | .one d => d.tagsLt m | .agg ds => ds.all (D.tagsLt m) | .any => true | _ => false
 | .cond _ (.one d) => d.tagsLt m
 | .cond _ (.agg ds) => ds.all (D.tagsLt m)
 | .any => true
 | _ => false
def AObj.tagsLt (m : Nat) : AObj → Bool
 | .var _ cs => cs.all (D.tagsLt m)
 | .map _ kvs => kvs.all fun kv => kv.1.tagsLt m && kv.2.tagsLt m
 | _ => true
def z5M (σ : AState) (m : Nat) : List (Nat × AV) → Prop
 | [] => True
 | (i, v) :: r => (lookS σ.slots i = some v ∧ v.tagsLt m = true) ∧ z5M σ m r
def zeu (m : Nat) (o : AObj) : AObj → Prop
 | .gone => True
 | p => o = p ∧ p.tagsLt m = true
def subH (m : Nat) : List AObj → List AObj → Prop
 | _, [] => True
 | [], _ :: _ => False
 | o :: os, p :: ps => zeu m o p ∧ subH m os ps
def SubA (σ τ : AState) : Prop := (σ.n = τ.n ∧ (σ.pin = τ.pin ∧ τ.pin ≤ τ.H.length) ∧ z5M σ τ.H.length τ.slots) ∧ subH τ.H.length σ.H τ.H
def isRow : AObj → Bool | .row .. => true | _ => false
def isVar : AObj → Bool | .var .. => true | _ => false
def D.tags0 : D → List Nat
 | .own t => [t]
 | .vp t _ => [t]
 | .rp t _ _ _ => [t]
 | .mp t => [t]
 | _ => []
def D.tags : D → List Nat
 | .clo _ caps => caps.flatMap D.tags0
 | d => d.tags0
def AV.tags : AV → List Nat
 | .one d => d.tags
 | .agg ds => ds.flatMap D.tags
 | .tup vs => vs.flatMap fun | .one d => d.tags | .agg ds => ds.flatMap D.tags | _ => []
 | .cond _ (.one d) => d.tags
 | .cond _ (.agg ds) => ds.flatMap D.tags
 | _ => []
def AObj.tags : AObj → List Nat
 | .var _ cs => cs.flatMap D.tags
 | _ => []
def z5N : List (Nat × AV) → List Nat
 | [] => []
 | s :: l => s.2.tags ++ z5N l
def z8L : List AObj → List Nat
 | [] => []
 | o :: l => o.tags ++ z8L l
def z9t (p : AObj → Bool) (used : List Nat) : Nat → List AObj → List Nat
 | _, [] => []
 | k, o :: os => if (p o && memN k used) = true then k :: z9t p used (k + 1) os else z9t p used (k + 1) os
def z5W : Nat → List AObj → List AObj
 | 0, l => l
 | n + 1, l => match l with | [] => [] | _ :: os => z5W n os
def zbd (m : Nat) (used : List Nat) (H : List AObj) : List Nat := z9t isRow used m (z5W m H) ++ z9t isVar used m (z5W m H)
def pickS (σ : AState) : List Nat → List (Nat × AV)
 | [] => []
 | i :: l => match lookS σ.slots i with | some v => (i, v) :: pickS σ l | none => pickS σ l
def z8z : List (Nat × AV) → List Nat
 | [] => []
 | s :: l => s.1 :: z8z l
def AState.pare (m : Nat) (is : List Nat) (σ : AState) : AState := AState.freezeAll (zbd m (z5N (pickS σ is) ++ z8L σ.H) σ.H) { n := σ.n, slots := pickS σ is, H := σ.H, pin := σ.pin }
def SubF (σ τ : AState) : Prop := SubA (σ.pare τ.H.length (z8z τ.slots)) τ
inductive Thaw where
 | slot (i e sz : Nat) | cell (o off e sz : Nat)
def AState.thaw1 (σ : AState) : Thaw → AState
 | .slot i e sz => { n := σ.n, slots := (i, .one (.own σ.H.length)) :: σ.slots, H := σ.H ++ [.row e sz []], pin := σ.pin }
 | .cell o off e sz => match σ.H[o]? with | some (.var et cs) => { n := σ.n, slots := σ.slots, H := σ.H.set o (.var et (cs.set off (.own σ.H.length))) ++ [.row e sz []], pin := σ.pin } | _ => σ
def zc0 (σ : AState) : Thaw → Prop
 | .slot i _ _ => lookS σ.slots i = some (.one .nil)
 | .cell o off _ _ => match σ.H[o]? with | some (.var _ cs) => cs[off]? = some .nil | _ => False
def AState.thaw : List Thaw → AState → AState
 | [], σ => σ
 | t :: ts, σ => AState.thaw ts (σ.thaw1 t)
def z4J : List Thaw → AState → Prop
 | [], _ => True
 | t :: ts, σ => zc0 σ t ∧ z4J ts (σ.thaw1 t)
section
variable {P : Program} {T : Tab} {W0 w : World} {M M' M0 : Nat → Prop} {F : List Value} {σ τ : AState} {a : Act} {β β' : List Value} {m : Nat}
structure Cut (w : World) (M : Nat → Prop) (β : List Value) (m : Nat) (M' : Nat → Prop) (β' : List Value) : Prop where
 keeps : Keeps w M w M'
 tags : ∀ (t : Nat) (h : Value), t < m → β[t]? = some h → β'[t]? = some h
theorem RepC0.cut (hg : Cut w M β m M' β') {d : D} {v : Value} (h : RepC0 w M β d v) (ht : d.tagsLt0 m = true) : RepC0 w M' β' d v := by
 cases d
 case unk => exact h
 case own t => exact ⟨h.1.imp (hg.tags _ _ (by simpa [D.tagsLt0] using ht)) (hg.tags _ _ (by simpa [D.tagsLt0] using ht)), h.2⟩
 case vp t off =>
  rcases h with ⟨g, h1, h2⟩ | h
  ·exact .inl ⟨g, hg.tags _ _ (by simpa [D.tagsLt0] using ht) h1, h2⟩
  ·exact .inr ⟨hg.tags _ _ (by simpa [D.tagsLt0] using ht) h.1, h.2⟩
 case rp t i sz sub =>
  rcases h with ⟨g, n, c, h1, h2⟩ | h
  ·exact .inl ⟨g, n, c, hg.tags _ _ (by simpa [D.tagsLt0] using ht) h1, h2⟩
  ·exact .inr ⟨hg.tags _ _ (by simpa [D.tagsLt0] using ht) h.1, h.2⟩
 case mp t =>
  rcases h with ⟨g, h1, h2⟩ | h
  ·exact .inl ⟨g, hg.tags _ _ (by simpa [D.tagsLt0] using ht) h1, h2⟩
  ·exact .inr ⟨hg.tags _ _ (by simpa [D.tagsLt0] using ht) h.1, h.2⟩
 all_goals (simp only [RepC0] at h ⊢; exact RepD.keep hg.keeps _ _ h)
theorem RepC.cut (hg : Cut w M β m M' β') {d : D} {v : Value} (h : RepC w M β d v) (ht : d.tagsLt m = true) : RepC w M' β' d v := by
 cases d
 case clo f caps =>
  obtain ⟨vs, h1, h2, h3⟩ := h
  simp only [D.tagsLt, List.all_eq_true] at ht
  exact ⟨vs, h1, h2, fun i d u a b => (h3 i d u a b).cut hg (ht d (List.mem_of_getElem? a))⟩
 all_goals (simp only [RepC] at h ⊢; exact h.cut hg ht)
theorem RepCL.cut (hg : Cut w M β m M' β') {ds : List D} {vs : List Value} (h : RepCL w M β ds vs) (ht : ds.all (D.tagsLt m) = true) : RepCL w M' β' ds vs := by
 rw [List.all_eq_true] at ht
 exact ⟨h.1, fun i d u a b => (h.2 i d u a b).cut hg (ht d (List.mem_of_getElem? a))⟩
theorem RepV.cut (hg : Cut w M β m M' β') (x : AV) (v : Value) (h : RepV w M β x v) (ht : x.tagsLt m = true) : RepV w M' β' x v := by
 cases x with
 | one d => exact RepC.cut (d := d) hg h ht
 | agg ds => obtain ⟨vs, h1, h2⟩ := h; exact ⟨vs, h1, h2.cut hg ht⟩
 | tup avs =>
  obtain ⟨vs, e, hl⟩ := h
  have hg' := RepVL.get avs vs hl
  simp only [AV.tagsLt, List.all_eq_true] at ht
  refine ⟨vs, e, RepVL.mk _ _ hg'.1 fun i b u hb hu => ?_⟩
  have h1 := hg'.2 i b u hb hu
  have h3 := ht b (List.mem_of_getElem? hb)
  cases b with
  | one d => exact RepC.cut (d := d) hg h1 h3
  | agg ds => obtain ⟨vs, e1, e2⟩ := h1; exact ⟨vs, e1, e2.cut hg h3⟩
  | any => exact trivial
  | _ => cases h3
 | cond g y =>
  cases y with
  | one d => exact ⟨fun hh => RepC.cut (d := d) hg (h.1 hh) ht, h.2⟩
  | agg ds => exact ⟨fun hh => by obtain ⟨vs, h1, h2⟩ := h.1 hh; exact ⟨vs, h1, h2.cut hg ht⟩, h.2⟩
  | _ => cases ht
 | any => exact trivial
theorem ObjRep.cut (hg : Cut w M β m M' β') {o : AObj} {h : Value} (hr : ObjRep w M β o h) (ht : o.tagsLt m = true) : ObjRep w M' β' o h := by
 cases o with
 | gone => exact trivial
 | row e sz rows =>
  obtain ⟨A, c, h1, h2, h3, h4⟩ := hr
  refine ⟨A, c, h1, h2, h3, ?_⟩
  rcases h4 with h4 | ⟨hc0, g, cur, rfl, h5, h6, h7⟩
  ·exact .inl h4
  ·exact .inr ⟨hc0, g, cur, rfl, h5, h6, h7.keeps hg.keeps fun vs o x => x⟩
 | var e cs =>
  obtain ⟨g, cur, h1, h2, h3⟩ := hr
  exact ⟨g, cur, h1, h2, h3.cut hg ht⟩
 | map kd kvs =>
  obtain ⟨hp, g, es, clk, h1, h2, h3, h4⟩ := hr
  simp only [AObj.tagsLt, List.all_eq_true, Bool.and_eq_true] at ht
  exact ⟨hp, g, es, clk, h1, h2, h3, fun i kv e a b => ⟨RepV.cut hg _ _ (h4 i kv e a b).1 (ht kv (List.mem_of_getElem? a)).1, RepV.cut hg _ _ (h4 i kv e a b).2 (ht kv (List.mem_of_getElem? a)).2⟩⟩
theorem z3E : ∀ (l : List (Nat × AV)) (i : Nat) (v : AV), z5M σ m l → lookS l i = some v → lookS σ.slots i = some v ∧ v.tagsLt m = true
 | [], i, v, _, h => by simp [lookS] at h
 | (j, u) :: l, i, v, hs, h => by
  simp only [lookS] at h
  split at h
  ·rename_i hj
   subst hj
   cases h
   exact hs.1
  ·exact z3E l i v hs.2 h
theorem zc8 : ∀ (os ps : List AObj) (t : Nat) (p : AObj), subH m os ps → ps[t]? = some p → ∃ o, os[t]? = some o ∧ zeu m o p
 | _, [], t, p, _, h => by simp at h
 | [], q :: ps, t, p, hs, _ => hs.elim
 | o :: os, q :: ps, t, p, hs, h => by
  cases t with
  | zero => simp at h; subst h; exact ⟨o, rfl, hs.1⟩
  | succ t => simpa using zc8 os ps t p hs.2 (by simpa using h)
theorem z6g : ∀ (os ps : List AObj), subH m os ps → ps.length ≤ os.length
 | _, [], _ => Nat.zero_le _
 | [], q :: ps, h => h.elim
 | o :: os, q :: ps, h => by simpa using z6g os ps h.2
theorem Sim.sub (h : Sim W0 M0 F σ a w β) (hs : SubA σ τ) : ∃ β', Sim W0 M0 F τ a w β' := by
 obtain ⟨⟨hn, ⟨hp1, hp2⟩, hsl⟩, hH⟩ := hs
 have hlen := z6g _ _ hH
 have hown : ∀ g, owned (β.take τ.H.length) g → owned β g := by
  rintro g ⟨t, x, h1, h2⟩
  rw [List.getElem?_take] at h1
  split at h1
  ·exact ⟨t, x, h1, h2⟩
  ·cases h1
 have hC : Cut w (Mof M0 β) β τ.H.length (Mof M0 (β.take τ.H.length)) (β.take τ.H.length) := by
  refine ⟨⟨Nat.le_refl _, fun _ _ _ => rfl, fun g _ hm hm' => hm ?_⟩, fun t x ht hx => by rw [List.getElem?_take, if_pos ht]; exact hx⟩
  rcases hm' with hm' | hm'
  ·exact .inl hm'
  ·exact .inr (hown g hm')
 refine ⟨β.take τ.H.length, h.below, h.m0, by rw [List.length_take, h.len]; omega, ?_, fun g hg => h.fresh g (hown g hg), ?_, fun i v hv => ?_, by rw [h.size, hn], h.defers, h.out, by rw [← hp1]; exact h.pins.1, fun t ht => ?_⟩
 ·intro t p x hp hx
  rw [List.getElem?_take] at hx
  split at hx
  ·obtain ⟨o, ho, hso⟩ := zc8 _ _ t p hH hp
   cases p with
   | gone => exact trivial
   | _ =>
    obtain ⟨rfl, ht⟩ := hso
    exact (h.objs t _ x ho hx).cut hC ht
  ·cases hx
 ·intro t t' x x' g h1 h2 h3 h4
  rw [List.getElem?_take] at h1 h2
  split at h1 <;> split at h2 <;> first | (cases h1; done) | (cases h2; done) | exact h.dist t t' x x' g h1 h2 h3 h4
 ·obtain ⟨h1, h2⟩ := z3E _ _ _ hsl hv
  obtain ⟨x, hx, hr⟩ := h.slots i v h1
  exact ⟨x, hx, RepV.cut hC v x hr h2⟩
 ·rw [List.getElem?_take, if_pos (Nat.lt_of_lt_of_le ht hp2)]
  exact h.pins.2 t (by rw [hp1]; exact ht)
theorem Sim.weaken (h : Sim W0 M0 F σ a w β) {l : List (Nat × AV)} (hl : ∀ i v, lookS l i = some v → lookS σ.slots i = some v) : Sim W0 M0 F { n := σ.n, slots := l, H := σ.H, pin := σ.pin } a w β :=
 ⟨h.below, h.m0, h.len, h.objs, h.fresh, h.dist, fun i v hv => h.slots i v (hl i v hv), h.size, h.defers, h.out, h.pins⟩
theorem z4P : ∀ (is : List Nat) (i : Nat) (v : AV), lookS (pickS σ is) i = some v → lookS σ.slots i = some v
 | [], i, v, h => by cases h
 | j :: is, i, v, h => by
  simp only [pickS] at h
  cases hj : lookS σ.slots j with
  | none => rw [hj] at h; exact z4P is i v h
  | some u =>
   rw [hj] at h
   simp only [lookS] at h
   split at h
   ·rename_i e; subst e; cases h; exact hj
   ·exact z4P is i v h
theorem Sim.pare (h : Sim W0 M0 F σ a w β) (m : Nat) (is : List Nat) : ∃ β', Sim W0 M0 F (σ.pare m is) a w β' := Sim.freezeAll _ _ β (h.weaken (z4P is))
theorem Sim.subF (h : Sim W0 M0 F σ a w β) (hs : SubF σ τ) : ∃ β', Sim W0 M0 F τ a w β' := by
 obtain ⟨β1, h1⟩ := h.pare τ.H.length (z8z τ.slots)
 exact h1.sub hs
theorem Sim.thaw1 (h : Sim W0 M0 F σ a w β) (t : Thaw) (ht : zc0 σ t) : ∃ β', Sim W0 M0 F (σ.thaw1 t) a w β' := by
 have push : ∀ (e sz : Nat) (A : Option Addr), Sim W0 M0 F { σ with H := σ.H ++ [.row e sz []] } a w (β ++ [.slice A 0 0]) := fun e sz A =>
  h.push (Hn := [.row e sz []]) (βn := [.slice A 0 0]) (Below.refl w.heap.size w) rfl (fun g ⟨t, y, hy, hg⟩ => by
   cases t with
   | zero => simp at hy; subst hy; rw [z4q] at hg; cases hg
   | succ t => simp at hy) (fun t t' y y' g hy hy' _ _ => by
   cases t <;> cases t' <;> first | rfl | (simp at hy; done) | (simp at hy'; done)) (fun t o' y ho' hy => by
   cases t with
   | zero => simp at ho' hy; subst ho'; subst hy; exact ⟨A, 0, rfl, Nat.le_refl _, Nat.zero_le _, .inl rfl⟩
   | succ t => simp at hy)
 have last : ∀ A : Option Addr, (β ++ [Value.slice A 0 0])[σ.H.length]? = some (.slice A 0 0) := fun A => by rw [← h.len]; simp
 cases t with
 | slot i e sz =>
  obtain ⟨x, h1, h2⟩ := h.slots i _ ht
  obtain ⟨A, rfl⟩ : ∃ A, x = .slice A 0 0 := h2
  have hp := push e sz A
  refine ⟨_, ⟨hp.below, hp.m0, hp.len, hp.objs, hp.fresh, hp.dist, fun j v hv => ?_, hp.size, hp.defers, hp.out, hp.pins⟩⟩
  simp only [AState.thaw1, lookS] at hv
  split at hv
  ·rename_i hij
   subst hij
   cases hv
   exact ⟨_, h1, .inl (last A), rfl⟩
  ·exact hp.slots j v hv
 | cell o off e sz =>
  simp only [zc0] at ht
  cases hH : σ.H[o]? with
  | none => rw [hH] at ht; exact ht.elim
  | some ob =>
   rw [hH] at ht
   cases ob with
   | var et cs =>
    simp only at ht
    have hol : o < β.length := by rw [h.len]; exact (List.getElem?_eq_some_iff.1 hH).1
    obtain ⟨g, cur, h1, h2, h3⟩ := h.objs o _ _ hH (List.getElem?_eq_getElem hol)
    have hlt : off < cur.toList.length := by rw [← h3.1]; exact (List.getElem?_eq_some_iff.1 ht).1
    obtain ⟨A, hA⟩ : ∃ A, cur.toList[off] = .slice A 0 0 := h3.2 off _ _ ht (List.getElem?_eq_getElem hlt)
    have hp := push e sz A
    have hoA : (β ++ [Value.slice A 0 0])[o]? = some β[o] := by rw [List.getElem?_append_left hol, List.getElem?_eq_getElem hol]
    obtain ⟨g', cur', k1, k2, k3⟩ := hp.objs o (.var et cs) _ (by rw [List.getElem?_append_left (by rw [← h.len]; exact hol)]; exact hH) hoA
    have e1 : g' = g := by rw [h1] at k1; cases k1; rfl
    subst e1
    have e2 : cur' = cur := by rw [h2] at k2; cases k2; rfl
    subst e2
    have hw := hp.write (t := o) (hd := β[o]) (o' := .var et (cs.set off (.own σ.H.length))) hoA (w' := w) (z1H w _) (Nat.le_refl _) ⟨g', cur', h1, h2, by
     have := k3.set off (d := .own σ.H.length) (v := .slice A 0 0) ⟨.inl (last A), rfl⟩
     rw [show cur'.toList.set off (.slice A 0 0) = cur'.toList by rw [← hA]; exact List.set_getElem_self hlt] at this
     exact this⟩
    refine ⟨β ++ [.slice A 0 0], ?_⟩
    simp only [AState.thaw1, hH]
    have e3 : (σ.H ++ [AObj.row e sz []]).set o (.var et (cs.set off (.own σ.H.length))) = σ.H.set o (.var et (cs.set off (.own σ.H.length))) ++ [.row e sz []] := List.set_append_left _ _ (by rw [← h.len]; exact hol)
    rw [← e3]
    exact hw
   | _ => exact ht.elim
theorem Sim.thaw : ∀ (ts : List Thaw) (σ : AState) (β : List Value), Sim W0 M0 F σ a w β → z4J ts σ → ∃ β', Sim W0 M0 F (AState.thaw ts σ) a w β'
 | [], σ, β, h, _ => ⟨β, h⟩
 | t :: ts, σ, β, h, hs => by
  obtain ⟨β1, h1⟩ := h.thaw1 t hs.1
  exact Sim.thaw ts _ _ h1 hs.2
end
abbrev APost := Exit → AState → Prop
def APost.then (K : AState → Prop) (Q : APost) : APost := fun e σ => match e with | .normal => K σ | e => Q e σ
def APost.blk (id : Nat) (Q : APost) : APost := fun e σ => match e with | .exit id' => if id' = id then Q .normal σ else Q (.exit id') σ | e => Q e σ
def ALoop (body : AState → APost → Prop) (σ : AState) (Q : APost) : Prop :=
 ∃ (S : Type) (I : S → Prop) (f : S → AState) (μ : S → Nat) (s0 : S) (ths : List Thaw), I s0 ∧ (z4J ths σ ∧ SubF (AState.thaw ths σ) (f s0)) ∧ ∀ s, I s → body (f s) (APost.then (fun σ' => ∃ s', I s' ∧ SubF σ' (f s') ∧ μ s' < μ s) Q)
def zgg (P : Program) (ops : Array Oper) (σ : AState) (K : AState → Prop) : Prop :=
 ∀ (W0 : World) (M0 : Nat → Prop) (F : List Value) (a : Act) (w : World) (Q : Exit → Act → World → Prop) (id : Nat), SimS W0 M0 F σ a w → (∀ σ' a' w', K σ' → SimS W0 M0 F σ' a' w' → Q .normal a' w') → (Code.region id ops true).wp P Q a w
def zjg (P : Program) (ops : Array Oper) (σ : AState) (K : AState → Prop) : Prop :=
 ∀ (W0 : World) (M0 : Nat → Prop) (F : List Value) (a : Act) (w : World) (Q : Exit → Act → World → Prop) (id : Nat), SimS W0 M0 F σ a w → (∀ σ' a' w', K σ' → SimS W0 M0 F σ' a' w' → Q .normal a' w') → (Code.region id ops false).wp P Q a w
def keepL (n0 : Nat) (xs : List Nat) : List Nat → List (Nat × AV) → List (Nat × AV)
 | _, [] => []
 | seen, s :: l => if ((decide (s.1 < n0) || memN s.1 xs) && !memN s.1 seen) = true then s :: keepL n0 xs (s.1 :: seen) l else keepL n0 xs seen l
def AState.keepS (σ : AState) (n0 : Nat) (xs : List Nat) : AState := { n := σ.n, slots := keepL n0 xs [] σ.slots, H := σ.H, pin := σ.pin }
theorem z4T (n0 : Nat) (xs : List Nat) (i : Nat) : ∀ (l : List (Nat × AV)) (seen : List Nat), i ∈ seen ∨ (decide (i < n0) || memN i xs) = false → lookS (keepL n0 xs seen l) i = none
 | [], _, _ => rfl
 | s :: l, seen, h => by
  simp only [keepL]
  split
  ·rename_i hc
   simp only [Bool.and_eq_true, Bool.not_eq_true'] at hc
   simp only [lookS]
   split
   ·rename_i e
    subst e
    rcases h with h | h
    ·rw [memN_iff.2 h] at hc; cases hc.2
    ·rw [h] at hc; cases hc.1
   ·exact z4T n0 xs i l _ (h.imp (fun h => by simp [h]) id)
  ·exact z4T n0 xs i l _ h
theorem z4U (n0 : Nat) (xs : List Nat) (i : Nat) (v : AV) : ∀ (l : List (Nat × AV)) (seen : List Nat), i ∉ seen → lookS (keepL n0 xs seen l) i = some v → lookS l i = some v
 | [], _, _, h => by cases h
 | s :: l, seen, hn, h => by
  simp only [keepL] at h
  split at h
  ·simp only [lookS] at h ⊢
   split
   ·rename_i e; rw [if_pos e] at h; exact h
   ·rename_i e
    rw [if_neg e] at h
    exact z4U n0 xs i v l _ (by simp only [List.mem_cons, not_or]; exact ⟨fun e' => e e'.symm, hn⟩) h
  ·rename_i hc
   simp only [lookS]
   split
   ·rename_i e
    subst e
    have hm : memN s.1 seen = false := by
     cases hb : memN s.1 seen with
     | false => rfl
     | true => exact absurd (memN_iff.1 hb) hn
    rw [hm] at hc
    have : (decide (s.1 < n0) || memN s.1 xs) = false := by simpa using hc
    rw [z4T n0 xs s.1 l seen (.inr this)] at h
    cases h
   ·exact z4U n0 xs i v l seen hn h
def awp (P : Program) (T : Tab) : Code → AState → APost → Prop
 | .skip, σ, Q => Q .normal σ
 | .region _ ops draw, σ, Q => if draw then dops P T ops σ (Q .normal) ∨ (∃ is hd tl K, (∀ σ τ, Like σ τ → K σ → K τ) ∧ (∀ σ, K σ → ∃ τ, Like τ σ ∧ Q .normal τ) ∧ edops P T ops is hd tl σ K) ∨ zgg P ops σ (Q .normal) else aops P T ops ops.toList σ (Q .normal) ∨ zjg P ops σ (Q .normal)
 | .seq x y, σ, Q => awp P T x σ (APost.then (fun σ' => ∃ n0 xs, awp P T y (σ'.keepS n0 xs) Q) Q)
 | .cond c x y, σ, Q => match σ.evs c with
  | .one (.bool b) => (σ.ev c).need ∧ (b = true → awp P T x σ Q) ∧ (b = false → awp P T y σ Q)
  | _ => False
 | .block id c, σ, Q => awp P T c σ (APost.blk id Q)
 | .loop c, σ, Q => ALoop (fun σ Q => awp P T c σ Q) σ Q
 | .exit id, σ, Q => Q (.exit id) σ
 | .ret, σ, Q => Q .ret σ
 | _, _, _ => False
def conc (W0 : World) (M0 : Nat → Prop) (F : List Value) (Q : APost) : Exit → Act → World → Prop := fun e a w => ∃ σ, Q e σ ∧ SimS W0 M0 F σ a w
section
variable {P : Program} {T : Tab} {W0 w : World} {M0 : Nat → Prop} {F : List Value} {σ : AState} {a : Act}
theorem z0A (hT : TabOk P T) (hm : P.follows .mixedOrders = true) : ∀ (c : Code) (σ : AState) (Q : APost) (a : Act) (w : World), SimS W0 M0 F σ a w → awp P T c σ Q → c.wp P (conc W0 M0 F Q) a w
 | .skip, σ, Q, a, w, h, hc => wp_skip ⟨σ, hc, h⟩
 | .region id ops draw, σ, Q, a, w, h, hc => by
  cases draw with
  | true =>
   simp only [awp, if_true] at hc
   rcases hc with hc | ⟨is, hd, tl, K, hKl, hKQ, hc⟩ | hc
   ·exact zdR hT hm h hc fun σ' a' w' h1 h2 => ⟨σ', h1, h2⟩
   ·exact zbq hT hm hKl h hc fun σ' a' w' h1 h2 => by
     obtain ⟨τ, k1, k2⟩ := hKQ σ' h1
     exact ⟨τ, k2, h2.like k1.symm⟩
   ·exact hc W0 M0 F a w _ id h fun σ' a' w' h1 h2 => ⟨σ', h1, h2⟩
  | false =>
   simp only [awp, Bool.false_eq_true, if_false] at hc
   rcases hc with hc | hc
   ·exact wp_region_list (z58 hT ops.toList σ a w h hc fun σ' a' w' h1 h2 => ⟨σ', h1, h2⟩)
   ·exact hc W0 M0 F a w _ id h fun σ' a' w' h1 h2 => ⟨σ', h1, h2⟩
 | .seq x y, σ, Q, a, w, h, hc => by
  refine wp_seq (wp_mono (z0A hT hm x σ _ a w h hc) ?_)
  rintro e a' w' ⟨σ', h1, h2⟩
  cases e <;> first | exact ⟨σ', h1, h2⟩ | skip
  obtain ⟨n0, xs, h1⟩ := h1
  obtain ⟨β, h2⟩ := h2
  exact z0A hT hm y (σ'.keepS n0 xs) Q a' w' ⟨β, h2.weaken (fun i v hv => z4U n0 xs i v σ'.slots [] (by simp) hv)⟩ h1
 | .cond c x y, σ, Q, a, w, h, hc => by
  simp only [awp] at hc
  split at hc
  ·rename_i b hev
   obtain ⟨hn, h1, h2⟩ := hc
   obtain ⟨β, h⟩ := h
   have hv := h.evs hn
   rw [hev] at hv
   exact wp_cond_split (z0V hv) (fun hb => z0A hT hm x σ Q a w ⟨β, h⟩ (h1 hb)) (fun hb => z0A hT hm y σ Q a w ⟨β, h⟩ (h2 hb))
  ·exact hc.elim
 | .block id c, σ, Q, a, w, h, hc => by
  refine wp_block (wp_mono (z0A hT hm c σ _ a w h hc) ?_)
  rintro e a' w' ⟨σ', h1, h2⟩
  cases e <;> first | exact ⟨σ', h1, h2⟩ | skip
  rename_i id'
  simp only [Exit.inBlock, APost.blk] at h1 ⊢
  by_cases hid : id' = id
  ·subst hid
   simp only [if_true] at h1
   simp
   exact ⟨σ', h1, h2⟩
  ·rw [if_neg hid] at h1
   simp [hid]
   exact ⟨σ', h1, h2⟩
 | .loop c, σ, Q, a, w, h, hc => by
  obtain ⟨S, I, f, μ, s0, ths, hI0, hs0, hround⟩ := hc
  refine wp_loop_ghost (fun n a w => ∃ s, μ s = n ∧ I s ∧ SimS W0 M0 F (f s) a w) (μ s0) ⟨s0, rfl, hI0, by obtain ⟨β, h⟩ := h; obtain ⟨β1, h1⟩ := Sim.thaw ths σ β h hs0.1; exact h1.subF hs0.2⟩ ?_
  rintro n a' w' ⟨s, rfl, hI, hs⟩
  refine wp_mono (z0A hT hm c (f s) _ a' w' hs (hround s hI)) ?_
  rintro e a2 w2 ⟨σ', h1, h2⟩
  cases e <;> first | exact ⟨σ', h1, h2⟩ | skip
  obtain ⟨s', h3, h4, h5⟩ := h1
  exact ⟨μ s', h5, s', rfl, h3, by obtain ⟨β, h2⟩ := h2; exact h2.subF h4⟩
 | .exit id, σ, Q, a, w, h, hc => wp_exit ⟨σ, hc, h⟩
 | .ret, σ, Q, a, w, h, hc => wp_ret ⟨σ, hc, h⟩
 | .rangeFunc .., _, _, _, _, _, hc => hc.elim
 | .scope _, _, _, _, _, _, hc => hc.elim
 | .label _, _, _, _, _, _, hc => hc.elim
 | .goto _, _, _, _, _, _, hc => hc.elim
 | .refuse _, _, _, _, _, _, hc => hc.elim
def z00 : Nat → List AV → List (Nat × AV)
 | _, [] => []
 | i, v :: vs => (i, v) :: z00 (i + 1) vs
theorem z2H : ∀ (l : List AV) (k i : Nat) (v : AV), lookS (z00 k l) i = some v → ∃ j, i = k + j ∧ l[j]? = some v
 | [], k, i, v, h => by simp [z00, lookS] at h
 | u :: l, k, i, v, h => by
  simp only [z00, lookS] at h
  split at h
  ·rename_i hk
   cases h
   exact ⟨0, by omega, rfl⟩
  ·obtain ⟨j, h1, h2⟩ := z2H l (k + 1) i v h
   exact ⟨j + 1, by omega, by simpa using h2⟩
def resW (T : Tab) (σ : AState) : ResultVar → Prop × AV
 | .tmp t => ((σ.ev (.tmp t)).need, σ.evs (.tmp t))
 | .cell a t => ((σ.ev (.tmp a)).need ∧ (z29 T σ.H t (σ.evs (.tmp a))).1, (z29 T σ.H t (σ.evs (.tmp a))).2)
def resV (T : Tab) (σ : AState) (x : ResultVar) : Prop × AV := ((resW T σ x).1, (resW T σ x).2.bor σ.H)
def resAV (σ : AState) (t : Tmp) : AV := (σ.evs (.tmp t)).bor σ.H
def retL (f : ResultVar → Prop × AV) (rs : List ResultVar) (r : AV) : Prop :=
 match rs with
 | [] => .tup [] = r
 | [x] => (f x).1 ∧ (f x).2 = r
 | [x, y] => (f x).1 ∧ (f y).1 ∧ .tup [(f x).2, (f y).2] = r
 | [x, y, z] => (f x).1 ∧ (f y).1 ∧ (f z).1 ∧ .tup [(f x).2, (f y).2, (f z).2] = r
 | [x, y, z, u] => (f x).1 ∧ (f y).1 ∧ (f z).1 ∧ (f u).1 ∧ .tup [(f x).2, (f y).2, (f z).2, (f u).2] = r
 | _ => False
def retF (T : Tab) (rs : List ResultVar) (r : AV) : APost := fun e σ =>
 match e with
 | .ret | .normal => retL (resV T σ) rs r
 | _ => False
def z2q : List ResultVar → List Nat
 | [] => []
 | .tmp t :: l => t :: z2q l
 | .cell a _ :: l => a :: z2q l
def AState.withObjs (σ : AState) (H : List AObj) : AState := { n := σ.n, slots := σ.slots, H := H, pin := σ.pin }
def retM (T : Tab) (p : Nat) (rs : List ResultVar) (r : AV) (Hout : List AObj) : APost := fun e σ =>
 match e with
 | .ret | .normal => σ.pin = p ∧ SubA (σ.pare Hout.length (z2q rs)) ((σ.pare Hout.length (z2q rs)).withObjs Hout) ∧ retL (resW T ((σ.pare Hout.length (z2q rs)).withObjs Hout)) rs r
 | _ => False
def retO (rs : List ResultVar) (r : AV) (o : AObj) : APost := fun e σ =>
 match e with
 | .ret | .normal => match rs with
  | [.tmp t] => match lookS σ.slots t with | some (.one (.own k)) => .one (.own 0) = r ∧ σ.H[k]? = some o ∧ isRow o = true | _ => False
  | [.tmp t, .tmp u] => match lookS σ.slots t with | some (.one (.own k)) => (σ.ev (.tmp u)).need ∧ (resAV σ u).flatOwn = true ∧ (resAV σ u).tagged = false ∧ .tup [.one (.own 0), resAV σ u] = r ∧ σ.H[k]? = some o ∧ isRow o = true | _ => False
  | _ => False
 | _ => False
theorem z4u {args : List AV} {vs : List Value} {n : Nat} (hM : MOk w M0 []) (hv : RepVL w M0 [] args vs) (hn : args.length ≤ n) :
  SimS w M0 [] ⟨n, z00 0 args, [], 0⟩ { tmps := (⟨vs⟩ : Array Value) ++ Array.replicate (n - (⟨vs⟩ : Array Value).size) undef, defers := [] } w := by
 have hg := RepVL.get args vs hv
 have hMof : ∀ g, Mof M0 [] g ↔ M0 g := fun g => ⟨fun h => by rcases h with h | ⟨t, x, h, _⟩; exact h; simp at h, fun h => .inl h⟩
 refine ⟨[], BelowX.refl _ _, hM, rfl, fun t o h ho => by simp at ho, fun g ⟨t, x, h, _⟩ => by simp at h, fun t t' h h' g h1 => by simp at h1, fun i v hv' => ?_, ?_, rfl, fun g ⟨t, x, h, _⟩ => by simp at h, Nat.le_refl _, fun t ht => by cases ht⟩
 ·obtain ⟨j, rfl, hj⟩ := z2H _ _ _ _ hv'
  rw [Nat.zero_add]
  have hjl : j < vs.length := by rw [← hg.1]; exact (List.getElem?_eq_some_iff.1 hj).1
  refine ⟨vs[j], ?_, RepV.grow (w := w) (M := M0) (β := []) ⟨⟨Nat.le_refl _, fun _ _ _ => rfl, fun g _ hm hm' => hm ((hMof g).1 hm')⟩, fun _ _ x => x⟩ v _ (hg.2 j v _ hj (List.getElem?_eq_getElem hjl))⟩
  show ((⟨vs⟩ : Array Value) ++ Array.replicate (n - vs.length) undef)[j]? = some vs[j]
  rw [Array.getElem?_append_left (by exact hjl)]
  simp [List.getElem?_eq_getElem hjl]
 ·have : vs.length = args.length := hg.1.symm
  simp
  omega
theorem zdO {F : List Value} {Hin : List AObj} {args : List AV} {vs : List Value} {n p : Nat} (hM : MOk w M0 F) (hpre : MPre w M0 F Hin) (hp : p ≤ Hin.length) (hv : RepVL w (Mof M0 F) F args vs) (hn : args.length ≤ n) :
  SimS w M0 F ⟨n, z00 0 args, Hin, p⟩ { tmps := (⟨vs⟩ : Array Value) ++ Array.replicate (n - (⟨vs⟩ : Array Value).size) undef, defers := [] } w := by
 have hg := RepVL.get args vs hv
 refine ⟨F, BelowX.refl _ _, hM, hpre.len, hpre.objs, fun g hg => ⟨.inl hg, (hpre.out g hg).2⟩, hpre.dist, fun i v hv' => ?_, ?_, rfl, hpre.out, by rw [hpre.len]; exact hp, fun t _ => rfl⟩
 ·obtain ⟨j, rfl, hj⟩ := z2H _ _ _ _ hv'
  rw [Nat.zero_add]
  have hjl : j < vs.length := by rw [← hg.1]; exact (List.getElem?_eq_some_iff.1 hj).1
  refine ⟨vs[j], ?_, hg.2 j v _ hj (List.getElem?_eq_getElem hjl)⟩
  show ((⟨vs⟩ : Array Value) ++ Array.replicate (n - vs.length) undef)[j]? = some vs[j]
  rw [Array.getElem?_append_left (by exact hjl)]
  simp [List.getElem?_eq_getElem hjl]
 ·have : vs.length = args.length := hg.1.symm
  simp
  omega
def z4k (tmps : Array Value) : ResultVar → Sem Value
 | .tmp t => pure (tmps.getD t undef)
 | .cell a t => do loadVar t (← asAddr (tmps.getD a undef))
theorem z5Q (hT : TabOk P T) {w0 w1 : World} {β : List Value} (h : Sim w0 M0 F σ a w1 β) {x : ResultVar} (hx : (resW T σ x).1) : ∃ u, (z4k a.tmps x).run P w1 = .ok u w1 ∧ RepV w1 (Mof M0 β) β (resW T σ x).2 u := by
 cases x with
 | tmp t => exact ⟨a.eval (.tmp t), by simp [z4k, Act.eval], h.evs hx⟩
 | cell c t =>
  obtain ⟨hn, hl⟩ := hx
  obtain ⟨u, h1, h2⟩ := z4p (P := P) hT h.len h.objs t _ _ (h.evs hn) hl
  refine ⟨u, ?_, h2⟩
  have hv : a.eval (.tmp c) = a.tmps.getD c undef := rfl
  rw [hv] at h1
  simp only [z4k]
  cases hu : a.tmps.getD c undef with
  | pointer pp =>
   rw [hu] at h1
   cases pp with
   | none => simp [Instr.loadAt, Instr.sureAddr] at h1
   | some ad => simpa [Instr.loadAt, Instr.sureAddr, asAddr] using h1
  | _ => rw [hu] at h1; simp [Instr.loadAt, Instr.sureAddr] at h1
theorem z1Z {fn : Func} {rs : List ResultVar} (hrs : fn.results.toList = rs) {tmps : Array Value} {us : List Value} {w1 : World} (hl : rs.length = us.length) (h : ∀ (i : Nat) (x : ResultVar) (u : Value), rs[i]? = some x → us[i]? = some u → (z4k tmps x).run P w1 = .ok u w1) :
  (results fn tmps).run P w1 = .ok (if h : us.length = 1 then us[0] else .tuple ⟨us⟩) w1 := by
 have key : ∀ (rs : List ResultVar) (us : List Value), rs.length = us.length → (∀ (i : Nat) (x : ResultVar) (u : Value), rs[i]? = some x → us[i]? = some u → (z4k tmps x).run P w1 = .ok u w1) → (rs.mapM (z4k tmps)).run P w1 = .ok us w1 := by
  intro rs
  induction rs with
  | nil => intro us hl _; cases us with | nil => simp | cons u us => simp at hl
  | cons x rs ih =>
   intro us hl h
   cases us with
   | nil => simp at hl
   | cons u us =>
    have h0 := h 0 x u rfl rfl
    have h1 := ih us (by simpa using hl) fun i y v a b => h (i + 1) y v (by simpa using a) (by simpa using b)
    simp [List.mapM_cons, h0, h1]
 have hres : fn.results = ⟨rs⟩ := Array.ext' (by simpa using hrs)
 have hk := key rs us hl h
 have e : (fn.results.mapM (z4k tmps)).run P w1 = .ok ⟨us⟩ w1 := by
  rw [hres, List.mapM_toArray]
  simp [hk]
 have e' : results fn tmps = (do let vs ← fn.results.mapM (z4k tmps); pure (if h : vs.size = 1 then vs[0] else .tuple vs)) := by
  unfold results
  congr 1
 rw [e', Sem.run_bind, e]
 simp only [Result.andThen_ok, Sem.run_pure]
 rfl
theorem z5P {fn : Func} {rs : List ResultVar} (hrs : fn.results.toList = rs) {g : ResultVar → Prop × AV} {r : AV} {tmps : Array Value} {w1 : World} {M : Nat → Prop} {β : List Value} (hg : ∀ x, (g x).1 → ∃ u, (z4k tmps x).run P w1 = .ok u w1 ∧ RepV w1 M β (g x).2 u) (hq : retL g rs r) :
  ∃ v, (results fn tmps).run P w1 = .ok v w1 ∧ RepV w1 M β r v := by
 unfold retL at hq
 split at hq
 ·subst hq
  exact ⟨_, z1Z (P := P) hrs (us := []) rfl (fun i x u hx => by simp at hx), [], rfl, rfl⟩
 ·rename_i x
  obtain ⟨h1, rfl⟩ := hq
  obtain ⟨u, r1, r2⟩ := hg x h1
  exact ⟨_, z1Z (P := P) hrs (us := [u]) rfl (fun i x' u' hx hu => by cases i <;> simp_all), r2⟩
 ·rename_i x y
  obtain ⟨h1, h2, rfl⟩ := hq
  obtain ⟨u1, r1, s1⟩ := hg x h1
  obtain ⟨u2, r2, s2⟩ := hg y h2
  exact ⟨_, z1Z (P := P) hrs (us := [u1, u2]) rfl (fun i x' u' hx hu => by rcases i with _ | _ | i <;> simp_all), [_, _], rfl, _, _, rfl, s1, _, _, rfl, s2, rfl⟩
 ·rename_i x y z
  obtain ⟨h1, h2, h3, rfl⟩ := hq
  obtain ⟨u1, r1, s1⟩ := hg x h1
  obtain ⟨u2, r2, s2⟩ := hg y h2
  obtain ⟨u3, r3, s3⟩ := hg z h3
  exact ⟨_, z1Z (P := P) hrs (us := [u1, u2, u3]) rfl (fun i x' u' hx hu => by rcases i with _ | _ | _ | i <;> simp_all), [_, _, _], rfl, _, _, rfl, s1, _, _, rfl, s2, _, _, rfl, s3, rfl⟩
 ·rename_i x y z t
  obtain ⟨h1, h2, h3, h4, rfl⟩ := hq
  obtain ⟨u1, r1, s1⟩ := hg x h1
  obtain ⟨u2, r2, s2⟩ := hg y h2
  obtain ⟨u3, r3, s3⟩ := hg z h3
  obtain ⟨u4, r4, s4⟩ := hg t h4
  exact ⟨_, z1Z (P := P) hrs (us := [u1, u2, u3, u4]) rfl (fun i x' u' hx hu => by rcases i with _ | _ | _ | _ | i <;> simp_all), [_, _, _, _], rfl, _, _, rfl, s1, _, _, rfl, s2, _, _, rfl, s3, _, _, rfl, s4, rfl⟩
 ·exact hq.elim
theorem Sim.bor {w1 : World} {β : List Value} (h : Sim w M0 [] σ a w1 β) {t : Tmp} (hn : (σ.ev (.tmp t)).need) : RepV w1 M0 [] (resAV σ t) (a.tmps.getD t undef) := z3y h.lend _ _ (h.evs hn)
theorem z0j {g : Nat} : ¬ owned [] g := fun ⟨t, x, h, _⟩ => by simp at h
theorem zir {w1 : World} {r : AV} {v : Value} {β : List Value} (h : Sim w M0 [] σ a w1 β) (hr : RepV w1 M0 [] r v) : Res w w1 M0 r [] v [] :=
 ⟨h.below.below fun _ => z0j, rfl, fun t o x ho => by simp at ho, fun g ⟨t, x, h, _⟩ => by simp at h, fun t t' x x' g h1 => by simp at h1,
  RepV.grow (w := w1) (M := M0) (β := []) ⟨⟨Nat.le_refl _, fun _ _ _ => rfl, fun g _ hm hm' => hm (by rcases hm' with h | ⟨t, x, h, _⟩; exact h; simp at h)⟩, fun _ _ x => x⟩ r v hr⟩
theorem z7S (hT : TabOk P T) {fn : Func} {r : AV} (e : Exit) (σ : AState) (a : Act) (w1 : World) (hs : SimS w M0 [] σ a w1) (hq : retF T fn.results.toList r e σ) : bodyPost P fn (fun e w' => ∃ v β, e = .returned v ∧ Res w w' M0 r [] v β) e a w1 := by
 obtain ⟨β, hs⟩ := hs
 have main : retL (resV T σ) fn.results.toList r → a.defers = [] ∧ ∃ v, (results fn a.tmps).run P w1 = .ok v w1 ∧ ∃ v' β, Ending.returned v = .returned v' ∧ Res w w1 M0 r [] v' β := by
  intro hq
  obtain ⟨v, h1, h2⟩ := z5P (P := P) rfl (M := M0) (β := []) (fun x hx => by
   obtain ⟨u, k1, k2⟩ := z5Q (P := P) hT hs hx
   exact ⟨u, k1, z3y hs.lend _ _ k2⟩) hq
  exact ⟨hs.defers, v, h1, v, [], rfl, zir hs h2⟩
 cases e <;> simp only [retF] at hq <;> first | exact hq.elim | exact main hq
theorem ACalls.of_body (hT : TabOk P T) (hm : P.follows .mixedOrders = true) {f : FuncId} {fn : Func} {c : Code} {args : List AV} {r : AV} (hf : P.funcs[f]? = some fn) (hb : fn.body = some c) (hok : okFn P f = true) {n : Nat} (hnt : fn.ntmps = n) (hn : args.length ≤ n) {rs : List ResultVar} (hrs : fn.results.toList = rs)
  (h : awp P T c ⟨n, z00 0 args, [], 0⟩ (retF T rs r)) : ACalls P f args r [] := by
 subst hnt; subst hrs
 refine ⟨hok, fun w M vs hM hv => calls_of_wp hf hb ?_⟩
 refine wp_mono (z0A hT hm c _ _ _ _ (z4u hM hv hn) h) ?_
 rintro e a' w' ⟨σ, hq, hs⟩
 exact z7S hT e σ a' w' hs hq
theorem zdh (hT : TabOk P T) {F : List Value} {p : Nat} {fn : Func} {r : AV} {Hout : List AObj} (hp : p ≤ Hout.length) (e : Exit) (σ : AState) (a : Act) (w1 : World) (hs : SimS w M0 F σ a w1) (hq : retM T p fn.results.toList r Hout e σ) : bodyPost P fn (fun e w' => ∃ v β, e = .returned v ∧ ResM w w' M0 F p r Hout v β) e a w1 := by
 obtain ⟨β, hs⟩ := hs
 have main : σ.pin = p ∧ SubA (σ.pare Hout.length (z2q fn.results.toList)) ((σ.pare Hout.length (z2q fn.results.toList)).withObjs Hout) ∧ retL (resW T ((σ.pare Hout.length (z2q fn.results.toList)).withObjs Hout)) fn.results.toList r → a.defers = [] ∧ ∃ v, (results fn a.tmps).run P w1 = .ok v w1 ∧ ∃ v' β, Ending.returned v = .returned v' ∧ ResM w w1 M0 F p r Hout v' β := by
  rintro ⟨hpin, hsub, hq⟩
  obtain ⟨β1, h1⟩ := hs.pare Hout.length (z2q fn.results.toList)
  have hpp : (σ.pare Hout.length (z2q fn.results.toList)).pin = p := by
   rw [← hpin]
   unfold AState.pare
   generalize zbd Hout.length (z5N (pickS σ (z2q fn.results.toList)) ++ z8L σ.H) σ.H = l
   have : ∀ (l : List Nat) (σ : AState), (AState.freezeAll l σ).pin = σ.pin := by
    intro l
    induction l with
    | nil => intro σ; rfl
    | cons t l ih =>
     intro σ
     simp only [AState.freezeAll]
     rw [ih]
     split <;> rfl
   rw [this]
  obtain ⟨β2, h2⟩ := h1.sub hsub
  obtain ⟨v, k1, k2⟩ := z5P (P := P) rfl (fun x hx => z5Q (P := P) hT h2 hx) hq
  exact ⟨h2.defers, v, k1, v, β2, rfl, h2.below, h2.len, fun t ht => h2.pins.2 t (by show t < (σ.pare Hout.length (z2q fn.results.toList)).pin; rw [hpp]; exact ht), h2.objs, h2.fresh, h2.dist, k2⟩
 cases e <;> simp only [retM] at hq <;> first | exact hq.elim | exact main hq
theorem zdg {fn : Func} {r : AV} {o : AObj} (e : Exit) (σ : AState) (a : Act) (w1 : World) (hs : SimS w M0 [] σ a w1) (hq : retO fn.results.toList r o e σ) : bodyPost P fn (fun e w' => ∃ v β, e = .returned v ∧ Res w w' M0 r [o] v β) e a w1 := by
 obtain ⟨β, hs⟩ := hs
 have mk : ∀ (k : Nat) (t : Tmp) (r : AV) (v : Value), lookS σ.slots t = some (.one (.own k)) → σ.H[k]? = some o → isRow o = true → (∀ hd, a.tmps.getD t undef = hd → RepV w1 (Mof M0 [hd]) [hd] r v) → Res w w1 M0 r [o] v [a.tmps.getD t undef] := by
  intro k t r v hl hH hp hr
  obtain ⟨x, hx, hv⟩ := hs.slots t _ hl
  have hone := hv.2
  have hpl : o.plain = true := by cases o <;> first | rfl | cases hp
  have hβ : β[k]? = some x := by
   cases o with
   | row e sz rows => exact z0u hv fun y hy => hs.objs k _ y hH hy
   | _ => cases hp
  have hxd : a.tmps.getD t undef = x := by simp [Array.getD_eq_getD_getElem?, hx]
  rw [hxd]
  have hown : ∀ g, owned [x] g → owned β g := by
   rintro g ⟨t', y, h1, h2⟩
   cases t' with
   | zero => simp at h1; subst h1; exact ⟨k, _, hβ, h2⟩
   | succ t' => simp at h1
  have hkeep : Keeps w1 (Mof M0 β) w1 (Mof M0 [x]) := ⟨Nat.le_refl _, fun _ _ _ => rfl, fun g _ hm hm' => hm (by rcases hm' with hm' | hm'; exact .inl hm'; exact .inr (hown g hm'))⟩
  refine ⟨hs.below.below fun _ => z0j, rfl, fun t' p y hp' hy => ?_, fun g hg => ⟨(hs.fresh g (hown g hg)).1.resolve_left z0j, (hs.fresh g (hown g hg)).2⟩, fun t1 t2 y1 y2 g h1 h2 _ _ => ?_, hr x hxd⟩
  ·cases t' with
   | zero =>
    simp at hp' hy
    subst hp'; subst hy
    exact (hs.objs k _ _ hH hβ).plainMove hkeep hpl
   | succ t' => simp at hy
  ·have z1 : t1 = 0 := by cases t1 with | zero => rfl | succ n => simp at h1
   have z2 : t2 = 0 := by cases t2 with | zero => rfl | succ n => simp at h2
   rw [z1, z2]
 have ownRep : ∀ (k : Nat) (t : Tmp) (hd : Value), lookS σ.slots t = some (.one (.own k)) → a.tmps.getD t undef = hd → RepV w1 (Mof M0 [hd]) [hd] (.one (.own 0)) hd := by
  intro k t hd hl hh
  obtain ⟨x, hx, _, hone⟩ := hs.slots t _ hl
  have hxd : a.tmps.getD t undef = x := by simp [Array.getD_eq_getD_getElem?, hx]
  rw [hxd] at hh
  subst hh
  exact ⟨.inl rfl, hone⟩
 have main : (match fn.results.toList with
  | [.tmp t] => match lookS σ.slots t with | some (.one (.own k)) => .one (.own 0) = r ∧ σ.H[k]? = some o ∧ isRow o = true | _ => False
  | [.tmp t, .tmp u] => match lookS σ.slots t with | some (.one (.own k)) => (σ.ev (.tmp u)).need ∧ (resAV σ u).flatOwn = true ∧ (resAV σ u).tagged = false ∧ .tup [.one (.own 0), resAV σ u] = r ∧ σ.H[k]? = some o ∧ isRow o = true | _ => False
  | _ => False) → a.defers = [] ∧ ∃ v, (results fn a.tmps).run P w1 = .ok v w1 ∧ ∃ v' β, Ending.returned v = .returned v' ∧ Res w w1 M0 r [o] v' β := by
  intro hq
  refine ⟨hs.defers, ?_⟩
  split at hq
  ·rename_i t ht
   split at hq
   ·rename_i k hl
    obtain ⟨rfl, hH, hp⟩ := hq
    have hres : fn.results = #[.tmp t] := Array.ext' ht
    exact ⟨_, results_tmp hres _ _ _, _, _, rfl, mk k t _ _ hl hH hp fun hd hh => by rw [hh]; exact ownRep k t hd hl hh⟩
   ·exact hq.elim
  ·rename_i t u ht
   split at hq
   ·rename_i k hl
    obtain ⟨hn, hfl, htg, rfl, hH, hp⟩ := hq
    have hres : fn.results = #[.tmp t, .tmp u] := Array.ext' ht
    refine ⟨_, results_tmp2 hres _ _ _, _, _, rfl, mk k t _ _ hl hH hp fun hd hh => ?_⟩
    rw [hh]
    refine ⟨[_, _], rfl, _, _, rfl, ownRep k t hd hl hh, _, _, rfl, ?_, rfl⟩
    have hb := hs.bor hn
    generalize resAV σ u = ru at *
    generalize a.tmps.getD u undef = uv at *
    have hflat : ∀ (d : D) (v : Value), RepC w1 M0 [] d v → d.flatOwn = true → d.tagged = false → RepC w1 (Mof M0 [hd]) [hd] d v := by
     intro d v h1 h2 h3
     cases d <;> first | (cases h2; done) | (cases h3; done) | skip
     all_goals (simp only [RepC, RepC0] at h1 ⊢; exact RepD.flat h1 rfl)
    cases ru with
    | one d => exact hflat d _ hb hfl htg
    | agg ds =>
     obtain ⟨vs, e1, e2⟩ := hb
     simp only [AV.flatOwn, List.all_eq_true] at hfl
     simp only [AV.tagged, List.any_eq_false] at htg
     exact ⟨vs, e1, e2.1, fun i d x hd' hx => hflat d x (e2.2 i d x hd' hx) (hfl d (List.mem_of_getElem? hd')) (by simpa using htg d (List.mem_of_getElem? hd'))⟩
    | _ => cases htg
   ·exact hq.elim
  ·exact hq.elim
 cases e <;> simp only [retO] at hq <;> first | exact hq.elim | exact main hq
theorem ACalls.of_body_own (hT : TabOk P T) (hm : P.follows .mixedOrders = true) {f : FuncId} {fn : Func} {c : Code} {args : List AV} {r : AV} {o : AObj} (hf : P.funcs[f]? = some fn) (hb : fn.body = some c) (hok : okFn P f = true) {n : Nat} (hnt : fn.ntmps = n) (hn : args.length ≤ n) {rs : List ResultVar} (hrs : fn.results.toList = rs)
  (h : awp P T c ⟨n, z00 0 args, [], 0⟩ (retO rs r o)) : ACalls P f args r [o] := by
 subst hnt; subst hrs
 refine ⟨hok, fun w M vs hM hv => calls_of_wp hf hb ?_⟩
 refine wp_mono (z0A hT hm c _ _ _ _ (z4u hM hv hn) h) ?_
 rintro e a' w' ⟨σ, hq, hs⟩
 exact zdg e σ a' w' hs hq
theorem MCalls.of_body (hT : TabOk P T) (hm : P.follows .mixedOrders = true) {f : FuncId} {fn : Func} {c : Code} {args : List AV} {r : AV} {p : Nat} {Hin Hout : List AObj} (hf : P.funcs[f]? = some fn) (hb : fn.body = some c) (hok : okFn P f = true) {n : Nat} (hnt : fn.ntmps = n) (hn : args.length ≤ n) {rs : List ResultVar} (hrs : fn.results.toList = rs)
  (hp : p ≤ Hin.length) (hl : Hout.length = Hin.length) (h : awp P T c ⟨n, z00 0 args, Hin, p⟩ (retM T p rs r Hout)) : MCalls P f p Hin args r Hout := by
 subst hnt; subst hrs
 refine ⟨hok, hl, fun w M0 F vs hM hpre hv => calls_of_wp hf hb ?_⟩
 refine wp_mono (z0A hT hm c _ _ _ _ (zdO hM hpre hp hv hn) h) ?_
 rintro e a' w' ⟨σ, hq, hs⟩
 exact zdh hT (by rw [hl]; exact hp) e σ a' w' hs hq
theorem ACalls.frozen {f : FuncId} {args : List AV} {e : TypeId} {sz : Nat} {rows : List (List D)} (h : ACalls P f args (.one (.own 0)) [.row e sz rows]) : ACalls P f args (.one (.list rows)) [] := by
 refine ⟨h.1, fun w M vs hM hv => (h.2 w M vs hM hv).mono ?_⟩
 rintro en w' ⟨v, β, rfl, hR⟩
 refine ⟨v, [], rfl, hR.below, rfl, fun t o x ho => by simp at ho, fun g hg => (z0j hg).elim, fun t t' x x' g h1 => by simp at h1, ?_⟩
 have hβ := z0u (e := e) (sz := sz) (rows := rows) hR.val fun y hy => hR.objs 0 _ y rfl hy
 obtain ⟨A, c, h1, h2, h3, h4⟩ := hR.objs 0 _ v rfl hβ
 refine ⟨A, c, h1, h2, h3, ?_⟩
 rcases h4 with rfl | ⟨hc0, g, cur, rfl, h5, h6, h7⟩
 ·left; exact List.eq_nil_of_length_eq_zero (by omega)
 ·have hf := hR.fresh g ⟨0, v, hβ, by rw [h1]; exact hblk_row hc0⟩
  have hMof : ∀ g, Mof M [] g → M g := fun g hm => by rcases hm with hm | hm; exact hm; exact (z0j hm).elim
  refine .inr ⟨⟨g, 0, none⟩, sz, rfl, hf.2, fun hm => ?_, h7.keeps ⟨Nat.le_refl _, fun _ _ _ => rfl, fun g _ hm hm' => hm (.inl (hMof g hm'))⟩ fun _ _ x => x⟩
  have := hM.1 g (hMof g hm)
  have := hf.1
  omega
end
end Go.Eng
