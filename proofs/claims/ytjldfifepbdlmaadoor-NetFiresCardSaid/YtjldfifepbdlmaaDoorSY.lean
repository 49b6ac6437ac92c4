/-
 The contract of net.Incidence: a slice of slices of the call's own, written in place.
-/
import Derived.Test.YtjldfifepbdlmaaDoorN18
import Derived.Lib.Walk
import Derived.Lib.Hide
import Derived.Laws.IdiomCopy
import Derived.Shelf.RegionOpenPlain
import Derived.WalkKit
import Derived.BigCall
import Derived.Deep.LoopGhost
set_option linter.unusedSimpArgs false
set_option linter.unusedVariables false
namespace Go.Proofs.YtjldfifepbdlmaaDoor
open Go.RowKit Go.Eng Go.Lib Go.Proofs
structure GridW (w0 : World) (nb G : Nat) (B : Nat → Nat) (P m : Nat) (f : Nat → Nat → Int) (A1 A2 : Value) (wr : World) : Prop where
 below : Eng.Below w0.heap.size w0 wr
 outer : ∀ p, p < P → wr.cell? ⟨G, p, none⟩ = some (.slice (some ⟨B p, 0, none⟩) m m)
 inner : ∀ p t, p < P → t < m → wr.cell? ⟨B p, t, none⟩ = some (.int .i64 (f p t))
 fz : ∀ p t, p < P → t < m → wr.frozen? ⟨B p, t, none⟩ = false
 gl : w0.heap.size < G ∧ G < wr.heap.size
 bl : ∀ p, p < P → G < B p ∧ B p < wr.heap.size
 inj : ∀ p q, p < P → q < P → B p = B q → p = q
 box : nb = w0.heap.size ∧ wr.cell? ⟨nb, 0, none⟩ = some A1 ∧ wr.cell? ⟨nb, 1, none⟩ = some A2
section
variable {w0 wr : World} {nb G P m : Nat} {B : Nat → Nat} {f g : Nat → Nat → Int} {A1 A2 : Value}
theorem GridW.up (h : GridW w0 nb G B P m f A1 A2 wr) {w' : World} (hb : Eng.Below wr.heap.size wr w') : GridW w0 nb G B P m f A1 A2 w' := by
 have hc : ∀ b o, b < wr.heap.size → w'.cell? ⟨b, o, none⟩ = wr.cell? ⟨b, o, none⟩ := fun b o hlt => World.cell?_of_block (hb.block b hlt)
 have hf : ∀ b o, b < wr.heap.size → w'.frozen? ⟨b, o, none⟩ = wr.frozen? ⟨b, o, none⟩ := fun b o hlt => World.frozen?_of_block (hb.block b hlt)
 have hs := hb.size
 have hnb : nb < wr.heap.size := by have := h.box.1; have := h.gl; omega
 exact ⟨h.below.trans (hb.mono h.below.size), fun p hp => by rw [hc _ _ h.gl.2]; exact h.outer p hp, fun p t hp ht => by rw [hc _ _ (h.bl p hp).2]; exact h.inner p t hp ht,
  fun p t hp ht => by rw [hf _ _ (h.bl p hp).2]; exact h.fz p t hp ht, ⟨h.gl.1, Nat.lt_of_lt_of_le h.gl.2 hs⟩, fun p hp => ⟨(h.bl p hp).1, Nat.lt_of_lt_of_le (h.bl p hp).2 hs⟩, h.inj,
  h.box.1, by rw [hc _ _ hnb]; exact h.box.2.1, by rw [hc _ _ hnb]; exact h.box.2.2⟩
theorem GridW.fn (h : GridW w0 nb G B P m f A1 A2 wr) (e : ∀ p t, p < P → t < m → f p t = g p t) : GridW w0 nb G B P m g A1 A2 wr :=
 ⟨h.below, h.outer, fun p t hp ht => by rw [← e p t hp ht]; exact h.inner p t hp ht, h.fz, h.gl, h.bl, h.inj, h.box⟩
theorem GridW.set (h : GridW w0 nb G B P m f A1 A2 wr) {p t : Nat} (hp : p < P) (ht : t < m) (x : Int) : GridW w0 nb G B P m (fun p' t' => if p' = p ∧ t' = t then x else f p' t') A1 A2 (wr.setCell ⟨B p, t, none⟩ (.int .i64 x)) := by
 have hbp := h.bl p hp
 have hgl := h.gl
 have hnb := h.box.1
 refine ⟨?_, fun q hq => ?_, fun q u hq hu => ?_, fun q u hq hu => ?_, ⟨h.gl.1, by simpa using h.gl.2⟩, fun q hq => ⟨(h.bl q hq).1, by simpa using (h.bl q hq).2⟩, h.inj, h.box.1, ?_, ?_⟩
 ·exact ⟨h.below.toBelow.setCell (by show _ ≤ B p; omega) _, h.below.drawn⟩
 ·rw [World.cell?_setCell_other (h := fun e => by have := congrArg Addr.block e; simp at this <;> omega)]
  exact h.outer q hq
 ·by_cases e : q = p ∧ u = t
  ·obtain ⟨rfl, rfl⟩ := e
   rw [if_pos ⟨rfl, rfl⟩, World.cell?_setCell_same (h := h.inner q u hq hu)]
  ·rw [if_neg e, World.cell?_setCell_other (h := fun e' => e (by
    have e1 := congrArg Addr.block e'
    have e2 := congrArg Addr.off e'
    simp at e1 e2
    exact ⟨(h.inj p q hp hq e1).symm, e2.symm⟩))]
   exact h.inner q u hq hu
 ·rw [World.frozen?_setCell]
  exact h.fz q u hq hu
 ·rw [World.cell?_setCell_other (h := fun e => by have := congrArg Addr.block e; simp at this <;> omega)]
  exact h.box.2.1
 ·rw [World.cell?_setCell_other (h := fun e => by have := congrArg Addr.block e; simp at this <;> omega)]
  exact h.box.2.2
end
def fgt (n : Net) (k : Nat) (p t : Nat) : Int := if t < k then wsum (n.trs.getD t Tr.no).out p - wsum (n.trs.getD t Tr.no).inn p else 0
def fin1 (n : Net) (k j : Nat) (p t : Nat) : Int := if t = k then 0 - wsum ((n.trs.getD t Tr.no).inn.take j) p else fgt n k p t
def fin2 (n : Net) (k j : Nat) (p t : Nat) : Int := if t = k then wsum ((n.trs.getD t Tr.no).out.take j) p - wsum (n.trs.getD t Tr.no).inn p else fgt n k p t
theorem box_cells {w w1 : World} {A1 A2 : Value} {e : TypeId} (hb : Eng.Below (w.heap.size + 1) (w.alloc (.cells #[A1, A2] e)) w1) : w1.cell? ⟨w.heap.size, 0, none⟩ = some A1 ∧ w1.cell? ⟨w.heap.size, 1, none⟩ = some A2 ∧ w.heap.size < w1.heap.size ∧ Eng.Below w.heap.size w w1 := by
 have hB : w1.heap[w.heap.size]? = some (.cells #[A1, A2] e (0, 0)) := (hb.block _ (Nat.lt_succ_self _)).trans (heap_alloc_new w _)
 have hs := hb.size
 refine ⟨by rw [cell_of_row w1 _ _ _ _ _ hB]; rfl, by rw [cell_of_row w1 _ _ _ _ _ hB]; rfl, Nat.lt_of_lt_of_le (by simp) hs, ((Eng.Below.refl _ w).alloc (Nat.le_refl _) _).trans (hb.mono (Nat.le_succ _))⟩
theorem mk_runB {t e : TypeId} (hd : (Ty t).desc = .slice e) (hk : (Ty e).desc ≠ .other) (hs : (Ty e).size = 1) (hby : (Ty e).bytes ≤ 24) (m : Nat) (hm : m ≤ 1000) :
  ∃ z : Value, (∀ (w' : World) (M : Nat → Prop), RepL w' M (Ty e).zero [z]) ∧ ∀ w : World, (Instr.makeSlice t (.int .i64 m) (.int .i64 m)).run Tryd.prog w = .ok (.slice (some ⟨w.heap.size, 0, none⟩) m m) (w.alloc (.cells (Array.replicate m z) e)) := by
 obtain ⟨i, z, hinfo, hi1, hi2, hi3, hi4⟩ := (Ty_ok e).info hk
 have hzr : ∀ (w' : World) (M : Nat → Prop), RepL w' M (Ty e).zero z.cells.toList := fun w' M => zerosOk_rep _ _ hi4.1
 have hzl := RepL.length_eq _ _ (hzr default fun _ => False)
 have hzs : z.cells.size = 1 := by
  simp at hzl
  have := hi4.2.2
  omega
 obtain ⟨z0, hz0⟩ : ∃ z0, z.cells = #[z0] := Array.size_eq_one_iff.1 hzs
 refine ⟨z0, fun w' M => by have := hzr w' M; rw [hz0] at this; exact this, fun w => ?_⟩
 have hr := run_makeSlice w t e i z (under_slice Ty_ok hd) hinfo hi3 .i64 .i64 m m (by omega) (Int.le_refl _) (by rw [Int.toNat_natCast, hi1, hs]; omega) (by
  have : i.bytes * m ≤ 24 * 1000 := Nat.mul_le_mul (by omega) hm
  rw [← Int.natCast_mul]; omega) (by omega)
 have hmc : madeCells #[z0] (m * 1) = Array.replicate m z0 := by
  apply Array.ext
  ·simp [madeCells]
  ·intro j h1 h2
   simp [madeCells, Nat.mod_one]
 rw [hr, Int.toNat_natCast, hi1, hs, hz0, hmc]
theorem mk_runA {t e : TypeId} (hd : (Ty t).desc = .slice e) (hk : (Ty e).desc ≠ .other) (hs : (Ty e).size = 1) (hby : (Ty e).bytes ≤ 24) (m : Nat) (hm : m ≤ 1000) :
  ∃ z : Value, True ∧ ∀ w : World, (Instr.makeSlice t (.int .i64 m) (.int .i64 m)).run Tryd.prog w = .ok (.slice (some ⟨w.heap.size, 0, none⟩) m m) (w.alloc (.cells (Array.replicate m z) e)) := by
 obtain ⟨z, _, h⟩ := mk_runB hd hk hs hby m hm
 exact ⟨z, trivial, h⟩
structure MadeW (w0 : World) (nb G : Nat) (B : Nat → Nat) (k P m : Nat) (A1 A2 : Value) (wr : World) : Prop where
 grid : GridW w0 nb G B k m (fun _ _ => 0) A1 A2 wr
 room : ∀ p, p < P → (wr.cell? ⟨G, p, none⟩).isSome = true ∧ wr.frozen? ⟨G, p, none⟩ = false
theorem MadeW.push {w0 wr : World} {nb G P k m : Nat} {B : Nat → Nat} {A1 A2 : Value} {e : TypeId} (h : MadeW w0 nb G B k P m A1 A2 wr) (hk : k < P) :
  MadeW w0 nb G (fun p => if p = k then wr.heap.size else B p) (k + 1) P m A1 A2 ((wr.setCell ⟨G, k, none⟩ (.slice (some ⟨wr.heap.size, 0, none⟩) m m)).alloc (.cells (Array.replicate m (.int .i64 0)) e)) := by
 rw [← World.setCell_alloc_past _ _ _ _ h.grid.gl.2]
 obtain ⟨g, hr⟩ := h
 have hb : Eng.Below wr.heap.size wr (wr.alloc (.cells (Array.replicate m (.int .i64 0)) e)) := (Eng.Below.refl _ _).alloc (Nat.le_refl _) _
 have h2 := g.up hb
 have hgl := g.gl
 have hnb := g.box.1
 have hsz : (wr.alloc (.cells (Array.replicate m (.int .i64 0)) e)).heap.size = wr.heap.size + 1 := by simp
 have hnew : (wr.alloc (.cells (Array.replicate m (.int .i64 0)) e)).heap[wr.heap.size]? = some (.cells (Array.replicate m (.int .i64 0)) e (0, 0)) := heap_alloc_new wr _
 have hcG : ∀ p, p < P → ((wr.alloc (.cells (Array.replicate m (.int .i64 0)) e)).cell? ⟨G, p, none⟩).isSome = true := fun p hp => by rw [World.cell?_of_block (hb.block G hgl.2)]; exact (hr p hp).1
 refine ⟨⟨⟨h2.below.toBelow.setCell (by show _ ≤ G; omega) _, h2.below.drawn⟩, fun p hp => ?_, fun p t hp ht => ?_, fun p t hp ht => ?_, ⟨hgl.1, by simp only [World.size_setCell]; omega⟩, fun p hp => ?_, fun p q hp hq => ?_, hnb, ?_, ?_⟩, fun p hp => ⟨?_, ?_⟩⟩
 ·by_cases e1 : p = k
  ·subst e1
   rw [if_pos rfl, World.cell?_setCell_same' _ _ _ (hcG p hk)]
  ·rw [if_neg e1, World.cell?_setCell_other (h := fun e2 => e1 (by have := congrArg Addr.off e2; exact this.symm))]
   exact h2.outer p (by omega)
 ·by_cases e1 : p = k
  ·subst e1
   rw [if_pos rfl, World.cell?_setCell_other (h := fun e2 => by have := congrArg Addr.block e2; simp at this <;> omega), cell_of_row _ _ _ _ _ _ hnew, Array.getElem?_replicate, if_pos ht]
  ·rw [if_neg e1, World.cell?_setCell_other (h := fun e2 => by have := congrArg Addr.block e2; have := (g.bl p (by omega)); simp at * <;> omega)]
   exact h2.inner p t (by omega) ht
 ·rw [World.frozen?_setCell]
  by_cases e1 : p = k
  ·subst e1
   rw [if_pos rfl]
   unfold World.frozen?
   rw [hnew]
   simp
  ·rw [if_neg e1]
   exact h2.fz p t (by omega) ht
 ·simp only [World.size_setCell]
  by_cases e1 : p = k
  ·rw [if_pos e1]; omega
  ·rw [if_neg e1]
   have := g.bl p (by omega)
   omega
 ·intro hpq
  by_cases e1 : p = k <;> by_cases e2 : q = k
  ·omega
  ·simp only [if_pos e1, if_neg e2] at hpq
   have := g.bl q (by omega)
   omega
  ·simp only [if_neg e1, if_pos e2] at hpq
   have := g.bl p (by omega)
   omega
  ·simp only [if_neg e1, if_neg e2] at hpq
   exact g.inj p q (by omega) (by omega) hpq
 ·rw [World.cell?_setCell_other (h := fun e2 => by have := congrArg Addr.block e2; simp at this <;> omega)]
  exact h2.box.2.1
 ·rw [World.cell?_setCell_other (h := fun e2 => by have := congrArg Addr.block e2; simp at this <;> omega)]
  exact h2.box.2.2
 ·by_cases e1 : p = k
  ·subst e1
   rw [World.cell?_setCell_same' _ _ _ (hcG p hk)]; rfl
  ·rw [World.cell?_setCell_other (h := fun e2 => e1 (by have := congrArg Addr.off e2; exact this.symm))]
   exact hcG p hp
 ·rw [World.frozen?_setCell, World.frozen?_of_block (hb.block G hgl.2)]
  exact (hr p hp).2
def ArcsAt (w : World) (l : List Arc) (a : Option Addr) : Prop := ∀ j, j < l.length → ∃ b o, a = some ⟨b, o, none⟩ ∧ b < w.heap.size ∧ w.cell? ⟨b, o + j * 2, none⟩ = some (.int .i64 (l.getD j Arc.no).place) ∧ w.cell? ⟨b, o + j * 2 + 1, none⟩ = some (.int .i64 (l.getD j Arc.no).weight)
def TrsAt (w : World) (l : List Tr) (a : Option Addr) : Prop := ∀ k, k < l.length → ∃ b o aI aO cI cO, a = some ⟨b, o, none⟩ ∧ b < w.heap.size ∧ w.cell? ⟨b, o + k * 3, none⟩ = some (.int .i64 (l.getD k Tr.no).event) ∧ w.cell? ⟨b, o + k * 3 + 1, none⟩ = some (.slice aI (l.getD k Tr.no).inn.length cI) ∧
 w.cell? ⟨b, o + k * 3 + 2, none⟩ = some (.slice aO (l.getD k Tr.no).out.length cO) ∧ ArcsAt w (l.getD k Tr.no).inn aI ∧ ArcsAt w (l.getD k Tr.no).out aO
theorem GridW.old {w0 wr : World} {nb G P m : Nat} {B : Nat → Nat} {f : Nat → Nat → Int} {A1 A2 : Value} (h : GridW w0 nb G B P m f A1 A2 wr) {b o : Nat} {v : Value} (hb : b < w0.heap.size) (hc : w0.cell? ⟨b, o, none⟩ = some v) : wr.cell? ⟨b, o, none⟩ = some v := by
 rw [World.cell?_of_block (w := w0) (h.below.block _ hb)]
 exact hc
theorem take_in {P j : Nat} {l : List Arc} (h : ArcsIn P l) : ArcsIn P (l.take j) :=
 ⟨fun a ha => h.place a (List.mem_of_mem_take ha), fun a ha => h.weight a (List.mem_of_mem_take ha), h.ord.sublist (List.take_sublist _ _)⟩
theorem fin1_bound {n : Net} {k j P : Nat} (h : ArcsIn P (n.trs.getD k Tr.no).inn) (p : Nat) : -8 ≤ fin1 n k j p k ∧ fin1 n k j p k ≤ 0 := by
 have := wsum_bound (p := p) (take_in (j := j) h)
 rw [fin1, if_pos rfl]
 omega
theorem fin2_bound {n : Net} {k j P : Nat} (h : ArcsIn P (n.trs.getD k Tr.no).inn) (h' : ArcsIn P (n.trs.getD k Tr.no).out) (p : Nat) : -8 ≤ fin2 n k j p k ∧ fin2 n k j p k ≤ 8 := by
 have := wsum_bound (p := p) h
 have := wsum_bound (p := p) (take_in (j := j) h')
 rw [fin2, if_pos rfl]
 omega
theorem wsum_append (l l' : List Arc) (p : Nat) : wsum (l ++ l') p = wsum l p + wsum l' p := by
 induction l with
 | nil => simp [wsum]
 | cons a l ih => simp only [List.cons_append, wsum, ih]; omega
theorem wsum_take (l : List Arc) (j p : Nat) (h : j < l.length) : wsum (l.take (j + 1)) p = wsum (l.take j) p + if (l.getD j Arc.no).place.toNat = p then (l.getD j Arc.no).weight else 0 := by
 rw [take_succ_getD l j Arc.no h, wsum_append]
 simp [wsum]
theorem fin1_step {n : Net} {k j p : Nat} {x : Arc} {v : Int} {t : Tr} (ht : n.trs.getD k Tr.no = t) (hj : j < t.inn.length) (hx : t.inn.getD j Arc.no = x) (hp : x.place = p) (hv : fin1 n k j p k = v) (p' t' : Nat) :
  (if p' = p ∧ t' = k then v - x.weight else fin1 n k j p' t') = fin1 n k (j + 1) p' t' := by
 subst ht
 by_cases e : t' = k
 ·subst e
  have h1 := wsum_take (n.trs.getD t' Tr.no).inn j p' hj
  rw [hx, hp, Int.toNat_natCast] at h1
  rw [fin1, if_pos rfl] at hv
  by_cases e2 : p' = p
  ·subst e2
   rw [if_pos rfl] at h1
   rw [if_pos ⟨rfl, rfl⟩, fin1, if_pos rfl]
   omega
  ·rw [if_neg (Ne.symm e2)] at h1
   rw [if_neg (fun h => e2 h.1), fin1, if_pos rfl, fin1, if_pos rfl]
   omega
 ·rw [if_neg (fun h => e h.2), fin1, if_neg e, fin1, if_neg e]
theorem fin2_step {n : Net} {k j p : Nat} {x : Arc} {v : Int} {t : Tr} (ht : n.trs.getD k Tr.no = t) (hj : j < t.out.length) (hx : t.out.getD j Arc.no = x) (hp : x.place = p) (hv : fin2 n k j p k = v) (p' t' : Nat) :
  (if p' = p ∧ t' = k then v + x.weight else fin2 n k j p' t') = fin2 n k (j + 1) p' t' := by
 subst ht
 by_cases e : t' = k
 ·subst e
  have h1 := wsum_take (n.trs.getD t' Tr.no).out j p' hj
  rw [hx, hp, Int.toNat_natCast] at h1
  rw [fin2, if_pos rfl] at hv
  by_cases e2 : p' = p
  ·subst e2
   rw [if_pos rfl] at h1
   rw [if_pos ⟨rfl, rfl⟩, fin2, if_pos rfl]
   omega
  ·rw [if_neg (Ne.symm e2)] at h1
   rw [if_neg (fun h => e2 h.1), fin2, if_pos rfl, fin2, if_pos rfl]
   omega
 ·rw [if_neg (fun h => e h.2), fin2, if_neg e, fin2, if_neg e]
theorem fin_turn {n : Net} {k : Nat} {t : Tr} (ht : n.trs.getD k Tr.no = t) (p t' : Nat) : fin1 n k t.inn.length p t' = fin2 n k 0 p t' := by
 subst ht
 by_cases e : t' = k
 ·subst e
  rw [fin1, if_pos rfl, fin2, if_pos rfl, List.take_length]
  rfl
 ·rw [fin1, if_neg e, fin2, if_neg e]
theorem fin_end {n : Net} {k : Nat} {t : Tr} (ht : n.trs.getD k Tr.no = t) (p t' : Nat) : fin2 n k t.out.length p t' = fgt n (k + 1) p t' := by
 subst ht
 by_cases e : t' = k
 ·subst e
  rw [fin2, if_pos rfl, fgt, if_pos (Nat.lt_succ_self _), List.take_length]
 ·rw [fin2, if_neg e, fgt, fgt]
  by_cases e2 : t' < k
  ·rw [if_pos e2, if_pos (by omega)]
  ·rw [if_neg e2, if_neg (by omega)]
theorem kept_cell {w : World} {g k b o : Nat} {v u : Value} {ob : Obj} (hb : b < w.heap.size) (hg : g ≠ b) (hc : w.cell? ⟨b, o, none⟩ = some v) : (((w.setCell ⟨g, k, none⟩ u).alloc ob).drew).cell? ⟨b, o, none⟩ = some v := by
 have h1 : ((w.setCell ⟨g, k, none⟩ u).alloc ob).cell? ⟨b, o, none⟩ = some v := by
  rw [World.cell?_alloc_lt (h := by simpa using hb), World.cell?_setCell_other (h := fun e => hg (congrArg Addr.block e))]
  exact hc
 exact h1
theorem made_zero {w w1 : World} {A1 A2 zo : Value} {e : TypeId} {P m : Nat} (hb : Eng.Below w.heap.size w w1) (hs : w.heap.size < w1.heap.size) (h0 : w1.cell? ⟨w.heap.size, 0, none⟩ = some A1) (h1 : w1.cell? ⟨w.heap.size, 1, none⟩ = some A2) :
  MadeW w w.heap.size w1.heap.size (fun _ => 0) 0 P m A1 A2 (w1.alloc (.cells (Array.replicate P zo) e)) := by
 have hnew : (w1.alloc (.cells (Array.replicate P zo) e)).heap[w1.heap.size]? = some (.cells (Array.replicate P zo) e (0, 0)) := heap_alloc_new w1 _
 refine ⟨⟨hb.alloc hb.size _, fun p hp => by omega, fun p t hp => by omega, fun p t hp => by omega, ⟨hs, by simp⟩, fun p hp => by omega, fun p q hp => by omega, rfl, ?_, ?_⟩, fun p hp => ⟨?_, ?_⟩⟩
 ·rw [World.cell?_alloc_lt (h := hs)]; exact h0
 ·rw [World.cell?_alloc_lt (h := hs)]; exact h1
 ·rw [cell_of_row _ _ _ _ _ _ hnew, Array.getElem?_replicate, if_pos hp]; rfl
 ·unfold World.frozen?
  rw [hnew]
  simp
set_option maxHeartbeats 4000000 in
set_option maxRecDepth 100000 in
theorem Incidence_w (n : Net) (hN : NetOk n) (a1 a2 : Option Addr) (c1 c2 : Nat) (w : World)
  (HT : TrsAt w n.trs a2) (hchk : Calls Tryd.prog 34 #[.agg #[.slice a1 n.init.length c1, .slice a2 n.trs.length c2]] (w.alloc (.cells #[.slice a1 n.init.length c1, .slice a2 n.trs.length c2] 30)) fun e w' => e = .returned (.int .i64 0) ∧ Eng.Below (w.heap.size + 1) (w.alloc (.cells #[.slice a1 n.init.length c1, .slice a2 n.trs.length c2] 30)) w') :
  Calls Tryd.prog 29 #[.agg #[.slice a1 n.init.length c1, .slice a2 n.trs.length c2]] w fun e w' => ∃ nb G B, e = .returned (.tuple #[.slice (some ⟨G, 0, none⟩) n.init.length n.init.length, .int .i64 0]) ∧ GridW w nb G B n.init.length n.trs.length (fgt n n.trs.length) (.slice a1 n.init.length c1) (.slice a2 n.trs.length c2) w' := by
 have hi10 := hN.init
 have ht10 := hN.trs
 go_enter Tryd.func29, Tryd.ntmps29
 obtain ⟨zo, _, hmo⟩ : ∃ z : Value, True ∧ ∀ w : World, (Instr.makeSlice 41 (.int .i64 n.init.length) (.int .i64 n.init.length)).run Tryd.prog w = .ok (.slice (some ⟨w.heap.size, 0, none⟩) n.init.length n.init.length) (w.alloc (.cells (Array.replicate n.init.length z) 27)) := mk_runA (by kernel_rfl) (of_decide_eq_true (by kernel_rfl)) (by kernel_rfl) (of_decide_eq_true (by kernel_rfl)) n.init.length (by omega)
 obtain ⟨zi, hzi, hmi⟩ : ∃ z : Value, (∀ (w' : World) (M : Nat → Prop), RepL w' M (Ty 3).zero [z]) ∧ ∀ w : World, (Instr.makeSlice 27 (.int .i64 n.trs.length) (.int .i64 n.trs.length)).run Tryd.prog w = .ok (.slice (some ⟨w.heap.size, 0, none⟩) n.trs.length n.trs.length) (w.alloc (.cells (Array.replicate n.trs.length z) 3)) := mk_runB (by kernel_rfl) (of_decide_eq_true (by kernel_rfl)) (by kernel_rfl) (of_decide_eq_true (by kernel_rfl)) n.trs.length (by omega)
 obtain rfl : zi = .int .i64 0 := (RepL.get _ _ (hzi w fun _ => False) 0 (.int .i64 0) (by kernel_rfl)).elim fun v hv => by
  have := hv.1
  simp at this
  rw [this]
  exact hv.2
 clear hzi
 go_wp2_with (go_at_call 34; refine hchk.mono ?_; rintro e w1 ⟨rfl, hb⟩; obtain ⟨hx0, hx1, hx2, hx3⟩ := box_cells hb; clear hb)
 have HB1 : Aside (Eng.Below w.heap.size w w1) := hx3
 clear hx3 hmo
 have hM0 : MadeW w w.heap.size w1.heap.size (fun _ => 0) 0 n.init.length n.trs.length (.slice a1 n.init.length c1) (.slice a2 n.trs.length c2) (w1.alloc (.cells (Array.replicate n.init.length zo) 27)) := made_zero HB1.out hx2 hx0 hx1
 have HM0 : Aside _ := hM0
 clear hM0 hx0 hx1
 go_loopg [24] n.init.length (fun g0 s24 wr => ∃ (k : Nat) (B : Nat → Nat), s24 = .int .i64 k ∧ k ≤ n.init.length ∧ n.init.length - k ≤ g0 ∧ Aside (MadeW w w.heap.size w1.heap.size B k n.init.length n.trs.length (.slice a1 n.init.length c1) (.slice a2 n.trs.length c2) wr))
 case atStart => exact ⟨0, fun _ => 0, rfl, by omega, by omega, HM0⟩
 case round =>
  obtain ⟨k, B, rfl, hk, hg, HM⟩ := hrel
  have hM := HM.out
  have hb1 := hM.grid.box.2.2
  by_cases hlt : k < n.init.length
  ·obtain ⟨q1, q2⟩ := hM.room k hlt
   have hGlt := hM.grid.gl.2
   obtain ⟨c0, hc0⟩ := Option.isSome_iff_exists.1 q1
   clear hM q1
   go_wp2
   go_roundg (n.init.length - (k + 1))
   case measure => omega
   case rel => exact ⟨k + 1, _, by go_num, by omega, Nat.le_refl _, HM.out.push hlt⟩
  ·obtain rfl : k = n.init.length := by omega
   clear hb1 hM
   have HG0 : Aside (GridW w w.heap.size w1.heap.size B n.init.length n.trs.length (fgt n 0) (.slice a1 n.init.length c1) (.slice a2 n.trs.length c2) wr) := HM.out.grid.fn fun p t _ _ => by rw [fgt, if_neg (by omega)]
   have hb1 := HM.out.grid.box.2.2
   clear HM
   go_wp2
   clear hb1
   go_loopg [38] n.trs.length (fun g0 s38 wr => ∃ k : Nat, s38 = .int .i64 k ∧ k ≤ n.trs.length ∧ n.trs.length - k ≤ g0 ∧ Aside (GridW w w.heap.size w1.heap.size B n.init.length n.trs.length (fgt n k) (.slice a1 n.init.length c1) (.slice a2 n.trs.length c2) wr))
   case atStart => exact ⟨0, rfl, by omega, by omega, HG0⟩
   case round =>
    clear HG0
    obtain ⟨k, rfl, hk, hg, HG⟩ := hrel
    by_cases hlt : k < n.trs.length
    ·obtain ⟨b, o, aI, aO, cI, cO, rfl, hlb, e0, e1, e2, HI, HO⟩ := HT k hlt
     have f0 := HG.out.old hlb e0
     have f1 := HG.out.old hlb e1
     have f2 := HG.out.old hlb e2
     generalize htk : n.trs.getD k Tr.no = t at *
     have hmem : t ∈ n.trs := by rw [← htk]; exact getD_mem n.trs k Tr.no hlt
     have hAI := hN.inn t hmem
     have hAO := hN.out t hmem
     have TK : Aside (n.trs.getD k Tr.no = t) := htk
     have hil := arcs_few _ _ hAI
     have hol := arcs_few _ _ hAO
     clear e0 e1 e2 htk hmem
     have HG1 : Aside (GridW w w.heap.size w1.heap.size B n.init.length n.trs.length (fin1 n k 0) (.slice a1 n.init.length c1) (.slice (some ⟨b, o, none⟩) n.trs.length c2) (wr.alloc (.cells #[.int .i64 t.event, .slice aI t.inn.length cI, .slice aO t.out.length cO] 72))) :=
      (HG.out.up ((Eng.Below.refl _ _).alloc (Nat.le_refl _) _)).fn fun p t' _ _ => by
       rw [fin1]
       split
       ·rename_i e; subst e; rw [fgt, if_neg (by omega)]; rfl
       ·rfl
     have HTB : ∀ p, p < n.init.length → B p < wr.heap.size := fun p hp => (HG.out.bl p hp).2
     have HTB' : Aside _ := HTB
     clear HTB
     go_wp2
     clear f0 f1 f2
     go_loopg [46] t.inn.length (fun g0 s46 W => ∃ j : Nat, s46 = .int .i64 j ∧ j ≤ t.inn.length ∧ t.inn.length - j ≤ g0 ∧ wr.heap.size < W.heap.size ∧ Aside (GridW w w.heap.size w1.heap.size B n.init.length n.trs.length (fin1 n k j) (.slice a1 n.init.length c1) (.slice (some ⟨b, o, none⟩) n.trs.length c2) W ∧ W.cell? ⟨wr.heap.size, 2, none⟩ = some (.slice aO t.out.length cO)))
     case atStart =>
      refine ⟨0, rfl, by omega, by omega, by simp, (show Aside _ from ⟨HG1, ?_⟩)⟩
      rw [cell_of_row _ _ _ _ _ _ (heap_alloc_new wr _)]; rfl
     case round =>
      clear HG1
      obtain ⟨j, rfl, hj, hg2, hsz, HG⟩ := hrel
      by_cases hlj : j < t.inn.length
      ·obtain ⟨b3, o3, rfl, hl3, e0, e1⟩ := HI j hlj
       have f0 := HG.out.1.old hl3 e0
       have f1 := HG.out.1.old hl3 e1
       clear e0 e1
       have hmem := getD_mem t.inn j Arc.no hlj
       have hp1 := hAI.place _ hmem
       have hw1 := hAI.weight _ hmem
       generalize hx : t.inn.getD j Arc.no = x at *
       obtain ⟨p, hp⟩ : ∃ p : Nat, x.place = p := ⟨x.place.toNat, by omega⟩
       rw [hp] at f0
       have hpl : p < n.init.length := by omega
       have c0 := HG.out.1.outer p hpl
       have c1' := HG.out.1.inner p k hpl hlt
       have cf := HG.out.1.fz p k hpl hlt
       have hgl := HG.out.1.gl.2
       have hbl := (HG.out.1.bl p hpl).2
       generalize hv : fin1 n k j p k = v at c1'
       have XV : Aside (fin1 n k j p k = v ∧ t.inn.getD j Arc.no = x ∧ x.place = p) := ⟨hv, hx, hp⟩
       have hvb : -8 ≤ v ∧ v ≤ 0 := by rw [← hv]; exact fin1_bound (by rw [TK.out]; exact hAI) p
       have htb := HTB'.out p hpl
       clear hv hx hp hmem
       go_wp2_with fail
       have hmx : Tryd.prog.follows .mixedOrders = true := by kernel_rfl
       go_region_o
       clear hmx
       go_wp2
       go_roundg (t.inn.length - (j + 1))
       case measure => omega
       case rel =>
        refine ⟨j + 1, by go_num, by omega, Nat.le_refl _, by simp; omega, (show Aside _ from ⟨?_, kept_cell hsz (by omega) HG.out.2⟩)⟩
        refine ((HG.out.1.set hpl hlt (v - x.weight)).up (((Eng.Below.refl _ _).alloc (Nat.le_refl _) _).drew)).fn fun p' t' _ _ => ?_
        exact fin1_step TK.out hlj XV.out.2.1 XV.out.2.2 XV.out.1 p' t'
      ·obtain rfl : j = t.inn.length := by omega
       have HG1 : Aside (GridW w w.heap.size w1.heap.size B n.init.length n.trs.length (fin2 n k 0) (.slice a1 n.init.length c1) (.slice (some ⟨b, o, none⟩) n.trs.length c2) _) := HG.out.1.fn fun p t' _ _ => fin_turn TK.out p t'
       have f2 := HG.out.2
       clear HG
       go_wp2
       clear f2
       have HS : Aside (∀ p, p < n.init.length → B p < wr.heap.size) := fun p hp => Nat.lt_trans (HTB'.out p hp) hsz
       go_loopg [66] t.out.length (fun g0 s66 W => ∃ j : Nat, s66 = .int .i64 j ∧ j ≤ t.out.length ∧ t.out.length - j ≤ g0 ∧ Aside (GridW w w.heap.size w1.heap.size B n.init.length n.trs.length (fin2 n k j) (.slice a1 n.init.length c1) (.slice (some ⟨b, o, none⟩) n.trs.length c2) W))
       case atStart => exact ⟨0, rfl, by omega, by omega, HG1⟩
       case round =>
        clear HG1
        obtain ⟨j, rfl, hj, hg3, HG⟩ := hrel
        by_cases hlj : j < t.out.length
        ·obtain ⟨b3, o3, rfl, hl3, e0, e1⟩ := HO j hlj
         have f0 := HG.out.old hl3 e0
         have f1 := HG.out.old hl3 e1
         clear e0 e1
         have hmem := getD_mem t.out j Arc.no hlj
         have hp1 := hAO.place _ hmem
         have hw1 := hAO.weight _ hmem
         generalize hx : t.out.getD j Arc.no = x at *
         obtain ⟨p, hp⟩ : ∃ p : Nat, x.place = p := ⟨x.place.toNat, by omega⟩
         rw [hp] at f0
         have hpl : p < n.init.length := by omega
         have c0 := HG.out.outer p hpl
         have c1' := HG.out.inner p k hpl hlt
         have cf := HG.out.fz p k hpl hlt
         have hgl := HG.out.gl.2
         have hbl := (HG.out.bl p hpl).2
         generalize hv : fin2 n k j p k = v at c1'
         have XV : Aside (fin2 n k j p k = v ∧ t.out.getD j Arc.no = x ∧ x.place = p) := ⟨hv, hx, hp⟩
         have hvb : -8 ≤ v ∧ v ≤ 8 := by rw [← hv]; exact fin2_bound (by rw [TK.out]; exact hAI) (by rw [TK.out]; exact hAO) p
         clear hv hx hp hmem
         go_wp2_with fail
         have hmx : Tryd.prog.follows .mixedOrders = true := by kernel_rfl
         go_region_o
         clear hmx
         go_wp2
         go_roundg (t.out.length - (j + 1))
         case measure => omega
         case rel =>
          refine ⟨j + 1, by go_num, by omega, Nat.le_refl _, (show Aside _ from ?_)⟩
          refine ((HG.out.set hpl hlt (v + x.weight)).up (((Eng.Below.refl _ _).alloc (Nat.le_refl _) _).drew)).fn fun p' t' _ _ => ?_
          exact fin2_step TK.out hlj XV.out.2.1 XV.out.2.2 XV.out.1 p' t'
        ·obtain rfl : j = t.out.length := by omega
         go_wp2
         go_roundg (n.trs.length - (k + 1))
         case measure => omega
         case rel => exact ⟨k + 1, by go_num, by omega, Nat.le_refl _, HG.out.fn fun p t' _ _ => fin_end TK.out p t'⟩
    ·obtain rfl : k = n.trs.length := by omega
     go_wp2
     go_ret2
     exact ⟨_, _, _, rfl, HG.out⟩
def incL (n : Net) (p : Nat) : List Int := n.trs.map fun t => wsum t.out p - wsum t.inn p
def incM (n : Net) : List (List Int) := (List.range n.init.length).map (incL n)
def matD (l : List (List Int)) : List (List D) := l.map fun r => [.list (ints r)]
theorem matD_length (l : List (List Int)) : (matD l).length = l.length := by simp [matD]
theorem matD_at {l : List (List Int)} {k : Nat} (h : k < l.length) (z : List D) : (matD l).getD k z = [.list (ints (l.getD k []))] := by
 simp only [matD, List.getD, List.getElem?_map, List.getElem?_eq_getElem h]; rfl
attribute [go_sem] matD_length
theorem incM_at {n : Net} {p : Nat} (h : p < n.init.length) : (incM n).getD p [] = incL n p := by
 simp [incM, List.getD, List.getElem?_range h]
theorem incL_at {n : Net} {p t : Nat} (h : t < n.trs.length) : (incL n p).getD t 0 = wsum (n.trs.getD t Tr.no).out p - wsum (n.trs.getD t Tr.no).inn p := by
 simp [incL, List.getD, List.getElem?_eq_getElem h]
theorem rows_spot {w : World} {M : Nat → Prop} {b o : Nat} {sp : Option Nat} {sz : Nat} {rows : List (List D)} (hr : RepRows w M ⟨b, o, sp⟩ sz 0 rows) (h0 : 0 < rows.length) (hs : 0 < sz) : sp = none := by
 obtain ⟨us, q1, q2, _⟩ := RepRows.get rows 0 hr 0 _ (List.getElem?_eq_getElem h0)
 have h := q2 0 (us[0]'(by omega)) (List.getElem?_eq_getElem (by omega))
 simp only [Nat.zero_mul, Nat.add_zero] at h
 unfold World.cell? at h
 split at h
 ·cases sp with
  | none => rfl
  | some x => simp [Addr.add] at h
 ·simp at h
theorem mok_up {w w' : World} {M : Nat → Prop} (h : MOk w M []) (hb : Eng.Below w.heap.size w w') : MOk w' M [] := by
 refine ⟨fun g hg => Nat.lt_of_lt_of_le (h.1 g hg) hb.size, fun x hx => ?_⟩
 obtain ⟨h1, h2, e, fz, h3⟩ := h.2 x hx
 exact ⟨Nat.lt_of_lt_of_le h1 hb.size, h2, e, fz, by rw [hb.block _ h1]; exact h3⟩
theorem arcsAt_of {w : World} {M : Nat → Prop} {l : List Arc} {v : Value} (h : RepD w M (.list (arcsD l)) v) : ∃ A c, v = .slice A l.length c ∧ ArcsAt w l A := by
 obtain ⟨A, c, rfl, _, _, h3⟩ := h
 refine ⟨A, c, by rw [arcs_length], fun j hj => ?_⟩
 rcases h3 with h3 | ⟨ad, sz, rfl, hb, _, hr⟩
 ·have : l.length = 0 := by rw [← arcs_length, h3]; rfl
  omega
 ·obtain ⟨us, q1, q2, q3⟩ := RepRows.get _ 0 hr j (l.getD j Arc.no).d (by simp [arcsD, List.getD, List.getElem?_eq_getElem hj])
  obtain ⟨u, r1, rfl, q4, q5⟩ := q3
  obtain ⟨u2, r2, rfl, q6, q7⟩ := q5
  obtain rfl : r2 = [] := q7
  obtain rfl : u = .int .i64 (l.getD j Arc.no).place := q4
  obtain rfl : u2 = .int .i64 (l.getD j Arc.no).weight := q6
  obtain rfl : 2 = sz := q1
  have e0 := q2 0 _ rfl
  have e1 := q2 1 _ rfl
  obtain ⟨b, o, sp⟩ := ad
  obtain rfl : sp = none := rows_spot hr (by rw [arcs_length]; omega) (by decide)
  rw [add_lit] at e0 e1
  exact ⟨b, o, rfl, hb, by simpa using e0, by rw [← e1]; congr 2; omega⟩
theorem trsAt_of {w : World} {M : Nat → Prop} {l : List Tr} {v : Value} (h : RepD w M (.list (trsD l)) v) : ∃ A c, v = .slice A l.length c ∧ TrsAt w l A := by
 obtain ⟨A, c, rfl, _, _, h3⟩ := h
 refine ⟨A, c, by rw [trs_length], fun j hj => ?_⟩
 rcases h3 with h3 | ⟨ad, sz, rfl, hb, _, hr⟩
 ·have : l.length = 0 := by rw [← trs_length, h3]; rfl
  omega
 ·obtain ⟨us, q1, q2, q3⟩ := RepRows.get _ 0 hr j (l.getD j Tr.no).d (by simp [trsD, List.getD, List.getElem?_eq_getElem hj])
  obtain ⟨u, r1, rfl, q4, q5⟩ := q3
  obtain ⟨u2, r2, rfl, q6, q7⟩ := q5
  obtain ⟨u3, r3, rfl, q8, q9⟩ := q7
  obtain rfl : r3 = [] := q9
  obtain rfl : u = .int .i64 (l.getD j Tr.no).event := q4
  obtain ⟨aI, cI, rfl, hI⟩ := arcsAt_of q6
  obtain ⟨aO, cO, rfl, hO⟩ := arcsAt_of q8
  obtain rfl : 3 = sz := q1
  have e0 := q2 0 _ rfl
  have e1 := q2 1 _ rfl
  have e2 := q2 2 _ rfl
  obtain ⟨b, o, sp⟩ := ad
  obtain rfl : sp = none := rows_spot hr (by rw [trs_length]; omega) (by decide)
  rw [add_lit] at e0 e1 e2
  exact ⟨b, o, aI, aO, cI, cO, rfl, hb, by simpa using e0, by rw [← e1]; congr 2; omega, by rw [← e2]; congr 2; omega, hI, hO⟩
theorem Incidence_c (n : Net) (hf : n.Fits) (hE : netE n = 0) : ACalls Tryd.prog 29 [.agg n.d] (.tup [.one (.list (matD (incM n))), .one (.int .i64 0)]) [] := by
 have hN := netOk_of hE
 have hi10 := hN.init
 have ht10 := hN.trs
 refine ⟨by kernel_rfl, fun w M vs hM hv => ?_⟩
 obtain ⟨v, rest, rfl, h1, h2⟩ := hv
 obtain rfl : rest = [] := h2
 obtain ⟨us, rfl, hl, hc⟩ := h1
 obtain ⟨v1, v2, rfl⟩ : ∃ v1 v2, us = [v1, v2] := by
  match us, hl with
  | [v1, v2], _ => exact ⟨v1, v2, rfl⟩
 have r1 : RepD w M (.list (ints n.init)) v1 := hc 0 _ _ rfl rfl
 have r2 : RepD w M (.list (trsD n.trs)) v2 := hc 1 _ _ rfl rfl
 obtain ⟨a1, c1, rfl, _, _, _⟩ := r1
 obtain ⟨a2, c2, rfl, hT⟩ := trsAt_of r2
 rw [ints_length] at *
 have hbx : Eng.Below w.heap.size w (w.alloc (.cells #[.slice a1 n.init.length c1, .slice a2 n.trs.length c2] 30)) := (Eng.Below.refl _ w).alloc (Nat.le_refl _) _
 have hchk := (netCheck_c n hf).run (w.alloc (.cells #[.slice a1 n.init.length c1, .slice a2 n.trs.length c2] 30)) M [.agg ⟨[.slice a1 n.init.length c1, .slice a2 n.trs.length c2]⟩] (mok_up hM hbx)
  (RepVL.same (same_of_below hbx (fun g hg => (owned_none hg).elim) M) _ _ ⟨_, [], rfl, ⟨_, rfl, hl, hc⟩, rfl⟩)
 refine (Incidence_w n hN a1 a2 c1 c2 w hT (hchk.mono ?_)).mono ?_
 ·rintro e w' ⟨v, β, rfl, hR⟩
  obtain rfl : v = .int .i64 (netE n) := hR.val
  rw [hE]
  exact ⟨rfl, by have := hR.below; simpa using this⟩
 ·rintro e w' ⟨nb, G, B, rfl, hG⟩
  have hMG : ∀ g, w.heap.size ≤ g → ¬ Mof M [] g := fun g hg hm => by
   rcases hm with hm | hm
   ·have := hM.1 g hm; omega
   ·exact owned_none hm
  have hml : (matD (incM n)).length = n.init.length := by rw [matD_length]; simp [incM]
  refine ⟨_, [], rfl, hG.below, rfl, fun t o x ho => by simp at ho, fun g hg => (owned_none hg).elim, fun t t' x x' g h1 => by simp at h1, ?_⟩
  refine ⟨_, rfl, _, _, rfl, ?_, _, [], rfl, rfl, rfl⟩
  refine ⟨some ⟨G, 0, none⟩, n.init.length, by rw [hml], by rw [hml]; exact Nat.le_refl _, by simp only [maxLen]; omega, .inr ⟨⟨G, 0, none⟩, 1, rfl, hG.gl.2, hMG G (by have := hG.gl; omega), RepRows.of_get _ _ fun i r hr => ?_⟩⟩
  have hi : i < n.init.length := by
   have := (List.getElem?_eq_some_iff.1 hr).1
   omega
  obtain rfl : [.list (ints (incL n i))] = r := by
   simp [matD, incM, List.getElem?_range hi] at hr
   exact hr
  have hbi := hG.bl i hi
  have hgl := hG.gl
  have hil : (incL n i).length = n.trs.length := by simp [incL]
  refine ⟨[.slice (some ⟨B i, 0, none⟩) n.trs.length n.trs.length], rfl, fun j u hu => ?_, _, [], rfl, ?_, rfl⟩
  ·cases j with
   | succ j => simp at hu
   | zero =>
    simp at hu
    subst hu
    rw [add_lit]
    have := hG.outer i hi
    simpa using this
  ·refine ⟨some ⟨B i, 0, none⟩, n.trs.length, by rw [ints_length, hil], by rw [ints_length, hil]; exact Nat.le_refl _, by simp only [maxLen]; omega, .inr ⟨⟨B i, 0, none⟩, 1, rfl, hbi.2, hMG (B i) (by omega), RepRows.of_get _ _ fun t r hr2 => ?_⟩⟩
   have ht : t < n.trs.length := by
    have := (List.getElem?_eq_some_iff.1 hr2).1
    rw [ints_length, hil] at this
    exact this
   obtain rfl : [.int .i64 (fgt n n.trs.length i t)] = r := by
    simp [ints, incL, List.getElem?_eq_getElem ht] at hr2
    rw [← hr2, fgt, if_pos ht]
    simp [List.getD, List.getElem?_eq_getElem ht]
   refine ⟨[.int .i64 (fgt n n.trs.length i t)], rfl, fun j u hu => ?_, _, [], rfl, rfl, rfl⟩
   cases j with
   | succ j => simp at hu
   | zero =>
    simp at hu
    subst hu
    rw [add_lit]
    have := hG.inner i t hi ht
    simpa using this
end Go.Proofs.YtjldfifepbdlmaaDoor
