/-
 Chapter 51 in plain Lean: the constraint of a siphon; the net after some steps, and its markings.
-/
import Derived.Test.YtlpllbbjmbbfnaaGreatDoorWI
import Derived.Test.YtlpllbbjmbbfnaaGreatDoorSG
import Derived.Test.YtlpllbbjmbbfnaaGreatDoorQ0
set_option linter.unusedSimpArgs false
set_option linter.unusedVariables false
namespace Go.Proofs.YtlpllbbjmbbfnaaGreatDoor
open Go.Eng Go.RowKit
def facK (p : Nat) (s : List Int) : List Int := (List.range p).map fun (i : Nat) => if (i : Int) ∈ s then -1 else 0
theorem facK_length (p : Nat) (s : List Int) : (facK p s).length = p := by simp [facK]
theorem dot_addf (g h : Nat → Int) : ∀ (l : List Nat) (m : List Int), dot (l.map fun i => g i + h i) m = dot (l.map g) m + dot (l.map h) m
 | [], m => by simp [dot]
 | a :: l, [] => by simp [dot]
 | a :: l, b :: m => by
  simp only [List.map_cons, dot, dot_addf g h l m, Int.add_mul]
  omega
theorem dot_zerof : ∀ (l : List Nat) (m : List Int), dot (l.map fun _ => 0) m = 0
 | [], m => by simp [dot]
 | a :: l, [] => by simp [dot]
 | a :: l, b :: m => by simp [dot, dot_zerof l m]
theorem dot_onef (x : Nat) : ∀ (k a : Nat) (m : List Int), dot ((List.range' a k).map fun i => if i = x then -1 else 0) m = if a ≤ x ∧ x < a + k then -(m.getD (x - a) 0) else 0
 | 0, a, m => by
  rw [if_neg (by omega)]
  simp [dot]
 | k + 1, a, [] => by
  simp [List.range'_succ, dot]
 | k + 1, a, b :: m => by
  rw [List.range'_succ, List.map_cons, dot, dot_onef x k (a + 1) m]
  by_cases h : a = x
  ·subst h
   rw [if_pos rfl, if_neg (by omega), if_pos (by omega)]
   simp
  ·rw [if_neg h]
   by_cases h2 : a + 1 ≤ x ∧ x < a + 1 + k
   ·rw [if_pos h2, if_pos (by omega)]
    have : x - a = (x - (a + 1)) + 1 := by omega
    rw [this, List.getD_cons_succ]
    omega
   ·rw [if_neg h2, if_neg (by omega)]
    omega
theorem sumAt_cons (m : List Int) (x : Int) (s : List Int) : sumAt m (x :: s) = m.getD x.toNat 0 + sumAt m s := by
 have gen : ∀ (s : List Int) (a : Int), s.foldl (fun a p => a + m.getD p.toNat 0) a = a + s.foldl (fun a p => a + m.getD p.toNat 0) 0 := by
  intro s
  induction s with
  | nil => intro a; simp
  | cons y s ih =>
   intro a
   simp only [List.foldl_cons]
   rw [ih (a + _), ih (0 + _)]
   omega
 rw [sumAt, sumAt, List.foldl_cons, gen]
 omega
theorem dot_facK (p : Nat) (m : List Int) : ∀ s : List Int, s.Nodup → (∀ x ∈ s, 0 ≤ x ∧ x < p) → dot (facK p s) m = -(sumAt m s)
 | [], _, _ => by
  have : facK p [] = (List.range p).map fun _ => 0 := by simp [facK]
  rw [this, dot_zerof]; rfl
 | x :: s, hn, hx => by
  obtain ⟨hx1, hx2⟩ := List.nodup_cons.1 hn
  have h0 := hx x (by simp)
  have e : facK p (x :: s) = (List.range p).map fun (i : Nat) => (if i = x.toNat then -1 else 0) + (if (i : Int) ∈ s then -1 else 0) := by
   refine List.map_congr_left fun i hi => ?_
   by_cases h1 : i = x.toNat
   ·have h2 : (i : Int) = x := by omega
    rw [if_pos h1, if_pos (by rw [h2]; simp), if_neg (by rw [h2]; exact hx1)]
    rfl
   ·have h2 : (i : Int) ≠ x := by omega
    rw [if_neg h1]
    simp [h2]
  rw [e, dot_addf, sumAt_cons]
  have h1 := dot_onef x.toNat p 0 m
  rw [← List.range_eq_range', if_pos (by omega)] at h1
  rw [h1]
  have h2 := dot_facK p m s hx2 fun y hy => hx y (by simp [hy])
  rw [facK] at h2
  rw [h2, Nat.sub_zero]
  omega
def kepC (p : Nat) (s : List Int) : Con := ⟨facK p s, -1⟩
theorem facK_el {p : Nat} {s : List Int} {x : Int} (h : x ∈ facK p s) : x = -1 ∨ x = 0 := by
 obtain ⟨i, _, rfl⟩ := List.mem_map.1 h
 split <;> simp
theorem conE_kep {n : Net} {s : List Int} (h : netE n = 0) : conE n (kepC n.init.length s) = 0 := by
 have h1 : (facK n.init.length s).any (largeB 16) = false := by
  rw [List.any_eq_false]
  intro x hx
  rcases facK_el hx with rfl | rfl <;> decide
 rw [conE, if_neg (by omega), if_neg (by simp [kepC, facK_length]), if_neg (by simp only [kepC, h1]; decide)]
structure Stp where
 set : List Int
 con : Con
 deriving DecidableEq
def Stp.no : Stp := ⟨[], ⟨[], 0⟩⟩
def Stp.d (x : Stp) : List D := [.list (ints x.set), .list (ints x.con.fac), .int .i64 x.con.bound]
def stepOf (n : Net) (s : List Int) : Stp := ⟨s, kepC n.init.length s⟩
structure Good (m : Net) (u s : List Int) : Prop where
 mon : MonOk m (kepC m.init.length s)
 nd : s.Nodup
 place : ∀ x ∈ s, 0 ≤ x ∧ x < m.init.length
 adm : ∀ t ∈ u, (effL m (kepC m.init.length s)).getD t.toNat 0 ≤ 0
inductive Fit (n : Net) (u : List Int) : List Stp → Net → List Int → Prop
 | nil (a : List Int) : NetOk n → a.length = n.init.length → (∀ x ∈ a, 0 ≤ x) → Fit n u [] n a
 | snoc (st : List Stp) (m : Net) (a s : List Int) : Fit n u st m a → Good m u s → 0 ≤ (kepC m.init.length s).bound - dot (kepC m.init.length s).fac a →
   Fit n u (st ++ [stepOf m s]) (monNet m (kepC m.init.length s)) (a ++ [(kepC m.init.length s).bound - dot (kepC m.init.length s).fac a])
structure Fit.Facts (n : Net) (st : List Stp) (m : Net) (a : List Int) : Prop where
 ok : NetOk m
 len : a.length = m.init.length
 ilen : m.init.length = n.init.length + st.length
 trs : m.trs.length = n.trs.length
 pos : ∀ x ∈ a, 0 ≤ x
theorem Fit.facts {n : Net} {u : List Int} {st : List Stp} {m : Net} {a : List Int} (h : Fit n u st m a) : Fit.Facts n st m a := by
 induction h with
 | nil a h1 h2 h3 => exact ⟨h1, h2, by simp, rfl, h3⟩
 | snoc st m a s h hg hx ih =>
  refine ⟨mon_ok hg.mon, by rw [mon_init, List.length_append, ih.len]; rfl, by rw [mon_init, ih.ilen, List.length_append]; simp; omega, by rw [mon_len, ih.trs], fun x hx' => ?_⟩
  rcases List.mem_append.1 hx' with h1 | h1
  ·exact ih.pos x h1
  ·simp only [List.mem_singleton] at h1; omega
theorem bound_ex : ∀ a : List Int, (∀ x ∈ a, 0 ≤ x) → ∃ B : Int, 0 ≤ B ∧ ∀ x ∈ a, 0 ≤ x ∧ x ≤ B
 | [], _ => ⟨0, by omega, by simp⟩
 | y :: a, h => by
  obtain ⟨B, h0, hB⟩ := bound_ex a fun x hx => h x (by simp [hx])
  have hy := h y (by simp)
  refine ⟨B + y, by omega, fun x hx => ?_⟩
  rcases List.mem_cons.1 hx with rfl | hx
  ·omega
  ·have := hB x hx; omega
theorem able_iff {n : Net} {a : List Int} {t : Int} : t ∈ ableL n a n.trs.length ↔ 0 ≤ t ∧ t < n.trs.length ∧ enB a (n.trs.getD t.toNat Tr.no) = true := by
 constructor
 ·exact fun h => able_mem h
 ·intro ⟨h0, h1, h2⟩
  rw [ableL, List.mem_map]
  exact ⟨t.toNat, List.mem_filter.2 ⟨List.mem_range.2 (by omega), h2⟩, by omega⟩
theorem Fit.sub {n : Net} {u : List Int} {st : List Stp} {m : Net} {a : List Int} (h : Fit n u st m a) : ∀ t, t ∈ ableL m a m.trs.length → t ∈ ableL n (a.take n.init.length) n.trs.length := by
 induction h with
 | nil a h1 h2 h3 => intro t ht; rwa [List.take_of_length_le (by omega)]
 | snoc st m a s h hg hx ih =>
  intro t ht
  have hf := h.facts
  rw [mon_len, ← able_mon hg.mon hf.len hx] at ht
  rw [List.take_append_of_le_length (by rw [hf.len, hf.ilen]; omega)]
  exact ih t (List.mem_filter.1 ht).1
theorem sumAt_append (a b s : List Int) (h : ∀ x ∈ s, 0 ≤ x ∧ x < a.length) : sumAt (a ++ b) s = sumAt a s := by
 induction s with
 | nil => rfl
 | cons x s ih =>
  rw [sumAt_cons, sumAt_cons, ih fun y hy => h y (by simp [hy])]
  have := h x (by simp)
  rw [show (a ++ b).getD x.toNat 0 = a.getD x.toNat 0 by simp only [List.getD]; rw [List.getElem?_append_left (by omega)]]
theorem Fit.tok {n : Net} {u : List Int} {st : List Stp} {m : Net} {a : List Int} (h : Fit n u st m a) : ∀ x ∈ st, 1 ≤ sumAt a x.set ∧ ∀ y ∈ x.set, 0 ≤ y ∧ y < a.length := by
 induction h with
 | nil a h1 h2 h3 => intro x hx; simp at hx
 | snoc st m a s h hg hx ih =>
  intro x hx'
  have hf := h.facts
  rcases List.mem_append.1 hx' with h1 | h1
  ·obtain ⟨q1, q2⟩ := ih x h1
   rw [sumAt_append _ _ _ q2]
   exact ⟨q1, fun y hy => by have := q2 y hy; rw [List.length_append]; simp; omega⟩
  ·simp only [List.mem_singleton] at h1
   subst h1
   have hp : ∀ y ∈ (stepOf m s).set, 0 ≤ y ∧ y < a.length := fun y hy => by have := hg.place y hy; rw [hf.len]; exact this
   rw [sumAt_append _ _ _ hp]
   have hd := dot_facK m.init.length a s hg.nd hg.place
   simp only [kepC] at hx
   rw [hd] at hx
   exact ⟨by show 1 ≤ sumAt a s; omega, fun y hy => by have := hp y hy; rw [List.length_append]; simp; omega⟩
theorem Fit.step {n : Net} {u : List Int} {st : List Stp} {m : Net} {a : List Int} (h : Fit n u st m a) : ∀ t, t ∈ ableL m a m.trs.length →
  Fit n u st m (firedL (m.trs.getD t.toNat Tr.no) a) ∧ (firedL (m.trs.getD t.toNat Tr.no) a).take n.init.length = firedL (n.trs.getD t.toNat Tr.no) (a.take n.init.length) := by
 induction h with
 | nil a h1 h2 h3 =>
  intro t ht
  obtain ⟨q0, q1, q2⟩ := able_iff.1 ht
  have hk : t.toNat < n.trs.length := by omega
  have hin := h1.inn _ (getD_mem n.trs t.toNat Tr.no hk)
  have hout := h1.out _ (getD_mem n.trs t.toNat Tr.no hk)
  rw [← h2] at hin hout
  obtain ⟨B, _, hB⟩ := bound_ex a h3
  have hb := firedL_bound hin hout q2 hB
  have hl : (firedL (n.trs.getD t.toNat Tr.no) a).length = n.init.length := by rw [firedL_length, h2]
  refine ⟨.nil _ h1 hl fun x hx => (hb x hx).1, ?_⟩
  rw [List.take_of_length_le (by omega), List.take_of_length_le (by omega)]
 | snoc st m a s h hg hx ih =>
  intro t ht
  have hf := h.facts
  rw [mon_len] at ht
  obtain ⟨B, _, hB⟩ := bound_ex a hf.pos
  obtain ⟨r1, r2, r3, r4, r5⟩ := mon_step hg.mon hf.len hx hB ht
  have ht2 : t ∈ ableL m a m.trs.length := by
   rw [← able_mon hg.mon hf.len hx] at ht
   exact (List.mem_filter.1 ht).1
  obtain ⟨i1, i2⟩ := ih t ht2
  rw [r1]
  refine ⟨.snoc st m _ s i1 hg r3, ?_⟩
  rw [List.take_append_of_le_length (by rw [r2, hf.ilen]; omega), List.take_append_of_le_length (by rw [hf.len, hf.ilen]; omega), i2]
end Go.Proofs.YtlpllbbjmbbfnaaGreatDoor
