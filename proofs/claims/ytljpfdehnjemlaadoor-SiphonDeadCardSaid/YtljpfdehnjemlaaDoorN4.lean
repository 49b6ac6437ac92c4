/-
 Contracts: constraints: their checks, sums and effects.
-/
import Derived.Test.YtljpfdehnjemlaaDoorN3
set_option linter.unusedSimpArgs false
set_option linter.unusedVariables false
namespace Go.Proofs.YtljpfdehnjemlaaDoor
open Go.Eng Go.RowKit
/-! sums -/
structure Sm (B : Int) (l : List Int) : Prop where
 all : ∀ x ∈ l, -B ≤ x ∧ x ≤ B
theorem Sm.get {B : Int} {l : List Int} (h : Sm B l) (hB : 0 ≤ B) (k : Nat) : -B ≤ l.getD k 0 ∧ l.getD k 0 ≤ B := by
 by_cases hk : k < l.length
 ·exact h.all _ (getD_mem l k 0 hk)
 ·rw [List.getD, List.getElem?_eq_none (Nat.le_of_not_lt hk)]; simp; omega
theorem Sm.take {B : Int} {l : List Int} (h : Sm B l) (k : Nat) : Sm B (l.take k) := ⟨fun x hx => h.all x (List.mem_of_mem_take hx)⟩
theorem Sm.set {B : Int} {l : List Int} (h : Sm B l) (k : Nat) (x : Int) (hx : -B ≤ x ∧ x ≤ B) : Sm B (l.set k x) := ⟨fun y hy => by
 rcases List.mem_or_eq_of_mem_set hy with hy | rfl
 ·exact h.all y hy
 ·exact hx⟩
/-! effects -/
structure ArcsIn (places : Nat) (l : List Arc) : Prop where
 place : ∀ a ∈ l, 0 ≤ a.place ∧ a.place < places
 weight : ∀ a ∈ l, 1 ≤ a.weight ∧ a.weight ≤ 8
 ord : l.Pairwise fun a b => a.place < b.place
theorem arcsE_in (places : Nat) : ∀ (l : List Arc) (p : Option Int), arcsE places l p = 0 → ArcsIn places l ∧ ∀ q, p = some q → ∀ a ∈ l, q < a.place
 | [], _, _ => ⟨⟨fun a h => by simp at h, fun a h => by simp at h, .nil⟩, fun q _ a h => by simp at h⟩
 | a :: l, p, h => by
  simp only [arcsE] at h
  split at h
  ·cases h
  ·rename_i h1
   split at h
   ·cases h
   ·rename_i h2
    split at h
    ·cases h
    ·rename_i h3
     obtain ⟨ih, io⟩ := arcsE_in places l (some a.place) h
     have io' := io a.place rfl
     have hq : ∀ q, p = some q → q < a.place := fun q e => by
      subst e
      simp at h2
      omega
     refine ⟨⟨fun b hb => ?_, fun b hb => ?_, List.pairwise_cons.2 ⟨fun b hb => io' b hb, ih.ord⟩⟩, fun q e b hb => ?_⟩
     ·rcases List.mem_cons.1 hb with rfl | hb
      ·omega
      ·exact ih.place b hb
     ·rcases List.mem_cons.1 hb with rfl | hb
      ·omega
      ·exact ih.weight b hb
     ·have := hq q e
      rcases List.mem_cons.1 hb with rfl | hb
      ·exact this
      ·have := io' b hb; omega
theorem arcs_few (places : Nat) (l : List Arc) (h : ArcsIn places l) : l.length ≤ places := by
 have key : ∀ (l : List Arc) (lo : Int), 0 ≤ lo → l.Pairwise (fun a b => a.place < b.place) → (∀ a ∈ l, lo ≤ a.place ∧ a.place < places) → lo + l.length ≤ max lo places := by
  intro l
  induction l with
  | nil => intro lo _ _ _; simp; omega
  | cons a l ih =>
   intro lo h0 hp hb
   rw [List.pairwise_cons] at hp
   have h1 := hb a (by simp)
   have := ih (a.place + 1) (by omega) hp.2 fun b hb' => ⟨by have := hp.1 b hb'; omega, (hb b (by simp [hb'])).2⟩
   simp only [List.length_cons, Int.natCast_add]
   omega
 have := key l 0 (by omega) h.ord fun a ha => ⟨(h.place a ha).1, (h.place a ha).2⟩
 omega
structure NetOk (n : Net) : Prop where
 init : n.init.length ≤ 10
 tok : ∀ x ∈ n.init, 0 ≤ x ∧ x ≤ 65536
 trs : n.trs.length ≤ 10
 ev : ∀ t ∈ n.trs, 0 ≤ t.event ∧ t.event < 32
 inn : ∀ t ∈ n.trs, ArcsIn n.init.length t.inn
 out : ∀ t ∈ n.trs, ArcsIn n.init.length t.out
theorem trsE_zero (m : Int) : ∀ (l : List Tr), trsE m l = 0 → ∀ t ∈ l, trE m t = 0
 | [], _, t, h => by simp at h
 | a :: l, h, t, ht => by
  simp only [trsE] at h
  split at h
  ·exact absurd h ‹_›
  ·rename_i h1
   rcases List.mem_cons.1 ht with rfl | ht
   ·omega
   ·exact trsE_zero m l h t ht
theorem netOk_of {n : Net} (h : netE n = 0) : NetOk n := by
 unfold netE at h
 split at h
 ·cases h
 rename_i h1
 split at h
 ·cases h
 rename_i h2
 split at h
 ·cases h
 rename_i h3
 have ht := trsE_zero _ _ h
 have hE : ∀ t ∈ n.trs, (0 ≤ t.event ∧ t.event < 32) ∧ arcsOk n.init.length t.inn = 0 ∧ arcsOk n.init.length t.out = 0 := fun t hm => by
  have := ht t hm
  unfold trE at this
  split at this
  ·cases this
  ·rename_i h4
   split at this
   ·rename_i h5; exact absurd this h5
   ·rename_i h5; exact ⟨by omega, by omega, this⟩
 refine ⟨by omega, fun x hx => ?_, by omega, fun t hm => (hE t hm).1, fun t hm => (arcsE_in _ _ _ (hE t hm).2.1).1, fun t hm => (arcsE_in _ _ _ (hE t hm).2.2).1⟩
 have : tokB x ≠ true := fun hh => h2 (List.any_eq_true.2 ⟨x, hx, hh⟩)
 simp [tokB] at this
 omega
end Go.Proofs.YtljpfdehnjemlaaDoor
