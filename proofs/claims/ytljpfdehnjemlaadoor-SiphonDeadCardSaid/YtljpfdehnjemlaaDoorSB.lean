/-
 Plain law: a net of a shape is a right one; more tokens enable more; the reversed net leads back.
-/
import Derived.Test.YtljpfdehnjemlaaDoorS8
set_option linter.unusedSimpArgs false
set_option linter.unusedVariables false
namespace Go.Proofs.YtljpfdehnjemlaaDoor
open Go.Eng Go.RowKit
theorem arcsE_of (places : Nat) : ∀ (l : List Arc) (p : Option Int), ArcsIn places l → (∀ q, p = some q → ∀ a ∈ l, q < a.place) → arcsE places l p = 0
 | [], _, _, _ => rfl
 | a :: l, p, h, hq => by
  have hp := h.place a (by simp)
  have hw := h.weight a (by simp)
  have ho := List.pairwise_cons.1 h.ord
  have ih := arcsE_of places l (some a.place) ⟨fun b hb => h.place b (List.mem_cons_of_mem _ hb), fun b hb => h.weight b (List.mem_cons_of_mem _ hb), ho.2⟩ (fun q e b hb => by cases e; exact ho.1 b hb)
  simp only [arcsE]
  rw [if_neg (by omega)]
  cases p with
  | none => rw [if_neg (by simp), if_neg (by omega)]; exact ih
  | some q =>
   have := hq q rfl a (by simp)
   rw [if_neg (by simp; omega), if_neg (by omega)]; exact ih
theorem arcsL_in (f : Nat → Int) (k places : Nat) (hk : k ≤ places) (hf : ∀ p, f p ≤ 8) : ArcsIn places (arcsL f k) := by
 have hm : ∀ a ∈ arcsL f k, ∃ p : Nat, p < k ∧ 0 < f p ∧ a = ⟨(p : Int), f p⟩ := fun a ha => by
  simp only [arcsL, List.mem_map, List.mem_filter, List.mem_range, decide_eq_true_eq] at ha
  obtain ⟨p, ⟨h1, h2⟩, rfl⟩ := ha
  exact ⟨p, h1, h2, rfl⟩
 refine ⟨fun a ha => ?_, fun a ha => ?_, ?_⟩
 ·obtain ⟨p, h1, h2, rfl⟩ := hm a ha
  simp only; omega
 ·obtain ⟨p, h1, h2, rfl⟩ := hm a ha
  have := hf p
  simp only; omega
 ·unfold arcsL
  rw [List.pairwise_map]
  refine List.Pairwise.filter _ ?_
  refine List.pairwise_lt_range.imp ?_
  intro a b h
  simp only; omega
theorem tab_le (i : Int) (l : List Int) (h : ∀ x ∈ l, x ≤ 2) : l.getD i.toNat 0 ≤ 8 := by
 by_cases hk : i.toNat < l.length
 ·have := h _ (getD_mem l i.toNat 0 hk); omega
 ·rw [List.getD, List.getElem?_eq_none (Nat.le_of_not_lt hk)]; decide
theorem makeNet_ok (s : Nat → Int) (hs : Bytes s) : netE (makeNet s) = 0 := by
 have h5 : np s ≤ 5 := by unfold np; omega
 have ht5 : nt s ≤ 5 := by unfold nt; omega
 have hi : (makeNet s).init.length = np s := initL_length s (np s)
 have htl : (makeNet s).trs.length = nt s := trsL_length s (nt s)
 have htok : (makeNet s).init.any tokB = false := by
  rw [List.any_eq_false]
  intro x hx
  simp only [makeNet, initL, List.mem_map, tok] at hx
  obtain ⟨p, _, rfl⟩ := hx
  simp only [tokB, Bool.or_eq_true, decide_eq_true_eq]
  omega
 have htr : ∀ k, trsE (np s) (trsL s k) = 0 := fun k => by
  have key : ∀ l : List Tr, (∀ t ∈ l, trE (np s) t = 0) → trsE (np s) l = 0 := by
   intro l
   induction l with
   | nil => intro _; rfl
   | cons a l ih =>
    intro h
    rw [trsE, if_neg (by rw [h a (by simp)]; omega)]
    exact ih fun t ht => h t (List.mem_cons_of_mem _ ht)
  refine key _ fun t ht => ?_
  simp only [trsL, List.mem_map] at ht
  obtain ⟨i, _, rfl⟩ := ht
  have h1 : arcsOk (np s) (trL s i).inn = 0 := arcsE_of (np s) _ none (arcsL_in _ _ _ (Nat.le_refl _) fun p => tab_le _ _ (by decide)) (fun q e => by cases e)
  have h2 : arcsOk (np s) (trL s i).out = 0 := arcsE_of (np s) _ none (arcsL_in _ _ _ (Nat.le_refl _) fun p => tab_le _ _ (by decide)) (fun q e => by cases e)
  rw [trE, if_neg (by simp only [trL]; omega), if_neg (by omega)]
  exact h2
 rw [netE, if_neg (by omega), if_neg (by rw [htok]; decide), if_neg (by omega), hi]
 exact htr (nt s)
theorem NetOk.fits {n : Net} (h : NetOk n) : n.Fits := by
 have h1 := h.init
 have h2 := h.trs
 refine ⟨by omega, by omega, fun t ht => ?_, fun t ht => ?_⟩
 ·have := arcs_few _ _ (h.inn t ht); omega
 ·have := arcs_few _ _ (h.out t ht); omega
theorem trsE_of (places : Int) : ∀ l : List Tr, (∀ t ∈ l, trE places t = 0) → trsE places l = 0
 | [], _ => rfl
 | a :: l, h => by
  rw [trsE, if_neg (by rw [h a (by simp)]; omega)]
  exact trsE_of places l fun t ht => h t (by simp [ht])
theorem tokB_false {x : Int} (h : 0 ≤ x ∧ x ≤ 65536) : tokB x = false := by
 simp only [tokB, Bool.or_eq_false_iff, decide_eq_false_iff_not]; omega
theorem any_tok {l : List Int} (h : ∀ x ∈ l, 0 ≤ x ∧ x ≤ 65536) : l.any tokB = false := by
 rw [List.any_eq_false]
 intro x hx
 rw [tokB_false (h x hx)]; decide
theorem netE_of {n : Net} (h : NetOk n) : netE n = 0 := by
 have h1 := h.init
 have h2 := h.trs
 rw [netE, if_neg (by omega), if_neg (by rw [any_tok h.tok]; decide), if_neg (by omega)]
 refine trsE_of _ _ fun t ht => ?_
 have e1 : arcsOk n.init.length t.inn = 0 := arcsE_of _ _ none (h.inn t ht) (fun q e => by cases e)
 have e2 : arcsOk n.init.length t.out = 0 := arcsE_of _ _ none (h.out t ht) (fun q e => by cases e)
 have h3 := h.ev t ht
 rw [trE, if_neg (by omega), if_neg (by omega)]
 exact e2
theorem markE_of {n : Net} {m : List Int} (h : NetOk n) (hl : m.length = n.init.length) (hm : ∀ x ∈ m, 0 ≤ x ∧ x ≤ 65536) : markE n m = 0 := by
 rw [markE, if_neg (by rw [netE_of h]; decide), if_neg (by omega), if_neg (by rw [any_tok hm]; decide)]
theorem enB_mono {a b : List Int} {t : Tr} (h : ∀ p, a.getD p 0 ≤ b.getD p 0) (he : enB a t = true) : enB b t = true := by
 rw [enB, Bool.not_eq_true', List.any_eq_false] at he ⊢
 intro x hx
 have := he x hx
 have hp := h x.place.toNat
 simp only [lacksB, decide_eq_true_eq] at this ⊢
 omega
theorem wsum_nonneg {l : List Arc} (h : ∀ b ∈ l, 1 ≤ b.weight) (p : Nat) : 0 ≤ wsum l p := by
 induction l with
 | nil => exact Int.le_refl _
 | cons a l ih =>
  have h1 := h a (by simp)
  have h2 := ih fun b hb => h b (by simp [hb])
  rw [wsum]
  split <;> omega
theorem wsum_mem {l : List Arc} (h : ∀ b ∈ l, 1 ≤ b.weight) {a : Arc} (ha : a ∈ l) : a.weight ≤ wsum l a.place.toNat := by
 induction l with
 | nil => cases ha
 | cons b l ih =>
  have h1 := h b (by simp)
  have h2 := fun b hb => h b (List.mem_cons_of_mem _ hb)
  have h3 := wsum_nonneg h2 a.place.toNat
  rw [wsum]
  rcases List.mem_cons.1 ha with rfl | ha
  ·rw [if_pos rfl]; omega
  ·have := ih h2 ha
   split <;> omega
end Go.Proofs.YtljpfdehnjemlaaDoor
