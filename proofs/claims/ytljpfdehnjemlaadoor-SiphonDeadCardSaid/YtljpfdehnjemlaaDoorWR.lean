/-
 Chapter 49: the law's statement SiphonStays.
-/
import Derived.Test.YtljpfdehnjemlaaDoorWM
import Derived.Test.YtljpfdehnjemlaaDoorSB
set_option linter.unusedSimpArgs false
set_option linter.unusedVariables false
namespace Go.Proofs.YtljpfdehnjemlaaDoor
open Go.Eng Go.RowKit
theorem shape_net (s : Nat → Int) (hs : Bytes s) : (makeNet s).Fits ∧ NetOk (makeNet s) ∧ 1 ≤ (makeNet s).init.length ∧ (makeNet s).init.length ≤ 5 ∧ netE (makeNet s) = 0 ∧ (makeNet s).init ≠ [] := by
 have h := makeNet_ok s hs
 have hok := netOk_of h
 have hl : (makeNet s).init.length = np s := initL_length s (np s)
 have h0 := (hs 0)
 have hl1 : 1 ≤ np s ∧ np s ≤ 5 := by
  unfold np
  omega
 exact ⟨hok.fits, hok, by omega, by omega, h, by intro e; rw [e] at hl; simp at hl; omega⟩
/-! what a transition does to a siphon, and to a trap -/
theorem sumAt_cons (m : List Int) (p : Int) (s : List Int) : sumAt m (p :: s) = m.getD p.toNat 0 + sumAt m s := by
 have key : ∀ (l : List Int) (a : Int), l.foldl (fun a p => a + m.getD p.toNat 0) a = a + l.foldl (fun a p => a + m.getD p.toNat 0) 0 := by
  intro l
  induction l with
  | nil => intro a; simp
  | cons x l ih =>
   intro a
   rw [List.foldl_cons, List.foldl_cons, ih, ih (0 + _)]
   omega
 unfold sumAt
 rw [List.foldl_cons, key]
 omega
theorem sumAt_nonneg {m : List Int} (hm : ∀ x ∈ m, 0 ≤ x) : ∀ s : List Int, 0 ≤ sumAt m s
 | [] => Int.le_refl _
 | p :: s => by
  rw [sumAt_cons]
  have := sumAt_nonneg hm s
  have : 0 ≤ m.getD p.toNat 0 := by
   generalize p.toNat = k
   by_cases hk : k < m.length
   ·exact hm _ (getD_mem m k 0 hk)
   ·simp [List.getD, List.getElem?_eq_none (Nat.le_of_not_lt hk)]
  omega
theorem sumAt_ge {m : List Int} (hm : ∀ x ∈ m, 0 ≤ x) : ∀ {s : List Int} {p : Int}, p ∈ s → m.getD p.toNat 0 ≤ sumAt m s
 | q :: s, p, h => by
  rw [sumAt_cons]
  have h1 := sumAt_nonneg hm s
  rcases List.mem_cons.1 h with rfl | h
  ·omega
  ·have h2 := sumAt_ge hm h
   have : 0 ≤ m.getD q.toNat 0 := by
    generalize q.toNat = k
    by_cases hk : k < m.length
    ·exact hm _ (getD_mem m k 0 hk)
    ·simp [List.getD, List.getElem?_eq_none (Nat.le_of_not_lt hk)]
   omega
theorem sumAt_mono {m k : List Int} : ∀ {s : List Int}, (∀ p ∈ s, m.getD p.toNat 0 ≤ k.getD p.toNat 0) → sumAt m s ≤ sumAt k s
 | [], _ => Int.le_refl _
 | p :: s, h => by
  rw [sumAt_cons, sumAt_cons]
  have := h p (by simp)
  have := sumAt_mono fun q hq => h q (List.mem_cons_of_mem _ hq)
  omega
theorem wsum_free {l : List Arc} {s : List Int} (hl : ∀ a ∈ l, 0 ≤ a.place) (h : touchL l s = false) {p : Int} (hp : p ∈ s) (h0 : 0 ≤ p) : wsum l p.toNat = 0 :=
 wsum_zero l _ fun a ha e => by
  have h1 := hl a ha
  have : a.place = p := by omega
  have : touchL l s = true := (touchL_iff _ _).2 ⟨a, ha, by rw [this]; exact hp⟩
  rw [h] at this
  cases this
theorem trap_stays {m s : List Int} {t : Tr} (h1 : ArcsIn m.length t.inn) (h2 : ArcsIn m.length t.out) (hf : ∀ x ∈ firedL t m, 0 ≤ x) (he : enB m t = true) (hm : ∀ x ∈ m, 0 ≤ x) (hs : ∀ p ∈ s, 0 ≤ p ∧ p < m.length)
  (hk : touchL t.inn s = true → touchL t.out s = true) (hz : 0 < sumAt m s) : 0 < sumAt (firedL t m) s := by
 cases hin : touchL t.inn s with
 | true =>
  obtain ⟨a, ha, hp⟩ := (touchL_iff _ _).1 (hk hin)
  have hle := sumAt_ge hf hp
  have h3 := firedL_getD h1 h2 a.place.toNat
  have h4 := enB_wsum h1 he a.place.toNat (hm _ (getD_mem m _ 0 (by have := hs _ hp; omega)))
  have h5 := wsum_mem (fun b hb => (h2.weight b hb).1) ha
  have h6 := h2.weight a ha
  omega
 | false =>
  have := sumAt_mono (m := m) (k := firedL t m) (s := s) fun p hp => by
   rw [firedL_getD h1 h2, wsum_free (fun a ha => (h1.place a ha).1) hin hp (hs p hp).1]
   have := wsum_nonneg (fun b hb => (h2.weight b hb).1) p.toNat
   omega
  omega
end Go.Proofs.YtljpfdehnjemlaaDoor
