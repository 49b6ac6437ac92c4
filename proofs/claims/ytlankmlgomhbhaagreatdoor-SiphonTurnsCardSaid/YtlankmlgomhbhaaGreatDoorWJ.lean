/-
 Plain: sorted sets merged, sorted, thinned; the greatest set of a kind as the union of all.
-/
import Derived.Test.YtlankmlgomhbhaaGreatDoorWI
set_option linter.unusedSimpArgs false
set_option linter.unusedVariables false
namespace Go.Proofs.YtlankmlgomhbhaaGreatDoor
open Go.Eng Go.RowKit
abbrev Incr (a : List Int) : Prop := a.Pairwise (· < ·)
/-! thinning a sorted list -/
theorem compU {d : Array Int} (hs : ∀ i j, i ≤ j → j < d.size → d[i]! ≤ d[j]!) : ∀ m, m ≤ d.size → Incr (Lib.compactUpTo d m) ∧ (∀ x ∈ Lib.compactUpTo d m, ∃ i, i < m ∧ x = d[i]!) ∧ ∀ i, i < m → d[i]! ∈ Lib.compactUpTo d m
 | 0, _ => by simp [Lib.compactUpTo]
 | m + 1, h => by
  obtain ⟨h1, h2, h3⟩ := compU hs m (by omega)
  rw [Lib.compactUpTo_succ]
  by_cases hk : Lib.keeps d m = true
  ·rw [if_pos hk]
   have hk' : m = 0 ∨ d[m]! ≠ d[m - 1]! := by simpa [Lib.keeps] using hk
   refine ⟨?_, ?_, ?_⟩
   ·rw [Incr, List.pairwise_append]
    refine ⟨h1, List.pairwise_singleton _ _, fun x hx y hy => ?_⟩
    simp at hy
    subst hy
    obtain ⟨i, hi, rfl⟩ := h2 x hx
    have a := hs i (m - 1) (by omega) (by omega)
    have b := hs (m - 1) m (by omega) (by omega)
    omega
   ·intro x hx
    rcases List.mem_append.1 hx with hx | hx
    ·obtain ⟨i, hi, e⟩ := h2 x hx
     exact ⟨i, by omega, e⟩
    ·simp at hx
     exact ⟨m, by omega, hx⟩
   ·intro i hi
    rw [List.mem_append]
    by_cases him : i = m
    ·subst him; exact .inr (by simp)
    ·exact .inl (h3 i (by omega))
  ·rw [if_neg hk, List.append_nil]
   have hk' : m ≠ 0 ∧ d[m]! = d[m - 1]! := by simpa [Lib.keeps] using hk
   refine ⟨h1, fun x hx => ?_, fun i hi => ?_⟩
   ·obtain ⟨i, hi, e⟩ := h2 x hx
    exact ⟨i, by omega, e⟩
   ·by_cases him : i = m
    ·subst him
     rw [hk'.2]
     exact h3 (i - 1) (by omega)
    ·exact h3 i (by omega)
theorem compI_spec {l : List Int} (hl : l.Pairwise (· ≤ ·)) : Incr (compI l) ∧ ∀ x, x ∈ compI l ↔ x ∈ l := by
 have hs : ∀ i j, i ≤ j → j < l.toArray.size → l.toArray[i]! ≤ l.toArray[j]! := fun i j hij hj => by
  have hj' : j < l.length := by simpa using hj
  rw [arr_getD l i (by omega), arr_getD l j hj']
  exact sorted_getD hl i j hij hj'
 obtain ⟨h1, h2, h3⟩ := compU hs l.length (by simp)
 refine ⟨h1, fun x => ⟨fun hx => ?_, fun hx => ?_⟩⟩
 ·obtain ⟨i, hi, rfl⟩ := h2 x hx
  rw [arr_getD l i hi]
  exact getD_mem l i 0 hi
 ·obtain ⟨i, hi, rfl⟩ := List.mem_iff_getElem.1 hx
  have := h3 i hi
  rw [arr_getD l i hi] at this
  simpa [compI, Lib.compact, List.getD, List.getElem?_eq_getElem hi] using this
theorem sortI_pw (l : List Int) : (sortI l).Pairwise (· ≤ ·) := by
 have := List.pairwise_mergeSort (le := fun x y : Int => decide (x ≤ y)) (fun a b c h k => by simp at *; omega) (fun a b => by simp; omega) l
 exact this.imp fun h => by simpa using h
theorem mem_sortI (l : List Int) (x : Int) : x ∈ sortI l ↔ x ∈ l := (List.mergeSort_perm l _).mem_iff
/-! each set of places is a mask's -/
end Go.Proofs.YtlankmlgomhbhaaGreatDoor
