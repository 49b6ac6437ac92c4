/-
 Contracts: Fire, Value; what firing does to sums and to bounds.
-/
import Derived.Test.YtljpfdehnjemlaaDoorN17
set_option linter.unusedSimpArgs false
set_option linter.unusedVariables false
namespace Go.Proofs.YtljpfdehnjemlaaDoor
open Go.Eng Go.RowKit
/-! what firing does -/
def wsum : List Arc → Nat → Int
 | [], _ => 0
 | a :: l, p => (if a.place.toNat = p then a.weight else 0) + wsum l p
theorem set_getD' (l : List Int) (k p : Nat) (x : Int) (hk : k < l.length) : (l.set k x).getD p 0 = if k = p then x else l.getD p 0 := by
 by_cases h : k = p
 ·subst h; rw [if_pos rfl, set_getD l k x 0 hk]
 ·rw [if_neg h]; simp [List.getD, List.getElem?_set_ne h]
theorem applyA_getD (s : Int) : ∀ (l : List Arc) (m : List Int) (p : Nat), ArcsIn m.length l → (applyA s m l).getD p 0 = m.getD p 0 + s * wsum l p
 | [], m, p, _ => by simp [applyA, wsum]
 | a :: l, m, p, h => by
  have ha := h.place a (by simp)
  have hl : ArcsIn (m.set a.place.toNat (m.getD a.place.toNat 0 + s * a.weight)).length l := by
   rw [List.length_set]
   exact ⟨fun b hb => h.place b (by simp [hb]), fun b hb => h.weight b (by simp [hb]), (List.pairwise_cons.1 h.ord).2⟩
  rw [applyA, applyA_getD s l _ p hl, set_getD' m _ p _ (by omega), wsum]
  by_cases e : a.place.toNat = p
  ·rw [if_pos e, if_pos e, e, Int.mul_add]; omega
  ·rw [if_neg e, if_neg e, Int.zero_add]
theorem wsum_zero : ∀ (l : List Arc) (p : Nat), (∀ a ∈ l, a.place.toNat ≠ p) → wsum l p = 0
 | [], _, _ => rfl
 | a :: l, p, h => by rw [wsum, if_neg (h a (by simp)), wsum_zero l p fun b hb => h b (by simp [hb])]; rfl
theorem wsum_arc : ∀ (l : List Arc) (places : Nat) (p : Nat), ArcsIn places l → wsum l p = 0 ∨ ∃ a ∈ l, a.place.toNat = p ∧ wsum l p = a.weight
 | [], _, _, _ => .inl rfl
 | a :: l, places, p, h => by
  have hl : ArcsIn places l := ⟨fun b hb => h.place b (by simp [hb]), fun b hb => h.weight b (by simp [hb]), (List.pairwise_cons.1 h.ord).2⟩
  by_cases e : a.place.toNat = p
  ·have hz := wsum_zero l p fun b hb => by
    have h1 := (List.pairwise_cons.1 h.ord).1 b hb
    have h2 := h.place a (by simp)
    omega
   exact .inr ⟨a, by simp, e, by rw [wsum, if_pos e, hz]; omega⟩
  ·rcases wsum_arc l places p hl with h1 | ⟨b, hb, h1, h2⟩
   ·exact .inl (by rw [wsum, if_neg e, h1]; rfl)
   ·exact .inr ⟨b, by simp [hb], h1, by rw [wsum, if_neg e, h2]; omega⟩
theorem enB_wsum {m : List Int} {t : Tr} (h : ArcsIn m.length t.inn) (he : enB m t = true) (p : Nat) (hp : 0 ≤ m.getD p 0) : wsum t.inn p ≤ m.getD p 0 := by
 rcases wsum_arc t.inn _ p h with h1 | ⟨a, ha, h1, h2⟩
 ·omega
 ·rw [enB, Bool.not_eq_true', List.any_eq_false] at he
  have := he a ha
  simp only [lacksB, decide_eq_true_eq] at this
  rw [h1] at this
  omega
theorem firedL_getD {m : List Int} {t : Tr} (h1 : ArcsIn m.length t.inn) (h2 : ArcsIn m.length t.out) (p : Nat) : (firedL t m).getD p 0 = m.getD p 0 - wsum t.inn p + wsum t.out p := by
 rw [firedL, applyA_getD 1 t.out _ p (by rw [applyA_length]; exact h2), applyA_getD (-1) t.inn m p h1]
 omega
end Go.Proofs.YtljpfdehnjemlaaDoor
