/-
 Chapter 05, plain: a drafted automaton is right.
-/
import Derived.Test.YtgagpbbnbonnlaaDoorYC
set_option linter.unusedSimpArgs false
set_option linter.unusedVariables false
namespace Go.Proofs.YtgagpbbnbonnlaaDoor
def evK (al : List Int) : Nat → Int
 | 0 => -1
 | k + 1 => al.getD k 0
def rowJ (kp : Nat → Nat → Nat → Bool) (al : List Int) (i k : Nat) : Nat → List Ed
 | 0 => []
 | j + 1 => rowJ kp al i k j ++ if kp i k j = true then [⟨i, evK al k, j⟩] else []
def rowK (kp : Nat → Nat → Nat → Bool) (al : List Int) (n i : Nat) : Nat → List Ed
 | 0 => []
 | k + 1 => rowK kp al n i k ++ rowJ kp al i k n
def rowI (kp : Nat → Nat → Nat → Bool) (al : List Int) (n : Nat) : Nat → List Ed
 | 0 => []
 | i + 1 => rowI kp al n i ++ rowK kp al n i (al.length + 1)
section
variable {kp : Nat → Nat → Nat → Bool} {al : List Int} {n : Nat}
theorem rowJ_mem {i k : Nat} : ∀ {j : Nat} {x : Ed}, x ∈ rowJ kp al i k j → ∃ d : Nat, d < j ∧ x = ⟨i, evK al k, d⟩
 | 0, x, h => by cases h
 | j + 1, x, h => by
  rcases List.mem_append.1 h with h | h
  ·obtain ⟨d, hd, e⟩ := rowJ_mem h
   exact ⟨d, by omega, e⟩
  ·split at h
   ·rw [List.mem_singleton] at h; exact ⟨j, by omega, h⟩
   ·cases h
theorem rowK_mem {i : Nat} : ∀ {k : Nat} {x : Ed}, x ∈ rowK kp al n i k → ∃ e d : Nat, e < k ∧ d < n ∧ x = ⟨i, evK al e, d⟩
 | 0, x, h => by cases h
 | k + 1, x, h => by
  rcases List.mem_append.1 h with h | h
  ·obtain ⟨e, d, h1, h2, h3⟩ := rowK_mem h
   exact ⟨e, d, by omega, h2, h3⟩
  ·obtain ⟨d, hd, e⟩ := rowJ_mem h
   exact ⟨k, d, by omega, hd, e⟩
theorem rowI_mem : ∀ {i : Nat} {x : Ed}, x ∈ rowI kp al n i → ∃ s e d : Nat, s < i ∧ e < al.length + 1 ∧ d < n ∧ x = ⟨s, evK al e, d⟩
 | 0, x, h => by cases h
 | i + 1, x, h => by
  rcases List.mem_append.1 h with h | h
  ·obtain ⟨s, e, d, h1, h2⟩ := rowI_mem h
   exact ⟨s, e, d, by omega, h2⟩
  ·obtain ⟨e, d, h1, h2, h3⟩ := rowK_mem h
   exact ⟨i, e, d, by omega, h1, h2, h3⟩
theorem evK_lt (ha : IncI al) (h0 : ∀ x ∈ al, 0 ≤ x) {a b : Nat} (hab : a < b) (hb : b < al.length + 1) : evK al a < evK al b := by
 have hat : ∀ k, (hk : k < al.length) → al.getD k 0 = al[k] := fun k hk => by simp [List.getD, List.getElem?_eq_getElem hk]
 cases b with
 | zero => omega
 | succ b =>
  have hbl : b < al.length := by omega
  cases a with
  | zero =>
   simp only [evK]
   rw [hat b hbl]
   have := h0 _ (List.getElem_mem hbl)
   omega
  | succ a =>
   simp only [evK]
   rw [hat b hbl, hat a (by omega)]
   exact (List.pairwise_iff_getElem.1 ha) a b (by omega) hbl (by omega)
theorem rowJ_inc (i k : Nat) : ∀ j, EdInc (rowJ kp al i k j)
 | 0 => .nil
 | j + 1 => by
  rw [rowJ, EdInc, List.pairwise_append]
  refine ⟨rowJ_inc i k j, by split <;> simp, fun x hx y hy => ?_⟩
  obtain ⟨d, hd, rfl⟩ := rowJ_mem hx
  split at hy
  ·rw [List.mem_singleton] at hy
   subst hy
   exact .inr ⟨rfl, .inr ⟨rfl, by simp only; omega⟩⟩
  ·cases hy
theorem rowK_inc (ha : IncI al) (h0 : ∀ x ∈ al, 0 ≤ x) (i : Nat) : ∀ k, k ≤ al.length + 1 → EdInc (rowK kp al n i k)
 | 0, _ => .nil
 | k + 1, hk => by
  rw [rowK, EdInc, List.pairwise_append]
  refine ⟨rowK_inc ha h0 i k (by omega), rowJ_inc i k n, fun x hx y hy => ?_⟩
  obtain ⟨e, d, h1, h2, rfl⟩ := rowK_mem hx
  obtain ⟨d', h3, rfl⟩ := rowJ_mem hy
  exact .inr ⟨rfl, .inl (evK_lt ha h0 h1 (by omega))⟩
theorem rowI_inc (ha : IncI al) (h0 : ∀ x ∈ al, 0 ≤ x) : ∀ i, EdInc (rowI kp al n i)
 | 0 => .nil
 | i + 1 => by
  rw [rowI, EdInc, List.pairwise_append]
  refine ⟨rowI_inc ha h0 i, rowK_inc ha h0 i _ (by omega), fun x hx y hy => ?_⟩
  obtain ⟨s, e, d, h1, h2, h3, rfl⟩ := rowI_mem hx
  obtain ⟨e', d', h4, h5, rfl⟩ := rowK_mem hy
  unfold edLt
  simp only
  omega
theorem rowI_ok (ha : IncI al) (h0 : ∀ x ∈ al, 0 ≤ x) : EdOk n (rowI kp al n n) := by
 refine ⟨rowI_inc ha h0 n, fun x hx => ?_, fun x hx => ?_⟩
 ·obtain ⟨s, e, d, h1, h2, h3, rfl⟩ := rowI_mem hx
  simp only; omega
 ·obtain ⟨s, e, d, h1, h2, h3, rfl⟩ := rowI_mem hx
  simp only; omega
theorem rowI_ev {x : Ed} {i : Nat} (hx : x ∈ rowI kp al n i) : x.ev = -1 ∨ x.ev ∈ al := by
 obtain ⟨s, e, d, h1, h2, h3, rfl⟩ := rowI_mem hx
 cases e with
 | zero => exact .inl rfl
 | succ e =>
  refine .inr ?_
  simp only [evK]
  have he : e < al.length := by omega
  rw [List.getD, List.getElem?_eq_getElem he]
  exact List.getElem_mem he
theorem rowJ_len (kp : Nat → Nat → Nat → Bool) (al : List Int) (i k : Nat) : ∀ j, (rowJ kp al i k j).length ≤ j
 | 0 => by simp [rowJ]
 | j + 1 => by
  have := rowJ_len kp al i k j
  rw [rowJ, List.length_append]
  split <;> simp <;> omega
theorem rowK_len (kp : Nat → Nat → Nat → Bool) (al : List Int) (n i : Nat) : ∀ k, (rowK kp al n i k).length ≤ k * n
 | 0 => by simp [rowK]
 | k + 1 => by
  have := rowK_len kp al n i k
  have := rowJ_len kp al i k n
  rw [rowK, List.length_append, Nat.succ_mul]
  omega
theorem rowI_len (kp : Nat → Nat → Nat → Bool) (al : List Int) (n : Nat) : ∀ i, (rowI kp al n i).length ≤ i * ((al.length + 1) * n)
 | 0 => by simp [rowI]
 | i + 1 => by
  have := rowI_len kp al n i
  have := rowK_len kp al n i (al.length + 1)
  rw [rowI, List.length_append, Nat.succ_mul]
  omega
theorem draft_ok {ini mk : List Int} (ha : IncI al) (h0 : ∀ x ∈ al, 0 ≤ x) (hi : IncI ini) (hi2 : ∀ x ∈ ini, 0 ≤ x ∧ x < n) (hm : IncI mk) (hm2 : ∀ x ∈ mk, 0 ≤ x ∧ x < n) : NaOk ⟨al, n, ini, mk, rowI kp al n n⟩ :=
 ⟨by simp only; omega, ha, ⟨hi, hi2⟩, ⟨hm, hm2⟩, rowI_ok ha h0⟩
end
end Go.Proofs.YtgagpbbnbonnlaaDoor
