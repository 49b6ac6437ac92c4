/-
  Plain facts of sets of numbers.
-/
import Derived.Test.YtdhkmgnhbllbfaaC6
set_option linter.unusedSimpArgs false
set_option linter.unusedVariables false
namespace Go.Proofs.Ytdhkmgnhbllbfaa
open Go.Eng Go.RowKit
theorem sorted_ext : ∀ {xs ys : List Int}, xs.Pairwise (· < ·) → ys.Pairwise (· < ·) → (∀ z, z ∈ xs ↔ z ∈ ys) → xs = ys
  | [], [], _, _, _ => rfl
  | [], y :: ys, _, _, h => by have := (h y).2 (by simp); simp at this
  | x :: xs, [], _, _, h => by have := (h x).1 (by simp); simp at this
  | x :: xs, y :: ys, hx, hy, h => by
    rw [List.pairwise_cons] at hx hy
    have e : x = y := by
      have h1 := (h x).1 (by simp)
      have h2 := (h y).2 (by simp)
      rw [List.mem_cons] at h1 h2
      rcases h1 with h1 | h1
      · exact h1
      · rcases h2 with h2 | h2
        · exact h2.symm
        · have := hy.1 x h1; have := hx.1 y h2; omega
    subst e
    congr 1
    refine sorted_ext hx.2 hy.2 fun z => ?_
    have hz := h z
    rw [List.mem_cons, List.mem_cons] at hz
    constructor
    · intro hm
      have := hx.1 z hm
      rcases hz.1 (.inr hm) with h1 | h1
      · omega
      · exact h1
    · intro hm
      have := hy.1 z hm
      rcases hz.2 (.inr hm) with h1 | h1
      · omega
      · exact h1
theorem csFrom_zero (m : Int) : ∀ (xs : List Int) (p : Option Int), csFrom m xs p = 0 ↔ (∀ x ∈ xs, 0 ≤ x ∧ x < m ∧ ∀ q ∈ p, q < x) ∧ xs.Pairwise (· < ·)
  | [], p => by simp [csFrom]
  | x :: xs, p => by
    rw [csFrom, List.pairwise_cons]
    by_cases h1 : x < 0 ∨ m ≤ x
    · rw [if_pos h1]
      constructor
      · intro h; omega
      · intro h; have := h.1 x (by simp); omega
    · rw [if_neg h1]
      by_cases h2 : (p.any fun p => decide (x ≤ p)) = true
      · rw [if_pos h2]
        constructor
        · intro h; omega
        · intro h
          rw [Option.any_eq_true] at h2
          obtain ⟨q, hq, hle⟩ := h2
          have := (h.1 x (by simp)).2.2 q hq
          simp at hle
          omega
      · rw [if_neg h2, csFrom_zero m xs (some x)]
        have h3 : ∀ q ∈ p, q < x := by
          intro q hq
          rw [Option.any_eq_true] at h2
          exact Int.not_le.1 fun hle => h2 ⟨q, hq, by simpa using hle⟩
        constructor
        · rintro ⟨ha, hb⟩
          refine ⟨fun y hy => ?_, fun y hy => (ha y hy).2.2 x rfl, hb⟩
          rcases List.mem_cons.1 hy with rfl | hy
          · exact ⟨by omega, by omega, h3⟩
          · have := ha y hy
            have h4 := this.2.2 x rfl
            exact ⟨this.1, this.2.1, fun q hq => by have := h3 q hq; omega⟩
        · rintro ⟨ha, hb, hc⟩
          exact ⟨fun y hy => ⟨(ha y (by simp [hy])).1, (ha y (by simp [hy])).2.1, fun q hq => by cases hq; exact hb y hy⟩, hc⟩
theorem checkSet_zero (xs : List Int) (m : Int) : checkSet xs m = 0 ↔ (∀ x ∈ xs, 0 ≤ x ∧ x < m) ∧ xs.Pairwise (· < ·) := by
  rw [checkSet, csFrom_zero]; simp
theorem bitsL_pairwise (m k : Nat) : (bitsL m k).Pairwise (· < ·) := by
  unfold bitsL
  rw [List.pairwise_map]
  refine List.Pairwise.imp ?_ (List.Pairwise.filter _ List.pairwise_lt_range)
  intro a b h
  exact Int.ofNat_lt.2 h
theorem mem_bitsL (m k : Nat) (x : Int) : x ∈ bitsL m k ↔ 0 ≤ x ∧ x < k ∧ m.testBit x.toNat = true := by
  simp only [bitsL, List.mem_map, List.mem_filter, List.mem_range]
  constructor
  · rintro ⟨i, ⟨h1, h2⟩, rfl⟩
    exact ⟨Int.natCast_nonneg _, Int.ofNat_lt.2 h1, by simpa using h2⟩
  · rintro ⟨h1, h2, h3⟩
    exact ⟨x.toNat, ⟨by omega, h3⟩, Int.toNat_of_nonneg h1⟩
theorem setOf_ok (m : Nat) : checkSet (setOf m) 32 = 0 := by
  rw [checkSet_zero]
  refine ⟨fun x hx => ?_, bitsL_pairwise m 32⟩
  have := (mem_bitsL m 32 x).1 hx
  omega
theorem maskOf_setOf (m : Nat) (hm : m < 4294967296) : maskOf (setOf m) = m := by
  refine Nat.eq_of_testBit_eq fun i => ?_
  rw [Bool.eq_iff_iff, maskOf_testBit]
  constructor
  · rintro ⟨x, hx, rfl⟩
    exact ((mem_bitsL m 32 x).1 hx).2.2
  · intro h
    have hi : i < 32 := by
      refine Nat.lt_of_not_le fun hle => ?_
      have : m < 2 ^ i := Nat.lt_of_lt_of_le (by simpa using hm) (Nat.pow_le_pow_right (by omega) hle)
      rw [Nat.testBit_lt_two_pow this] at h
      cases h
    exact ⟨i, (mem_bitsL m 32 i).2 ⟨by omega, by omega, by simpa using h⟩, by simp⟩
theorem setOf_maskOf (xs : List Int) (h : checkSet xs 32 = 0) : setOf (maskOf xs) = xs := by
  rw [checkSet_zero] at h
  refine sorted_ext (bitsL_pairwise _ _) h.2 fun z => ?_
  rw [setOf, mem_bitsL, maskOf_testBit]
  constructor
  · rintro ⟨h0, _, x, hx, he⟩
    have := (h.1 x hx).1
    have : x = z := by omega
    exact this ▸ hx
  · intro hz
    have := h.1 z hz
    exact ⟨this.1, by omega, z, hz, rfl⟩
end Go.Proofs.Ytdhkmgnhbllbfaa
