/-
  Plain facts: merging sorted sets.
-/
import Derived.Test.YtdhkmgnhbllbfaaP1
set_option linter.unusedSimpArgs false
set_option linter.unusedVariables false
namespace Go.Proofs.Ytdhkmgnhbllbfaa
open Go.Eng Go.RowKit
/-- a merge of sorted sets: who is in it, and that it is sorted -/
theorem merge_spec (keep : Bool → Bool → Bool) (a b : List Int) (ha : a.Pairwise (· < ·)) (hb : b.Pairwise (· < ·)) :
    (mergeB keep a b).Pairwise (· < ·) ∧ ∀ z, z ∈ mergeB keep a b ↔ (z ∈ a ∨ z ∈ b) ∧ keep (decide (z ∈ a)) (decide (z ∈ b)) = true := by
  fun_induction mergeB keep a b with
  | case1 => simp
  | case2 x a ih =>
    rw [List.pairwise_cons] at ha
    obtain ⟨i1, i2⟩ := ih ha.2 hb
    have hna : x ∉ a := fun h => by have := ha.1 x h; omega
    have key : ∀ z, z ∈ a → z ≠ x := fun z hz e => hna (e ▸ hz)
    constructor
    · split
      · rw [List.singleton_append, List.pairwise_cons]
        exact ⟨fun z hz => ha.1 z (by have := (i2 z).1 hz; simpa using this.1), i1⟩
      · simpa using i1
    · intro z
      rw [List.mem_append, i2 z]
      by_cases hz : z = x
      · subst hz
        simp [hna]
      · have : z ∉ (if keep true false = true then [x] else []) := by split <;> simp [hz]
        simp [hz, this]
  | case3 y b ih =>
    rw [List.pairwise_cons] at hb
    obtain ⟨i1, i2⟩ := ih ha hb.2
    have hnb : y ∉ b := fun h => by have := hb.1 y h; omega
    constructor
    · split
      · rw [List.singleton_append, List.pairwise_cons]
        exact ⟨fun z hz => hb.1 z (by have := (i2 z).1 hz; simpa using this.1), i1⟩
      · simpa using i1
    · intro z
      rw [List.mem_append, i2 z]
      by_cases hz : z = y
      · subst hz
        simp [hnb]
      · have : z ∉ (if keep false true = true then [y] else []) := by split <;> simp [hz]
        simp [hz, this]
  | case4 x a y b hlt ih =>
    have hb' := hb
    rw [List.pairwise_cons] at ha hb'
    obtain ⟨i1, i2⟩ := ih ha.2 hb
    have hna : x ∉ a := fun h => by have := ha.1 x h; omega
    have hnb : x ∉ y :: b := fun h => by
      rcases List.mem_cons.1 h with h | h
      · omega
      · have := hb'.1 x h; omega
    constructor
    · split
      · rw [List.singleton_append, List.pairwise_cons]
        refine ⟨fun z hz => ?_, i1⟩
        rcases ((i2 z).1 hz).1 with h | h
        · exact ha.1 z h
        · rcases List.mem_cons.1 h with h | h
          · omega
          · have := hb'.1 z h; omega
      · simpa using i1
    · intro z
      rw [List.mem_append, i2 z]
      by_cases hz : z = x
      · subst hz
        simp only [List.mem_cons] at hnb
        simp [hna, hnb]
      · have : z ∉ (if keep true false = true then [x] else []) := by split <;> simp [hz]
        simp [hz, this]
  | case5 x a y b hlt hgt ih =>
    have ha' := ha
    rw [List.pairwise_cons] at ha' hb
    obtain ⟨i1, i2⟩ := ih ha hb.2
    have hnb : y ∉ b := fun h => by have := hb.1 y h; omega
    have hna : y ∉ x :: a := fun h => by
      rcases List.mem_cons.1 h with h | h
      · omega
      · have := ha'.1 y h; omega
    constructor
    · split
      · rw [List.singleton_append, List.pairwise_cons]
        refine ⟨fun z hz => ?_, i1⟩
        rcases ((i2 z).1 hz).1 with h | h
        · rcases List.mem_cons.1 h with h | h
          · omega
          · have := ha'.1 z h; omega
        · exact hb.1 z h
      · simpa using i1
    · intro z
      rw [List.mem_append, i2 z]
      by_cases hz : z = y
      · subst hz
        simp only [List.mem_cons] at hna
        simp [hna, hnb]
      · have : z ∉ (if keep false true = true then [y] else []) := by split <;> simp [hz]
        simp [hz, this]
  | case6 x a y b hlt hgt ih =>
    have e : x = y := by omega
    subst e
    rw [List.pairwise_cons] at ha hb
    obtain ⟨i1, i2⟩ := ih ha.2 hb.2
    have hna : x ∉ a := fun h => by have := ha.1 x h; omega
    have hnb : x ∉ b := fun h => by have := hb.1 x h; omega
    constructor
    · split
      · rw [List.singleton_append, List.pairwise_cons]
        refine ⟨fun z hz => ?_, i1⟩
        rcases ((i2 z).1 hz).1 with h | h
        · exact ha.1 z h
        · exact hb.1 z h
      · simpa using i1
    · intro z
      rw [List.mem_append, i2 z]
      by_cases hz : z = x
      · subst hz
        simp [hna, hnb]
      · have : z ∉ (if keep true true = true then [x] else []) := by split <;> simp [hz]
        simp [hz, this]
abbrev Incr (a : List Int) : Prop := a.Pairwise (· < ·)
theorem mem_union {a b : List Int} (ha : Incr a) (hb : Incr b) (z : Int) : z ∈ unionB a b ↔ z ∈ a ∨ z ∈ b := by
  rw [unionB, (merge_spec _ a b ha hb).2 z]; by_cases h1 : z ∈ a <;> by_cases h2 : z ∈ b <;> simp [h1, h2]
theorem mem_inter {a b : List Int} (ha : Incr a) (hb : Incr b) (z : Int) : z ∈ interB a b ↔ z ∈ a ∧ z ∈ b := by
  rw [interB, (merge_spec _ a b ha hb).2 z]; by_cases h1 : z ∈ a <;> by_cases h2 : z ∈ b <;> simp [h1, h2]
theorem mem_minus {a b : List Int} (ha : Incr a) (hb : Incr b) (z : Int) : z ∈ minusB a b ↔ z ∈ a ∧ z ∉ b := by
  rw [minusB, (merge_spec _ a b ha hb).2 z]; by_cases h1 : z ∈ a <;> by_cases h2 : z ∈ b <;> simp [h1, h2]
theorem incr_union {a b : List Int} (ha : Incr a) (hb : Incr b) : Incr (unionB a b) := (merge_spec _ a b ha hb).1
theorem incr_inter {a b : List Int} (ha : Incr a) (hb : Incr b) : Incr (interB a b) := (merge_spec _ a b ha hb).1
theorem incr_minus {a b : List Int} (ha : Incr a) (hb : Incr b) : Incr (minusB a b) := (merge_spec _ a b ha hb).1
theorem incr_filter {a : List Int} (ha : Incr a) (q : Int → Bool) : Incr (a.filter q) := List.Pairwise.filter _ ha
theorem incr_set (m : Nat) : Incr (setOf m) := bitsL_pairwise m 32
theorem inter_filter {a b : List Int} (ha : Incr a) (hb : Incr b) : interB a b = a.filter fun x => decide (x ∈ b) :=
  sorted_ext (incr_inter ha hb) (incr_filter ha _) fun z => by rw [mem_inter ha hb]; simp
theorem minus_filter {a b : List Int} (ha : Incr a) (hb : Incr b) : minusB a b = a.filter fun x => !decide (x ∈ b) :=
  sorted_ext (incr_minus ha hb) (incr_filter ha _) fun z => by rw [mem_minus ha hb]; simp
theorem minus_empty {a b : List Int} (ha : Incr a) (hb : Incr b) : (minusB a b).length = 0 ↔ ∀ z ∈ a, z ∈ b := by
  rw [List.length_eq_zero_iff]
  constructor
  · intro h z hz
    refine Classical.byContradiction fun hn => ?_
    have := (mem_minus ha hb z).2 ⟨hz, hn⟩
    rw [h] at this
    cases this
  · intro h
    cases hm : minusB a b with
    | nil => rfl
    | cons z r =>
      have : z ∈ minusB a b := by rw [hm]; simp
      have := (mem_minus ha hb z).1 this
      exact absurd (h z this.1) this.2
end Go.Proofs.Ytdhkmgnhbllbfaa
