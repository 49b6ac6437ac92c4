/-
 Plain: sorted sets merged, sorted, thinned; the greatest set of a kind as the union of all.
-/
import Derived.Test.YtljpfdehnjemlaaDoorWI
set_option linter.unusedSimpArgs false
set_option linter.unusedVariables false
namespace Go.Proofs.YtljpfdehnjemlaaDoor
open Go.Eng Go.RowKit
theorem merge_spec (keep : Bool → Bool → Bool) (a b : List Int) (ha : a.Pairwise (· < ·)) (hb : b.Pairwise (· < ·)) :
  (mergeB keep a b).Pairwise (· < ·) ∧ ∀ z, z ∈ mergeB keep a b ↔ (z ∈ a ∨ z ∈ b) ∧ keep (decide (z ∈ a)) (decide (z ∈ b)) = true := by
 fun_induction mergeB keep a b with
 | case1 => simp
 | case2 x a ih =>
  rw [List.pairwise_cons] at ha
  obtain ⟨i1, i2⟩ := ih ha.2 hb
  have hna : x ∉ a := fun h => by have := ha.1 x h; omega
  have key : ∀ z, z ∈ a → z ≠ x := fun z hz e => hna (e ▸ hz)
  constructor
  ·split
   ·rw [List.singleton_append, List.pairwise_cons]
    exact ⟨fun z hz => ha.1 z (by have := (i2 z).1 hz; simpa using this.1), i1⟩
   ·simpa using i1
  ·intro z
   rw [List.mem_append, i2 z]
   by_cases hz : z = x
   ·subst hz
    simp [hna]
   ·have : z ∉ (if keep true false = true then [x] else []) := by split <;> simp [hz]
    simp [hz, this]
 | case3 y b ih =>
  rw [List.pairwise_cons] at hb
  obtain ⟨i1, i2⟩ := ih ha hb.2
  have hnb : y ∉ b := fun h => by have := hb.1 y h; omega
  constructor
  ·split
   ·rw [List.singleton_append, List.pairwise_cons]
    exact ⟨fun z hz => hb.1 z (by have := (i2 z).1 hz; simpa using this.1), i1⟩
   ·simpa using i1
  ·intro z
   rw [List.mem_append, i2 z]
   by_cases hz : z = y
   ·subst hz
    simp [hnb]
   ·have : z ∉ (if keep false true = true then [y] else []) := by split <;> simp [hz]
    simp [hz, this]
 | case4 x a y b hlt ih =>
  have hb' := hb
  rw [List.pairwise_cons] at ha hb'
  obtain ⟨i1, i2⟩ := ih ha.2 hb
  have hna : x ∉ a := fun h => by have := ha.1 x h; omega
  have hnb : x ∉ y :: b := fun h => by
   rcases List.mem_cons.1 h with h | h
   ·omega
   ·have := hb'.1 x h; omega
  constructor
  ·split
   ·rw [List.singleton_append, List.pairwise_cons]
    refine ⟨fun z hz => ?_, i1⟩
    rcases ((i2 z).1 hz).1 with h | h
    ·exact ha.1 z h
    ·rcases List.mem_cons.1 h with h | h
     ·omega
     ·have := hb'.1 z h; omega
   ·simpa using i1
  ·intro z
   rw [List.mem_append, i2 z]
   by_cases hz : z = x
   ·subst hz
    simp only [List.mem_cons] at hnb
    simp [hna, hnb]
   ·have : z ∉ (if keep true false = true then [x] else []) := by split <;> simp [hz]
    simp [hz, this]
 | case5 x a y b hlt hgt ih =>
  have ha' := ha
  rw [List.pairwise_cons] at ha' hb
  obtain ⟨i1, i2⟩ := ih ha hb.2
  have hnb : y ∉ b := fun h => by have := hb.1 y h; omega
  have hna : y ∉ x :: a := fun h => by
   rcases List.mem_cons.1 h with h | h
   ·omega
   ·have := ha'.1 y h; omega
  constructor
  ·split
   ·rw [List.singleton_append, List.pairwise_cons]
    refine ⟨fun z hz => ?_, i1⟩
    rcases ((i2 z).1 hz).1 with h | h
    ·rcases List.mem_cons.1 h with h | h
     ·omega
     ·have := ha'.1 z h; omega
    ·exact hb.1 z h
   ·simpa using i1
  ·intro z
   rw [List.mem_append, i2 z]
   by_cases hz : z = y
   ·subst hz
    simp only [List.mem_cons] at hna
    simp [hna, hnb]
   ·have : z ∉ (if keep false true = true then [y] else []) := by split <;> simp [hz]
    simp [hz, this]
 | case6 x a y b hlt hgt ih =>
  have e : x = y := by omega
  subst e
  rw [List.pairwise_cons] at ha hb
  obtain ⟨i1, i2⟩ := ih ha.2 hb.2
  have hna : x ∉ a := fun h => by have := ha.1 x h; omega
  have hnb : x ∉ b := fun h => by have := hb.1 x h; omega
  constructor
  ·split
   ·rw [List.singleton_append, List.pairwise_cons]
    refine ⟨fun z hz => ?_, i1⟩
    rcases ((i2 z).1 hz).1 with h | h
    ·exact ha.1 z h
    ·exact hb.1 z h
   ·simpa using i1
  ·intro z
   rw [List.mem_append, i2 z]
   by_cases hz : z = x
   ·subst hz
    simp [hna, hnb]
   ·have : z ∉ (if keep true true = true then [x] else []) := by split <;> simp [hz]
    simp [hz, this]
abbrev Incr (a : List Int) : Prop := a.Pairwise (· < ·)
theorem mem_minus {a b : List Int} (ha : Incr a) (hb : Incr b) (z : Int) : z ∈ minusB a b ↔ z ∈ a ∧ z ∉ b := by
 rw [minusB, (merge_spec _ a b ha hb).2 z]; by_cases h1 : z ∈ a <;> by_cases h2 : z ∈ b <;> simp [h1, h2]
theorem sorted_ext : ∀ {a b : List Int}, Incr a → Incr b → (∀ z, z ∈ a ↔ z ∈ b) → a = b := by
 intro a b ha hb h
 have hn : ∀ {l : List Int}, Incr l → l.Nodup := fun hl => hl.imp fun h => by omega
 have hp : a.Perm b := (List.perm_ext_iff_of_nodup (hn ha) (hn hb)).2 h
 exact hp.eq_of_pairwise (le := fun x y : Int => decide (x < y)) (fun x y _ _ h1 h2 => by simp at h1 h2; omega) (ha.imp fun h => by simpa using h) (hb.imp fun h => by simpa using h)
def wiB (x s : List Int) : Bool := !x.any fun p => !decide (p ∈ s)
theorem wiB_iff (x s : List Int) : wiB x s = true ↔ ∀ p ∈ x, p ∈ s := by
 simp [wiB]
theorem inB_wi {x s : List Int} (hx : Incr x) (hs : Incr s) : inB x s = wiB x s := by
 rw [Bool.eq_iff_iff, wiB_iff, inB, decide_eq_true_eq, List.length_eq_zero_iff, List.eq_nil_iff_forall_not_mem]
 constructor
 ·intro h p hp
  have := h p
  rw [mem_minus hx hs] at this
  exact Decidable.byContradiction fun hn => this ⟨hp, hn⟩
 ·intro h p hp
  rw [mem_minus hx hs] at hp
  exact hp.2 (h p hp.1)
/-! thinning a sorted list -/
/-! each set of places is a mask's -/
def maskOf (p : Nat) (s : List Int) : Nat := (List.range p).foldl (fun (a i : Nat) => if (i : Int) ∈ s then a + 2 ^ i else a) 0
theorem maskOf_spec (s : List Int) : ∀ p, maskOf p s < 2 ^ p ∧ ∀ i, i < p → (maskOf p s).testBit i = decide ((i : Int) ∈ s)
 | 0 => ⟨by simp [maskOf], fun i hi => by omega⟩
 | p + 1 => by
  obtain ⟨h1, h2⟩ := maskOf_spec s p
  have e : maskOf (p + 1) s = if (p : Int) ∈ s then maskOf p s + 2 ^ p else maskOf p s := by
   unfold maskOf
   rw [List.range_succ, List.foldl_append]
   rfl
  have hp : 2 ^ (p + 1) = 2 ^ p + 2 ^ p := by rw [Nat.pow_succ]; omega
  rw [e]
  split
  ·rename_i hm
   refine ⟨by omega, fun i hi => ?_⟩
   by_cases hip : i = p
   ·subst hip
    rw [Nat.add_comm, Nat.testBit_two_pow_add_eq, Nat.testBit_lt_two_pow h1]
    simp [hm]
   ·rw [Nat.add_comm, Nat.testBit_two_pow_add_gt (by omega)]
    exact h2 i (by omega)
  ·rename_i hm
   refine ⟨by omega, fun i hi => ?_⟩
   by_cases hip : i = p
   ·subst hip
    rw [Nat.testBit_lt_two_pow h1]
    simp [hm]
   ·exact h2 i (by omega)
theorem bits_maskOf {p : Nat} {s : List Int} (hs : Incr s) (hr : ∀ x ∈ s, 0 ≤ x ∧ x < p) : bitsL (maskOf p s) p = s := by
 refine sorted_ext (bitsL_pw _ _) hs fun z => ?_
 rw [mem_bitsL]
 constructor
 ·rintro ⟨i, hi, rfl, ht⟩
  rw [(maskOf_spec s p).2 i hi] at ht
  simpa using ht
 ·intro hz
  have := hr z hz
  refine ⟨z.toNat, by omega, by omega, ?_⟩
  rw [(maskOf_spec s p).2 _ (by omega)]
  rw [show ((z.toNat : Nat) : Int) = z by omega]
  simpa using hz
theorem mem_setsY' {p : Nat} {s : List Int} (hs : Incr s) (hr : ∀ x ∈ s, 0 ≤ x ∧ x < p) (h0 : s ≠ []) : s ∈ setsY p := by
 rw [mem_setsY]
 refine ⟨maskOf p s, ?_, (maskOf_spec s p).1, (bits_maskOf hs hr).symm⟩
 apply Nat.pos_of_ne_zero
 intro e
 have := bits_maskOf hs hr
 rw [e] at this
 apply h0
 rw [← this]
 simp [bitsL]
end Go.Proofs.YtljpfdehnjemlaaDoor
