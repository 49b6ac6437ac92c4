/-
 Plain: sorted sets merged, sorted, thinned; the greatest set of a kind as the union of all.
-/
import Derived.Test.YtlankmlgomhbhaaGreatDoorWI
set_option linter.unusedSimpArgs false
set_option linter.unusedVariables false
namespace Go.Proofs.YtlankmlgomhbhaaGreatDoor
open Go.Eng Go.RowKit
theorem merge_spec (keep : Bool → Bool → Bool) (a b : List Int) (ha : a.Pairwise (· < ·)) (hb : b.Pairwise (· < ·)) :
  (mergeB keep a b).Pairwise (· < ·) ∧ ∀ z, z ∈ mergeB keep a b ↔ (z ∈ a ∨ z ∈ b) ∧ keep (decide (z ∈ a)) (decide (z ∈ b)) = true := by
 fun_induction mergeB keep a b with
 | case1 => simp
 | case2 x a ih =>
  rw [List.pairwise_cons] at ha
  obtain ⟨i1, i2⟩ := ih ha.2 hb
  have hna : x ∉ a := fun h => by have := ha.1 x h; omega
  have key : ∀ z, z ∈ a → z ≠ x := fun z hz e => hna (e ▸ hz)
  constructor
  ·split
   ·rw [List.singleton_append, List.pairwise_cons]
    exact ⟨fun z hz => ha.1 z (by have := (i2 z).1 hz; simpa using this.1), i1⟩
   ·simpa using i1
  ·intro z
   rw [List.mem_append, i2 z]
   by_cases hz : z = x
   ·subst hz
    simp [hna]
   ·have : z ∉ (if keep true false = true then [x] else []) := by split <;> simp [hz]
    simp [hz, this]
 | case3 y b ih =>
  rw [List.pairwise_cons] at hb
  obtain ⟨i1, i2⟩ := ih ha hb.2
  have hnb : y ∉ b := fun h => by have := hb.1 y h; omega
  constructor
  ·split
   ·rw [List.singleton_append, List.pairwise_cons]
    exact ⟨fun z hz => hb.1 z (by have := (i2 z).1 hz; simpa using this.1), i1⟩
   ·simpa using i1
  ·intro z
   rw [List.mem_append, i2 z]
   by_cases hz : z = y
   ·subst hz
    simp [hnb]
   ·have : z ∉ (if keep false true = true then [y] else []) := by split <;> simp [hz]
    simp [hz, this]
 | case4 x a y b hlt ih =>
  have hb' := hb
  rw [List.pairwise_cons] at ha hb'
  obtain ⟨i1, i2⟩ := ih ha.2 hb
  have hna : x ∉ a := fun h => by have := ha.1 x h; omega
  have hnb : x ∉ y :: b := fun h => by
   rcases List.mem_cons.1 h with h | h
   ·omega
   ·have := hb'.1 x h; omega
  constructor
  ·split
   ·rw [List.singleton_append, List.pairwise_cons]
    refine ⟨fun z hz => ?_, i1⟩
    rcases ((i2 z).1 hz).1 with h | h
    ·exact ha.1 z h
    ·rcases List.mem_cons.1 h with h | h
     ·omega
     ·have := hb'.1 z h; omega
   ·simpa using i1
  ·intro z
   rw [List.mem_append, i2 z]
   by_cases hz : z = x
   ·subst hz
    simp only [List.mem_cons] at hnb
    simp [hna, hnb]
   ·have : z ∉ (if keep true false = true then [x] else []) := by split <;> simp [hz]
    simp [hz, this]
 | case5 x a y b hlt hgt ih =>
  have ha' := ha
  rw [List.pairwise_cons] at ha' hb
  obtain ⟨i1, i2⟩ := ih ha hb.2
  have hnb : y ∉ b := fun h => by have := hb.1 y h; omega
  have hna : y ∉ x :: a := fun h => by
   rcases List.mem_cons.1 h with h | h
   ·omega
   ·have := ha'.1 y h; omega
  constructor
  ·split
   ·rw [List.singleton_append, List.pairwise_cons]
    refine ⟨fun z hz => ?_, i1⟩
    rcases ((i2 z).1 hz).1 with h | h
    ·rcases List.mem_cons.1 h with h | h
     ·omega
     ·have := ha'.1 z h; omega
    ·exact hb.1 z h
   ·simpa using i1
  ·intro z
   rw [List.mem_append, i2 z]
   by_cases hz : z = y
   ·subst hz
    simp only [List.mem_cons] at hna
    simp [hna, hnb]
   ·have : z ∉ (if keep false true = true then [y] else []) := by split <;> simp [hz]
    simp [hz, this]
 | case6 x a y b hlt hgt ih =>
  have e : x = y := by omega
  subst e
  rw [List.pairwise_cons] at ha hb
  obtain ⟨i1, i2⟩ := ih ha.2 hb.2
  have hna : x ∉ a := fun h => by have := ha.1 x h; omega
  have hnb : x ∉ b := fun h => by have := hb.1 x h; omega
  constructor
  ·split
   ·rw [List.singleton_append, List.pairwise_cons]
    refine ⟨fun z hz => ?_, i1⟩
    rcases ((i2 z).1 hz).1 with h | h
    ·exact ha.1 z h
    ·exact hb.1 z h
   ·simpa using i1
  ·intro z
   rw [List.mem_append, i2 z]
   by_cases hz : z = x
   ·subst hz
    simp [hna, hnb]
   ·have : z ∉ (if keep true true = true then [x] else []) := by split <;> simp [hz]
    simp [hz, this]
abbrev Incr (a : List Int) : Prop := a.Pairwise (· < ·)
theorem mem_minus {a b : List Int} (ha : Incr a) (hb : Incr b) (z : Int) : z ∈ minusB a b ↔ z ∈ a ∧ z ∉ b := by
 rw [minusB, (merge_spec _ a b ha hb).2 z]; by_cases h1 : z ∈ a <;> by_cases h2 : z ∈ b <;> simp [h1, h2]
theorem sorted_ext : ∀ {a b : List Int}, Incr a → Incr b → (∀ z, z ∈ a ↔ z ∈ b) → a = b := by
 intro a b ha hb h
 have hn : ∀ {l : List Int}, Incr l → l.Nodup := fun hl => hl.imp fun h => by omega
 have hp : a.Perm b := (List.perm_ext_iff_of_nodup (hn ha) (hn hb)).2 h
 exact hp.eq_of_pairwise (le := fun x y : Int => decide (x < y)) (fun x y _ _ h1 h2 => by simp at h1 h2; omega) (ha.imp fun h => by simpa using h) (hb.imp fun h => by simpa using h)
def wiB (x s : List Int) : Bool := !x.any fun p => !decide (p ∈ s)
theorem wiB_iff (x s : List Int) : wiB x s = true ↔ ∀ p ∈ x, p ∈ s := by
 simp [wiB]
theorem inB_wi {x s : List Int} (hx : Incr x) (hs : Incr s) : inB x s = wiB x s := by
 rw [Bool.eq_iff_iff, wiB_iff, inB, decide_eq_true_eq, List.length_eq_zero_iff, List.eq_nil_iff_forall_not_mem]
 constructor
 ·intro h p hp
  have := h p
  rw [mem_minus hx hs] at this
  exact Decidable.byContradiction fun hn => this ⟨hp, hn⟩
 ·intro h p hp
  rw [mem_minus hx hs] at hp
  exact hp.2 (h p hp.1)
/-! thinning a sorted list -/
theorem compU {d : Array Int} (hs : ∀ i j, i ≤ j → j < d.size → d[i]! ≤ d[j]!) : ∀ m, m ≤ d.size → Incr (Lib.compactUpTo d m) ∧ (∀ x ∈ Lib.compactUpTo d m, ∃ i, i < m ∧ x = d[i]!) ∧ ∀ i, i < m → d[i]! ∈ Lib.compactUpTo d m
 | 0, _ => by simp [Lib.compactUpTo]
 | m + 1, h => by
  obtain ⟨h1, h2, h3⟩ := compU hs m (by omega)
  rw [Lib.compactUpTo_succ]
  by_cases hk : Lib.keeps d m = true
  ·rw [if_pos hk]
   have hk' : m = 0 ∨ d[m]! ≠ d[m - 1]! := by simpa [Lib.keeps] using hk
   refine ⟨?_, ?_, ?_⟩
   ·rw [Incr, List.pairwise_append]
    refine ⟨h1, List.pairwise_singleton _ _, fun x hx y hy => ?_⟩
    simp at hy
    subst hy
    obtain ⟨i, hi, rfl⟩ := h2 x hx
    have a := hs i (m - 1) (by omega) (by omega)
    have b := hs (m - 1) m (by omega) (by omega)
    omega
   ·intro x hx
    rcases List.mem_append.1 hx with hx | hx
    ·obtain ⟨i, hi, e⟩ := h2 x hx
     exact ⟨i, by omega, e⟩
    ·simp at hx
     exact ⟨m, by omega, hx⟩
   ·intro i hi
    rw [List.mem_append]
    by_cases him : i = m
    ·subst him; exact .inr (by simp)
    ·exact .inl (h3 i (by omega))
  ·rw [if_neg hk, List.append_nil]
   have hk' : m ≠ 0 ∧ d[m]! = d[m - 1]! := by simpa [Lib.keeps] using hk
   refine ⟨h1, fun x hx => ?_, fun i hi => ?_⟩
   ·obtain ⟨i, hi, e⟩ := h2 x hx
    exact ⟨i, by omega, e⟩
   ·by_cases him : i = m
    ·subst him
     rw [hk'.2]
     exact h3 (i - 1) (by omega)
    ·exact h3 i (by omega)
theorem compI_spec {l : List Int} (hl : l.Pairwise (· ≤ ·)) : Incr (compI l) ∧ ∀ x, x ∈ compI l ↔ x ∈ l := by
 have hs : ∀ i j, i ≤ j → j < l.toArray.size → l.toArray[i]! ≤ l.toArray[j]! := fun i j hij hj => by
  have hj' : j < l.length := by simpa using hj
  rw [arr_getD l i (by omega), arr_getD l j hj']
  exact sorted_getD hl i j hij hj'
 obtain ⟨h1, h2, h3⟩ := compU hs l.length (by simp)
 refine ⟨h1, fun x => ⟨fun hx => ?_, fun hx => ?_⟩⟩
 ·obtain ⟨i, hi, rfl⟩ := h2 x hx
  rw [arr_getD l i hi]
  exact getD_mem l i 0 hi
 ·obtain ⟨i, hi, rfl⟩ := List.mem_iff_getElem.1 hx
  have := h3 i hi
  rw [arr_getD l i hi] at this
  simpa [compI, Lib.compact, List.getD, List.getElem?_eq_getElem hi] using this
theorem sortI_pw (l : List Int) : (sortI l).Pairwise (· ≤ ·) := by
 have := List.pairwise_mergeSort (le := fun x y : Int => decide (x ≤ y)) (fun a b c h k => by simp at *; omega) (fun a b => by simp; omega) l
 exact this.imp fun h => by simpa using h
theorem mem_sortI (l : List Int) (x : Int) : x ∈ sortI l ↔ x ∈ l := (List.mergeSort_perm l _).mem_iff
theorem unite {l : List Int} {g : List Int} (hg : Incr g) (h : ∀ x, x ∈ l ↔ x ∈ g) : compI (sortI l) = g := by
 obtain ⟨h1, h2⟩ := compI_spec (sortI_pw l)
 exact sorted_ext h1 hg fun z => by rw [h2, mem_sortI, h]
/-! each set of places is a mask's -/
def maskOf (p : Nat) (s : List Int) : Nat := (List.range p).foldl (fun (a i : Nat) => if (i : Int) ∈ s then a + 2 ^ i else a) 0
theorem maskOf_spec (s : List Int) : ∀ p, maskOf p s < 2 ^ p ∧ ∀ i, i < p → (maskOf p s).testBit i = decide ((i : Int) ∈ s)
 | 0 => ⟨by simp [maskOf], fun i hi => by omega⟩
 | p + 1 => by
  obtain ⟨h1, h2⟩ := maskOf_spec s p
  have e : maskOf (p + 1) s = if (p : Int) ∈ s then maskOf p s + 2 ^ p else maskOf p s := by
   unfold maskOf
   rw [List.range_succ, List.foldl_append]
   rfl
  have hp : 2 ^ (p + 1) = 2 ^ p + 2 ^ p := by rw [Nat.pow_succ]; omega
  rw [e]
  split
  ·rename_i hm
   refine ⟨by omega, fun i hi => ?_⟩
   by_cases hip : i = p
   ·subst hip
    rw [Nat.add_comm, Nat.testBit_two_pow_add_eq, Nat.testBit_lt_two_pow h1]
    simp [hm]
   ·rw [Nat.add_comm, Nat.testBit_two_pow_add_gt (by omega)]
    exact h2 i (by omega)
  ·rename_i hm
   refine ⟨by omega, fun i hi => ?_⟩
   by_cases hip : i = p
   ·subst hip
    rw [Nat.testBit_lt_two_pow h1]
    simp [hm]
   ·exact h2 i (by omega)
theorem bits_maskOf {p : Nat} {s : List Int} (hs : Incr s) (hr : ∀ x ∈ s, 0 ≤ x ∧ x < p) : bitsL (maskOf p s) p = s := by
 refine sorted_ext (bitsL_pw _ _) hs fun z => ?_
 rw [mem_bitsL]
 constructor
 ·rintro ⟨i, hi, rfl, ht⟩
  rw [(maskOf_spec s p).2 i hi] at ht
  simpa using ht
 ·intro hz
  have := hr z hz
  refine ⟨z.toNat, by omega, by omega, ?_⟩
  rw [(maskOf_spec s p).2 _ (by omega)]
  rw [show ((z.toNat : Nat) : Int) = z by omega]
  simpa using hz
theorem mem_setsY' {p : Nat} {s : List Int} (hs : Incr s) (hr : ∀ x ∈ s, 0 ≤ x ∧ x < p) (h0 : s ≠ []) : s ∈ setsY p := by
 rw [mem_setsY]
 refine ⟨maskOf p s, ?_, (maskOf_spec s p).1, (bits_maskOf hs hr).symm⟩
 apply Nat.pos_of_ne_zero
 intro e
 have := bits_maskOf hs hr
 rw [e] at this
 apply h0
 rw [← this]
 simp [bitsL]
def flatG (k : Int) (ts : List Tr) (s : List Int) : List (List Int) → List Int
 | [] => []
 | x :: l => (if wiB x s && isL k ts x then x else []) ++ flatG k ts s l
theorem mem_flatG {k : Int} {ts : List Tr} {s : List Int} {z : Int} : ∀ {l : List (List Int)}, z ∈ flatG k ts s l ↔ ∃ x ∈ l, wiB x s = true ∧ isL k ts x = true ∧ z ∈ x
 | [] => by simp [flatG]
 | x :: l => by
  rw [flatG, List.mem_append, mem_flatG]
  constructor
  ·rintro (h | ⟨y, h1, h2⟩)
   ·split at h
    ·rename_i hc
     simp only [Bool.and_eq_true] at hc
     exact ⟨x, by simp, hc.1, hc.2, h⟩
    ·simp at h
   ·exact ⟨y, by simp [h1], h2⟩
  ·rintro ⟨y, h1, h2, h3, h4⟩
   rcases List.mem_cons.1 h1 with rfl | h1
   ·exact .inl (by rw [h2, h3]; exact h4)
   ·exact .inr ⟨y, h1, h2, h3, h4⟩
theorem greatest_eq {k : Int} {ts : List Tr} {s : List Int} {p : Nat} (hs : Incr s) (hr : ∀ x ∈ s, 0 ≤ x ∧ x < p) : compI (sortI (flatG k ts s (setsY p))) = redL k ts s := by
 have hsub := redL_sub k ts s
 refine unite (hs.sublist hsub) fun z => ?_
 rw [mem_flatG]
 constructor
 ·rintro ⟨x, _, h2, h3, h4⟩
  exact redL_keep ((wiB_iff _ _).1 h2) h3 z h4
 ·intro hz
  refine ⟨redL k ts s, mem_setsY' (hs.sublist hsub) (fun x hx => hr x (hsub.subset hx)) ?_, (wiB_iff _ _).2 fun q hq => hsub.subset hq, redL_is k ts s, hz⟩
  intro e
  rw [e] at hz
  simp at hz
end Go.Proofs.YtlankmlgomhbhaaGreatDoor
