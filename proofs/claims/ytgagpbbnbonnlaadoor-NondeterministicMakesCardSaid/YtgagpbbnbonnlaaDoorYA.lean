/-
 Chapter 05, plain: automata with silent edges: what is reached.
-/
import Derived.Test.YtgagpbbnbonnlaaDoorY0
set_option linter.unusedSimpArgs false
set_option linter.unusedVariables false
namespace Go.Proofs.YtgagpbbnbonnlaaDoor
structure Ed where
 src : Int
 ev : Int
 dst : Int
 deriving DecidableEq
structure NA where
 alpha : List Int
 states : Int
 init : List Int
 marked : List Int
 edges : List Ed
 deriving DecidableEq
/-! numbers in order -/
def IncI (l : List Int) : Prop := l.Pairwise (· < ·)
theorem inc_ext : ∀ {a b : List Int}, IncI a → IncI b → (∀ z, z ∈ a ↔ z ∈ b) → a = b
 | [], [], _, _, _ => rfl
 | [], y :: b, _, _, h => absurd ((h y).2 (by simp)) (by simp)
 | x :: a, [], _, _, h => absurd ((h x).1 (by simp)) (by simp)
 | x :: a, y :: b, ha, hb, h => by
  have ha' := List.pairwise_cons.1 ha
  have hb' := List.pairwise_cons.1 hb
  have e : x = y := by
   have h1 : x = y ∨ x ∈ b := by simpa using (h x).1 (by simp)
   have h2 : y = x ∨ y ∈ a := by simpa using (h y).2 (by simp)
   rcases h1 with h1 | h1
   ·exact h1
   rcases h2 with h2 | h2
   ·exact h2.symm
   have := hb'.1 x h1
   have := ha'.1 y h2
   omega
  subst e
  rw [inc_ext ha'.2 hb'.2 fun z => ?_]
  constructor
  ·intro hz
   have h1 : z = x ∨ z ∈ b := by simpa using (h z).1 (by simp [hz])
   have := ha'.1 z hz
   exact h1.resolve_left (by omega)
  ·intro hz
   have h1 : z = x ∨ z ∈ a := by simpa using (h z).2 (by simp [hz])
   have := hb'.1 z hz
   exact h1.resolve_left (by omega)
def selI (n : Nat) (p : Int → Bool) : List Int := ((List.range n).map fun k : Nat => (k : Int)).filter p
theorem mem_selI {n : Nat} {p : Int → Bool} {x : Int} : x ∈ selI n p ↔ (0 ≤ x ∧ x < n) ∧ p x = true := by
 simp only [selI, List.mem_filter, List.mem_map, List.mem_range]
 constructor
 ·rintro ⟨⟨k, hk, rfl⟩, h⟩
  exact ⟨⟨by omega, by omega⟩, h⟩
 ·rintro ⟨⟨h0, h1⟩, h⟩
  exact ⟨⟨x.toNat, by omega, by omega⟩, h⟩
theorem selI_inc (n : Nat) (p : Int → Bool) : IncI (selI n p) := by
 unfold IncI selI
 refine List.Pairwise.sublist List.filter_sublist ?_
 rw [List.pairwise_map]
 exact List.pairwise_lt_range.imp fun h => by omega
theorem selI_of {l : List Int} {n : Nat} {p : Int → Bool} (hl : IncI l) (h : ∀ z, z ∈ l ↔ (0 ≤ z ∧ z < n) ∧ p z = true) : l = selI n p :=
 inc_ext hl (selI_inc n p) fun z => (h z).trans mem_selI.symm
theorem selI_zero (p : Int → Bool) : selI 0 p = [] := rfl
theorem selI_succ (k : Nat) (p : Int → Bool) : selI (k + 1) p = selI k p ++ if p k = true then [(k : Int)] else [] := by
 simp only [selI, List.range_succ, List.map_append, List.filter_append, List.map_cons, List.map_nil]
 by_cases h : p k = true
 ·simp [h]
 ·simp [h]
theorem selI_length (n : Nat) (p : Int → Bool) : (selI n p).length ≤ n := by
 refine Nat.le_trans (List.length_filter_le _ _) ?_
 simp
theorem selI_sub {n : Nat} {p q : Int → Bool} (h : ∀ x : Int, 0 ≤ x → x < n → p x = true → q x = true) : (selI n p).Sublist (selI n q) := by
 have e : selI n p = (selI n q).filter p := by
  rw [selI, selI, List.filter_filter]
  apply List.filter_congr
  intro x hx
  obtain ⟨k, hk, rfl⟩ := List.mem_map.1 hx
  have hk' := List.mem_range.1 hk
  cases hp : p (k : Int)
  ·simp
  ·simp [h _ (by omega) (by omega) hp]
 rw [e]
 exact List.filter_sublist
/-! what is reached -/
inductive Reach (lead : Int → List Int) (s : List Int) : Int → Prop where
 | base {x : Int} : x ∈ s → Reach lead s x
 | step {x y : Int} : Reach lead s x → y ∈ lead x → Reach lead s y
def leadR (lead : Int → List Int) (l : List Int) (x : Int) : Bool := decide (x ∈ l) || l.any fun y => decide (x ∈ lead y)
theorem leadR_iff {lead : Int → List Int} {l : List Int} {x : Int} : leadR lead l x = true ↔ x ∈ l ∨ ∃ y ∈ l, x ∈ lead y := by simp [leadR]
def iterR (n : Nat) (lead : Int → List Int) (s : List Int) : Nat → List Int
 | 0 => selI n fun x => decide (x ∈ s)
 | k + 1 => selI n (leadR lead (iterR n lead s k))
def closN (n : Nat) (lead : Int → List Int) (s : List Int) : List Int := iterR n lead s n
section
variable {n : Nat} {lead : Int → List Int} {s : List Int}
theorem iterR_rng {k : Nat} {x : Int} (h : x ∈ iterR n lead s k) : 0 ≤ x ∧ x < n := by
 cases k with
 | zero => exact (mem_selI.1 h).1
 | succ k => exact (mem_selI.1 h).1
theorem iterR_inc (k : Nat) : IncI (iterR n lead s k) := by
 cases k with
 | zero => exact selI_inc _ _
 | succ k => exact selI_inc _ _
theorem iterR_sub (k : Nat) : (iterR n lead s k).Sublist (iterR n lead s (k + 1)) := by
 have e : iterR n lead s k = selI n fun x => decide (x ∈ iterR n lead s k) := selI_of (iterR_inc k) fun z => by
  constructor
  ·intro h; exact ⟨iterR_rng h, by simpa using h⟩
  ·intro h; simpa using h.2
 have h := selI_sub (n := n) (p := fun x => decide (x ∈ iterR n lead s k)) (q := leadR lead (iterR n lead s k)) fun x _ _ h => leadR_iff.2 (.inl (by simpa using h))
 rw [← e] at h
 exact h
theorem iterR_le (k : Nat) : (iterR n lead s k).length ≤ n := by
 cases k with
 | zero => exact selI_length _ _
 | succ k => exact selI_length _ _
theorem iterR_still {k : Nat} (h : iterR n lead s (k + 1) = iterR n lead s k) : ∀ j, iterR n lead s (k + j) = iterR n lead s k
 | 0 => rfl
 | j + 1 => by
  rw [show k + (j + 1) = k + j + 1 from rfl, iterR, iterR_still h j]
  exact h
theorem iterR_grows : ∀ k, (∃ j ≤ k, iterR n lead s (j + 1) = iterR n lead s j) ∨ k ≤ (iterR n lead s k).length
 | 0 => .inr (by omega)
 | k + 1 => by
  rcases iterR_grows k with ⟨j, hj, h⟩ | h
  ·exact .inl ⟨j, by omega, h⟩
  by_cases e : iterR n lead s (k + 1) = iterR n lead s k
  ·exact .inl ⟨k, by omega, e⟩
  ·refine .inr ?_
   have h1 := (iterR_sub (n := n) (lead := lead) (s := s) k).length_le
   by_cases h2 : (iterR n lead s k).length = (iterR n lead s (k + 1)).length
   ·exact absurd ((iterR_sub k).eq_of_length h2).symm e
   ·omega
theorem closN_still : iterR n lead s (n + 1) = closN n lead s := by
 rcases iterR_grows (n := n) (lead := lead) (s := s) n with ⟨j, hj, h⟩ | h
 ·have h1 := iterR_still h (n - j)
  have h2 := iterR_still h (n + 1 - j)
  rw [show j + (n - j) = n by omega] at h1
  rw [show j + (n + 1 - j) = n + 1 by omega] at h2
  rw [closN, h1, h2]
 ·have h1 := iterR_le (n := n) (lead := lead) (s := s) (n + 1)
  have h2 := (iterR_sub (n := n) (lead := lead) (s := s) n).length_le
  exact ((iterR_sub n).eq_of_length (by omega)).symm
theorem closN_inc : IncI (closN n lead s) := iterR_inc n
theorem closN_le : (closN n lead s).length ≤ n := iterR_le n
theorem closN_rng {x : Int} (h : x ∈ closN n lead s) : 0 ≤ x ∧ x < n := iterR_rng h
theorem iterR_sound : ∀ (k : Nat) {x : Int}, x ∈ iterR n lead s k → Reach lead s x
 | 0, x, h => .base (by simpa using (mem_selI.1 h).2)
 | k + 1, x, h => by
  rcases leadR_iff.1 (mem_selI.1 h).2 with h | ⟨y, hy, h⟩
  ·exact iterR_sound k h
  ·exact .step (iterR_sound k hy) h
theorem mem_closN (hs : ∀ x ∈ s, 0 ≤ x ∧ x < n) (hl : ∀ x : Int, 0 ≤ x → x < n → ∀ y ∈ lead x, 0 ≤ y ∧ y < n) {x : Int} : x ∈ closN n lead s ↔ Reach lead s x := by
 refine ⟨iterR_sound n, fun h => ?_⟩
 induction h with
 | base h =>
  have h0 : ∀ k, ∀ x ∈ s, x ∈ iterR n lead s k := fun k => by
   induction k with
   | zero => intro x h; exact mem_selI.2 ⟨hs x h, by simpa using h⟩
   | succ k ih => intro x h; exact (iterR_sub k).subset (ih x h)
  exact h0 n _ h
 | step _ hy ih =>
  have hr := closN_rng ih
  rw [← closN_still]
  exact mem_selI.2 ⟨hl _ hr.1 hr.2 _ hy, leadR_iff.2 (.inr ⟨_, ih, hy⟩)⟩
/-! the search of 'spread': marks, and what is still to do (the last first) -/
structure SprInv (lead : Int → List Int) (s : List Int) (n : Nat) (m : List Bool) (todo : List Int) : Prop where
 len : m.length = n
 rng : ∀ x ∈ todo, 0 ≤ x ∧ x < n
 rch : ∀ x ∈ todo, Reach lead s x
 mrk : ∀ i : Nat, m.getD i false = true → Reach lead s i
 bas : ∀ x ∈ s, m.getD x.toNat false = true ∨ x ∈ todo
 cls : ∀ i : Nat, m.getD i false = true → ∀ y ∈ lead i, m.getD y.toNat false = true ∨ y ∈ todo
theorem SprInv.init (hs : ∀ x ∈ s, 0 ≤ x ∧ x < n) : SprInv lead s n (List.replicate n false) s := by
 have hr : ∀ i : Nat, (List.replicate n false).getD i false = false := fun i => by
  simp only [List.getD, List.getElem?_replicate]
  split <;> rfl
 exact ⟨by simp, hs, fun x h => .base h, fun i h => absurd h (by rw [hr]; simp), fun x h => .inr h, fun i h => absurd h (by rw [hr]; simp)⟩
theorem SprInv.old {m : List Bool} {todo : List Int} {x : Int} (h : SprInv lead s n m (todo ++ [x])) (hx : m.getD x.toNat false = true) : SprInv lead s n m todo := by
 refine ⟨h.len, fun y hy => h.rng y (by simp [hy]), fun y hy => h.rch y (by simp [hy]), h.mrk, fun y hy => ?_, fun i hi y hy => ?_⟩
 ·rcases h.bas y hy with h1 | h1
  ·exact .inl h1
  rcases List.mem_append.1 h1 with h1 | h1
  ·exact .inr h1
  ·rw [List.mem_singleton] at h1; subst h1; exact .inl hx
 ·rcases h.cls i hi y hy with h1 | h1
  ·exact .inl h1
  rcases List.mem_append.1 h1 with h1 | h1
  ·exact .inr h1
  ·rw [List.mem_singleton] at h1; subst h1; exact .inl hx
theorem getD_set_true {m : List Bool} {k i : Nat} (hk : k < m.length) : (m.set k true).getD i false = true ↔ i = k ∨ m.getD i false = true := by
 by_cases e : i = k
 ·subst e
  simp [List.getD, hk]
 ·simp [List.getD, List.getElem?_set_ne (Ne.symm e), e]
theorem SprInv.new {m : List Bool} {todo : List Int} {x : Int} (hl : ∀ x : Int, 0 ≤ x → x < n → ∀ y ∈ lead x, 0 ≤ y ∧ y < n) (h : SprInv lead s n m (todo ++ [x])) : SprInv lead s n (m.set x.toNat true) (todo ++ lead x) := by
 have hx := h.rng x (by simp)
 have hxr := h.rch x (by simp)
 have hk : x.toNat < m.length := by rw [h.len]; omega
 have e : ((x.toNat : Nat) : Int) = x := by omega
 refine ⟨by simp [h.len], fun y hy => ?_, fun y hy => ?_, fun i hi => ?_, fun y hy => ?_, fun i hi y hy => ?_⟩
 ·rcases List.mem_append.1 hy with hy | hy
  ·exact h.rng y (by simp [hy])
  ·exact hl x hx.1 hx.2 y hy
 ·rcases List.mem_append.1 hy with hy | hy
  ·exact h.rch y (by simp [hy])
  ·exact .step hxr hy
 ·rcases (getD_set_true hk).1 hi with hi | hi
  ·rw [hi, e]; exact hxr
  ·exact h.mrk i hi
 ·rcases h.bas y hy with h1 | h1
  ·exact .inl ((getD_set_true hk).2 (.inr h1))
  rcases List.mem_append.1 h1 with h1 | h1
  ·exact .inr (by simp [h1])
  ·rw [List.mem_singleton] at h1; subst h1; exact .inl ((getD_set_true hk).2 (.inl rfl))
 ·rcases (getD_set_true hk).1 hi with hi | hi
  ·subst hi; rw [e] at hy; exact .inr (by simp [hy])
  ·rcases h.cls i hi y hy with h1 | h1
   ·exact .inl ((getD_set_true hk).2 (.inr h1))
   rcases List.mem_append.1 h1 with h1 | h1
   ·exact .inr (by simp [h1])
   ·rw [List.mem_singleton] at h1; subst h1; exact .inl ((getD_set_true hk).2 (.inl rfl))
theorem SprInv.done {m : List Bool} (hs : ∀ x ∈ s, 0 ≤ x ∧ x < n) (hl : ∀ x : Int, 0 ≤ x → x < n → ∀ y ∈ lead x, 0 ≤ y ∧ y < n) (h : SprInv lead s n m []) : selI n (fun x => m.getD x.toNat false) = closN n lead s := by
 refine inc_ext (selI_inc _ _) closN_inc fun z => ?_
 rw [mem_closN hs hl, mem_selI]
 constructor
 ·rintro ⟨⟨h0, _⟩, h1⟩
  have := h.mrk _ h1
  rwa [show ((z.toNat : Nat) : Int) = z by omega] at this
 ·intro hz
  induction hz with
  | base h1 => exact ⟨hs _ h1, (h.bas _ h1).resolve_right (by simp)⟩
  | step _ h2 ih =>
   refine ⟨hl _ ih.1.1 ih.1.2 _ h2, (h.cls _ ih.2 _ ?_).resolve_right (by simp)⟩
   rwa [Int.toNat_of_nonneg ih.1.1]
def missing (m : List Bool) : Nat := m.countP fun b => !b
theorem missing_set {m : List Bool} {k : Nat} (hk : k < m.length) (h : m.getD k false = false) : missing (m.set k true) + 1 = missing m := by
 induction m generalizing k with
 | nil => simp at hk
 | cons b m ih =>
  cases k with
  | zero =>
   simp at h
   subst h
   simp [missing]
  | succ k =>
   have := ih (k := k) (by simpa using hk) (by simpa using h)
   simp only [missing, List.set_cons_succ, List.countP_cons] at this ⊢
   omega
end
end Go.Proofs.YtgagpbbnbonnlaaDoor
