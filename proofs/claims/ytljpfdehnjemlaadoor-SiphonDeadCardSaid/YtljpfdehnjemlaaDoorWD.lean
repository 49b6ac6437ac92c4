/-
 Plain: sets of places of a kind (siphons, traps); the greatest one within a set.
-/
import Derived.Test.YtljpfdehnjemlaaDoorWC
set_option linter.unusedSimpArgs false
set_option linter.unusedVariables false
namespace Go.Proofs.YtljpfdehnjemlaaDoor
open Go.Eng Go.RowKit
def touchL (l : List Arc) (s : List Int) : Bool := l.any fun a => decide (a.place ∈ s)
def askedL (k : Int) (t : Tr) : List Arc := if k = 1 then t.out else t.inn
def answL (k : Int) (t : Tr) : List Arc := if k = 1 then t.inn else t.out
def isL (k : Int) (ts : List Tr) (s : List Int) : Bool := ts.all fun t => !touchL (askedL k t) s || touchL (answL k t) s
def redT (k : Int) (t : Tr) (s : List Int) : List Int := if touchL (answL k t) s = true then s else s.filter fun p => !touchL (askedL k t) [p]
def redR (k : Int) (ts : List Tr) (s : List Int) : List Int := ts.foldl (fun s t => redT k t s) s
def redF (k : Int) (ts : List Tr) : Nat → List Int → List Int
 | 0, s => s
 | f + 1, s => if (redR k ts s).length < s.length then redF k ts f (redR k ts s) else s
def redL (k : Int) (ts : List Tr) (s : List Int) : List Int := redF k ts s.length s
theorem touchL_iff (l : List Arc) (s : List Int) : touchL l s = true ↔ ∃ a ∈ l, a.place ∈ s := by simp [touchL]
theorem touchL_mono {l : List Arc} {s u : List Int} (h : ∀ p ∈ u, p ∈ s) (ht : touchL l u = true) : touchL l s = true := by
 rw [touchL_iff] at *
 obtain ⟨a, ha, hp⟩ := ht
 exact ⟨a, ha, h _ hp⟩
theorem redT_sub (k : Int) (t : Tr) (s : List Int) : (redT k t s).Sublist s := by
 unfold redT
 split
 ·exact List.Sublist.refl _
 ·exact List.filter_sublist
theorem redR_sub (k : Int) (ts : List Tr) (s : List Int) : (redR k ts s).Sublist s := by
 induction ts generalizing s with
 | nil => exact List.Sublist.refl _
 | cons t ts ih => exact (ih (redT k t s)).trans (redT_sub k t s)
theorem redF_sub (k : Int) (ts : List Tr) : ∀ (f : Nat) (s : List Int), (redF k ts f s).Sublist s
 | 0, s => List.Sublist.refl _
 | f + 1, s => by
  rw [redF]
  split
  ·exact (redF_sub k ts f _).trans (redR_sub k ts s)
  ·exact List.Sublist.refl _
theorem redL_sub (k : Int) (ts : List Tr) (s : List Int) : (redL k ts s).Sublist s := redF_sub k ts _ s
theorem isL_iff (k : Int) (ts : List Tr) (s : List Int) : isL k ts s = true ↔ ∀ t ∈ ts, touchL (askedL k t) s = true → touchL (answL k t) s = true := by
 simp only [isL, List.all_eq_true, Bool.or_eq_true, Bool.not_eq_true']
 constructor
 ·intro h t ht ha
  rcases h t ht with h | h
  ·rw [h] at ha; cases ha
  ·exact h
 ·intro h t ht
  cases ha : touchL (askedL k t) s with
  | false => exact .inl rfl
  | true => exact .inr (h t ht ha)
theorem isL_of_fix {k : Int} {ts : List Tr} {s : List Int} (h : (redR k ts s).length = s.length) : isL k ts s = true := by
 rw [isL_iff]
 induction ts with
 | nil => intro t ht; simp at ht
 | cons t ts ih =>
  have h1 : (redR k ts (redT k t s)).length = s.length := h
  have h2 := (redR_sub k ts (redT k t s)).length_le
  have h3 := (redT_sub k t s).length_le
  have e : redT k t s = s := (redT_sub k t s).eq_of_length (by omega)
  rw [e] at h1
  intro t' ht'
  rcases List.mem_cons.1 ht' with rfl | ht'
  ·intro ha
   cases hb : touchL (answL k t') s with
   | true => rfl
   | false =>
    obtain ⟨a, ha1, ha2⟩ := (touchL_iff _ _).1 ha
    unfold redT at e
    rw [if_neg (by rw [hb]; simp)] at e
    rw [← e, List.mem_filter] at ha2
    have : touchL (askedL k t') [a.place] = true := (touchL_iff _ _).2 ⟨a, ha1, by simp⟩
    rw [this] at ha2
    cases ha2.2
  ·exact ih h1 t' ht'
theorem redF_is (k : Int) (ts : List Tr) : ∀ (f : Nat) (s : List Int), s.length ≤ f → isL k ts (redF k ts f s) = true
 | 0, s, h => by
  have : s = [] := List.length_eq_zero_iff.1 (by omega)
  subst this
  rw [redF, isL_iff]
  intro t _ ha
  simp [touchL] at ha
 | f + 1, s, h => by
  rw [redF]
  split
  ·exact redF_is k ts f _ (by omega)
  ·have := (redR_sub k ts s).length_le
   exact isL_of_fix (by omega)
theorem redL_is (k : Int) (ts : List Tr) (s : List Int) : isL k ts (redL k ts s) = true := redF_is k ts _ s (Nat.le_refl _)
theorem redT_of_is {k : Int} {t : Tr} {s : List Int} (h : touchL (askedL k t) s = true → touchL (answL k t) s = true) : redT k t s = s := by
 unfold redT
 split
 ·rfl
 ·rename_i hn
  rw [List.filter_eq_self]
  intro p hp
  cases ha : touchL (askedL k t) [p] with
  | false => rfl
  | true => exact absurd (h (touchL_mono (fun q hq => by simp at hq; rw [hq]; exact hp) ha)) hn
theorem redR_of_is {k : Int} {ts : List Tr} {s : List Int} (h : isL k ts s = true) : redR k ts s = s := by
 rw [isL_iff] at h
 unfold redR
 induction ts with
 | nil => rfl
 | cons t ts ih =>
  rw [List.foldl_cons, redT_of_is (h t (by simp))]
  exact ih (fun t' h' => h t' (by simp [h']))
theorem redL_id_iff (k : Int) (ts : List Tr) (s : List Int) : (redL k ts s).length = s.length ↔ isL k ts s = true := by
 constructor
 ·intro h
  have := redL_is k ts s
  rwa [(redL_sub k ts s).eq_of_length h] at this
 ·intro h
  unfold redL
  cases hs : s.length with
  | zero => rw [redF, hs]
  | succ f => rw [redF, redR_of_is h, if_neg (by omega), hs]
theorem redF_fuel (k : Int) (ts : List Tr) : ∀ (f g : Nat) (s : List Int), s.length ≤ f → s.length ≤ g → redF k ts f s = redF k ts g s
 | 0, 0, s, _, _ => rfl
 | 0, g + 1, s, h, _ => by
  have : s = [] := List.length_eq_zero_iff.1 (by omega)
  subst this
  rw [redF, redF, if_neg (by simp)]
 | f + 1, 0, s, _, h => by
  have : s = [] := List.length_eq_zero_iff.1 (by omega)
  subst this
  rw [redF, redF, if_neg (by simp)]
 | f + 1, g + 1, s, hf, hg => by
  rw [redF, redF]
  split
  ·exact redF_fuel k ts f g _ (by omega) (by omega)
  ·rfl
theorem redL_step (k : Int) (ts : List Tr) (s : List Int) : redL k ts s = if (redR k ts s).length < s.length then redL k ts (redR k ts s) else s := by
 unfold redL
 cases hs : s.length with
 | zero =>
  rw [redF, if_neg (by omega)]
 | succ f =>
  rw [redF, hs]
  split
  ·exact redF_fuel k ts _ _ _ (by omega) (Nat.le_refl _)
  ·rfl
end Go.Proofs.YtljpfdehnjemlaaDoor
