/-
 Chapter 47: the events of a net.
-/
import Derived.Test.YtgbhmieaoaojoaaGreatDoorS8
import Derived.Test.YtgbhmieaoaojoaaGreatDoorWE
import Derived.Test.YtgbhmieaoaojoaaGreatDoorS9
set_option linter.unusedSimpArgs false
set_option linter.unusedVariables false
namespace Go.Proofs.YtgbhmieaoaojoaaGreatDoor
open Go.Eng Go.RowKit Go.Lib
theorem int_ext {a b : List Int} (ha : a.Pairwise (· < ·)) (hb : b.Pairwise (· < ·)) (h : ∀ z, z ∈ a ↔ z ∈ b) : a = b := by
 have hn : ∀ {l : List Int}, l.Pairwise (· < ·) → l.Nodup := fun hl => hl.imp fun h => by omega
 have hp : a.Perm b := (List.perm_ext_iff_of_nodup (hn ha) (hn hb)).2 h
 exact hp.eq_of_pairwise (le := fun x y : Int => decide (x < y)) (fun x y _ _ h1 h2 => by simp at h1 h2; omega) (ha.imp fun h => by simpa using h) (hb.imp fun h => by simpa using h)
theorem compI_inc {l : List Int} (h : l.Pairwise (· ≤ ·)) : (compI l).Pairwise (· < ·) := by
 unfold compI Lib.compact compactUpTo
 rw [List.pairwise_map, List.pairwise_filter]
 refine List.pairwise_lt_range.imp_of_mem fun {i j} hi hj hij _ hk => ?_
 rw [List.mem_range] at hi hj
 rw [List.pairwise_iff_getElem] at h
 simp only [keeps, decide_eq_true_eq] at hk
 have hne := hk.resolve_left (by omega)
 simp only [List.getElem!_toArray, getElem!_pos l i hi, getElem!_pos l j hj, getElem!_pos l (j - 1) (by omega)] at hne ⊢
 have h1 := h (j - 1) j (by omega) hj (by omega)
 by_cases e : i = j - 1
 ·subst e; omega
 ·have h4 := h i (j - 1) hi (by omega) (by omega)
  omega
theorem mem_compI {l : List Int} {z : Int} : z ∈ compI l ↔ z ∈ l := by
 unfold compI Lib.compact compactUpTo
 rw [List.mem_map]
 constructor
 ·rintro ⟨j, hj, rfl⟩
  rw [List.mem_filter, List.mem_range] at hj
  simp only [List.getElem!_toArray, getElem!_pos l j hj.1]
  exact List.getElem_mem hj.1
 ·intro hz
  obtain ⟨j, hj, e⟩ := List.getElem_of_mem hz
  have key : ∀ n (hn : n < l.length), l[n] = z → ∃ j, (j ∈ List.filter (keeps l.toArray) (List.range l.length)) ∧ l.toArray[j]! = z := by
   intro n
   induction n with
   | zero =>
    intro hn e
    exact ⟨0, by rw [List.mem_filter, List.mem_range]; exact ⟨hn, by simp [keeps]⟩, by simp only [List.getElem!_toArray, getElem!_pos l 0 hn, e]⟩
   | succ n ih =>
    intro hn e
    by_cases h : l[n] = z
    ·exact ih (by omega) h
    ·refine ⟨n + 1, ?_, by simp only [List.getElem!_toArray, getElem!_pos l (n + 1) hn, e]⟩
     rw [List.mem_filter, List.mem_range]
     refine ⟨hn, ?_⟩
     simp only [keeps, decide_eq_true_eq, List.getElem!_toArray, Nat.add_sub_cancel, getElem!_pos l (n + 1) hn, getElem!_pos l n (by omega)]
     exact .inr (by rw [e]; exact fun h' => h h'.symm)
  exact key j hj e
theorem sortI_le (l : List Int) : (sortI l).Pairwise (· ≤ ·) := by
 have := List.pairwise_mergeSort (le := fun x y : Int => decide (x ≤ y)) (fun a b c h k => by simp at *; omega) (fun a b => by simp; omega) l
 exact this.imp fun h => by simpa using h
theorem mem_sort (l : List Int) (x : Int) : x ∈ sortI l ↔ x ∈ l := (List.mergeSort_perm l _).mem_iff
def evL (n : Net) : List Int := n.trs.map Tr.event
def evsN (n : Net) : List Int := compI (sortI (evL n))
theorem evsN_length (n : Net) : (evsN n).length ≤ n.trs.length := by
 have h := Lib.compact_length_le (sortI (evL n))
 rw [sortI_length, evL, List.length_map] at h
 exact h
theorem evL_succ (l : List Tr) (k : Nat) (h : k < l.length) : (l.take (k + 1)).map Tr.event = (l.take k).map Tr.event ++ [(l.getD k Tr.no).event] := by
 rw [take_succ_getD l k Tr.no h, List.map_append]; rfl
end Go.Proofs.YtgbhmieaoaojoaaGreatDoor
