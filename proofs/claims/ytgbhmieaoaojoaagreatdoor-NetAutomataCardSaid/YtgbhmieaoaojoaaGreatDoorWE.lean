/-
 Contracts: the library's sorts and what thins slices out, over a slice of the call's own.
-/
import Derived.Test.YtgbhmieaoaojoaaGreatDoorE4
import Derived.Test.YtgbhmieaoaojoaaGreatDoorS4
import Derived.Test.YtgbhmieaoaojoaaGreatDoorSh2
import Derived.Shelf.SlSortCmp.Kit1
import Derived.Shelf.SlSortFuncK.RowK2
import Derived.Lib.SlKept
import Derived.Lib.RowBridge
import Derived.Lib.SliceRun
import Derived.Deep.LoopGhost
set_option linter.unusedSimpArgs false
set_option linter.unusedVariables false
namespace Go.Proofs.YtgbhmieaoaojoaaGreatDoor
open Go.RowKit Go.Eng Go.Sort Go.Lib Go.Proofs
theorem own_ret {n c g : Nat} : ∀ (w' : World) (M : Nat → Prop) (β : List Value), β = [.slice (some ⟨g, 0, none⟩) n c] → RepV w' M β (.one (.own 0)) (.slice (some ⟨g, 0, none⟩) n c) := by
 rintro w' M β rfl
 exact ⟨.inl rfl, rfl⟩
theorem ints_cells {w : World} {M : Nat → Prop} {g c : Nat} {e : TypeId} {cur : Array Value} {l : List Int} (h5 : w.heap[g]? = some (.cells cur e (0, 0))) (h7 : RepRows w M ⟨g, 0, none⟩ 1 0 (ints l)) :
  ∀ j, j < l.length → cur[j]? = some (.int .i64 (l.getD j 0)) := by
 intro j hj
 obtain ⟨us, q1, q2, q3⟩ := RepRows.get (ints l) 0 h7 j [.int .i64 (l.getD j 0)] (by simp [ints, List.getD, List.getElem?_eq_getElem hj])
 obtain ⟨u, rest, rfl, q4, q5⟩ := q3
 obtain rfl : rest = [] := q5
 obtain rfl : u = .int .i64 (l.getD j 0) := q4
 have := q2 0 _ rfl
 rw [add_lit] at this
 unfold World.cell? at this
 simp only [h5] at this
 rwa [show 0 + (0 + j * 1 + 0) = j by omega] at this
theorem arr_getD (l : List Int) (j : Nat) (h : j < l.length) : (l.toArray)[j]! = l.getD j 0 := by
 simp [getElem!_pos, List.getD, h]
theorem ints_holds {w : World} {M : Nat → Prop} {g : Nat} {e : TypeId} {cur : Array Value} {l : List Int} (h5 : w.heap[g]? = some (.cells cur e (0, 0))) (h7 : RepRows w M ⟨g, 0, none⟩ 1 0 (ints l)) : Holds (Value.int .i64) w g 0 l.toArray :=
 holds_of_cells h5 fun j hj => by
  have hj' : j < l.length := by simpa using hj
  rw [arr_getD l j hj']
  exact ints_cells (c := 0) h5 h7 j hj'
theorem ints_rep {w : World} {M : Nat → Prop} {l : List Int} {d : Array Int} (hl : ∀ j, j < l.length → j < d.size ∧ d[j]! = l.getD j 0) : ∀ (j : Nat) (x : List D), (ints l)[j]? = some x → j < d.size ∧ RepL w M x [Value.int .i64 d[j]!] := by
 intro j x hx
 have hj : j < l.length := by have := (List.getElem?_eq_some_iff.1 hx).1; simpa [ints_length] using this
 obtain ⟨h1, h2⟩ := hl j hj
 refine ⟨h1, ?_⟩
 have : x = [.int .i64 (l.getD j 0)] := by
  simp [ints, List.getElem?_eq_getElem hj] at hx
  simp [← hx, List.getD, List.getElem?_eq_getElem hj]
 subst this
 rw [h2]
 exact ⟨_, [], rfl, rfl, rfl⟩
def sortI (l : List Int) : List Int := l.mergeSort fun x y => decide (x ≤ y)
theorem sortI_length (l : List Int) : (sortI l).length = l.length := (List.mergeSort_perm l _).length_eq
theorem vargs1 {w : World} {M : Nat → Prop} {β vs : List Value} {a : AV} (h : RepVL w M β [a] vs) : ∃ v, vs = [v] ∧ RepV w M β a v := by
 obtain ⟨v, rest, rfl, h1, h2⟩ := h
 obtain rfl : rest = [] := h2
 exact ⟨v, rfl, h1⟩
theorem SortInts_c (l : List Int) (hl : l.length ≤ 1000000) : MCalls Tryz.prog 81 1 [.row 3 1 (ints l)] [.one (.own 0)] (.tup []) [.row 3 1 (ints (sortI l))] := by
 refine ⟨by kernel_rfl, rfl, fun w M0 F vs hM hp hv => ?_⟩
 obtain ⟨v, rfl, hv1⟩ := vargs1 hv
 obtain ⟨A, c, rfl, rfl, h2, h3, h4⟩ := row_in hp hv1
 rw [ints_length] at *
 by_cases h0 : l.length = 0
 ·obtain rfl : l = [] := List.length_eq_zero_iff.1 h0
  refine (Tryz.slices_Sort_int_none A c w).mono ?_
  rintro e w' ⟨rfl, rfl⟩
  have e : sortI [] = [] := List.length_eq_zero_iff.1 (by rw [sortI_length]; rfl)
  rw [e]
  exact resM_id hp ⟨[], rfl, rfl⟩
 ·rcases h4 with h4 | ⟨hc0, g, cur, rfl, hg, h5, h6, h7, h8⟩
  ·omega
  ·refine (Tryz.slices_Sort_int g 0 c l w (ints_holds h5 h7) hg.2 (by omega)).mono ?_
   rintro e w' ⟨rfl, q, os, rfl⟩
   refine resM_sorted (enc := Value.int .i64) (d' := (sortI l).toArray) (q := q) (os := os) hg (by rw [ints_length, sortI_length]; exact h2) (.inr (by rw [ints_length, sortI_length])) hc0 h3 h5 h6 (ints_rep fun j hj => ⟨by simpa using hj, arr_getD _ _ hj⟩) (fun _ _ _ _ => ⟨[], rfl, rfl⟩) (Nat.le_refl _)
def compI (l : List Int) : List Int := Lib.compact l
theorem CompactInts_c (l : List Int) (hl : l.length ≤ 1000000) : MCalls Tryz.prog 82 0 [.row 3 1 (ints l)] [.one (.own 0)] (.one (.own 0)) [.row 3 1 (ints (compI l))] := by
 have hcl : (compI l).length ≤ l.length := Lib.compact_length_le l
 refine ⟨by kernel_rfl, rfl, fun w M0 F vs hM hp hv => ?_⟩
 obtain ⟨v, rfl, hv1⟩ := vargs1 hv
 obtain ⟨A, c, rfl, rfl, h2, h3, h4⟩ := row_in hp hv1
 rw [ints_length] at *
 by_cases h0 : l.length = 0
 ·obtain rfl : l = [] := List.length_eq_zero_iff.1 h0
  refine (Tryz.slices_Compact_int_empty A c w).mono ?_
  rintro e w' ⟨rfl, rfl⟩
  exact resM_id hp ⟨.inl rfl, rfl⟩
 ·rcases h4 with h4 | ⟨hc0, g, cur, rfl, hg, h5, h6, h7, h8⟩
  ·omega
  ·refine (Tryz.slices_Compact_int g 0 c l w (ints_holds h5 h7) (by omega) (by omega)).mono ?_
   rintro e w' ⟨rfl, q, rfl⟩
   rw [sortWorld_put]
   have e1 : (Lib.compact l).length = (ints (compI l)).length := by rw [ints_length]; rfl
   rw [e1]
   refine resM_sorted (enc := Value.int .i64) (os := #[]) (q := q) hg (by rw [ints_length]; omega) (.inl rfl) hc0 h3 h5 h6 (ints_rep fun j hj => ⟨?_, ?_⟩) own_ret (Nat.zero_le _)
   ·simp only [List.size_toArray, List.length_append, List.length_replicate]
    have : (Lib.compact l).length = (compI l).length := rfl
    omega
   ·have hj' : j < (Lib.compact l).length := hj
    rw [arr_getD _ _ (by simp only [List.length_append, List.length_replicate]; omega)]
    simp only [List.getD, List.getElem?_append_left hj']
    rfl
/-! lists of numbers, by length, then one by one -/
def lexI : List Int → List Int → Int
 | [], [] => 0
 | [], _ :: _ => -1
 | _ :: _, [] => 1
 | x :: a, y :: b => if x < y then -1 else if y < x then 1 else lexI a b
/-! DeleteFunc, of a function that may lay blocks -/
end Go.Proofs.YtgbhmieaoaojoaaGreatDoor
