/-
 Chapter 47: the events of a net.
-/
import Derived.Test.YtljpfdehnjemlaaGreatDoorSA
import Derived.Test.YtljpfdehnjemlaaGreatDoorS7
import Derived.Test.YtljpfdehnjemlaaGreatDoorWE
set_option linter.unusedSimpArgs false
set_option linter.unusedVariables false
namespace Go.Proofs.YtljpfdehnjemlaaGreatDoor
open Go.Eng Go.RowKit
theorem graph_len {n : Net} (hi : n.init.length ≤ 1000) : ∀ nd ed, bndF n = .inr (nd, ed) → nd.length ≤ 4096 ∧ ∀ x ∈ nd, x.m.length ≤ 1000 := fun nd ed h => by
 obtain ⟨_, hN, hl⟩ := bnd_ok h
 exact ⟨hl, fun x hx => by rw [hN.len x hx]; exact hi⟩
def exN : Net := ⟨[2, 0], [⟨0, [⟨0, 1⟩], [⟨1, 1⟩]⟩]⟩
theorem grR_ex : grR (bndF (movesN 1)) = .tup [.one (.list (edgsD [⟨0, 0, 1⟩, ⟨1, 0, 2⟩, ⟨1, 1, 0⟩, ⟨2, 1, 1⟩])), .one (.list (wordsD [[2, 0], [1, 1], [0, 2]])), .one (.int .i64 0)] := by kernel_rfl
theorem bddR_ex : bddR (movesN 2) = .tup [.one (.list []), .one (.list (ints [0, 1])), .one (.bool false), .one (.int .i64 0)] := by kernel_rfl
theorem dlR_ex : dlR exN (bndF exN) = .tup [.one (.list (ints [0, 0])), .one (.bool true), .one (.int .i64 0)] := by kernel_rfl
theorem movesN_d (w : Int) : (movesN w).d = [.list [[.int .i64 2], [.int .i64 0]], .list [[.int .i64 0, .list [[.int .i64 0, .int .i64 1]], .list [[.int .i64 1, .int .i64 1]]], [.int .i64 1, .list [[.int .i64 1, .int .i64 1]], .list [[.int .i64 0, .int .i64 w]]]]] := rfl
theorem exN_d : exN.d = [.list [[.int .i64 2], [.int .i64 0]], .list [[.int .i64 0, .list [[.int .i64 0, .int .i64 1]], .list [[.int .i64 1, .int .i64 1]]]]] := rfl
set_option maxHeartbeats 8000000 in
theorem known47_c : ACalls Tryz.prog 60 [] (.one (.bool true)) [] := by
 have m1 := moves_c 1
 have m2 := moves_c 2
 have g1 := Graph_c (movesN 1) (by constructor <;> decide +kernel) (by decide) (graph_len (by decide))
 have b1 := Bounded_c (movesN 2) (by constructor <;> decide +kernel) (by decide)
 have d1 := Deadlock_c exN (by constructor <;> decide +kernel) (by decide)
 rw [grR_ex] at g1
 rw [bddR_ex] at b1
 rw [dlR_ex] at d1
 have s1 := SameWords_c [[2, 0], [1, 1], [0, 2]] [[2, 0], [1, 1], [0, 2]] (by decide) (by decide)
 have s2 := SameInts_c [0, 1] [0, 1] (by decide)
 have s3 := SameInts_c [0, 0] [0, 0] (by decide)
 simp only [movesN_d, exN_d, wordsD, ints, List.map_cons, List.map_nil, decide_true] at m1 m2 g1 b1 d1 s1 s2 s3
 (refine ACalls.of_body Ty_ok mixed Tryz.func60 rfl (by kernel_rfl) Tryz.ntmps60 (by simp) (congrArg Array.toList Tryz.results60) ?_)
 simp only [slotsOf]
 (repeat' (first | (with_reducible (refine aS 1 [8, 3, 2, 7, 6, 4, 5, 11, 10, 9] ?_; intro K hK)) | ((with_reducible refine aGo ?_); simp only [go_sem]) | ((iterate 6 try ((fail_if_success with_reducible refine hK _ ?_ ?_ ?_); clear hK K)); with_reducible refine hK _ ?_ ?_ ?_; rotate_left; (focus (simp only [go_sem]; exact rfl)); clear hK K) | ((with_reducible first | refine xA ?_ | refine xG ?_); simp only [go_sem]) | fail))
 all_goals first | omega | skip
end Go.Proofs.YtljpfdehnjemlaaGreatDoor
set_option linter.unusedSimpArgs false
set_option linter.unusedVariables false
namespace Go.Proofs.YtljpfdehnjemlaaGreatDoor
open Go.Eng Go.RowKit Go.Lib
theorem compI_inc {l : List Int} (h : l.Pairwise (· ≤ ·)) : (compI l).Pairwise (· < ·) := by
 unfold compI Lib.compact compactUpTo
 rw [List.pairwise_map, List.pairwise_filter]
 refine List.pairwise_lt_range.imp_of_mem fun {i j} hi hj hij _ hk => ?_
 rw [List.mem_range] at hi hj
 rw [List.pairwise_iff_getElem] at h
 simp only [keeps, decide_eq_true_eq] at hk
 have hne := hk.resolve_left (by omega)
 simp only [List.getElem!_toArray, getElem!_pos l i hi, getElem!_pos l j hj, getElem!_pos l (j - 1) (by omega)] at hne ⊢
 have h1 := h (j - 1) j (by omega) hj (by omega)
 by_cases e : i = j - 1
 ·subst e; omega
 ·have h4 := h i (j - 1) hi (by omega) (by omega)
  omega
theorem mem_compI {l : List Int} {z : Int} : z ∈ compI l ↔ z ∈ l := by
 unfold compI Lib.compact compactUpTo
 rw [List.mem_map]
 constructor
 ·rintro ⟨j, hj, rfl⟩
  rw [List.mem_filter, List.mem_range] at hj
  simp only [List.getElem!_toArray, getElem!_pos l j hj.1]
  exact List.getElem_mem hj.1
 ·intro hz
  obtain ⟨j, hj, e⟩ := List.getElem_of_mem hz
  have key : ∀ n (hn : n < l.length), l[n] = z → ∃ j, (j ∈ List.filter (keeps l.toArray) (List.range l.length)) ∧ l.toArray[j]! = z := by
   intro n
   induction n with
   | zero =>
    intro hn e
    exact ⟨0, by rw [List.mem_filter, List.mem_range]; exact ⟨hn, by simp [keeps]⟩, by simp only [List.getElem!_toArray, getElem!_pos l 0 hn, e]⟩
   | succ n ih =>
    intro hn e
    by_cases h : l[n] = z
    ·exact ih (by omega) h
    ·refine ⟨n + 1, ?_, by simp only [List.getElem!_toArray, getElem!_pos l (n + 1) hn, e]⟩
     rw [List.mem_filter, List.mem_range]
     refine ⟨hn, ?_⟩
     simp only [keeps, decide_eq_true_eq, List.getElem!_toArray, Nat.add_sub_cancel, getElem!_pos l (n + 1) hn, getElem!_pos l n (by omega)]
     exact .inr (by rw [e]; exact fun h' => h h'.symm)
  exact key j hj e
theorem sortI_le (l : List Int) : (sortI l).Pairwise (· ≤ ·) := by
 have := List.pairwise_mergeSort (le := fun x y : Int => decide (x ≤ y)) (fun a b c h k => by simp at *; omega) (fun a b => by simp; omega) l
 exact this.imp fun h => by simpa using h
theorem mem_sort (l : List Int) (x : Int) : x ∈ sortI l ↔ x ∈ l := (List.mergeSort_perm l _).mem_iff
def evL (n : Net) : List Int := n.trs.map Tr.event
def evsN (n : Net) : List Int := compI (sortI (evL n))
theorem evsN_length (n : Net) : (evsN n).length ≤ n.trs.length := by
 have h := Lib.compact_length_le (sortI (evL n))
 rw [sortI_length, evL, List.length_map] at h
 exact h
theorem evL_succ (l : List Tr) (k : Nat) (h : k < l.length) : (l.take (k + 1)).map Tr.event = (l.take k).map Tr.event ++ [(l.getD k Tr.no).event] := by
 rw [take_succ_getD l k Tr.no h, List.map_append]; rfl
end Go.Proofs.YtljpfdehnjemlaaGreatDoor
