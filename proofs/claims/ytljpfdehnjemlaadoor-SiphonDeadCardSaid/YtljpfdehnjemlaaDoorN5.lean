/-
 Contracts: effects of transitions.
-/
import Derived.Test.YtljpfdehnjemlaaDoorN4
set_option linter.unusedSimpArgs false
set_option linter.unusedVariables false
namespace Go.Proofs.YtljpfdehnjemlaaDoor
open Go.Eng Go.RowKit
theorem ints_at {l : List Int} {k : Nat} (h : k < l.length) : (ints l).getD k [] = [.int .i64 (l.getD k 0)] := by
 simp [ints, List.getD, List.getElem?_eq_getElem h]
theorem ints_set (l : List Int) (k : Nat) (z : Int) : (ints l).set k [.int .i64 z] = ints (l.set k z) := by
 simp [ints, List.map_set]
theorem set_getD {α : Type} (l : List α) (k : Nat) (x d : α) (h : k < l.length) : (l.set k x).getD k d = x := by simp [List.getD, h]
attribute [go_sem] ints_set
theorem arcs_at {l : List Arc} {k : Nat} (h : k < l.length) : (arcsD l).getD k [] = [.int .i64 (l.getD k Arc.no).place, .int .i64 (l.getD k Arc.no).weight] := by
 simp [arcsD, List.getD, List.getElem?_eq_getElem h, Arc.d]
theorem arc_get {places : Nat} {l : List Arc} (h : ArcsIn places l) {k : Nat} (hk : k < l.length) : 0 ≤ (l.getD k Arc.no).place ∧ (l.getD k Arc.no).place < places ∧ 1 ≤ (l.getD k Arc.no).weight ∧ (l.getD k Arc.no).weight ≤ 8 :=
 ⟨(h.place _ (getD_mem l k Arc.no hk)).1, (h.place _ (getD_mem l k Arc.no hk)).2, (h.weight _ (getD_mem l k Arc.no hk)).1, (h.weight _ (getD_mem l k Arc.no hk)).2⟩
end Go.Proofs.YtljpfdehnjemlaaDoor
