/-
  Contracts: effects of transitions.
-/
import Derived.Test.YtjldfifepbdlmaaDoorN4
set_option linter.unusedSimpArgs false
set_option linter.unusedVariables false
namespace Go.Proofs.YtjldfifepbdlmaaDoor
open Go.Eng Go.RowKit
theorem ints_at {l : List Int} {k : Nat} (h : k < l.length) : (ints l).getD k [] = [.int .i64 (l.getD k 0)] := by
  simp [ints, List.getD, List.getElem?_eq_getElem h]
theorem ints_set (l : List Int) (k : Nat) (z : Int) : (ints l).set k [.int .i64 z] = ints (l.set k z) := by
  simp [ints, List.map_set]
theorem ints_zeros (n : Nat) : List.replicate n [D.int .i64 0] = ints (List.replicate n 0) := by simp [ints]
theorem set_getD {α : Type} (l : List α) (k : Nat) (x d : α) (h : k < l.length) : (l.set k x).getD k d = x := by simp [List.getD, h]
theorem set_same {α : Type} (l : List α) (k : Nat) (d : α) (h : k < l.length) : l.set k (l.getD k d) = l := by
  simp [List.getD, List.getElem?_eq_getElem h]
attribute [go_sem] ints_set
theorem arcs_at {l : List Arc} {k : Nat} (h : k < l.length) : (arcsD l).getD k [] = [.int .i64 (l.getD k Arc.no).place, .int .i64 (l.getD k Arc.no).weight] := by
  simp [arcsD, List.getD, List.getElem?_eq_getElem h, Arc.d]
def effUp (n : Net) (c : Con) (k : Nat) : List Int := (n.trs.take k).map (effT c.fac) ++ List.replicate (n.trs.length - k) 0
theorem effUp_length (n : Net) (c : Con) (k : Nat) (hk : k ≤ n.trs.length) : (effUp n c k).length = n.trs.length := by simp [effUp]; omega
theorem effUp_at (n : Net) (c : Con) (k : Nat) (hk : k < n.trs.length) : (effUp n c k).getD k 0 = 0 := by
  have h1 : ((n.trs.take k).map (effT c.fac)).length = k := by simp; omega
  rw [effUp, List.getD, List.getElem?_append_right (by omega), h1, Nat.sub_self, List.getElem?_replicate]
  split <;> rfl
theorem effUp_set (n : Net) (c : Con) (k : Nat) (hk : k < n.trs.length) : (effUp n c k).set k (effT c.fac (n.trs.getD k Tr.no)) = effUp n c (k + 1) := by
  have h1 : ((n.trs.take k).map (effT c.fac)).length = k := by simp; omega
  rw [effUp, effUp, take_succ_getD n.trs k Tr.no hk, List.map_append, List.set_append_right _ _ (by omega), h1, Nat.sub_self]
  have h2 : n.trs.length - k = (n.trs.length - (k + 1)) + 1 := by omega
  rw [h2, List.replicate_succ, List.set_cons_zero]
  simp
theorem effUp_all (n : Net) (c : Con) : effUp n c n.trs.length = effL n c := by simp [effUp, effL]
theorem dotA_bound (fac : List Int) (hf : Sm 16 fac) : ∀ (l : List Arc), (∀ a ∈ l, 1 ≤ a.weight ∧ a.weight ≤ 8) → -(l.length * 128 : Int) ≤ dotA fac l ∧ dotA fac l ≤ l.length * 128
  | [], _ => by simp [dotA]
  | a :: l, h => by
    have ih := dotA_bound fac hf l fun b hb => h b (by simp [hb])
    have h1 := mul_bound (A := 16) (B := 8) (hf.get (by omega) a.place.toNat) (show -8 ≤ a.weight ∧ a.weight ≤ 8 by have := h a (by simp); omega) (by omega) (by omega)
    simp only [dotA, List.length_cons, Int.natCast_add]
    omega
theorem arc_get {places : Nat} {l : List Arc} (h : ArcsIn places l) {k : Nat} (hk : k < l.length) : 0 ≤ (l.getD k Arc.no).place ∧ (l.getD k Arc.no).place < places ∧ 1 ≤ (l.getD k Arc.no).weight ∧ (l.getD k Arc.no).weight ≤ 8 :=
  ⟨(h.place _ (getD_mem l k Arc.no hk)).1, (h.place _ (getD_mem l k Arc.no hk)).2, (h.weight _ (getD_mem l k Arc.no hk)).1, (h.weight _ (getD_mem l k Arc.no hk)).2⟩
end Go.Proofs.YtjldfifepbdlmaaDoor
