/-
 Chapter 23: the law's apply.
-/
import Derived.Test.YtkjnjkdcpbgabaaGreatDoorUH
set_option linter.unusedSimpArgs false
set_option linter.unusedVariables false
namespace Go.Proofs.YtkjnjkdcpbgabaaGreatDoor
open Go.Eng Go.RowKit
def lawGo : List It → List Edt → List It × Int
 | l, [] => (l, 0)
 | l, x :: r =>
  if x.drop = true then (if findI l x.it.kind x.it.name < 0 then ([], 10) else lawGo (dropL l x.it.kind x.it.name) r)
  else if chkL [x.it] ≠ 0 then ([], chkL [x.it]) else if 76 < (lawPut l x.it).length then ([], 3) else lawGo (lawPut l x.it) r
theorem insL_fits {l : List It} (h : LFits l) {x : It} (hx : x.Fits) (i : Nat) (hl : (insL l i x).length ≤ 1000) : LFits (insL l i x) :=
 ⟨hl, fun y hy => by
  rw [insL] at hy
  rcases List.mem_append.1 hy with hy | hy
  ·exact h.it y (List.mem_of_mem_take hy)
  ·rcases List.mem_cons.1 hy with rfl | hy
   ·exact hx
   ·exact h.it y (List.mem_of_mem_drop hy)⟩
theorem lawPut_fits {l : List It} (h : LFits l) {x : It} (hx : x.Fits) (hl : (lawPut l x).length ≤ 1000) : LFits (lawPut l x) := by
 rw [lawPut] at hl ⊢
 by_cases hf : 0 ≤ findI l x.kind x.name
 ·rw [if_pos hf] at hl ⊢
  exact ⟨hl, fun y hy => by
   rcases List.mem_or_eq_of_mem_set hy with hy | rfl
   ·exact h.it y hy
   ·exact hx⟩
 ·rw [if_neg hf] at hl ⊢
  exact insL_fits h hx _ hl
theorem dropL_fits {l : List It} (h : LFits l) (k : Int) (s : List UInt8) : LFits (dropL l k s) := by
 rw [dropL]
 exact ⟨by have := h.len; simp only [List.length_append, List.length_take, List.length_drop]; omega, fun x hx => by
  rcases List.mem_append.1 hx with hx | hx
  ·exact h.it x (List.mem_of_mem_take hx)
  ·exact h.it x (List.mem_of_mem_drop hx)⟩
end Go.Proofs.YtkjnjkdcpbgabaaGreatDoor
