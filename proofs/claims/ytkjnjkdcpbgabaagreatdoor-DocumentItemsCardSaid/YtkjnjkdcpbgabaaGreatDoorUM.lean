/-
 Chapter 23: the law's in, shuffled.
-/
import Derived.Test.YtkjnjkdcpbgabaaGreatDoorUG
set_option linter.unusedSimpArgs false
set_option linter.unusedVariables false
namespace Go.Proofs.YtkjnjkdcpbgabaaGreatDoor
open Go.Eng Go.RowKit
def strsD (l : List (List UInt8)) : List (List D) := l.map fun s => [.str s]
theorem strs_length (l : List (List UInt8)) : (strsD l).length = l.length := by simp [strsD]
theorem strs_getD (l : List (List UInt8)) (k : Nat) : (strsD l).getD k [.str []] = [.str (l.getD k [])] := by
 simp only [strsD, List.getD, List.getElem?_map]
 cases l[k]? <;> rfl
theorem strs_sz (l : List (List UInt8)) : (∀ r : List D, r ∈ strsD l → r.length = 1) ↔ True := ⟨fun _ => trivial, fun _ r hr => by obtain ⟨e, _, rfl⟩ := List.mem_map.1 hr; rfl⟩
theorem strs_take (l : List (List UInt8)) (k : Nat) : (strsD l).take k = strsD (l.take k) := by simp [strsD]
theorem strs_drop (l : List (List UInt8)) (k : Nat) : (strsD l).drop k = strsD (l.drop k) := by simp [strsD]
theorem strs_append (xs ys : List (List UInt8)) : strsD xs ++ strsD ys = strsD (xs ++ ys) := by simp [strsD]
attribute [go_sem] strs_length strs_getD strs_sz strs_take strs_drop
end Go.Proofs.YtkjnjkdcpbgabaaGreatDoor
