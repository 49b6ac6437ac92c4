/-
 Contracts: merging of sets.
-/
import Derived.Test.YtgbhmieaoaojoaaGreatDoorN2
set_option linter.unusedSimpArgs false
set_option linter.unusedVariables false
namespace Go.Proofs.YtgbhmieaoaojoaaGreatDoor
open Go.Eng Go.RowKit
def csFrom (m : Int) : List Int → Option Int → Int
 | [], _ => 0
 | x :: l, prev => if x < 0 ∨ m ≤ x then 2 else if (prev.any fun p => decide (x ≤ p)) = true then 5 else csFrom m l (some x)
def checkSet (xs : List Int) (m : Int) : Int := csFrom m xs none
def prevOf (xs : List Int) (k : Nat) : Option Int := if k = 0 then none else some (xs.getD (k - 1) 0)
theorem cs_step {xs : List Int} {m b : Int} {k : Nat} (hk : k < xs.length) (h : b = csFrom m (xs.drop k) (prevOf xs k)) :
  b = if xs.getD k 0 < 0 ∨ m ≤ xs.getD k 0 then 2 else if 0 < k ∧ xs.getD k 0 ≤ xs.getD (k - 1) 0 then 5 else csFrom m (xs.drop (k + 1)) (prevOf xs (k + 1)) := by
 rw [drop_getD xs k 0 hk] at h
 rw [h, csFrom]
 split
 ·rfl
 ·unfold prevOf
  by_cases h0 : k = 0
  ·subst h0; simp
  ·simp [h0]; split <;> split <;> first | rfl | omega
end Go.Proofs.YtgbhmieaoaojoaaGreatDoor
set_option linter.unusedSimpArgs false
set_option linter.unusedVariables false
namespace Go.Proofs.YtgbhmieaoaojoaaGreatDoor
open Go.Eng Go.RowKit
attribute [local go_sem] List.take_length
end Go.Proofs.YtgbhmieaoaojoaaGreatDoor
