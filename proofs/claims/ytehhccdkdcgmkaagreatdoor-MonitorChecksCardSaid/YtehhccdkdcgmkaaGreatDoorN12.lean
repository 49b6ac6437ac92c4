/-
  Contracts: the law's search for a transform.
-/
import Derived.Test.YtehhccdkdcgmkaaGreatDoorN11
set_option linter.unusedSimpArgs false
set_option linter.unusedVariables false
namespace Go.Proofs.YtehhccdkdcgmkaaGreatDoor
open Go.Eng Go.RowKit
theorem set_set_at (l : List Int) (k : Nat) (x y : Int) : (l.set k x).set k y = l.set k y := List.set_set ..
def foundL (fac : List Int) : Option (List Int) → List Int
  | some f => f
  | none => fac
end Go.Proofs.YtehhccdkdcgmkaaGreatDoor
