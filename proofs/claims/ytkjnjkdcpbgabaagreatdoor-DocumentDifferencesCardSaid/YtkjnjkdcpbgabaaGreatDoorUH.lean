/-
 Chapter 23: the law's put.
-/
import Derived.Test.YtkjnjkdcpbgabaaGreatDoorUG
set_option linter.unusedSimpArgs false
set_option linter.unusedVariables false
namespace Go.Proofs.YtkjnjkdcpbgabaaGreatDoor
open Go.Eng Go.RowKit
def atB (k : Int) : List It → Nat
 | [] => 0
 | x :: l => if k < x.kind then atB k l else l.length + 1
def lawPut (l : List It) (x : It) : List It := if 0 ≤ findI l x.kind x.name then l.set (findI l x.kind x.name).toNat x else insL l (atB x.kind l.reverse) x
end Go.Proofs.YtkjnjkdcpbgabaaGreatDoor
