/-
 Chapter 23: plain facts: what is put is found; a difference, applied.
-/
import Derived.Test.YtkjnjkdcpbgabaaGreatDoorUP
set_option linter.unusedSimpArgs false
set_option linter.unusedVariables false
namespace Go.Proofs.YtkjnjkdcpbgabaaGreatDoor
open Go.Eng Go.RowKit
structure PutFind (l : List It) (x : It) (j : Nat) : Prop where
 lt : j < (putL l x).length
 at_ : findI (putL l x) x.kind x.name = j
 get : (putL l x).getD j It.no = x
 was : 0 ≤ findI l x.kind x.name → (putL l x).length = l.length
 new : findI l x.kind x.name < 0 → dropL (putL l x) x.kind x.name = l
/-! differences -/
end Go.Proofs.YtkjnjkdcpbgabaaGreatDoor
