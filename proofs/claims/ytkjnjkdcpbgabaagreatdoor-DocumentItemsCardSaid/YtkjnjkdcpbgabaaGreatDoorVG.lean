/-
 Chapter 23: the law's shuffled, where it holds.
-/
import Derived.Test.YtkjnjkdcpbgabaaGreatDoorUF
set_option linter.unusedSimpArgs false
set_option linter.unusedVariables false
namespace Go.Proofs.YtkjnjkdcpbgabaaGreatDoor
open Go.Eng Go.RowKit
def It.bare (x : It) : It := ⟨x.kind, x.name, x.aut, [], [], x.bound⟩
structure Shuf (a b : It) : Prop where
 ll : a.locs.length = b.locs.length
 tl : a.terms.length = b.terms.length
 locs : ∀ x ∈ a.locs, x ∈ b.locs
 terms : ∀ x ∈ a.terms, x ∈ b.terms
 bare : a.bare = b.bare
end Go.Proofs.YtkjnjkdcpbgabaaGreatDoor
