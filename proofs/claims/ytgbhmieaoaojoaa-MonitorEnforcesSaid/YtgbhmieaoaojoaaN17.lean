/-
 Contracts: transitions that are enabled; firing.
-/
import Derived.Test.YtgbhmieaoaojoaaN6
set_option linter.unusedSimpArgs false
set_option linter.unusedVariables false
namespace Go.Proofs.Ytgbhmieaoaojoaa
open Go.Eng Go.RowKit
theorem Sm.mono {A B : Int} {l : List Int} (h : Sm A l) (hab : A ≤ B) : Sm B l := ⟨fun x hx => by have := h.all x hx; omega⟩
end Go.Proofs.Ytgbhmieaoaojoaa
