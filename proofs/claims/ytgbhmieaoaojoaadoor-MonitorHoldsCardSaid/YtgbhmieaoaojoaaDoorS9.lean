/-
 The law's known: the examples of the chapter.
-/
import Derived.Test.YtgbhmieaoaojoaaDoorS8
import Derived.Test.YtgbhmieaoaojoaaDoorS4
set_option linter.unusedSimpArgs false
set_option linter.unusedVariables false
namespace Go.Proofs.YtgbhmieaoaojoaaDoor
open Go.Eng Go.RowKit
theorem graph_len {n : Net} (hi : n.init.length ≤ 1000) : ∀ nd ed, bndF n = .inr (nd, ed) → nd.length ≤ 4096 ∧ ∀ x ∈ nd, x.m.length ≤ 1000 := fun nd ed h => by
 obtain ⟨_, hN, hl⟩ := bnd_ok h
 exact ⟨hl, fun x hx => by rw [hN.len x hx]; exact hi⟩
end Go.Proofs.YtgbhmieaoaojoaaDoor
