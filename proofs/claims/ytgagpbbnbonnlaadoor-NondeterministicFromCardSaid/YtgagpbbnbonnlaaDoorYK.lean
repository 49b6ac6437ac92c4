/-
 Chapter 05, plain: two automata side by side generate and accept what one of both does.
-/
import Derived.Test.YtgagpbbnbonnlaaDoorYJ
set_option linter.unusedSimpArgs false
set_option linter.unusedVariables false
namespace Go.Proofs.YtgagpbbnbonnlaaDoor
def sideI (n : Int) (l m : List Int) : List Int := l ++ m.map fun x => n + x
def sideNA (al : List Int) (a b : NA) : NA := ⟨al, a.states + b.states, sideI a.states a.init b.init, sideI a.states a.marked b.marked, a.edges ++ shE a.states b.edges⟩
theorem sideI_inc {n : Int} {l m : List Int} (h1 : IncI l) (h2 : IncI m) (hl : ∀ y ∈ l, y < n) (hm : ∀ y ∈ m, 0 ≤ y) : IncI (sideI n l m) := by
 rw [sideI, IncI, List.pairwise_append]
 refine ⟨h1, List.pairwise_map.2 (h2.imp fun h => by omega), fun a ha b hb => ?_⟩
 obtain ⟨y, hy, rfl⟩ := List.mem_map.1 hb
 have := hl a ha
 have := hm y hy
 omega
section
variable {a b : NA} {al : List Int} {sil : Int}
end
end Go.Proofs.YtgagpbbnbonnlaaDoor
