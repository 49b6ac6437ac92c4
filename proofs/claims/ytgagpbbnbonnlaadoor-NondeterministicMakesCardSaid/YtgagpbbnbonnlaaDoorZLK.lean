/-
 Chapter 05: the law NondeterministicKeeps.
-/
import Derived.Test.YtgagpbbnbonnlaaDoorZK
import Derived.Test.YtgagpbbnbonnlaaDoorZM
import Derived.Test.YtgagpbbnbonnlaaDoorZE
import Derived.Test.YtgagpbbnbonnlaaDoorZD
import Derived.Test.YtgagpbbnbonnlaaDoorZP
import Derived.Test.YtgagpbbnbonnlaaDoorZF
import Derived.Test.YtgagpbbnbonnlaaDoorZN
import Derived.Test.YtgagpbbnbonnlaaDoorYJ
import Derived.Test.YtgagpbbnbonnlaaDoorZW
set_option linter.unusedSimpArgs false
set_option linter.unusedVariables false
namespace Go.Proofs.YtgagpbbnbonnlaaDoor
open Go.Eng Go.RowKit
def u8D (us : List Int) : List (List D) := us.map fun z => [.int .u8 z]
theorem u8D_length (us : List Int) : (u8D us).length = us.length := by simp [u8D]
theorem u8D_sz (us : List Int) : (∀ r : List D, r ∈ u8D us → r.length = 1) ↔ True := ⟨fun _ => trivial, fun _ r hr => by obtain ⟨e, _, rfl⟩ := List.mem_map.1 hr; rfl⟩
attribute [go_sem] u8D_length u8D_sz
theorem sortE_length (l : List Ed) : (sortE l).length ≤ l.length := by
 rw [← ordered_eq]
 have := compE_length (sortP l)
 rw [sortP_length] at this
 exact this
theorem rev_fits {a : NA} (h : a.Fits) : (revNA a).Fits := ⟨h.alpha, h.marked, h.init, by
 have := sortE_length (revE a.edges)
 rw [revE_length] at this
 have := h.edges
 show (sortE (revE a.edges)).length ≤ 1000
 omega⟩
end Go.Proofs.YtgagpbbnbonnlaaDoor
