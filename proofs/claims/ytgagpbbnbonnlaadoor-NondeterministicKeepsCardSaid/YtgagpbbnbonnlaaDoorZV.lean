/-
 Chapter 05: the reference's Union; the law NondeterministicFrom.
-/
import Derived.Test.YtgagpbbnbonnlaaDoorZF
import Derived.Test.YtgagpbbnbonnlaaDoorZU
import Derived.Test.YtgagpbbnbonnlaaDoorZM
set_option linter.unusedSimpArgs false
set_option linter.unusedVariables false
namespace Go.Proofs.YtgagpbbnbonnlaaDoor
open Go.Eng Go.RowKit
theorem AU.fits_na {a : AU} (h : a.Fits) : a.na.Fits := ⟨h.alpha, by unfold AU.na; simp only; split <;> simp, h.marked, h.edges⟩
end Go.Proofs.YtgagpbbnbonnlaaDoor
