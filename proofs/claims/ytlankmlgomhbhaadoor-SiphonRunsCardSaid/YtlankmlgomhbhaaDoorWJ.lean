/-
 Plain: sorted sets merged, sorted, thinned; the greatest set of a kind as the union of all.
-/
import Derived.Test.YtlankmlgomhbhaaDoorWI
set_option linter.unusedSimpArgs false
set_option linter.unusedVariables false
namespace Go.Proofs.YtlankmlgomhbhaaDoor
open Go.Eng Go.RowKit
/-! thinning a sorted list -/
/-! each set of places is a mask's -/
end Go.Proofs.YtlankmlgomhbhaaDoor
