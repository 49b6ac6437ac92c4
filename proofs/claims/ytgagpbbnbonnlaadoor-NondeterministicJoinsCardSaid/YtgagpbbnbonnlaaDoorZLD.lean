/-
 Chapter 05: the law NondeterministicDeterminizes.
-/
import Derived.Test.YtgagpbbnbonnlaaDoorZK
import Derived.Test.YtgagpbbnbonnlaaDoorZM
import Derived.Test.YtgagpbbnbonnlaaDoorZXD
set_option linter.unusedSimpArgs false
set_option linter.unusedVariables false
namespace Go.Proofs.YtgagpbbnbonnlaaDoor
open Go.Eng Go.RowKit
end Go.Proofs.YtgagpbbnbonnlaaDoor
