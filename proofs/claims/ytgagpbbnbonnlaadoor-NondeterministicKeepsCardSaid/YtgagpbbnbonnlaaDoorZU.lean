/-
 Chapter 05: Union; the errors of Erase, Reverse, Union.
-/
import Derived.Test.YtgagpbbnbonnlaaDoorZN
import Derived.Test.YtgagpbbnbonnlaaDoorZD
import Derived.Test.YtgagpbbnbonnlaaDoorYK
set_option linter.unusedSimpArgs false
set_option linter.unusedVariables false
namespace Go.Proofs.YtgagpbbnbonnlaaDoor
open Go.Eng Go.RowKit
end Go.Proofs.YtgagpbbnbonnlaaDoor
