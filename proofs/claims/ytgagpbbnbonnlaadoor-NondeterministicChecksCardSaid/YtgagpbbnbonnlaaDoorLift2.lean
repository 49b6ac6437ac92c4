/-
 Arguments that are arrays, opened.
-/
import Derived.OpenShut
import Derived.Test.YtgagpbbnbonnlaaDoorLift
set_option linter.unusedSimpArgs false
set_option linter.unusedVariables false
namespace Go.Eng
open Go.RowKit Go.ChangeShapes Go.WideShapes
section
variable {P : Program}
end
end Go.Eng
