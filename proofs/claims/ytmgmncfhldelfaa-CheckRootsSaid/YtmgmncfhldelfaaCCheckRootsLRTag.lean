/-
  The tagged sum by the document.
-/
import Derived.Test.YtmgmncfhldelfaaCCheckRootsLTag
import Derived.Test.YtmgmncfhldelfaaCCheckRootsLRef1
namespace Go.Ax.V
open Go.Ax
set_option linter.unusedVariables false
set_option linter.unusedSimpArgs false
end Go.Ax.V
