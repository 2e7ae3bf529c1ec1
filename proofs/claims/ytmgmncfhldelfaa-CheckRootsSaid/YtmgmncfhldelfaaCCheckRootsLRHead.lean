/-
  The document's headers in bytes.
-/
import Derived.Test.YtmgmncfhldelfaaCCheckRootsLHead
import Derived.Test.YtmgmncfhldelfaaCCheckRootsLTag
import Derived.Test.YtmgmncfhldelfaaCCheckRootsLRTag
namespace Go.Ax.V
open Go.Ax
set_option linter.unusedVariables false
set_option linter.unusedSimpArgs false
end Go.Ax.V
