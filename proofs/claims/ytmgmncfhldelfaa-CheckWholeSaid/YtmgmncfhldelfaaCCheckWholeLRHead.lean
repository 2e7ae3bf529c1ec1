/-
  The document's headers in bytes.
-/
import Derived.Test.YtmgmncfhldelfaaCCheckWholeLHead
import Derived.Test.YtmgmncfhldelfaaCCheckWholeLTag
import Derived.Test.YtmgmncfhldelfaaCCheckWholeLRTag
namespace Go.Ax.V
open Go.Ax
set_option linter.unusedVariables false
set_option linter.unusedSimpArgs false
end Go.Ax.V
