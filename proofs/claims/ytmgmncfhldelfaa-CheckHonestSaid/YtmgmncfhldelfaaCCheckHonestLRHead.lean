/-
  The document's headers in bytes.
-/
import Derived.Test.YtmgmncfhldelfaaCCheckHonestLHead
import Derived.Test.YtmgmncfhldelfaaCCheckHonestLTag
import Derived.Test.YtmgmncfhldelfaaCCheckHonestLRTag
namespace Go.Ax.V
open Go.Ax
set_option linter.unusedVariables false
set_option linter.unusedSimpArgs false
end Go.Ax.V
