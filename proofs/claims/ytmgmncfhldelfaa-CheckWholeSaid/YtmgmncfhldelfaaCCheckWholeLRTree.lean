/-
  The document's trees.
-/
import Derived.Test.YtmgmncfhldelfaaCCheckWholeLTree2
import Derived.Test.YtmgmncfhldelfaaCCheckWholeLRTag
namespace Go.Ax.V
open Go.Ax
set_option linter.unusedVariables false
set_option linter.unusedSimpArgs false
end Go.Ax.V
