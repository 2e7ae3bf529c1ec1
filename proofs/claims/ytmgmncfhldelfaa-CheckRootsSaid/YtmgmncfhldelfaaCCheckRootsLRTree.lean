/-
  The document's trees.
-/
import Derived.Test.YtmgmncfhldelfaaCCheckRootsLTree2
import Derived.Test.YtmgmncfhldelfaaCCheckRootsLRTag
namespace Go.Ax.V
open Go.Ax
set_option linter.unusedVariables false
set_option linter.unusedSimpArgs false
end Go.Ax.V
