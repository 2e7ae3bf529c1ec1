/-
  The document's trees.
-/
import Derived.Test.YtanhbdkimbljeaaCCheckRunsLTree2
import Derived.Test.YtanhbdkimbljeaaCCheckRunsLRTag
namespace Go.Ax.V
open Go.Ax
set_option linter.unusedVariables false
set_option linter.unusedSimpArgs false
end Go.Ax.V
