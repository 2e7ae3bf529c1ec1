/-
  The document's trees.
-/
import Derived.Test.YtanhbdkimbljeaaCStoreOldLTree2
import Derived.Test.YtanhbdkimbljeaaCStoreOldLRTag
namespace Go.Ax.V
open Go.Ax
set_option linter.unusedVariables false
set_option linter.unusedSimpArgs false
end Go.Ax.V
