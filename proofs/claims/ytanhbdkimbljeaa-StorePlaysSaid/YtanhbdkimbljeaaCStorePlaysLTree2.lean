/-
  Trees: paths, and up to the root.
-/
import Derived.Test.YtanhbdkimbljeaaCStorePlaysLTree
namespace Go.Ax.V
open Go.Ax
set_option linter.unusedVariables false
set_option linter.unusedSimpArgs false
end Go.Ax.V
