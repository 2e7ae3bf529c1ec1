/-
  The document's own sum is SHA-256.
-/
import Derived.Test.YtmgmncfhldelfaaCCheckWholeLSha2
namespace Go.Ax.V
open Go.Ax
set_option linter.unusedVariables false
set_option linter.unusedSimpArgs false
set_option maxRecDepth 100000
end Go.Ax.V
