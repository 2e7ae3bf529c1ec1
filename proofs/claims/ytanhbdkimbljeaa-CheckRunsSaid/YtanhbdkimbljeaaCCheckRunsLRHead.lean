/-
  The document's headers in bytes.
-/
import Derived.Test.YtanhbdkimbljeaaCCheckRunsLHead
import Derived.Test.YtanhbdkimbljeaaCCheckRunsLTag
import Derived.Test.YtanhbdkimbljeaaCCheckRunsLRTag
namespace Go.Ax.V
open Go.Ax
set_option linter.unusedVariables false
set_option linter.unusedSimpArgs false
end Go.Ax.V
