/-
  A number drawn into bounds lies within them.
-/
import Derived.Test.YtanhbdkimbljeaaCCheckRunsP
import Derived.Test.YtanhbdkimbljeaaCCheckRunsLLp
namespace Go.Ax.V
open Go.Ax
set_option linter.unusedVariables false
set_option linter.unusedSimpArgs false
end Go.Ax.V
