/-
  A number drawn into bounds lies within them.
-/
import Derived.Test.YtanhbdkimbljeaaCAdmitRunsP
import Derived.Test.YtanhbdkimbljeaaCAdmitRunsLLp
namespace Go.Ax.V
open Go.Ax
set_option linter.unusedVariables false
set_option linter.unusedSimpArgs false
end Go.Ax.V
