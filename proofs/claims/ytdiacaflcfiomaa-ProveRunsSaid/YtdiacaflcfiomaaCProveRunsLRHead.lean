/-
  The document's headers in bytes.
-/
import Derived.Test.YtdiacaflcfiomaaCProveRunsLHead
import Derived.Test.YtdiacaflcfiomaaCProveRunsLTag
import Derived.Test.YtdiacaflcfiomaaCProveRunsLRTag
namespace Go.Ax.V
open Go.Ax
set_option linter.unusedVariables false
set_option linter.unusedSimpArgs false
end Go.Ax.V
