/-
  The document's headers in bytes.
-/
import Derived.Test.YtdiacaflcfiomaaCProveNoneLHead
import Derived.Test.YtdiacaflcfiomaaCProveNoneLTag
import Derived.Test.YtdiacaflcfiomaaCProveNoneLRTag
namespace Go.Ax.V
open Go.Ax
set_option linter.unusedVariables false
set_option linter.unusedSimpArgs false
end Go.Ax.V
