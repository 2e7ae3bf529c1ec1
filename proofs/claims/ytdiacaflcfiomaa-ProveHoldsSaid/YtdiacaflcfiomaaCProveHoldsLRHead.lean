/-
  The document's headers in bytes.
-/
import Derived.Test.YtdiacaflcfiomaaCProveHoldsLHead
import Derived.Test.YtdiacaflcfiomaaCProveHoldsLTag
import Derived.Test.YtdiacaflcfiomaaCProveHoldsLRTag
namespace Go.Ax.V
open Go.Ax
set_option linter.unusedVariables false
set_option linter.unusedSimpArgs false
end Go.Ax.V
