/-
  The document's headers in bytes.
-/
import Derived.Test.YtdiacaflcfiomaaCProvePartsLHead
import Derived.Test.YtdiacaflcfiomaaCProvePartsLTag
import Derived.Test.YtdiacaflcfiomaaCProvePartsLRTag
namespace Go.Ax.V
open Go.Ax
set_option linter.unusedVariables false
set_option linter.unusedSimpArgs false
end Go.Ax.V
