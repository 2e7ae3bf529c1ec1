/-
  The document's headers in bytes.
-/
import Derived.Test.YtanhbdkimbljeaaCStoreFullLHead
import Derived.Test.YtanhbdkimbljeaaCStoreFullLTag
import Derived.Test.YtanhbdkimbljeaaCStoreFullLRTag
namespace Go.Ax.V
open Go.Ax
set_option linter.unusedVariables false
set_option linter.unusedSimpArgs false
end Go.Ax.V
