/-
  The document's headers in bytes.
-/
import Derived.Test.YtanhbdkimbljeaaCStoreOldLHead
import Derived.Test.YtanhbdkimbljeaaCStoreOldLTag
import Derived.Test.YtanhbdkimbljeaaCStoreOldLRTag
namespace Go.Ax.V
open Go.Ax
set_option linter.unusedVariables false
set_option linter.unusedSimpArgs false
end Go.Ax.V
