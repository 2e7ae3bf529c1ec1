/-
  The tagged sum by the document.
-/
import Derived.Test.YtmgmncfhldelfaaCCheckWholeLTag
import Derived.Test.YtmgmncfhldelfaaCCheckWholeLRef1
namespace Go.Ax.V
open Go.Ax
set_option linter.unusedVariables false
set_option linter.unusedSimpArgs false
end Go.Ax.V
