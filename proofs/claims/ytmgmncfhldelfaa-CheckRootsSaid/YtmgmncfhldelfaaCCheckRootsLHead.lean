/-
  Headers in bytes, and read again.
-/
import Derived.Test.YtmgmncfhldelfaaCCheckRootsLVint
namespace Go.Ax.V
open Go.Ax
set_option linter.unusedVariables false
set_option linter.unusedSimpArgs false
end Go.Ax.V
