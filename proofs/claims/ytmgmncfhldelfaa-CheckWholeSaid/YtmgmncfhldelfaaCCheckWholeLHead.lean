/-
  Headers in bytes, and read again.
-/
import Derived.Test.YtmgmncfhldelfaaCCheckWholeLVint
namespace Go.Ax.V
open Go.Ax
set_option linter.unusedVariables false
set_option linter.unusedSimpArgs false
end Go.Ax.V
