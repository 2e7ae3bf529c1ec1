/-
  Headers that are drawn.
-/
import Derived.Test.YtcfaippbnmmelaaGreatCLightSkipsLHead
import Derived.Test.YtcfaippbnmmelaaGreatCLightSkipsLWithin
namespace Go.Ax.V
open Go.Ax
set_option linter.unusedVariables false
set_option linter.unusedSimpArgs false
end Go.Ax.V
