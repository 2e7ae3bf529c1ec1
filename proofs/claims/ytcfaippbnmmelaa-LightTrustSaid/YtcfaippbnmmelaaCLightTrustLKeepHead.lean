/-
  Headers that are drawn.
-/
import Derived.Test.YtcfaippbnmmelaaCLightTrustLHead
import Derived.Test.YtcfaippbnmmelaaCLightTrustLWithin
namespace Go.Ax.V
open Go.Ax
set_option linter.unusedVariables false
set_option linter.unusedSimpArgs false
end Go.Ax.V
