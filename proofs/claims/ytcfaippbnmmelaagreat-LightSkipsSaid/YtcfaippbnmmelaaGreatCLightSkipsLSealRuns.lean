/-
  Chapter 12's runs.
-/
import Derived.Test.YtcfaippbnmmelaaGreatCLightSkipsLRinged
namespace Go.Ax.V
open Go.Ax
set_option linter.unusedVariables false
set_option linter.unusedSimpArgs false
end Go.Ax.V
