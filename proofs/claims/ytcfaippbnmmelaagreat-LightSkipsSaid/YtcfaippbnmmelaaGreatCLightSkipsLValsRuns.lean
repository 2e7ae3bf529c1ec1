/-
  Chapter 10's runs hold.
-/
import Derived.Test.YtcfaippbnmmelaaGreatCLightSkipsLVals
namespace Go.Ax.V
open Go.Ax
set_option linter.unusedVariables false
set_option linter.unusedSimpArgs false
end Go.Ax.V
