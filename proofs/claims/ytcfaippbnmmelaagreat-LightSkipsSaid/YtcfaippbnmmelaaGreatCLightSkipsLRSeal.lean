/-
  The document's signers; sets whose keys are their seeds'.
-/
import Derived.Test.YtcfaippbnmmelaaGreatCLightSkipsLSeal
import Derived.Test.YtcfaippbnmmelaaGreatCLightSkipsLValsLaws1
namespace Go.Ax.V
open Go.Ax
set_option linter.unusedVariables false
set_option linter.unusedSimpArgs false
end Go.Ax.V
