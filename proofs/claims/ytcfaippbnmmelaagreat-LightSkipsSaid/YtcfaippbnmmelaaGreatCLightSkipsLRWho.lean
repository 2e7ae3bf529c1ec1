/-
  Whose a signature is, as the document reckons it.
-/
import Derived.Test.YtcfaippbnmmelaaGreatCLightSkipsLRLam
namespace Go.Ax.V
open Go.Ax
set_option linter.unusedVariables false
set_option linter.unusedSimpArgs false
end Go.Ax.V
