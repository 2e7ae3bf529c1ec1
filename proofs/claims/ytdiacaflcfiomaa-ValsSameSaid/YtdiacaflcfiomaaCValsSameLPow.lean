/-
  Powers of sets, and texts in order.
-/
import Derived.Test.YtdiacaflcfiomaaCValsSameLVals
namespace Go.Ax.V
open Go.Ax
set_option linter.unusedVariables false
set_option linter.unusedSimpArgs false
end Go.Ax.V
