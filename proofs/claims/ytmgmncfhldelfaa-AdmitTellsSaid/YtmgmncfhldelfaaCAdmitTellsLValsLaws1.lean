/-
  Sets of one to four validators, and some of their names.
-/
import Derived.Test.YtmgmncfhldelfaaCAdmitTellsLValsRuns
import Derived.Test.YtmgmncfhldelfaaCAdmitTellsLWithin
namespace Go.Ax.V
open Go.Ax
set_option linter.unusedVariables false
set_option linter.unusedSimpArgs false
end Go.Ax.V
