/-
  Chapter 9: what is made of a row shows what is in it: each pair, each absence, each range, whole.
-/
import Derived.Test.YtmgmncfhldelfaaCAdmitTellsLCheckRuns
namespace Go.Ax.V
open Go.Ax
set_option linter.unusedVariables false
set_option linter.unusedSimpArgs false
end Go.Ax.V
