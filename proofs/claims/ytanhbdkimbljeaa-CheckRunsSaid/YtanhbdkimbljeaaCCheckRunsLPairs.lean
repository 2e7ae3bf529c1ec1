/-
  Pairs of numbers, the document's own proofs, and when two are the same.
-/
import Derived.Test.YtanhbdkimbljeaaCCheckRunsLProve
import Derived.Test.YtanhbdkimbljeaaCCheckRunsLValsLaws1
namespace Go.Ax.V
open Go.Ax
set_option linter.unusedVariables false
set_option linter.unusedSimpArgs false
end Go.Ax.V
