/-
  SHA-256 in plain words, and the program's own: what its functions compute is that.
-/
import Derived.Test.YtdiacaflcfiomaaCStoreRunsP
import Derived.Test.YtdiacaflcfiomaaCStoreRunsLLp
namespace Go.Ax.V
open Go.Ax
set_option linter.unusedVariables false
set_option linter.unusedSimpArgs false
set_option maxRecDepth 100000
end Go.Ax.V
