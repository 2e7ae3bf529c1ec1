/-
  Chapter 8: any pairs, any keys, any places: the proof.
-/
import Derived.Test.YtdiacaflcfiomaaCProveNoneLProveRuns
import Derived.Test.YtdiacaflcfiomaaCProveNoneLPairs
namespace Go.Ax.V
open Go.Ax
set_option linter.unusedVariables false
set_option linter.unusedSimpArgs false
end Go.Ax.V
