/-
  The document's signers; sets whose keys are their seeds'.
-/
import Derived.Test.YtcfaippbnmmelaaCLightTrustLSeal
import Derived.Test.YtcfaippbnmmelaaCLightTrustLValsLaws1
namespace Go.Ax.V
open Go.Ax
set_option linter.unusedVariables false
set_option linter.unusedSimpArgs false
theorem rtotal_eq (set : List Val) (hset : SmallV set) : affiantref10_Total set = some (allS set) := total_eq set hset
theorem rover_eq (a b n d : Int) (h1 : 0 ≤ a ∧ a ≤ 4294967296) (h2 : 0 ≤ b ∧ b ≤ 4294967296) (hn : 0 ≤ n ∧ n ≤ 1000) (hd : 0 ≤ d ∧ d ≤ 1000) : affiantref10_Over a b n d = some (decide (b * n < a * d)) := over_eq (a, b) n d h1 h2 hn hd
end Go.Ax.V
