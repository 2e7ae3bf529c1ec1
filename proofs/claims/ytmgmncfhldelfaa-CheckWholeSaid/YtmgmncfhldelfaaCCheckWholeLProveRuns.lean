/-
  Chapter 8's runs hold.
-/
import Derived.Test.YtmgmncfhldelfaaCCheckWholeLProve
namespace Go.Ax.V
open Go.Ax
set_option linter.unusedVariables false
set_option linter.unusedSimpArgs false
def l3 : List Pr := [([97], [], ()), ([99], [], ()), ([101], [], ())]
theorem l3_kv : KvOk l3 := by
 refine ⟨by decide, fun p hp => ?_⟩
 have : ∀ p ∈ l3, p.1.length ≤ 1 ∧ p.2.1.length ≤ 1 := by decide
 have := this p hp; omega
theorem l3_rise : Rise l3 := by unfold Rise; decide
end Go.Ax.V
