/-
  Headers in bytes, and read again.
-/
import Derived.Test.YtmgmncfhldelfaaCAdmitTellsLVint
namespace Go.Ax.V
open Go.Ax
set_option linter.unusedVariables false
set_option linter.unusedSimpArgs false
theorem putF_small {n : Nat} (h : n < 128) : ∀ f, putF f n = [UInt8.ofNat n]
 | 0 => rfl
 | f + 1 => by rw [putF, if_pos h]
end Go.Ax.V
