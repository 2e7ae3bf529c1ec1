/-
  What the functions of vals compute.
-/
import Derived.Test.YtmgmncfhldelfaaCAdmitTellsP
import Derived.Test.YtmgmncfhldelfaaCAdmitTellsLLp
namespace Go.Ax.V
open Go.Ax
set_option linter.unusedVariables false
set_option linter.unusedSimpArgs false
theorem getD_mem {α : Type} {l : List α} {i : Nat} {z : α} (h : i < l.length) : l.getD i z ∈ l := by
 rw [List.getD_eq_getElem?_getD, List.getElem?_eq_getElem h]; exact List.getElem_mem _
end Go.Ax.V
