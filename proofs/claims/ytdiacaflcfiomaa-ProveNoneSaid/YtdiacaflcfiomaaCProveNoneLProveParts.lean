/-
  Chapter 8: some pairs' proof is the pairs with their paths, each as alone.
-/
import Derived.Test.YtdiacaflcfiomaaCProveNoneLProveTells
namespace Go.Ax.V
open Go.Ax
set_option linter.unusedVariables false
set_option linter.unusedSimpArgs false
theorem some_one (l : List Pr) {k : Nat} (hk : k < l.length) : someN l k (k + 1) = ((l.length : Int), (k : Int), [l.getD k zPr], [pathS (leavesB l) (k : Int)], ()) := by
 unfold someN
 rw [if_neg (by omega), show k + 1 - k = 0 + 1 from by omega, drop_take_succ l (by omega), pathsN_succ]
 rfl
end Go.Ax.V
