/-
  Chapter 12: a signature more never has less power; in a smaller set those count who are left; of another header they count just if the reckoning says so.
-/
import Derived.Test.YtcfaippbnmmelaaGreatCLightSkipsLSealJ
namespace Go.Ax.V
open Go.Ax
set_option linter.unusedVariables false
set_option linter.unusedSimpArgs false
theorem sgJ_next (h : Hdr) (i : Nat) : sgJ h (List.range (i + 1)) = sgJ h (List.range i) ++ [sgS h (nm i) (seedK i)] := by
 unfold sgJ; rw [List.range_succ, List.map_append]; rfl
theorem sgJ_len (h : Hdr) (js : List Nat) : (sgJ h js).length = js.length := by simp [sgJ]
end Go.Ax.V
