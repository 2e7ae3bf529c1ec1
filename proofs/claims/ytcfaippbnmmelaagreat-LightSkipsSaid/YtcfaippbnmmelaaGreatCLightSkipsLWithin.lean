/-
  A number drawn into bounds lies within them.
-/
import Derived.Test.YtcfaippbnmmelaaGreatCLightSkipsP
import Derived.Test.YtcfaippbnmmelaaGreatCLightSkipsLLp
namespace Go.Ax.V
open Go.Ax
set_option linter.unusedVariables false
set_option linter.unusedSimpArgs false
theorem within_eq (a lo hi : Int) (h : lo ≤ hi) (h1 : -1099511627776 ≤ lo) (h2 : hi ≤ 1099511627776) : ∃ r, q17 a lo hi = some r ∧ lo ≤ r ∧ r ≤ hi := by
 unfold q17
 have hn : w64 (w64 (hi - lo) + 1) = hi - lo + 1 := by simp (disch := omega) only [w64_eq]
 rw [hn, need_true (by omega)]
 have hb : Int.tmod a (hi - lo + 1) < hi - lo + 1 ∧ -(hi - lo + 1) < Int.tmod a (hi - lo + 1) := by
  constructor
  ·exact Int.tmod_lt_of_pos a (by omega)
  ·have := Int.tmod_lt_of_pos (-a) (b := hi - lo + 1) (by omega)
   rw [Int.neg_tmod] at this; omega
 generalize Int.tmod a (hi - lo + 1) = t at hb
 by_cases ht : t < 0
 ·rw [fork_t ht]
  simp (disch := omega) only [w64_eq]
  exact ⟨_, rfl, by omega, by omega⟩
 ·rw [fork_f ht]
  simp (disch := omega) only [w64_eq]
  exact ⟨_, rfl, by omega, by omega⟩
end Go.Ax.V
