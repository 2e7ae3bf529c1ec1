/-
  Chapter 8's runs hold.
-/
import Derived.Test.YtmgmncfhldelfaaCCheckHonestLProve
namespace Go.Ax.V
open Go.Ax
set_option linter.unusedVariables false
set_option linter.unusedSimpArgs false
theorem pathS_len (l : List Pr) (hl : l.length ≤ 60) (j : Nat) (hj : j < l.length) : (pathS (leavesB l) ((j : Nat) : Int)).length = (sidesF l.length j l.length).length := by
 unfold pathS
 rw [leavesB_len, if_pos (by omega), Int.toNat_natCast, path_sides _ _ _ (by rw [leavesB_len]; omega), leavesB_len]
def l3 : List Pr := [([97], [], ()), ([99], [], ()), ([101], [], ())]
theorem l3_kv : KvOk l3 := by
 refine ⟨by decide, fun p hp => ?_⟩
 have : ∀ p ∈ l3, p.1.length ≤ 1 ∧ p.2.1.length ≤ 1 := by decide
 have := this p hp; omega
theorem l3_rise : Rise l3 := by unfold Rise; decide
end Go.Ax.V
