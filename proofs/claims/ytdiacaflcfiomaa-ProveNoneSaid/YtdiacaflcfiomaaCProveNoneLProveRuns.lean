/-
  Chapter 8's runs hold.
-/
import Derived.Test.YtdiacaflcfiomaaCProveNoneLProve
namespace Go.Ax.V
open Go.Ax
set_option linter.unusedVariables false
set_option linter.unusedSimpArgs false
theorem pathS_len (l : List Pr) (hl : l.length ≤ 60) (j : Nat) (hj : j < l.length) : (pathS (leavesB l) ((j : Nat) : Int)).length = (sidesF l.length j l.length).length := by
 unfold pathS
 rw [leavesB_len, if_pos (by omega), Int.toNat_natCast, path_sides _ _ _ (by rw [leavesB_len]; omega), leavesB_len]
def l3 : List Pr := [([97], [], ()), ([99], [], ()), ([101], [], ())]
theorem l3_kv : KvOk l3 := by
 refine ⟨by decide, fun p hp => ?_⟩
 have : ∀ p ∈ l3, p.1.length ≤ 1 ∧ p.2.1.length ≤ 1 := by decide
 have := this p hp; omega
theorem l3_rise : Rise l3 := by unfold Rise; decide
theorem law_ProveRuns : affiantlaw8_ProveRuns = some true := by
 have a1 := absent_eq l3 l3_kv l3_rise [99]
 have a2 := absent_eq l3 l3_kv l3_rise [98]
 have r := range_eq l3 l3_kv l3_rise [98] [100]
 rw [show isAt l3 [99] = true from by decide, if_pos rfl] at a1
 rw [show isAt l3 [98] = false from by decide, if_neg (by simp), show belowN l3 [98] = 1 from by decide, show min (1 + 1) l3.length = 2 from rfl, show (1 : Nat) - 1 = 0 from rfl] at a2
 rw [show belowN l3 [98] = 1 from by decide, show belowN l3 (maxS [98] [100]) = 2 from by decide, show min (2 + 1) l3.length = 3 from rfl, show (1 : Nat) - 1 = 0 from rfl] at r
 have sz := sizeN_eq l3 l3_kv 0 2 (by omega)
 have e2 : someN l3 0 2 = (3, 0, l3.take 2, pathsN l3 0 2, ()) := rfl
 have e3 : someN l3 0 3 = (3, 0, l3.take 3, pathsN l3 0 3, ()) := rfl
 have hsz : sizeP (someN l3 0 2) = 6 := by
  have p0 := pathS_len l3 (by decide) 0 (by decide)
  have p1 := pathS_len l3 (by decide) 1 (by decide)
  rw [show (sidesF l3.length 0 l3.length).length = 2 from by kernel_rfl] at p0
  rw [show (sidesF l3.length 1 l3.length).length = 2 from by kernel_rfl] at p1
  rw [e2]
  show 2 + ((pathS (leavesB l3) ((0 : Nat) : Int)).length + ((pathS (leavesB l3) ((1 : Nat) : Int)).length + 0)) = 6
  rw [p0, p1]
 rw [hsz] at sz
 unfold affiantlaw8_ProveRuns
 show andThen (prove_Absent l3 [99]) (fun u1 => andThen (prove_Absent l3 [98]) (fun u3 => andThen (prove_Range l3 [98] [100]) (fun u5 => _))) = _
 rw [a1, andThen_mk, a2, andThen_mk, r, andThen_mk]
 rw [e2] at sz
 rw [e2, e3, Bool.not_false, fork_tt, fork_tt, fork_t (by rfl), fork_t (by rfl), fork_t (by rfl), fork_t (by rfl), sz, andThen_mk]
 rfl
end Go.Ax.V
