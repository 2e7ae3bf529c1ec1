/-
  Chapter 17's runs hold.
-/
import Derived.Test.YtmgmncfhldelfaaCAdmitTellsLAdmit
namespace Go.Ax.V
open Go.Ax
set_option linter.unusedVariables false
set_option linter.unusedSimpArgs false
def l1 : List Pr := [([97], [49], ())]
def q1 : Qry := (1, [97], [], 0, 1, ())
theorem l1_right : rightP l1 = true := by decide
theorem law_AdmitRuns : affiantlaw17_AdmitRuns = some true := by
 obtain ⟨hk, hr⟩ := rightP_kv l1_right
 have ea := answer_eq 1 q1 1 l1 hk
 have eq : ansS 1 q1 1 l1 = (1, 1, [([97], [49], ())], someN l1 0 1, ()) := by
  unfold ansS
  rw [if_pos (by decide)]; rfl
 rw [eq] at ea
 have ok := someN_ok l1 hk 0 1 (by omega)
 have hs : soundS (rootL l1) (someN l1 0 1) = true := by rw [rootL_self l1 l1_right 0 1 (by decide)]; rfl
 have hp : (someN l1 0 1).2.2.1 = [([97], [49], ())] := by rw [someN_parts l1 (by decide)]; rfl
 have a1 := admCheck_eq q1 (rootL l1) (1, 1, [([97], [49], ())], someN l1 0 1, ()) ok (by simp)
 have b1 : admS q1 (rootL l1) (1, 1, [([97], [49], ())], someN l1 0 1, ()) = 0 := by
  unfold admS existS
  rw [if_pos (by decide), if_neg (by decide), if_neg (by decide), if_pos (by rfl)]
  dsimp only
  rw [hs, hp]; rfl
 have a2 := admCheck_eq q1 (rootL l1) (1, 1, [([97], [50], ())], someN l1 0 1, ()) ok (by simp)
 have b2 : admS q1 (rootL l1) (1, 1, [([97], [50], ())], someN l1 0 1, ()) = 2 := by
  unfold admS existS
  rw [if_pos (by decide), if_neg (by decide), if_neg (by decide), if_pos (by rfl)]
  dsimp only
  rw [hs, hp]; rfl
 have a3 := admCheck_eq q1 (rootL l1) (0, 0, [], ((0 : Int), (0 : Int), [], [], ()), ()) ⟨by simp, by simp, by simp⟩ (by simp)
 have b3 : admS q1 (rootL l1) (0, 0, [], ((0 : Int), (0 : Int), [], [], ()), ()) = 1 := by
  unfold admS
  rw [if_neg (by decide)]
 rw [b1] at a1; rw [b2] at a2; rw [b3] at a3
 unfold affiantlaw17_AdmitRuns
 show andThen (affiantref16_Answer 1 q1 1 l1) (fun u1 => andThen (store_Root l1) (fun u3 => andThen (admit_Check q1 u3 u1) (fun u5 => fork (decide (u5 = 0)) (andThen (store_Root l1) (fun u8 => andThen (admit_Check q1 u8 (u1.1, u1.2.1, [([97], [50], ())], u1.2.2.2.1, ())) (fun u10 => fork (decide (u10 = 2)) (andThen (store_Root l1) (fun u13 => andThen (admit_Check q1 u13 (0, 0, [], ((0 : Int), (0 : Int), [], [], ()), ())) (fun u15 => some (decide (u15 = 1))))) none))) none))) = _
 rw [ea, andThen_mk, stroot_eq l1 hk, andThen_mk, a1, andThen_mk, fork_t rfl, andThen_mk]
 dsimp only
 rw [a2, andThen_mk, fork_t (by rfl), andThen_mk, a3, andThen_mk]
 rfl
end Go.Ax.V
