/-
  Chapter 9's runs hold.
-/
import Derived.Test.YtmgmncfhldelfaaCCheckWholeLProveRuns
import Derived.Test.YtmgmncfhldelfaaCCheckWholeLCheck
namespace Go.Ax.V
open Go.Ax
set_option linter.unusedVariables false
set_option linter.unusedSimpArgs false
theorem l3_right : rightP l3 = true := by decide
theorem law_CheckRuns : affiantlaw9_CheckRuns = some true := by
 have r := range_eq l3 l3_kv l3_rise [98] [100]
 rw [show belowN l3 [98] = 1 from by decide, show belowN l3 (maxS [98] [100]) = 2 from by decide, show min (2 + 1) l3.length = 3 from rfl, show (1 : Nat) - 1 = 0 from rfl] at r
 have s := some_eq l3 l3_kv 0 2
 rw [show (max (0 : Int) 0).toNat = 0 from rfl, show (min (2 : Int) (l3.length : Int)).toNat = 2 from rfl] at s
 have c1 := checkRange_eq (rootL l3) [98] [100] _ (someN_ok l3 l3_kv 0 3 (by omega))
 rw [rangeS_some l3 l3_right _ _ 0 3 (by decide), if_pos (.inr ⟨by omega, .inl rfl, .inl rfl⟩)] at c1
 have c2 := checkRange_eq (rootL l3) [98] [100] _ (someN_ok l3 l3_kv 0 2 (by omega))
 rw [rangeS_some l3 l3_right _ _ 0 2 (by decide), if_neg (by decide)] at c2
 have c3 := checkAbsent_eq (rootL l3) [98] _ (someN_ok l3 l3_kv 0 2 (by omega))
 have ha : absS (rootL l3) [98] (someN l3 0 2) = true := by
  unfold absS
  rw [rangeS_some l3 l3_right _ _ 0 2 (by decide), if_pos (by decide), someN_parts l3 (by decide)]
  decide
 rw [ha] at c3
 have hf : rangeF l3 [98] [100] = [([99], [], ())] := by decide
 rw [hf] at c1
 unfold affiantlaw9_CheckRuns
 show andThen (store_Root l3) (fun u1 => andThen (prove_Range l3 [98] [100]) (fun u3 => andThen (check_Range u1 [98] [100] u3) (fun u5 => andThen (prove_Some l3 0 2) (fun u7 => andThen (check_Range u1 [98] [100] u7) (fun u9 => _))))) = _
 rw [stroot_eq l3 l3_kv, andThen_mk, r, andThen_mk, c1, andThen_mk, s, andThen_mk, c2, andThen_mk]
 dsimp only
 rw [fork_tt, fork_t (by rfl), need_true (by decide), fork_t (by rfl), Bool.not_false, fork_tt]
 show andThen (prove_Some l3 0 2) _ = _
 rw [s, andThen_mk, c3, andThen_mk]
end Go.Ax.V
