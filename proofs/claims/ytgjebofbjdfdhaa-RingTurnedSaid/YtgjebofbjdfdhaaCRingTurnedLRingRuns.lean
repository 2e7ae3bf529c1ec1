/-
  Chapter 5's runs.
-/
import Derived.Test.YtgjebofbjdfdhaaCRingTurnedLRingA
import Derived.Test.YtgjebofbjdfdhaaCRingTurnedLRingB
namespace Go.Ax.V
open Go.Ax
set_option linter.unusedVariables false
set_option linter.unusedSimpArgs false
set_option maxRecDepth 100000

theorem law_RingRuns : affiantlaw5_RingRuns = some true := by
  unfold affiantlaw5_RingRuns
  rw [show List.set (List.replicate 32 (0 : UInt8)) 0 (7 : UInt8) = outN seedA from by kernel_rfl, show List.set (List.replicate 32 (0 : UInt8)) 0 (8 : UInt8) = outN seedB from by kernel_rfl]
  have ha : (outN seedA).length = 32 := by rw [outN_len]; rfl
  have hb : (outN seedB).length = 32 := by rw [outN_len]; rfl
  have h3 := sig_ok (outN seedA) 3 (by omega) (by omega) [120]
  rw [Sign_eq (outN seedA) [120] ha 3 (by omega) (by omega) (by simp), andThen_mk, Ident_eq _ ha, andThen_mk, Ver_eq _ _ _ (by simp) _ h3, ver_sig _ _ 3 (by omega) (by omega), andThen_mk, beq_hash, fork_tt, Ver_eq _ _ _ (by simp) _ h3, ver_off _ 4 _ _ (by show (3 : Int) ≠ 4; omega), andThen_mk, show (!false) = true from rfl, fork_tt,
    Ident_eq _ hb, andThen_mk, Ver_eq _ _ _ (by simp) _ h3, ver_sig _ _ 3 (by omega) (by omega), identA, identB, show Ty.beq (.arr 32 (.int .u8)) (outN rootA) (outN rootB) = false from by kernel_rfl, andThen_mk, show (!false) = true from rfl, fork_tt, Sign_none (outN seedA) [] ha 0 (by omega), andThen_mk]
  rfl
end Go.Ax.V
