/-
  Chapter 12's runs.
-/
import Derived.Test.YtcfaippbnmmelaaCLightOrderLRinged
namespace Go.Ax.V
open Go.Ax
set_option linter.unusedVariables false
set_option linter.unusedSimpArgs false
theorem two_set : ringS [1, 0] = [mkRing (pw [1, 0]) 0, mkRing (pw [1, 0]) 1] := rfl
theorem two_p0 : pw [1, 0] 0 = 2 := by kernel_rfl
theorem two_p1 : pw [1, 0] 1 = 1 := by kernel_rfl
theorem law_SealRuns : affiantlaw12_SealRuns = some true := by
 unfold affiantlaw12_SealRuns
 generalize hz : ((2 : Int), (0 : Int), (List.replicate 32 (0 : UInt8)), (List.replicate 32 (0 : UInt8)), (List.replicate 32 (0 : UInt8)), (List.replicate 32 (0 : UInt8)), ()) = h
 have hh : Hashes h := by rw [← hz]; exact ⟨by simp, by simp, by simp, by simp⟩
 have hx : h.1 = 2 := by rw [← hz]
 have h1 : 1 ≤ h.1 := by omega
 have h2 : h.1 ≤ 16 := by omega
 have k0 := keepSeed_eq 0
 have k1 := keepSeed_eq 1
 rw [show ((0 : Nat) : Int) = 0 from rfl] at k0
 rw [show ((1 : Nat) : Int) = 1 from rfl] at k1
 have hset := ringS_small [1, 0]
 have hd := ringS_dist [1, 0]
 rw [ringed_eq [1, 0] (by simp), andThen_mk, k0, andThen_mk, sealSign_eq h hh h1 h2 _ _ (seedK_len 0), andThen_mk, k1, andThen_mk, sealSign_eq h hh h1 h2 _ _ (seedK_len 1), andThen_mk]
 have g0 : goodS (ringS [1, 0]) h.1 (textS h) (sgS h [118, 97] (seedK 0)) = true := good_own _ hd h h1 h2 (mkRing (pw [1, 0]) 0) (ringS_mem (by decide)) _ rfl
 have g1 : goodS (ringS [1, 0]) h.1 (textS h) (sgS h [118, 98] (seedK 1)) = true := good_own _ hd h h1 h2 (mkRing (pw [1, 0]) 1) (ringS_mem (by decide)) _ rfl
 have o0 := sgS_ok h h1 h2 [118, 97] (seedK 0)
 have o1 := sgS_ok h h1 h2 [118, 98] (seedK 1)
 have n0 : (sgS h [118, 97] (seedK 0)).1 = [118, 97] := rfl
 have n1 : (sgS h [118, 98] (seedK 1)).1 = [118, 98] := rfl
 generalize sgS h [118, 97] (seedK 0) = a at *
 generalize sgS h [118, 98] (seedK 1) = b at *
 have ra : rightSg [a] = true := by unfold rightSg incS nmsS; rw [List.map_cons, n0]; rfl
 have rb : rightSg [b] = true := by unfold rightSg incS nmsS; rw [List.map_cons, n1]; rfl
 have rab : rightSg [a, b] = true := by unfold rightSg incS nmsS; rw [List.map_cons, List.map_cons, n0, n1]; rfl
 have na : namesS (ringS [1, 0]) h [a] = [[118, 97]] := by unfold namesS namesF; rw [if_pos ra, List.filter_cons_of_pos g0, List.filter_nil, List.map_cons, n0, List.map_nil]
 have nb : namesS (ringS [1, 0]) h [b] = [[118, 98]] := by unfold namesS namesF; rw [if_pos rb, List.filter_cons_of_pos g1, List.filter_nil, List.map_cons, n1, List.map_nil]
 have nab : namesS (ringS [1, 0]) h [a, b] = [[118, 97], [118, 98]] := by unfold namesS namesF; rw [if_pos rab, List.filter_cons_of_pos g0, List.filter_cons_of_pos g1, List.filter_nil, List.map_cons, List.map_cons, n0, n1, List.map_nil]
 have al : allS (ringS [1, 0]) = 3 := by unfold allS; rw [two_set, pow_cons, pow_cons, pow_nil, if_pos rfl, if_pos rfl]; show pw [1, 0] 0 + (pw [1, 0] 1 + 0) = 3; rw [two_p0, two_p1]; rfl
 have pa : partS (ringS [1, 0]) h [a] = 2 := by unfold partS; rw [na, two_set, pow_cons, pow_cons, pow_nil, if_pos (by show ([[118, 97]] : List (List UInt8)).contains [118, 97] = true; decide), if_neg (by show ¬ ([[118, 97]] : List (List UInt8)).contains [118, 98] = true; decide)]; show pw [1, 0] 0 + (0 + 0) = 2; rw [two_p0]; rfl
 have pb : partS (ringS [1, 0]) h [b] = 1 := by unfold partS; rw [nb, two_set, pow_cons, pow_cons, pow_nil, if_neg (by show ¬ ([[118, 98]] : List (List UInt8)).contains [118, 97] = true; decide), if_pos (by show ([[118, 98]] : List (List UInt8)).contains [118, 98] = true; decide)]; show 0 + (pw [1, 0] 1 + 0) = 1; rw [two_p1]; rfl
 have pab : partS (ringS [1, 0]) h [a, b] = 3 := by unfold partS; rw [nab, two_set, pow_cons, pow_cons, pow_nil, if_pos (by show ([[118, 97], [118, 98]] : List (List UInt8)).contains [118, 97] = true; decide), if_pos (by show ([[118, 97], [118, 98]] : List (List UInt8)).contains [118, 98] = true; decide)]; show pw [1, 0] 0 + (pw [1, 0] 1 + 0) = 3; rw [two_p0, two_p1]; rfl
 have sa : SgOk [a] := by intro x hx; simp at hx; rw [hx]; exact o0
 have sb : SgOk [b] := by intro x hx; simp at hx; rw [hx]; exact o1
 have sab : SgOk [a, b] := by
  intro x hx
  simp only [List.mem_cons, List.not_mem_nil, or_false] at hx
  rcases hx with rfl | rfl
  ·exact o0
  ·exact o1
 rw [need_true (by simp), show cutL [a, b] 0 1 = [a] from rfl, enough_eq _ hset h hh [a] (by simp) sa, andThen_mk, al, pa, enough_eq _ hset h hh [a, b] (by simp) sab, al, pab]
 rw [fork_nf (by omega), andThen_mk, fork_t (by omega), some_eq _ hset h hh [a] (by simp) sa, al, pa, andThen_mk, fork_t (by omega), need_true (by simp), show cutL [a, b] 1 (([a, b] : List Signed).length : Int) = [b] from rfl, some_eq _ hset h hh [b] (by simp) sb, al, pb, andThen_mk, fork_nf (by omega)]
 rfl
end Go.Ax.V
