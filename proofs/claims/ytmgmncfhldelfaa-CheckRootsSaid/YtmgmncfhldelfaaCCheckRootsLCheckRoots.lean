/-
  Chapter 9: a proof against another root shows nothing, but by a clash; an empty store shows that nothing is there.
-/
import Derived.Test.YtmgmncfhldelfaaCCheckRootsLCheckRuns
namespace Go.Ax.V
open Go.Ax
set_option linter.unusedVariables false
set_option linter.unusedSimpArgs false
theorem law_CheckRoots (y0 : List Int) (y1 : Int) (y2 : List UInt8) (w0 : Wf (.slice (.int .i64)) y0) (w1 : Wf (.int .i64) y1) (w2 : Wf (.arr 32 (.int .u8)) y2) : affiantlaw9_CheckRoots y0 y1 y2 = some true := by
 have e8 : tyBytes (.int .i64) = 8 := rfl
 have hp0 : y0.length ≤ 140737488355328 := by have := w0.1; rw [e8] at this; omega
 obtain ⟨l, el, hrow⟩ := pairs_eq y0 hp0
 obtain ⟨j, hj, ej⟩ := key_eq y1
 have hk := row_kv hrow
 have hrt := row_right hrow
 have hl := hrow.2.1
 have hxl := keys_b _ (getD_mem (z := []) (show j < keys12.length from hj))
 generalize keys12.getD j [] = x at ej hxl
 have k0 : KvOk ([] : List Pr) := ⟨by simp, by simp⟩
 have z0 : someN ([] : List Pr) 0 0 = ((0 : Int), (0 : Int), [], [], ()) := rfl
 have o0 := someN_ok [] k0 0 0 (by omega)
 have n0 : rightP ([] : List Pr) = true := rfl
 have s := some_eq l hk 0 (l.length : Int)
 rw [show (max (0 : Int) 0).toNat = 0 from rfl, show (min (l.length : Int) (l.length : Int)).toNat = l.length from by omega] at s
 have c1 := checkRange_eq (rootL []) x (x ++ [122]) _ o0
 rw [rangeS_some [] n0 _ _ 0 0 (by simp), if_pos (.inl rfl)] at c1
 have c2 := checkAbsent_eq (rootL []) x _ o0
 have ha : absS (rootL []) x (someN [] 0 0) = true := by
  unfold absS
  rw [rangeS_some [] n0 _ _ 0 0 (by simp), if_pos (.inl rfl)]; rfl
 rw [ha] at c2
 rw [z0] at c1 c2
 have ok := someN_ok l hk 0 l.length (by omega)
 have d1 := checkSound_eq y2 _ ok
 have d2 := checkSound_eq (rootL l) _ ok
 have hd2 : soundS (rootL l) (someN l 0 l.length) = true := by
  rw [rootL_self l hrt 0 l.length (Nat.le_refl _)]
  by_cases c : l.length = 0
  ·rw [decide_eq_true c]; rfl
  ·rw [decide_eq_true (show 0 < l.length by omega), Bool.or_true]
 have hd1 : soundS y2 (someN l 0 l.length) = hq y2 (rootL l) := by
  rw [sound_some y2 l hrt 0 l.length (Nat.le_refl _)]
  by_cases c : l.length = 0
  ·have : l = [] := List.length_eq_zero_iff.1 c
   subst this
   rw [if_pos c]
  ·rw [if_neg c, decide_eq_true (show 0 < l.length by omega), Bool.true_and, hq_comm]
 rw [hd1] at d1
 rw [hd2] at d2
 unfold affiantlaw9_CheckRoots
 rw [el, andThen_mk, ej, andThen_mk, s, andThen_mk, stroot_eq [] k0, andThen_mk, need_true (by simp only [List.length_cons, List.length_nil]; omega), c1, andThen_mk, d1, andThen_mk, stroot_eq l hk, andThen_mk]
 dsimp only
 rw [beq_self_eq_true, Bool.not_true, fork_ff, fork_tt, fork_t (by rfl), c2, andThen_mk, fork_tt, andThen_mk, d2, andThen_mk, fork_tt, law_CheckRuns]
 rfl
end Go.Ax.V
