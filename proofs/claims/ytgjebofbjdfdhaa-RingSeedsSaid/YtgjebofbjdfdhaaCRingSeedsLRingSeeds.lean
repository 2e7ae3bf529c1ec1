/-
  Chapter 5: the identity is the root of sixteen one-time keys; a signature opens the key of its own height.
-/
import Derived.Test.YtgjebofbjdfdhaaCRingSeedsLRingRuns
import Derived.Test.YtgjebofbjdfdhaaCRingSeedsLSameH
import Derived.Test.YtgjebofbjdfdhaaCRingSeedsLWithin
namespace Go.Ax.V
open Go.Ax
set_option linter.unusedVariables false
set_option linter.unusedSimpArgs false

theorem seeds_1 (c : Int) (seed : List UInt8) (hs : seed.length = 32) : affiantlaw5_RingSeeds_1 c 1 seed [] = some (c, seed, keysS seed) := by
  unfold affiantlaw5_RingSeeds_1
  have := loop_for (step := fun (s : Int × List (List UInt8)) => affiantlaw5_RingSeeds_1_step c s.1 seed s.2) (fun i (_ : Unit) => (((i + 1 : Nat) : Int), keysN seed i)) (fun _ _ => ()) (fun _ => (c, seed, keysS seed)) 16 (fun _ _ => True) (fun i w hi _ => ⟨?_, trivial⟩) (fun w _ => ?_) 16 0 () (by omega) trivial
  · exact this
  · show affiantlaw5_RingSeeds_1_step c ((i + 1 : Nat) : Int) seed (keysN seed i) = _
    unfold affiantlaw5_RingSeeds_1_step
    have hl := keysN_len seed i
    have hk := KeyS_len (seedS seed (i + 1))
    rw [fork_t (by omega), Seed_eq seed hs, andThen_mk, Key_eq _ (seedS_len _ _), andThen_mk, need_true (by simp; omega), need_true (by simp; omega), w64_eq (by omega) (by omega)]
    unfold keysN
    rw [mapRange]
    rfl
  · show affiantlaw5_RingSeeds_1_step c 17 seed (keysN seed 16) = _
    unfold affiantlaw5_RingSeeds_1_step
    rw [fork_f (by omega)]
    rfl
theorem law_RingSeeds (y0 : List UInt8) (y1 : Int) (w0 : Wf (.arr 32 (.int .u8)) y0) (w1 : Wf (.int .i64) y1) : affiantlaw5_RingSeeds y0 y1 = some true := by
  unfold affiantlaw5_RingSeeds
  have hs : y0.length = 32 := w0.1
  obtain ⟨k, e1, k1, k2⟩ := within_eq y1 1 16 (by omega) (by omega) (by omega)
  obtain ⟨p0, p1, _⟩ := path16 y0 k k1 k2
  have hd : tree_Depth (k - 1) 16 = some 4 := by
    rw [depth_eq (k - 1) 16 (by omega), if_pos ((isS_iff _ _).2 (by omega)), show (16 : Int).toNat = 16 from rfl, sides16 _ (by omega)]
    rfl
  rw [seeds_1 y1 y0 hs, andThen_mk]
  simp only
  rw [e1, andThen_mk, Sign_eq y0 [109] hs k k1 k2 (by simp), andThen_mk, Ident_eq y0 hs, andThen_mk, root_eq _ (by rw [keysS_len]; omega) (keysS_small y0), andThen_mk, show rootS (keysS y0) = identS y0 from rfl, beq_hash, fork_tt, w64_eq (by omega) (by omega), path_eq _ _ (by rw [keysS_len]; omega) (keysS_small y0), andThen_mk]
  show andThen (affiantbook_Same_Hash (pathS (keysS y0) (k - 1)) (pathS (keysS y0) (k - 1))) _ = _
  rw [sameH_refl _ (by omega), andThen_mk, fork_tt, hd, andThen_mk, fork_t (show (((sigS y0 k [109]).2.2.1).length : Int) = 4 from by show ((pathS (keysS y0) (k - 1)).length : Int) = 4; omega), law_RingRuns]
  rfl
end Go.Ax.V
