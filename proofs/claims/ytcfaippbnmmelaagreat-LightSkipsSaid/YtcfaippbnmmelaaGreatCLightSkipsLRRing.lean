/-
  The document's rings.
-/
import Derived.Test.YtcfaippbnmmelaaGreatCLightSkipsLRing
import Derived.Test.YtcfaippbnmmelaaGreatCLightSkipsLRWho
import Derived.Test.YtcfaippbnmmelaaGreatCLightSkipsLRTree
namespace Go.Ax.V
open Go.Ax
set_option linter.unusedVariables false
set_option linter.unusedSimpArgs false
theorem rSeed_eq (seed : List UInt8) (hs : seed.length = 32) (h : Nat) : q1c seed (h : Int) = some (seedS seed h) := by
 unfold q1c
 have hf : [seed, [UInt8.ofNat (Int.toNat ((h : Int) % 256))]].flatten = seed ++ [UInt8.ofNat h] := by
  rw [u8_ofInt]; simp
 rw [rtagged_eq _ _ (by rw [hf]; simp; omega) (by simp), hf]
 rfl
theorem rKeys_eq (seed : List UInt8) (hs : seed.length = 32) : q1o seed = some (keysS seed) := by
 have main : q1o_1 1 seed [] = some (keysS seed) := by
  unfold q1o_1
  have := loop_for (step := fun (s : Int × List (List UInt8)) => q1o_1_step s.1 seed s.2) (fun i (_ : Unit) => (((i + 1 : Nat) : Int), keysN seed i)) (fun _ _ => ()) (fun _ => keysS seed) 16 (fun _ _ => True) (fun i w hi _ => ⟨?_, trivial⟩) (fun w _ => ?_) 16 0 () (by omega) trivial
  ·exact this
  ·show q1o_1_step ((i + 1 : Nat) : Int) seed (keysN seed i) = _
   unfold q1o_1_step
   have hl := keysN_len seed i
   rw [fork_t (by omega), rSeed_eq seed hs, andThen_mk, rKey_eq _ (seedS_len _ _), andThen_mk, need_true (by simp; omega), w64_eq (by omega) (by omega)]
   unfold keysN
   rw [mapRange]
   rfl
  ·show q1o_1_step 17 seed (keysN seed 16) = _
   unfold q1o_1_step
   rw [fork_f (by omega)]
   rfl
 unfold q1o
 rw [main]
 rfl
theorem rBy_eq (keys : List (List UInt8)) (hk : keys.length < 64) (hks : Small keys) (seed m : List UInt8) (hs : seed.length = 32) (h : Int) (h1 : 1 ≤ h) (h2 : h ≤ 16) (hm : m.length ≤ 100000) : q26 keys seed h m = some (byS keys seed h m) := by
 obtain ⟨k, rfl⟩ := Int.eq_ofNat_of_zero_le (show 0 ≤ h by omega)
 unfold q26 byS
 rw [rSeed_eq seed hs, andThen_mk, rsign_eq _ m (seedS_len _ _) hm, andThen_mk, w64_eq (by omega) (by omega), rpath_eq keys _ hk hks, andThen_mk, Int.toNat_natCast]
theorem rSealed_eq (seed m : List UInt8) (hs : seed.length = 32) (h : Int) (h1 : 1 ≤ h) (h2 : h ≤ 16) (hm : m.length ≤ 100000) : q1d seed h m = some (sigS seed h m) := by
 unfold q1d
 rw [rKeys_eq seed hs, andThen_mk, rBy_eq _ (by rw [keysS_len]; omega) (keysS_small seed) seed m hs h h1 h2 hm]
 rfl
end Go.Ax.V
