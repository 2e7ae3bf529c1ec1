/-
  The document's rings.
-/
import Derived.Test.YtcfaippbnmmelaaCLightTrustLRing
import Derived.Test.YtcfaippbnmmelaaCLightTrustLRWho
import Derived.Test.YtcfaippbnmmelaaCLightTrustLRTree
namespace Go.Ax.V
open Go.Ax
set_option linter.unusedVariables false
set_option linter.unusedSimpArgs false
theorem rSeed_eq (seed : List UInt8) (hs : seed.length = 32) (h : Nat) : affiantref1_seedOf seed (h : Int) = some (seedS seed h) := by
 unfold affiantref1_seedOf
 have hf : [seed, [UInt8.ofNat (Int.toNat ((h : Int) % 256))]].flatten = seed ++ [UInt8.ofNat h] := by
  rw [u8_ofInt]; simp
 rw [rtagged_eq _ _ (by rw [hf]; simp; omega) (by simp), hf]
 rfl
theorem rKeys_eq (seed : List UInt8) (hs : seed.length = 32) : affiantref1_Keys seed = some (keysS seed) := by
 have main : affiantref1_Keys_1 1 seed [] = some (keysS seed) := by
  unfold affiantref1_Keys_1
  have := loop_for (step := fun (s : Int × List (List UInt8)) => affiantref1_Keys_1_step s.1 seed s.2) (fun i (_ : Unit) => (((i + 1 : Nat) : Int), keysN seed i)) (fun _ _ => ()) (fun _ => keysS seed) 16 (fun _ _ => True) (fun i w hi _ => ⟨?_, trivial⟩) (fun w _ => ?_) 16 0 () (by omega) trivial
  ·exact this
  ·show affiantref1_Keys_1_step ((i + 1 : Nat) : Int) seed (keysN seed i) = _
   unfold affiantref1_Keys_1_step
   have hl := keysN_len seed i
   rw [fork_t (by omega), rSeed_eq seed hs, andThen_mk, rKey_eq _ (seedS_len _ _), andThen_mk, need_true (by simp; omega), w64_eq (by omega) (by omega)]
   unfold keysN
   rw [mapRange]
   rfl
  ·show affiantref1_Keys_1_step 17 seed (keysN seed 16) = _
   unfold affiantref1_Keys_1_step
   rw [fork_f (by omega)]
   rfl
 unfold affiantref1_Keys
 rw [main]
 rfl
theorem rBy_eq (keys : List (List UInt8)) (hk : keys.length < 64) (hks : Small keys) (seed m : List UInt8) (hs : seed.length = 32) (h : Int) (h1 : 1 ≤ h) (h2 : h ≤ 16) (hm : m.length ≤ 100000) : affiantref1_By keys seed h m = some (byS keys seed h m) := by
 obtain ⟨k, rfl⟩ := Int.eq_ofNat_of_zero_le (show 0 ≤ h by omega)
 unfold affiantref1_By byS
 rw [rSeed_eq seed hs, andThen_mk, rsign_eq _ m (seedS_len _ _) hm, andThen_mk, w64_eq (by omega) (by omega), rpath_eq keys _ hk hks, andThen_mk, Int.toNat_natCast]
theorem rSealed_eq (seed m : List UInt8) (hs : seed.length = 32) (h : Int) (h1 : 1 ≤ h) (h2 : h ≤ 16) (hm : m.length ≤ 100000) : affiantref1_Sealed seed h m = some (sigS seed h m) := by
 unfold affiantref1_Sealed
 rw [rKeys_eq seed hs, andThen_mk, rBy_eq _ (by rw [keysS_len]; omega) (keysS_small seed) seed m hs h h1 h2 hm]
 rfl
theorem rVer_eq (id : List UInt8) (j : Int) (m : List UInt8) (hm : m.length ≤ 100000) (s : Sig) (hs : SigOk s) : affiantref1_Verify id j m s = some (verS id j m s) := by
 obtain ⟨s1, s2, s3, s4⟩ := hs
 unfold affiantref1_Verify verS
 rw [rwho_eq m hm s.2.1 s1 s2, andThen_mk]
 cases hw : (whoS m s.2.1).2 with
 | false => rw [Bool.false_and, Bool.and_false, Bool.and_false]; rfl
 | true =>
  rw [show (!true) = false from rfl, fork_ff, Bool.true_and]
  by_cases c : s.1 = j
  ·rw [fork_nt c, decide_eq_true c, Bool.true_and]
   by_cases c1 : j < 1
   ·rw [fork_t c1, isH_f (.inl c1), Bool.false_and]
   ·by_cases c2 : 16 < j
    ·rw [fork_f c1, fork_t c2, isH_f (.inr c2), Bool.false_and]
    ·obtain ⟨x, x1, x2, _⟩ := rup_eq (whoS m s.2.1).1 (by rw [whoS_len]; omega) (j - 1) 16 (by omega) s.2.2.1 s3 s4
     rw [fork_f c1, fork_f c2, isH_t (by omega) (by omega), Bool.true_and, w64_eq (by omega) (by omega), x1, andThen_mk]
     cases hu : (upS (whoS m s.2.1).1 (j - 1) 16 s.2.2.1).2 with
     | false => rfl
     | true => rw [x2 hu]; rfl
  ·rw [fork_nf c, decide_eq_false c, Bool.false_and, Bool.and_false]
end Go.Ax.V
