/-
  The document's headers in bytes.
-/
import Derived.Test.YtmgmncfhldelfaaCAdmitTellsLHead
import Derived.Test.YtmgmncfhldelfaaCAdmitTellsLTag
import Derived.Test.YtmgmncfhldelfaaCAdmitTellsLRTag
namespace Go.Ax.V
open Go.Ax
set_option linter.unusedVariables false
set_option linter.unusedSimpArgs false
theorem rput_loop : ∀ (f k n : Nat), n < 128 ^ (f + 1) → f < k → f ≤ 100 → n ≤ 1099511627775 → affiantref1_Put_f k (n : Int) = some (putF f n)
 | f, 0, n, h, hk, hf, hn => by omega
 | f, k + 1, n, h, hk, hf, hn => by
  rw [affiantref1_Put_f, fork_f (by omega), fork_f (by omega)]
  by_cases h1 : n < 128
  ·rw [fork_t (by omega), putF_small h1 f, u8_ofInt]
  ·rw [fork_f (by omega)]
   cases f with
   | zero => simp at h; omega
   | succ f =>
    have hd : n / 128 < 128 ^ (f + 1) := by
     rw [Nat.div_lt_iff_lt_mul (by omega)]
     have : 128 ^ (f + 1 + 1) = 128 ^ (f + 1) * 128 := Nat.pow_succ ..
     omega
    rw [show Int.toNat 7 = 7 from rfl, ishr_nat n 7 (by omega), show n / 2 ^ 7 = n / 128 from rfl, rput_loop f k (n / 128) hd (by omega) (by omega) (by omega), andThen_mk, band127 n (by omega), bor128 _ (by omega), u8_ofInt]
    have := putF_len f (n / 128)
    rw [need_true (by simp; omega), putF, if_neg h1]; rfl
theorem rput_eq (n : Int) : affiantref1_Put n = some (oneS n) := by
 unfold affiantref1_Put oneS
 by_cases h0 : n < 0
 ·rw [affiantref1_Put_f, fork_t h0, if_neg (by omega)]
 ·by_cases h1 : 1099511627775 < n
  ·rw [affiantref1_Put_f, fork_f h0, fork_t h1, if_neg (by omega)]
  ·rw [if_pos (by omega)]
   obtain ⟨k, rfl⟩ := Int.eq_ofNat_of_zero_le (show 0 ≤ n by omega)
   exact rput_loop 6 64 k (by omega) (by omega) (by omega) (by omega)
end Go.Ax.V
