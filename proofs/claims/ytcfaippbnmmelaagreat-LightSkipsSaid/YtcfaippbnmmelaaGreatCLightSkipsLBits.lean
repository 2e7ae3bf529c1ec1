/-
  Operators on bits, as numbers.
-/
import Derived.Test.YtcfaippbnmmelaaGreatCLightSkipsLLp
namespace Go.Ax.V
open Go.Ax
set_option linter.unusedVariables false
set_option linter.unusedSimpArgs false
theorem ofInt_nat (a : Nat) : (BitVec.ofInt 64 (a : Int)).toNat = a % 18446744073709551616 := by
 rw [BitVec.toNat_ofInt]; omega
theorem band_nat (a b : Nat) (ha : a < 9223372036854775808) (hb : b < 9223372036854775808) : band (a : Int) (b : Int) = ((a &&& b : Nat) : Int) := by
 unfold band
 have hle : a &&& b ≤ a := Nat.and_le_left
 rw [BitVec.toNat_and, ofInt_nat, ofInt_nat, Nat.mod_eq_of_lt (by omega), Nat.mod_eq_of_lt (by omega)]
 exact w64_eq (by omega) (by omega)
theorem bor_nat (a b : Nat) (h : (a ||| b) < 9223372036854775808) : bor (a : Int) (b : Int) = ((a ||| b : Nat) : Int) := by
 unfold bor
 have h1 : a ≤ a ||| b := Nat.left_le_or
 have h2 : b ≤ a ||| b := Nat.right_le_or
 rw [BitVec.toNat_or, ofInt_nat, ofInt_nat, Nat.mod_eq_of_lt (by omega), Nat.mod_eq_of_lt (by omega)]
 exact w64_eq (by omega) (by omega)
theorem band127 (a : Nat) (ha : a < 9223372036854775808) : band (a : Int) 127 = ((a % 128 : Nat) : Int) := by
 rw [show (127 : Int) = ((127 : Nat) : Int) from rfl, band_nat a 127 ha (by omega), show (127 : Nat) = 2 ^ 7 - 1 from rfl, Nat.and_two_pow_sub_one_eq_mod]
theorem or_high (a c k : Nat) (h : a < 2 ^ k) : a ||| (c * 2 ^ k) = a + c * 2 ^ k := by
 rw [Nat.or_comm, ← Nat.shiftLeft_eq, ← Nat.shiftLeft_add_eq_or_of_lt h, Nat.add_comm]
theorem bor128 (a : Nat) (h : a < 128) : bor (a : Int) 128 = ((a + 128 : Nat) : Int) := by
 have e := or_high a 1 7 h
 rw [show (128 : Int) = ((128 : Nat) : Int) from rfl, bor_nat a 128 (by simp only [Nat.one_mul] at e; rw [show (128 : Nat) = 2 ^ 7 from rfl, e]; omega)]
 simp only [Nat.one_mul] at e
 rw [show (128 : Nat) = 2 ^ 7 from rfl, e]
theorem ishr_nat (a k : Nat) (hk : k ≤ 64) : ishr (a : Int) k = ((a / 2 ^ k : Nat) : Int) := by
 unfold ishr
 rw [Nat.min_eq_left hk, Int.fdiv_eq_ediv_of_nonneg _ (by exact_mod_cast Nat.zero_le _)]
 exact_mod_cast rfl
theorem u8_ofInt (a : Nat) : UInt8.ofNat (Int.toNat ((a : Int) % 256)) = UInt8.ofNat a := by
 rw [show Int.toNat ((a : Int) % 256) = a % 256 from by omega]
 apply UInt8.toNat_inj.1
 simp
end Go.Ax.V
