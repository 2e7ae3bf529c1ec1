/-
  The document's trees.
-/
import Derived.Test.YtcfaippbnmmelaaGreatCLightSkipsLTree2
import Derived.Test.YtcfaippbnmmelaaGreatCLightSkipsLRTag
namespace Go.Ax.V
open Go.Ax
set_option linter.unusedVariables false
set_option linter.unusedSimpArgs false
theorem half_loop : ∀ (f k n : Nat), n ≤ 2 * k * 2 ^ f → 1 ≤ k → n ≤ 1073741824 → k ≤ 1073741824 → q1r_1 (n : Int) (k : Int) = some ((leftF f k n : Nat) : Int)
 | 0, k, n, h, h1, h2, hk => by
  unfold q1r_1
  refine loop_out ?_
  unfold q1r_1_step
  simp only [Nat.pow_zero, Nat.mul_one] at h
  rw [w64_eq (by omega) (by omega), fork_f (by omega)]
  rfl
 | f + 1, k, n, h, h1, h2, hk => by
  rw [leftF]
  split
  ·rename_i hlt
   rw [← half_loop f (2 * k) n (by rw [Nat.pow_succ] at h; rw [pow_help]; exact h) (by omega) h2 (by omega)]
   have hs : q1r_1_step (n : Int) (k : Int) = some (.inl ((2 * k : Nat) : Int)) := by
    unfold q1r_1_step
    rw [w64_eq (by omega) (by omega), fork_t (by omega), show 2 * (k : Int) = ((2 * k : Nat) : Int) from by omega]
   unfold q1r_1
   rw [loop_next hs]
  ·rename_i hlt
   unfold q1r_1
   refine loop_out ?_
   unfold q1r_1_step
   rw [w64_eq (by omega) (by omega), fork_f (by omega)]
theorem half_eq (n : Nat) (h : n ≤ 1073741824) : q1r (n : Int) = some ((leftS n : Nat) : Int) := by
 unfold q1r
 rw [show (1 : Int) = ((1 : Nat) : Int) from rfl, half_loop 40 1 n (by omega) (by omega) h (by omega), andThen_mk]
 rfl
theorem rinner_eq (a b : List UInt8) (ha : a.length = 32) (hb : b.length = 32) : q1g 1 [a, b] = some (innerS a b) := by
 have hf : [a, b].flatten = a ++ b := by simp
 rw [rtagged_eq _ _ (by rw [hf, List.length_append]; omega) (by simp), hf]
 rfl
theorem rroot_f_eq : ∀ (k : Nat) (l : List (List UInt8)), l.length < k → l.length ≤ 1000 → Small l → q18 k l = some (rootS l)
 | 0, l, h, _, _ => by omega
 | k + 1, l, h, h2, hl => by
  rw [q18]
  match l, h, h2, hl with
  | [], h, h2, hl =>
   rw [fork_t (by simp), rtagged_eq _ _ (by simp) (by simp), rootS_none]; rfl
  | [x], h, h2, hl =>
   have hx := hl x (by simp)
   have hf : [List.getD [x] (Int.toNat (0 : Int)) []].flatten = x := by simp
   rw [fork_f (by simp), fork_t (by simp), need_true (by simp), rtagged_eq _ _ (by rw [hf]; omega) (by simp), hf, rootS_one]; rfl
  | x :: y :: r, h, h2, hl =>
   have hn : 2 ≤ (x :: y :: r).length := by simp
   generalize x :: y :: r = l at h h2 hl hn
   obtain ⟨b1, b2, b3⟩ := leftS_b l.length hn (by omega)
   rw [fork_f (by omega), fork_f (by omega), half_eq _ (by omega), andThen_mk, need_true (by omega), cut_to, cut_from, Int.toNat_natCast, rroot_f_eq k (l.take (leftS l.length)) (by rw [List.length_take]; omega) (by rw [List.length_take]; omega) (small_take hl _), andThen_mk, need_true (by omega),
    rroot_f_eq k (l.drop (leftS l.length)) (by rw [List.length_drop]; omega) (by rw [List.length_drop]; omega) (small_drop hl _), andThen_mk, rinner_eq _ _ (rootS_len _) (rootS_len _), andThen_mk, rootS_two l hn (by omega)]
theorem rroot_eq (l : List (List UInt8)) (h : l.length < 64) (hl : Small l) : q1p l = some (rootS l) := rroot_f_eq 64 l h (by omega) hl
theorem rpath_f_eq : ∀ (k : Nat) (l : List (List UInt8)) (i : Int), l.length < k → l.length < 64 → Small l → q1e k l i = some (if 0 ≤ i ∧ i < (l.length : Int) then pathF l.length l i.toNat else [])
 | 0, l, i, h, _, _ => by omega
 | k + 1, l, i, h, h2, hl => by
  rw [q1e]
  by_cases h0 : i < 0
  ·rw [fork_t h0, if_neg (by omega)]
  ·rw [fork_f h0]
   by_cases h1 : (l.length : Int) ≤ i
   ·rw [fork_t h1, if_neg (by omega)]
   ·rw [fork_f h1, if_pos (by omega)]
    by_cases h3 : l.length = 1
    ·rw [fork_t (by omega), h3, pathF, if_pos (by omega)]
    ·rw [fork_f (by omega), half_eq _ (by omega), andThen_mk]
     obtain ⟨b1, b2, b3⟩ := leftS_b l.length (by omega) (by omega)
     obtain ⟨q, hq⟩ : ∃ q, l.length = q + 1 := ⟨l.length - 1, by omega⟩
     have hp : pathF l.length l i.toNat = if i.toNat < leftS l.length then pathF q (l.take (leftS l.length)) i.toNat ++ [rootS (l.drop (leftS l.length))] else pathF q (l.drop (leftS l.length)) (i.toNat - leftS l.length) ++ [rootS (l.take (leftS l.length))] := by
      conv => lhs; rw [hq]
      rw [pathF, if_neg (by omega)]
     rw [hp]
     by_cases h4 : i.toNat < leftS l.length
     ·have lt : (l.take (leftS l.length)).length = leftS l.length := by rw [List.length_take]; omega
      have hpl := pathF_len q (l.take (leftS l.length)) i.toNat
      rw [if_pos h4, fork_t (by omega), need_true (by omega), cut_to, cut_from, Int.toNat_natCast, rpath_f_eq k (l.take (leftS l.length)) i (by omega) (by omega) (small_take hl _), andThen_mk, if_pos (by omega), need_true (by omega), rroot_eq _ (by rw [List.length_drop]; omega) (small_drop hl _), andThen_mk,
       pathF_fuel _ q _ _ (by omega) (by omega) (by omega), need_true (by simp; omega)]
     ·have ld : (l.drop (leftS l.length)).length = l.length - leftS l.length := by rw [List.length_drop]
      have hpl := pathF_len q (l.drop (leftS l.length)) (i.toNat - leftS l.length)
      rw [if_neg h4, fork_f (by omega), need_true (by omega), cut_to, cut_from, Int.toNat_natCast, w64_eq (by omega) (by omega), rpath_f_eq k (l.drop (leftS l.length)) (i - ((leftS l.length : Nat) : Int)) (by omega) (by omega) (small_drop hl _), andThen_mk, if_pos (by omega), need_true (by omega), rroot_eq _ (by rw [List.length_take]; omega) (small_take hl _), andThen_mk,
       show Int.toNat (i - ((leftS l.length : Nat) : Int)) = i.toNat - leftS l.length from by omega, pathF_fuel _ q _ _ (by omega) (by omega) (by omega), need_true (by simp; omega)]
theorem rpath_eq (l : List (List UInt8)) (i : Int) (h : l.length < 64) (hl : Small l) : q1w l i = some (pathS l i) := rpath_f_eq 64 l i h h hl
end Go.Ax.V
