/-
  Trees: roots, sides, depths.
-/
import Derived.Test.YtcfaippbnmmelaaGreatCLightSkipsLTag
namespace Go.Ax.V
open Go.Ax
set_option linter.unusedVariables false
set_option linter.unusedSimpArgs false
def leftF : Nat → Nat → Nat → Nat
 | 0, k, n => k
 | f + 1, k, n => if 2 * k < n then leftF f (2 * k) n else k
def leftS (n : Nat) : Nat := leftF 40 1 n
theorem pow_help (k f : Nat) : 2 * (2 * k) * 2 ^ f = 2 * k * (2 ^ f * 2) := by
 rw [Nat.mul_comm (2 ^ f) 2, ← Nat.mul_assoc (2 * k) 2 (2 ^ f)]; congr 1; omega
theorem leftF_b : ∀ (f k n : Nat), 1 ≤ k → k < n → n ≤ 2 * k * 2 ^ f → k ≤ leftF f k n ∧ leftF f k n < n ∧ n ≤ 2 * leftF f k n
 | 0, k, n, h1, h2, h3 => by
  simp only [Nat.pow_zero, Nat.mul_one] at h3
  exact ⟨Nat.le_refl _, h2, h3⟩
 | f + 1, k, n, h1, h2, h3 => by
  rw [leftF]
  split
  ·rename_i h
   have := leftF_b f (2 * k) n (by omega) h (by rw [Nat.pow_succ] at h3; rw [pow_help]; exact h3)
   exact ⟨by omega, this.2⟩
  ·exact ⟨Nat.le_refl _, h2, by omega⟩
theorem leftS_b (n : Nat) (h : 2 ≤ n) (h2 : n ≤ 1099511627776) : 1 ≤ leftS n ∧ leftS n < n ∧ n ≤ 2 * leftS n := leftF_b 40 1 n (by omega) (by omega) (by omega)
theorem left_loop : ∀ (f k n : Nat), n ≤ 2 * k * 2 ^ f → 1 ≤ k → n ≤ 1073741824 → k ≤ 1073741824 → q35_1 (n : Int) (k : Int) = some ((leftF f k n : Nat) : Int)
 | 0, k, n, h, h1, h2, hk => by
  unfold q35_1
  refine loop_out ?_
  unfold q35_1_step
  simp only [Nat.pow_zero, Nat.mul_one] at h
  rw [w64_eq (by omega) (by omega), fork_f (by omega)]
  rfl
 | f + 1, k, n, h, h1, h2, hk => by
  rw [leftF]
  split
  ·rename_i hlt
   rw [← left_loop f (2 * k) n (by rw [Nat.pow_succ] at h; rw [pow_help]; exact h) (by omega) h2 (by omega)]
   have hs : q35_1_step (n : Int) (k : Int) = some (.inl ((2 * k : Nat) : Int)) := by
    unfold q35_1_step
    rw [w64_eq (by omega) (by omega), w64_eq (by omega) (by omega), fork_t (by omega), show (k : Int) * 2 = ((2 * k : Nat) : Int) from by omega]
   unfold q35_1
   rw [loop_next hs]
  ·rename_i hlt
   unfold q35_1
   refine loop_out ?_
   unfold q35_1_step
   rw [w64_eq (by omega) (by omega), fork_f (by omega)]
theorem left_eq (n : Nat) (h : n ≤ 1073741824) : q35 (n : Int) = some ((leftS n : Nat) : Int) := by
 unfold q35
 rw [show (1 : Int) = ((1 : Nat) : Int) from rfl, left_loop 40 1 n (by omega) (by omega) h (by omega), andThen_mk]
 rfl
def rootW (l : List (List UInt8)) : List UInt8 :=
 if h : 2 ≤ l.length ∧ l.length ≤ 1099511627776 then sha (1 :: (rootW (l.take (leftS l.length)) ++ rootW (l.drop (leftS l.length))))
 else if l.length = 0 then sha [2] else sha (0 :: l.getD 0 [])
termination_by l.length
decreasing_by
 ·have := leftS_b l.length h.1 h.2; simp; omega
 ·have := leftS_b l.length h.1 h.2; simp; omega
theorem rootS_ex : ∃ f : List (List UInt8) → List UInt8, ∀ l, f l = if h : 2 ≤ l.length ∧ l.length ≤ 1099511627776 then sha (1 :: (f (l.take (leftS l.length)) ++ f (l.drop (leftS l.length)))) else if l.length = 0 then sha [2] else sha (0 :: l.getD 0 []) :=
 ⟨rootW, fun l => by rw [rootW]⟩
noncomputable def rootS : List (List UInt8) → List UInt8 := Classical.choose rootS_ex
theorem rootS_eq (l : List (List UInt8)) : rootS l = if h : 2 ≤ l.length ∧ l.length ≤ 1099511627776 then sha (1 :: (rootS (l.take (leftS l.length)) ++ rootS (l.drop (leftS l.length)))) else if l.length = 0 then sha [2] else sha (0 :: l.getD 0 []) := Classical.choose_spec rootS_ex l
theorem rootS_len (l : List (List UInt8)) : (rootS l).length = 32 := by
 rw [rootS_eq]; split
 ·exact sha_len _
 ·split <;> exact sha_len _
def innerS (a b : List UInt8) : List UInt8 := sha (1 :: (a ++ b))
def leafS (x : List UInt8) : List UInt8 := sha (0 :: x)
theorem rootS_two (l : List (List UInt8)) (h : 2 ≤ l.length) (h2 : l.length ≤ 1099511627776) : rootS l = innerS (rootS (l.take (leftS l.length))) (rootS (l.drop (leftS l.length))) := by
 rw [rootS_eq, dif_pos ⟨h, h2⟩]; rfl
theorem rootS_one (x : List UInt8) : rootS [x] = leafS x := by
 rw [rootS_eq, dif_neg (by simp), if_neg (by simp)]; rfl
theorem rootS_none : rootS [] = sha [2] := by
 rw [rootS_eq, dif_neg (by simp), if_pos (by simp)]
theorem inner_eq (a b : List UInt8) (ha : a.length = 32) (hb : b.length = 32) : q2e a b = some (innerS a b) := by
 unfold q2e
 have hf : [a, b].flatten = a ++ b := by simp
 rw [tagged_eq _ _ (by rw [hf, List.length_append]; omega) (by simp), hf]
 rfl
def Small (l : List (List UInt8)) : Prop := ∀ x ∈ l, x.length ≤ 1000000
theorem small_take {l : List (List UInt8)} (h : Small l) (n : Nat) : Small (l.take n) := fun x hx => h x (List.mem_of_mem_take hx)
theorem small_drop {l : List (List UInt8)} (h : Small l) (n : Nat) : Small (l.drop n) := fun x hx => h x (List.mem_of_mem_drop hx)
theorem root_f_eq : ∀ (k : Nat) (l : List (List UInt8)), l.length < k → l.length ≤ 1000 → Small l → q2c k l = some (rootS l)
 | 0, l, h, _, _ => by omega
 | k + 1, l, h, h2, hl => by
  rw [q2c]
  match l, h, h2, hl with
  | [], h, h2, hl =>
   rw [fork_t (by simp), tagged_eq _ _ (by simp) (by simp), rootS_none]; rfl
  | [x], h, h2, hl =>
   have hx := hl x (by simp)
   have hf : [List.getD [x] (Int.toNat (0 : Int)) []].flatten = x := by simp
   rw [fork_f (by simp), fork_t (by simp), need_true (by simp), tagged_eq _ _ (by rw [hf]; omega) (by simp), hf, rootS_one]; rfl
  | x :: y :: r, h, h2, hl =>
   have hn : 2 ≤ (x :: y :: r).length := by simp
   generalize x :: y :: r = l at h h2 hl hn
   obtain ⟨b1, b2, b3⟩ := leftS_b l.length hn (by omega)
   rw [fork_f (by omega), fork_f (by omega), left_eq _ (by omega), andThen_mk, need_true (by omega), cut_to, cut_from, Int.toNat_natCast, root_f_eq k (l.take (leftS l.length)) (by rw [List.length_take]; omega) (by rw [List.length_take]; omega) (small_take hl _), andThen_mk, need_true (by omega),
    root_f_eq k (l.drop (leftS l.length)) (by rw [List.length_drop]; omega) (by rw [List.length_drop]; omega) (small_drop hl _), andThen_mk, inner_eq _ _ (rootS_len _) (rootS_len _), andThen_mk, rootS_two l hn (by omega)]
theorem root_eq (l : List (List UInt8)) (h : l.length < 64) (hl : Small l) : q32 l = some (rootS l) := root_f_eq 64 l h (by omega) hl
noncomputable def pathF : Nat → List (List UInt8) → Nat → List (List UInt8)
 | 0, _, _ => []
 | f + 1, l, i => if l.length ≤ 1 then [] else if i < leftS l.length then pathF f (l.take (leftS l.length)) i ++ [rootS (l.drop (leftS l.length))]
   else pathF f (l.drop (leftS l.length)) (i - leftS l.length) ++ [rootS (l.take (leftS l.length))]
def sidesF : Nat → Nat → Nat → List Bool
 | 0, _, _ => []
 | f + 1, i, n => if n ≤ 1 then [] else if i < leftS n then true :: sidesF f i (leftS n) else false :: sidesF f (i - leftS n) (n - leftS n)
theorem pathF_fuel : ∀ (f g : Nat) (l : List (List UInt8)) (i : Nat), l.length ≤ f + 1 → l.length ≤ g + 1 → l.length ≤ 1000 → pathF f l i = pathF g l i
 | 0, g, l, i, h, _, _ => by
  cases g with
  | zero => rfl
  | succ g => rw [pathF, pathF, if_pos h]
 | f + 1, 0, l, i, _, h, _ => by rw [pathF, pathF, if_pos h]
 | f + 1, g + 1, l, i, h, h2, h3 => by
  rw [pathF, pathF]
  by_cases h1 : l.length ≤ 1
  ·rw [if_pos h1, if_pos h1]
  ·obtain ⟨b1, b2, b3⟩ := leftS_b l.length (by omega) (by omega)
   rw [if_neg h1, if_neg h1, pathF_fuel f g (l.take (leftS l.length)) i (by rw [List.length_take]; omega) (by rw [List.length_take]; omega) (by rw [List.length_take]; omega), pathF_fuel f g (l.drop (leftS l.length)) _ (by rw [List.length_drop]; omega) (by rw [List.length_drop]; omega) (by rw [List.length_drop]; omega)]
theorem path_sides : ∀ (f : Nat) (l : List (List UInt8)) (i : Nat), l.length ≤ 1000 → (pathF f l i).length = (sidesF f i l.length).length
 | 0, _, _, _ => rfl
 | f + 1, l, i, h => by
  rw [pathF, sidesF]
  by_cases h1 : l.length ≤ 1
  ·rw [if_pos h1, if_pos h1]; rfl
  ·obtain ⟨b1, b2, b3⟩ := leftS_b l.length (by omega) (by omega)
   rw [if_neg h1, if_neg h1]
   by_cases hi : i < leftS l.length
   ·rw [if_pos hi, if_pos hi, List.length_append, path_sides f _ _ (by rw [List.length_take]; omega), List.length_take, Nat.min_eq_left (by omega)]; simp
   ·rw [if_neg hi, if_neg hi, List.length_append, path_sides f _ _ (by rw [List.length_drop]; omega), List.length_drop]; simp
theorem pathF_len : ∀ (f : Nat) (l : List (List UInt8)) (i : Nat), (pathF f l i).length ≤ f
 | 0, _, _ => by simp [pathF]
 | f + 1, l, i => by
  rw [pathF]; split
  ·simp
  ·split
   ·have := pathF_len f (l.take (leftS l.length)) i; simp; omega
   ·have := pathF_len f (l.drop (leftS l.length)) (i - leftS l.length); simp; omega
theorem pathF_32 : ∀ (f : Nat) (l : List (List UInt8)) (i : Nat), ∀ x ∈ pathF f l i, x.length = 32
 | 0, _, _, x, hx => by simp [pathF] at hx
 | f + 1, l, i, x, hx => by
  rw [pathF] at hx; split at hx
  ·simp at hx
  ·split at hx
   ·rcases List.mem_append.1 hx with h | h
    ·exact pathF_32 f _ _ x h
    ·simp at h; rw [h]; exact rootS_len _
   ·rcases List.mem_append.1 hx with h | h
    ·exact pathF_32 f _ _ x h
    ·simp at h; rw [h]; exact rootS_len _
end Go.Ax.V
