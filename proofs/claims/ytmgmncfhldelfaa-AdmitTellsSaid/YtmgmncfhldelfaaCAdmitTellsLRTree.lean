/-
  The document's trees.
-/
import Derived.Test.YtmgmncfhldelfaaCAdmitTellsLTree2
import Derived.Test.YtmgmncfhldelfaaCAdmitTellsLRTag
namespace Go.Ax.V
open Go.Ax
set_option linter.unusedVariables false
set_option linter.unusedSimpArgs false
theorem half_loop : ∀ (f k n : Nat), n ≤ 2 * k * 2 ^ f → 1 ≤ k → n ≤ 1073741824 → k ≤ 1073741824 → affiantref1_half_1 (n : Int) (k : Int) = some ((leftF f k n : Nat) : Int)
 | 0, k, n, h, h1, h2, hk => by
  unfold affiantref1_half_1
  refine loop_out ?_
  unfold affiantref1_half_1_step
  simp only [Nat.pow_zero, Nat.mul_one] at h
  rw [w64_eq (by omega) (by omega), fork_f (by omega)]
  rfl
 | f + 1, k, n, h, h1, h2, hk => by
  rw [leftF]
  split
  ·rename_i hlt
   rw [← half_loop f (2 * k) n (by rw [Nat.pow_succ] at h; rw [pow_help]; exact h) (by omega) h2 (by omega)]
   have hs : affiantref1_half_1_step (n : Int) (k : Int) = some (.inl ((2 * k : Nat) : Int)) := by
    unfold affiantref1_half_1_step
    rw [w64_eq (by omega) (by omega), fork_t (by omega), show 2 * (k : Int) = ((2 * k : Nat) : Int) from by omega]
   unfold affiantref1_half_1
   rw [loop_next hs]
  ·rename_i hlt
   unfold affiantref1_half_1
   refine loop_out ?_
   unfold affiantref1_half_1_step
   rw [w64_eq (by omega) (by omega), fork_f (by omega)]
theorem half_eq (n : Nat) (h : n ≤ 1073741824) : affiantref1_half (n : Int) = some ((leftS n : Nat) : Int) := by
 unfold affiantref1_half
 rw [show (1 : Int) = ((1 : Nat) : Int) from rfl, half_loop 40 1 n (by omega) (by omega) h (by omega), andThen_mk]
 rfl
theorem rinner_eq (a b : List UInt8) (ha : a.length = 32) (hb : b.length = 32) : affiantref1_Tagged 1 [a, b] = some (innerS a b) := by
 have hf : [a, b].flatten = a ++ b := by simp
 rw [rtagged_eq _ _ (by rw [hf, List.length_append]; omega) (by simp), hf]
 rfl
theorem rleaf_eq (x : List UInt8) (hx : x.length ≤ 1000000) : affiantref1_Tagged 0 [x] = some (leafS x) := by
 have hf : [x].flatten = x := by simp
 rw [rtagged_eq _ _ (by rw [hf]; omega) (by simp), hf]
 rfl
theorem rroot_f_eq : ∀ (k : Nat) (l : List (List UInt8)), l.length < k → l.length ≤ 1000 → Small l → affiantref1_Root_f k l = some (rootS l)
 | 0, l, h, _, _ => by omega
 | k + 1, l, h, h2, hl => by
  rw [affiantref1_Root_f]
  match l, h, h2, hl with
  | [], h, h2, hl =>
   rw [fork_t (by simp), rtagged_eq _ _ (by simp) (by simp), rootS_none]; rfl
  | [x], h, h2, hl =>
   have hx := hl x (by simp)
   have hf : [List.getD [x] (Int.toNat (0 : Int)) []].flatten = x := by simp
   rw [fork_f (by simp), fork_t (by simp), need_true (by simp), rtagged_eq _ _ (by rw [hf]; omega) (by simp), hf, rootS_one]; rfl
  | x :: y :: r, h, h2, hl =>
   have hn : 2 ≤ (x :: y :: r).length := by simp
   generalize x :: y :: r = l at h h2 hl hn
   obtain ⟨b1, b2, b3⟩ := leftS_b l.length hn (by omega)
   rw [fork_f (by omega), fork_f (by omega), half_eq _ (by omega), andThen_mk, need_true (by omega), cut_to, cut_from, Int.toNat_natCast, rroot_f_eq k (l.take (leftS l.length)) (by rw [List.length_take]; omega) (by rw [List.length_take]; omega) (small_take hl _), andThen_mk, need_true (by omega),
    rroot_f_eq k (l.drop (leftS l.length)) (by rw [List.length_drop]; omega) (by rw [List.length_drop]; omega) (small_drop hl _), andThen_mk, rinner_eq _ _ (rootS_len _) (rootS_len _), andThen_mk, rootS_two l hn (by omega)]
theorem rroot_eq (l : List (List UInt8)) (h : l.length < 64) (hl : Small l) : affiantref1_Root l = some (rootS l) := rroot_f_eq 64 l h (by omega) hl
theorem rpath_f_eq : ∀ (k : Nat) (l : List (List UInt8)) (i : Int), l.length < k → l.length < 64 → Small l → affiantref1_Path_f k l i = some (if 0 ≤ i ∧ i < (l.length : Int) then pathF l.length l i.toNat else [])
 | 0, l, i, h, _, _ => by omega
 | k + 1, l, i, h, h2, hl => by
  rw [affiantref1_Path_f]
  by_cases h0 : i < 0
  ·rw [fork_t h0, if_neg (by omega)]
  ·rw [fork_f h0]
   by_cases h1 : (l.length : Int) ≤ i
   ·rw [fork_t h1, if_neg (by omega)]
   ·rw [fork_f h1, if_pos (by omega)]
    by_cases h3 : l.length = 1
    ·rw [fork_t (by omega), h3, pathF, if_pos (by omega)]
    ·rw [fork_f (by omega), half_eq _ (by omega), andThen_mk]
     obtain ⟨b1, b2, b3⟩ := leftS_b l.length (by omega) (by omega)
     obtain ⟨q, hq⟩ : ∃ q, l.length = q + 1 := ⟨l.length - 1, by omega⟩
     have hp : pathF l.length l i.toNat = if i.toNat < leftS l.length then pathF q (l.take (leftS l.length)) i.toNat ++ [rootS (l.drop (leftS l.length))] else pathF q (l.drop (leftS l.length)) (i.toNat - leftS l.length) ++ [rootS (l.take (leftS l.length))] := by
      conv => lhs; rw [hq]
      rw [pathF, if_neg (by omega)]
     rw [hp]
     by_cases h4 : i.toNat < leftS l.length
     ·have lt : (l.take (leftS l.length)).length = leftS l.length := by rw [List.length_take]; omega
      have hpl := pathF_len q (l.take (leftS l.length)) i.toNat
      rw [if_pos h4, fork_t (by omega), need_true (by omega), cut_to, cut_from, Int.toNat_natCast, rpath_f_eq k (l.take (leftS l.length)) i (by omega) (by omega) (small_take hl _), andThen_mk, if_pos (by omega), need_true (by omega), rroot_eq _ (by rw [List.length_drop]; omega) (small_drop hl _), andThen_mk,
       pathF_fuel _ q _ _ (by omega) (by omega) (by omega), need_true (by simp; omega)]
     ·have ld : (l.drop (leftS l.length)).length = l.length - leftS l.length := by rw [List.length_drop]
      have hpl := pathF_len q (l.drop (leftS l.length)) (i.toNat - leftS l.length)
      rw [if_neg h4, fork_f (by omega), need_true (by omega), cut_to, cut_from, Int.toNat_natCast, w64_eq (by omega) (by omega), rpath_f_eq k (l.drop (leftS l.length)) (i - ((leftS l.length : Nat) : Int)) (by omega) (by omega) (small_drop hl _), andThen_mk, if_pos (by omega), need_true (by omega), rroot_eq _ (by rw [List.length_take]; omega) (small_take hl _), andThen_mk,
       show Int.toNat (i - ((leftS l.length : Nat) : Int)) = i.toNat - leftS l.length from by omega, pathF_fuel _ q _ _ (by omega) (by omega) (by omega), need_true (by simp; omega)]
theorem rpath_eq (l : List (List UInt8)) (i : Int) (h : l.length < 64) (hl : Small l) : affiantref1_Path l i = some (pathS l i) := rpath_f_eq 64 l i h h hl
theorem sidesF_fuel : ∀ (f g i n : Nat), n ≤ f + 1 → n ≤ g + 1 → n ≤ 1000 → sidesF f i n = sidesF g i n
 | 0, g, i, n, h, _, _ => by
  cases g with
  | zero => rfl
  | succ g => rw [sidesF, sidesF, if_pos h]
 | f + 1, 0, i, n, _, h, _ => by rw [sidesF, sidesF, if_pos h]
 | f + 1, g + 1, i, n, h, h2, h3 => by
  rw [sidesF, sidesF]
  by_cases h1 : n ≤ 1
  ·rw [if_pos h1, if_pos h1]
  ·obtain ⟨b1, b2, b3⟩ := leftS_b n (by omega) (by omega)
   rw [if_neg h1, if_neg h1, sidesF_fuel f g i (leftS n) (by omega) (by omega) (by omega), sidesF_fuel f g (i - leftS n) (n - leftS n) (by omega) (by omega) (by omega)]
theorem rup_f_eq : ∀ (k : Nat) (leaf : List UInt8) (i n : Nat) (p : List (List UInt8)), n < k → i < n → n < 64 → leaf.length ≤ 1000000 → (∀ x ∈ p, x.length = 32) → p.length ≤ 100000 →
  ∃ x, affiantref1_Up_f k leaf (i : Int) (n : Int) p = some (x, decide (p.length = (sidesF n i n).length)) ∧ x.length = 32 ∧ (p.length = (sidesF n i n).length → x = climb (sidesF n i n).reverse p (leafS leaf))
 | 0, leaf, i, n, p, h, _, _, _, _, _ => by omega
 | k + 1, leaf, i, n, p, h, hi, h2, hf, hp, hb => by
  rw [affiantref1_Up_f, fork_f (by omega), fork_f (by omega), fork_f (by omega)]
  by_cases h1 : n = 1
  ·subst h1
   rw [fork_t (by omega), rleaf_eq leaf hf, andThen_mk]
   have e : sidesF 1 i 1 = [] := by rw [sidesF, if_pos (by omega)]
   rw [e]
   refine ⟨leafS leaf, ?_, sha_len _, fun h => ?_⟩
   ·rw [show decide ((p.length : Int) = 0) = decide (p.length = ([] : List Bool).length) from decide_eq_decide.2 (by simp)]
   ·have : p = [] := List.eq_nil_of_length_eq_zero (by simpa using h)
    subst this; rfl
  ·obtain ⟨b1, b2, b3⟩ := leftS_b n (by omega) (by omega)
   obtain ⟨q, rfl⟩ : ∃ q, n = q + 1 := ⟨n - 1, by omega⟩
   have hsd : sidesF (q + 1) i (q + 1) = if i < leftS (q + 1) then true :: sidesF q i (leftS (q + 1)) else false :: sidesF q (i - leftS (q + 1)) (q + 1 - leftS (q + 1)) := by
    rw [sidesF, if_neg (by omega)]
   rw [fork_f (by omega)]
   by_cases h0 : p.length = 0
   ·rw [fork_t (by omega)]
    refine ⟨zT, ?_, by simp, fun h => ?_⟩
    ·rw [decide_eq_false (by rw [hsd]; split <;> simp [h0])]
    ·exfalso
     rw [hsd] at h
     split at h <;> simp [h0] at h
   ·have hpl : p = p.take (p.length - 1) ++ [p.getD (p.length - 1) zT] := by
     rw [List.getD_eq_getElem?_getD, List.getElem?_eq_getElem (by omega)]
     conv => lhs; rw [← List.take_append_drop (p.length - 1) p, List.drop_eq_getElem_cons (by omega), List.drop_of_length_le (by omega)]
     rfl
    have hg : (p.getD (p.length - 1) (List.replicate 32 0)).length = 32 := by
     rw [List.getD_eq_getElem?_getD, List.getElem?_eq_getElem (by omega)]; exact hp _ (List.getElem_mem _)
    have hpt : ∀ x ∈ p.take (p.length - 1), x.length = 32 := fun x hx => hp x (List.mem_of_mem_take hx)
    have htl : (p.take (p.length - 1)).length = p.length - 1 := by rw [List.length_take]; omega
    have e1 : w64 ((p.length : Int) - 1) = ((p.length - 1 : Nat) : Int) := by rw [w64_eq (by omega) (by omega)]; omega
    rw [fork_f (by omega), half_eq (q + 1) (by omega), andThen_mk, e1, need_true (by omega), cut_to, Int.toNat_natCast]
    by_cases h4 : i < leftS (q + 1)
    ·obtain ⟨x, x1, x2, x3⟩ := rup_f_eq k leaf i (leftS (q + 1)) (p.take (p.length - 1)) (by omega) h4 (by omega) hf hpt (by omega)
     rw [sidesF_fuel _ q _ _ (by omega) (by omega) (by omega)] at x1 x3
     rw [fork_t (by omega), need_true (by omega), x1, andThen_mk]
     simp only
     rw [rinner_eq _ _ x2 hg, andThen_mk, hsd, if_pos h4]
     refine ⟨innerS x (p.getD (p.length - 1) (List.replicate 32 0)), ?_, sha_len _, fun h => ?_⟩
     ·rw [show decide ((p.take (p.length - 1)).length = (sidesF q i (leftS (q + 1))).length) = decide (p.length = (true :: sidesF q i (leftS (q + 1))).length) from decide_eq_decide.2 (by rw [htl, List.length_cons]; omega)]
     ·rw [List.length_cons] at h
      rw [x3 (by omega), List.reverse_cons]
      conv => rhs; rw [hpl]
      rw [climb_snoc _ _ _ _ _ (by rw [List.length_reverse]; omega), if_pos rfl]
    ·obtain ⟨x, x1, x2, x3⟩ := rup_f_eq k leaf (i - leftS (q + 1)) (q + 1 - leftS (q + 1)) (p.take (p.length - 1)) (by omega) (by omega) (by omega) hf hpt (by omega)
     rw [sidesF_fuel _ q _ _ (by omega) (by omega) (by omega)] at x1 x3
     rw [fork_f (by omega), need_true (by omega), w64_eq (by omega) (by omega), w64_eq (by omega) (by omega), show (i : Int) - ((leftS (q + 1) : Nat) : Int) = ((i - leftS (q + 1) : Nat) : Int) from by omega, show ((q + 1 : Nat) : Int) - ((leftS (q + 1) : Nat) : Int) = ((q + 1 - leftS (q + 1) : Nat) : Int) from by omega, x1, andThen_mk]
     simp only
     rw [rinner_eq _ _ hg x2, andThen_mk, hsd, if_neg h4]
     refine ⟨innerS (p.getD (p.length - 1) (List.replicate 32 0)) x, ?_, sha_len _, fun h => ?_⟩
     ·rw [show decide ((p.take (p.length - 1)).length = (sidesF q (i - leftS (q + 1)) (q + 1 - leftS (q + 1))).length) = decide (p.length = (false :: sidesF q (i - leftS (q + 1)) (q + 1 - leftS (q + 1))).length) from decide_eq_decide.2 (by rw [htl, List.length_cons]; omega)]
     ·rw [List.length_cons] at h
      rw [x3 (by omega), List.reverse_cons]
      conv => rhs; rw [hpl]
      rw [climb_snoc _ _ _ _ _ (by rw [List.length_reverse]; omega), if_neg (by simp)]
theorem rup_eq (leaf : List UInt8) (hf : leaf.length ≤ 1000000) (i n : Int) (hn : n < 64) (p : List (List UInt8)) (hp : ∀ x ∈ p, x.length = 32) (hb : p.length ≤ 100000) : ∃ x, affiantref1_Up leaf i n p = some (x, (upS leaf i n p).2) ∧ ((upS leaf i n p).2 = true → x = (upS leaf i n p).1) ∧ x.length = 32 := by
 unfold affiantref1_Up
 by_cases h0 : i < 0
 ·rw [affiantref1_Up_f, fork_t h0]
  have : upS leaf i n p = (zT, false) := if_neg (fun h => by have := (isS_iff i n).1 h.1; omega)
  rw [this]
  exact ⟨_, rfl, fun h => (by cases h), rfl⟩
 ·by_cases h1 : n ≤ i
  ·rw [affiantref1_Up_f, fork_f h0, fork_t h1]
   have : upS leaf i n p = (zT, false) := if_neg (fun h => by have := (isS_iff i n).1 h.1; omega)
   rw [this]
   exact ⟨_, rfl, fun h => (by cases h), rfl⟩
  ·obtain ⟨a, rfl⟩ := Int.eq_ofNat_of_zero_le (show 0 ≤ i by omega)
   obtain ⟨b, rfl⟩ := Int.eq_ofNat_of_zero_le (show 0 ≤ n by omega)
   obtain ⟨x, x1, x2, x3⟩ := rup_f_eq 64 leaf a b p (by omega) (by omega) (by omega) hf hp hb
   have hi : isS (a : Int) (b : Int) = true := (isS_iff _ _).2 (by omega)
   unfold upS
   simp only [Int.toNat_natCast, hi, true_and]
   by_cases e : p.length = (sidesF b a b).length
   ·rw [if_pos e]
    rw [decide_eq_true e] at x1
    exact ⟨x, x1, fun _ => x3 e, x2⟩
   ·rw [if_neg e]
    rw [decide_eq_false e] at x1
    exact ⟨x, x1, fun h => (by cases h), x2⟩
end Go.Ax.V
