/-
  Trees: paths, and up to the root.
-/
import Derived.Test.YtdiacaflcfiomaaCProveNoneLTree
namespace Go.Ax.V
open Go.Ax
set_option linter.unusedVariables false
set_option linter.unusedSimpArgs false
abbrev zT : List UInt8 := List.replicate 32 (0 : UInt8)
def revAt (a : List (List UInt8)) (i : Nat) : List (List UInt8) := (List.range a.length).map fun j => if j < i ∨ a.length - 1 - i < j then a.getD (a.length - 1 - j) zT else a.getD j zT
theorem revAt_len (a : List (List UInt8)) (i : Nat) : (revAt a i).length = a.length := by simp [revAt]
theorem revAt_get (a : List (List UInt8)) (i j : Nat) (h : j < a.length) : (revAt a i).getD j zT = if j < i ∨ a.length - 1 - i < j then a.getD (a.length - 1 - j) zT else a.getD j zT := by
 unfold revAt
 rw [List.getD_eq_getElem?_getD, List.getElem?_map, List.getElem?_range h]; rfl
theorem ext_getD {a b : List (List UInt8)} (hl : a.length = b.length) (h : ∀ j, j < a.length → a.getD j zT = b.getD j zT) : a = b := by
 apply List.ext_getElem hl
 intro j h1 h2
 have := h j h1
 rw [List.getD_eq_getElem?_getD, List.getD_eq_getElem?_getD, List.getElem?_eq_getElem h1, List.getElem?_eq_getElem h2] at this
 exact this
theorem getD_set (a : List (List UInt8)) (i j : Nat) (x : List UInt8) (h : i < a.length) : (a.set i x).getD j zT = if i = j then x else a.getD j zT := by
 rw [List.getD_eq_getElem?_getD, List.getElem?_set, List.getD_eq_getElem?_getD]
 split
 ·rename_i e; subst e; simp [h]
 ·rfl
theorem revAt_step (a : List (List UInt8)) (i : Nat) (h : i < a.length - 1 - i) : ((revAt a i).set i ((revAt a i).getD (a.length - 1 - i) zT)).set (a.length - 1 - i) ((revAt a i).getD i zT) = revAt a (i + 1) := by
 apply ext_getD (by simp [revAt_len])
 intro j hj
 rw [List.length_set, List.length_set, revAt_len] at hj
 rw [getD_set _ _ _ _ (by rw [List.length_set, revAt_len]; omega), getD_set _ _ _ _ (by rw [revAt_len]; omega), revAt_get a i _ (by omega), revAt_get a i _ (by omega), revAt_get a i j hj, revAt_get a (i + 1) j hj]
 rw [if_neg (show ¬ (i < i ∨ a.length - 1 - i < i) by omega), if_neg (show ¬ (a.length - 1 - i < i ∨ a.length - 1 - i < a.length - 1 - i) by omega)]
 by_cases e1 : a.length - 1 - i = j
 ·rw [if_pos e1, if_pos (by omega)]; congr 1; omega
 ·rw [if_neg e1]
  by_cases e2 : i = j
  ·rw [if_pos e2, if_pos (by omega)]; congr 1; omega
  ·rw [if_neg e2]
   by_cases e3 : j < i ∨ a.length - 1 - i < j
   ·rw [if_pos e3, if_pos (by omega)]
   ·rw [if_neg e3, if_neg (by omega)]
theorem rev_eq (a : List (List UInt8)) (ha : a.length ≤ 1000000) : slices_Reverse_LHash_Hash_8d4f a = some a.reverse := by
 have main : slices_Reverse_LHash_Hash_8d4f_1 0 ((a.length : Int) - 1) a = some (revAt a (a.length / 2)) := by
  have h0 : revAt a 0 = a := by
   apply ext_getD (revAt_len a 0)
   intro j hj
   rw [revAt_len] at hj
   rw [revAt_get a 0 j hj, if_neg (by omega)]
  unfold slices_Reverse_LHash_Hash_8d4f_1
  have := loop_for (step := fun (s : Int × Int × List (List UInt8)) => slices_Reverse_LHash_Hash_8d4f_1_step s.1 s.2.1 s.2.2) (fun i (_ : Unit) => ((i : Int), (a.length : Int) - 1 - (i : Int), revAt a i)) (fun _ _ => ()) (fun _ => revAt a (a.length / 2)) (a.length / 2) (fun _ _ => True) (fun i w hi _ => ⟨?_, trivial⟩) (fun w _ => ?_) (a.length / 2) 0 () (by omega) trivial
  ·rw [h0] at this
   simpa using this
  ·show slices_Reverse_LHash_Hash_8d4f_1_step (i : Int) ((a.length : Int) - 1 - (i : Int)) (revAt a i) = _
   unfold slices_Reverse_LHash_Hash_8d4f_1_step
   have hl := revAt_len a i
   have e1 : Int.toNat ((a.length : Int) - 1 - (i : Int)) = a.length - 1 - i := by omega
   rw [fork_t (by omega), need_true (by omega), need_true (by omega), List.length_set, need_true (by omega), e1, Int.toNat_natCast, w64_eq (by omega) (by omega), w64_eq (by omega) (by omega), revAt_step a i (by omega), show (a.length : Int) - 1 - (i : Int) - 1 = (a.length : Int) - 1 - ((i + 1 : Nat) : Int) from by omega]
   rfl
  ·show slices_Reverse_LHash_Hash_8d4f_1_step ((a.length / 2 : Nat) : Int) ((a.length : Int) - 1 - ((a.length / 2 : Nat) : Int)) (revAt a (a.length / 2)) = _
   unfold slices_Reverse_LHash_Hash_8d4f_1_step
   rw [fork_f (by omega)]
 unfold slices_Reverse_LHash_Hash_8d4f
 rw [w64_eq (by omega) (by omega), main, andThen_mk]
 congr 1
 apply ext_getD (by rw [revAt_len, List.length_reverse])
 intro j hj
 rw [revAt_len] at hj
 rw [revAt_get a _ j hj]
 have hr : a.reverse.getD j zT = a.getD (a.length - 1 - j) zT := by
  rw [List.getD_eq_getElem?_getD, List.getElem?_reverse hj, List.getD_eq_getElem?_getD]
 rw [hr]
 split
 ·rfl
 ·congr 1; omega
theorem path_loop : ∀ (f : Nat) (l : List (List UInt8)) (i : Nat) (acc : List (List UInt8)), l.length ≤ f + 1 → l.length < 64 → i < l.length ∨ l.length = 0 → acc.length ≤ 1000 - f → f ≤ 100 → Small l → tree_Path_1 l (i : Int) acc = some (acc ++ (pathF f l i).reverse)
 | 0, l, i, acc, h, h2, hi, ha, hf, hs => by
  unfold tree_Path_1
  refine loop_out ?_
  unfold tree_Path_1_step
  rw [fork_f (by show ¬ (1 : Int) < (l.length : Int); omega)]
  simp [pathF]
 | f + 1, l, i, acc, h, h2, hi, ha, hf, hs => by
  by_cases h1 : l.length ≤ 1
  ·rw [pathF, if_pos h1]
   unfold tree_Path_1
   refine loop_out ?_
   unfold tree_Path_1_step
   rw [fork_f (by show ¬ (1 : Int) < (l.length : Int); omega)]
   simp
  ·obtain ⟨b1, b2, b3⟩ := leftS_b l.length (by omega) (by omega)
   rw [pathF, if_neg h1]
   by_cases hl : i < leftS l.length
   ·rw [if_pos hl, List.reverse_append, List.reverse_singleton, ← List.append_assoc]
    have hst : tree_Path_1_step l (i : Int) acc = some (.inl (l.take (leftS l.length), (i : Int), acc ++ [rootS (l.drop (leftS l.length))])) := by
     unfold tree_Path_1_step
     rw [fork_t (by omega), left_eq _ (by omega), andThen_mk, fork_t (by omega), need_true (by omega), cut_from, cut_to, Int.toNat_natCast, root_eq _ (by rw [List.length_drop]; omega) (small_drop hs _), andThen_mk, need_true (by simp; omega), need_true (by omega)]
    rw [← path_loop f (l.take (leftS l.length)) i (acc ++ [rootS (l.drop (leftS l.length))]) (by rw [List.length_take]; omega) (by rw [List.length_take]; omega) (by rw [List.length_take]; omega) (by simp; omega) (by omega) (small_take hs _)]
    unfold tree_Path_1
    rw [loop_next hst]
   ·rw [if_neg hl, List.reverse_append, List.reverse_singleton, ← List.append_assoc]
    have hst : tree_Path_1_step l (i : Int) acc = some (.inl (l.drop (leftS l.length), ((i - leftS l.length : Nat) : Int), acc ++ [rootS (l.take (leftS l.length))])) := by
     unfold tree_Path_1_step
     rw [fork_t (by omega), left_eq _ (by omega), andThen_mk, fork_f (by omega), need_true (by omega), cut_from, cut_to, Int.toNat_natCast, root_eq _ (by rw [List.length_take]; omega) (small_take hs _), andThen_mk, need_true (by simp; omega), need_true (by omega), w64_eq (by omega) (by omega),
      show (i : Int) - ((leftS l.length : Nat) : Int) = ((i - leftS l.length : Nat) : Int) from by omega]
    rw [← path_loop f (l.drop (leftS l.length)) (i - leftS l.length) (acc ++ [rootS (l.take (leftS l.length))]) (by rw [List.length_drop]; omega) (by rw [List.length_drop]; omega) (by rw [List.length_drop]; omega) (by simp; omega) (by omega) (small_drop hs _)]
    unfold tree_Path_1
    rw [loop_next hst]
noncomputable def pathS (l : List (List UInt8)) (i : Int) : List (List UInt8) := if 0 ≤ i ∧ i < (l.length : Int) then pathF l.length l i.toNat else []
theorem path_eq (l : List (List UInt8)) (i : Int) (h : l.length < 64) (hs : Small l) : tree_Path l i = some (pathS l i) := by
 unfold tree_Path pathS
 by_cases h0 : i < 0
 ·rw [fork_t h0, if_neg (by omega)]
 ·rw [fork_f h0]
  by_cases h1 : (l.length : Int) ≤ i
  ·rw [fork_t h1, if_neg (by omega)]
  ·rw [fork_f h1, if_pos (by omega)]
   obtain ⟨k, rfl⟩ := Int.eq_ofNat_of_zero_le (show 0 ≤ i by omega)
   have hl := pathF_len l.length l k
   rw [path_loop l.length l k [] (by omega) h (by omega) (by simp) (by omega) hs, andThen_mk]
   simp only [List.nil_append]
   rw [rev_eq _ (by rw [List.length_reverse]; omega), List.reverse_reverse]
   rfl
end Go.Ax.V
