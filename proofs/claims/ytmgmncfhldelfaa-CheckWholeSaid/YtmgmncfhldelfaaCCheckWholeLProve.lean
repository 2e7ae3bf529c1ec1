/-
  Proofs that prove makes, of the program and of the document.
-/
import Derived.Test.YtmgmncfhldelfaaCCheckWholeLKv
import Derived.Test.YtmgmncfhldelfaaCCheckWholeLVHash
import Derived.Test.YtmgmncfhldelfaaCCheckWholeLTree2
import Derived.Test.YtmgmncfhldelfaaCCheckWholeLRTree
namespace Go.Ax.V
open Go.Ax
set_option linter.unusedVariables false
set_option linter.unusedSimpArgs false
abbrev Prf := Int × Int × List Pr × List (List (List UInt8)) × Unit
def leafB (p : Pr) : List UInt8 := txtS p.1 ++ txtS p.2.1
def leavesB (l : List Pr) : List (List UInt8) := l.map leafB
def KvOk (l : List Pr) : Prop := l.length ≤ 60 ∧ ∀ p ∈ l, p.1.length ≤ 100000 ∧ p.2.1.length ≤ 100000
theorem leavesB_len (l : List Pr) : (leavesB l).length = l.length := by simp [leavesB]
theorem leafB_len {p : Pr} (h : p.1.length ≤ 100000 ∧ p.2.1.length ≤ 100000) : (leafB p).length ≤ 200100 := by
 have a := txt_len p.1
 have b := txt_len p.2.1
 unfold leafB; rw [List.length_append]; omega
theorem leavesB_small {l : List Pr} (h : KvOk l) : Small (leavesB l) := by
 intro x hx
 obtain ⟨p, hp, rfl⟩ := List.mem_map.1 hx
 have := leafB_len (h.2 p hp)
 omega
theorem leaf_eq (p : Pr) (h : p.1.length ≤ 100000 ∧ p.2.1.length ≤ 100000) : kv_Leaf p = some (leafB p) := by
 have := vtext_eq [p.1, p.2.1] (by simp) (fun x hx => by
  rcases List.mem_cons.1 hx with rfl | hx
  ·exact h.1
  ·rcases List.mem_cons.1 hx with rfl | hx
   ·exact h.2
   ·cases hx)
 have e : ([p.1, p.2.1] : List (List UInt8)).flatMap txtS = leafB p := by simp [leafB]
 rw [e] at this
 unfold kv_Leaf
 rw [this, andThen_mk]
theorem leavesB_take (l : List Pr) {i : Nat} (hi : i < l.length) : leavesB (l.take i) ++ [leafB (l.getD i zPr)] = leavesB (l.take (i + 1)) := by
 unfold leavesB
 rw [List.take_add_one, List.map_append, List.getElem?_eq_getElem hi, List.getD_eq_getElem?_getD, List.getElem?_eq_getElem hi]; rfl
theorem some1_step (x0 : List Pr) (x1 : Int) (x2 : Int) (x3 : List Pr) (x4 : Int) (x5 : Int) (x6 : Int) (x7 : Int) (x8 : Unit) (x9 : Int) (x10 : Int) (x11 : Unit) (x12 : List (List UInt8)) : prove_Some_1_step x0 x1 x2 x3 x4 x5 x6 x7 x8 x9 x10 x11 x12 =
  (fork (decide (x5 < x4)) (need (0 ≤ x5 ∧ x5 < (List.length x3 : Int)) (andThen (kv_Leaf (List.getD x3 (Int.toNat x5) zPr)) (fun u5 => need (List.length x12 + List.length ([u5] : List (List UInt8)) ≤ 2147483648) (some (.inl ((w64 (x5 + (1 : Int))), (x12 ++ ([u5] : List (List UInt8))))))))) (some (.inr (x0, x1, x2, x6, x7, x8, x9, x10, x11, x12))) : Option ((Int × List (List UInt8)) ⊕ ((List Pr) × Int × Int × Int × Int × Unit × Int × Int × Unit × List (List UInt8)))) := rfl
theorem some2_step (x0 : List Pr) (x1 : Int) (x2 : Int) (x3 : Int) (x4 : Int) (x5 : Unit) (x6 : Int) (x7 : Int) (x8 : Unit) (x9 : List Pr) (x10 : List (List (List UInt8))) (x11 : List (List UInt8)) : prove_Some_2_step x0 x1 x2 x3 x4 x5 x6 x7 x8 x9 x10 x11 =
  (fork (decide (x2 < x1)) (need (0 ≤ x2 ∧ x2 < (List.length x0 : Int)) (need (List.length x9 + List.length ([(List.getD x0 (Int.toNat x2) zPr)] : List Pr) ≤ 2147483648) (andThen (tree_Path x11 x2) (fun u14 => need (List.length x10 + List.length ([u14] : List (List (List UInt8))) ≤ 2147483648) (some (.inl ((w64 (x2 + (1 : Int))), (x9 ++ ([(List.getD x0 (Int.toNat x2) zPr)] : List Pr)), (x10 ++ ([u14] : List (List (List UInt8))))))))))) (some (.inr (x3, x4, x5, x6, x7, x8, x9, x10))) : Option ((Int × (List Pr) × List (List (List UInt8))) ⊕ (Int × Int × Unit × Int × Int × Unit × (List Pr) × List (List (List UInt8))))) := rfl
noncomputable def pathsN (l : List Pr) (f n : Nat) : List (List (List UInt8)) := (List.range n).map fun j => pathS (leavesB l) ((f + j : Nat) : Int)
noncomputable def someN (l : List Pr) (f t : Nat) : Prf := if t ≤ f then ((l.length : Int), 0, [], [], ()) else ((l.length : Int), (f : Int), (l.drop f).take (t - f), pathsN l f (t - f), ())
theorem pathsN_succ (l : List Pr) (f n : Nat) : pathsN l f (n + 1) = pathsN l f n ++ [pathS (leavesB l) ((f + n : Nat) : Int)] := by
 unfold pathsN
 rw [List.range_succ, List.map_append]; rfl
theorem drop_take_succ (l : List Pr) {f n : Nat} (h : f + n < l.length) : (l.drop f).take (n + 1) = (l.drop f).take n ++ [l.getD (f + n) zPr] := by
 rw [List.take_add_one, List.getElem?_drop, List.getElem?_eq_getElem h, List.getD_eq_getElem?_getD, List.getElem?_eq_getElem h]; rfl
theorem some_eq (l : List Pr) (h : KvOk l) (a b : Int) : prove_Some l a b = some (someN l (max a 0).toNat (min b (l.length : Int)).toNat) := by
 have hl := h.1
 unfold prove_Some
 by_cases c : min b (l.length : Int) ≤ max a 0
 ·rw [fork_t c]
  unfold someN
  rw [if_pos (by omega)]
 ·rw [fork_f c]
  have ef : max a 0 = (((max a 0).toNat : Nat) : Int) := by omega
  have et : min b (l.length : Int) = (((min b (l.length : Int)).toNat : Nat) : Int) := by omega
  generalize hF : (max a 0).toNat = F at *
  generalize hT : (min b (l.length : Int)).toNat = T at *
  rw [ef, et]
  rw [ef, et] at c
  have hFT : F < T := by omega
  have hTl : T ≤ l.length := by omega
  clear hF hT ef et c
  have m1 : prove_Some_1 l (F : Int) (T : Int) l (l.length : Int) 0 0 0 () (l.length : Int) 0 () [] = some (l, (F : Int), (T : Int), 0, 0, (), (l.length : Int), 0, (), leavesB l) := by
   unfold prove_Some_1
   have := loop_for (step := fun (s : Int × List (List UInt8)) => prove_Some_1_step l (F : Int) (T : Int) l (l.length : Int) s.1 0 0 () (l.length : Int) 0 () s.2) (fun i (_ : Unit) => ((i : Int), leavesB (l.take i))) (fun _ _ => ()) (fun _ => (l, (F : Int), (T : Int), 0, 0, (), (l.length : Int), 0, (), leavesB l)) l.length (fun _ _ => True) (fun i w hi _ => ⟨?_, trivial⟩) (fun w _ => ?_) l.length 0 () (by omega) trivial
   ·exact this
   ·show prove_Some_1_step l (F : Int) (T : Int) l (l.length : Int) (i : Int) 0 0 () (l.length : Int) 0 () (leavesB (l.take i)) = _
    rw [some1_step, fork_t (by omega), need_true (by omega), Int.toNat_natCast, leaf_eq _ (h.2 _ (getD_mem hi)), andThen_mk, need_true (by rw [leavesB_len, List.length_take]; simp only [List.length_cons, List.length_nil]; omega), leavesB_take l hi, w64_eq (by omega) (by omega)]
    rfl
   ·show prove_Some_1_step l (F : Int) (T : Int) l (l.length : Int) (l.length : Int) 0 0 () (l.length : Int) 0 () (leavesB (l.take l.length)) = _
    rw [some1_step, fork_f (by omega), List.take_of_length_le (Nat.le_refl _)]
  have m2 : prove_Some_2 l (T : Int) (F : Int) 0 0 () (l.length : Int) (F : Int) () [] [] (leavesB l) = some (0, 0, (), (l.length : Int), (F : Int), (), (l.drop F).take (T - F), pathsN l F (T - F)) := by
   unfold prove_Some_2
   have := loop_for (step := fun (s : Int × (List Pr) × List (List (List UInt8))) => prove_Some_2_step l (T : Int) s.1 0 0 () (l.length : Int) (F : Int) () s.2.1 s.2.2 (leavesB l)) (fun i (_ : Unit) => (((F + i : Nat) : Int), (l.drop F).take i, pathsN l F i)) (fun _ _ => ()) (fun _ => (0, 0, (), (l.length : Int), (F : Int), (), (l.drop F).take (T - F), pathsN l F (T - F))) (T - F) (fun _ _ => True) (fun i w hi _ => ⟨?_, trivial⟩) (fun w _ => ?_) (T - F) 0 () (by omega) trivial
   ·exact this
   ·show prove_Some_2_step l (T : Int) ((F + i : Nat) : Int) 0 0 () (l.length : Int) (F : Int) () ((l.drop F).take i) (pathsN l F i) (leavesB l) = _
    have e1 : ((l.drop F).take i).length ≤ 60 := by rw [List.length_take, List.length_drop]; omega
    have e2 : (pathsN l F i).length = i := by simp [pathsN]
    rw [some2_step, fork_t (by omega), need_true (by omega), Int.toNat_natCast, need_true (by simp only [List.length_cons, List.length_nil]; omega), path_eq (leavesB l) _ (by rw [leavesB_len]; omega) (leavesB_small h), andThen_mk, need_true (by simp only [List.length_cons, List.length_nil]; omega), w64_eq (by omega) (by omega), ← drop_take_succ l (by omega), ← pathsN_succ]
    congr 3
   ·show prove_Some_2_step l (T : Int) ((F + (T - F) : Nat) : Int) 0 0 () (l.length : Int) (F : Int) () ((l.drop F).take (T - F)) (pathsN l F (T - F)) (leavesB l) = _
    rw [some2_step, fork_f (by omega)]
  rw [m1, andThen_mk]
  simp only
  rw [m2, andThen_mk]
  unfold someN
  rw [if_neg (by omega)]
theorem range_eq (l : List Pr) (h : KvOk l) (hr : Rise l) (a b : List UInt8) : prove_Range l a b = some (someN l (belowN l a - 1) (min (belowN l (maxS a b) + 1) l.length)) := by
 have hl := h.1
 have h1 := below_le l a
 have h2 := below_le l (maxS a b)
 unfold prove_Range
 rw [kfirst_eq l hr (by omega), andThen_mk, kfirst_eq l hr (by omega), andThen_mk, w64_eq (by omega) (by omega), w64_eq (by omega) (by omega), some_eq l h, andThen_mk]
 congr 2 <;> omega
theorem pathsN_b (l : List Pr) (h : l.length ≤ 60) (f n : Nat) : (pathsN l f n).length = n ∧ ∀ x ∈ pathsN l f n, x.length ≤ 60 := by
 refine ⟨by simp [pathsN], fun x hx => ?_⟩
 obtain ⟨j, _, rfl⟩ := List.mem_map.1 hx
 unfold pathS
 split
 ·have := pathF_len (leavesB l).length (leavesB l) ((f + j : Nat) : Int).toNat
  rw [leavesB_len] at this ⊢; omega
 ·exact Nat.zero_le _
end Go.Ax.V
