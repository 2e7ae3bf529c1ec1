/-
  Pairs of numbers, the document's own proofs, and when two are the same.
-/
import Derived.Test.YtanhbdkimbljeaaCAdmitRunsLProve
import Derived.Test.YtanhbdkimbljeaaCAdmitRunsLValsLaws1
namespace Go.Ax.V
open Go.Ax
set_option linter.unusedVariables false
set_option linter.unusedSimpArgs false
theorem rfirst_step (x0 : List Pr) (x1 : List UInt8) (x2 : Int) : affiantref1_First_1_step x0 x1 x2 =
  (fork (decide (x2 < (List.length x0 : Int))) (need (0 ≤ x2 ∧ x2 < (List.length x0 : Int)) (fork (sless (List.getD x0 (Int.toNat x2) zPr).1 x1) (some (.inl (w64 (x2 + (1 : Int))))) (some (.inr x2)))) (some (.inr x2)) : Option ((Int) ⊕ (Int))) := rfl
theorem rleaves_step (x0 : List Pr) (x1 : Int) (x2 : Int) (x3 : List (List UInt8)) : affiantref1_leaves_1_step x0 x1 x2 x3 =
  (fork (decide (x2 < x1)) (need (0 ≤ x2 ∧ x2 < (List.length x0 : Int)) (andThen (affiantref1_Leaf (List.getD x0 (Int.toNat x2) zPr)) (fun u4 => need (List.length x3 + List.length ([u4] : List (List UInt8)) ≤ 2147483648) (some (.inl ((w64 (x2 + (1 : Int))), (x3 ++ ([u4] : List (List UInt8))))))))) (some (.inr x3)) : Option ((Int × List (List UInt8)) ⊕ (List (List UInt8)))) := rfl
theorem rprove_step (x0 : List Pr) (x1 : Int) (x2 : Int) (x3 : Int) (x4 : Int) (x5 : Unit) (x6 : Int) (x7 : Int) (x8 : Unit) (x9 : List Pr) (x10 : List (List (List UInt8))) : affiantref1_Prove_1_step x0 x1 x2 x3 x4 x5 x6 x7 x8 x9 x10 =
  (fork (decide (x2 < x1)) (need (0 ≤ x2 ∧ x2 < (List.length x0 : Int)) (need (List.length x9 + List.length ([(List.getD x0 (Int.toNat x2) zPr)] : List Pr) ≤ 2147483648) (andThen (affiantref1_leaves x0) (fun u6 => andThen (affiantref1_Path u6 x2) (fun u8 => need (List.length x10 + List.length ([u8] : List (List (List UInt8))) ≤ 2147483648) (some (.inl ((w64 (x2 + (1 : Int))), (x9 ++ ([(List.getD x0 (Int.toNat x2) zPr)] : List Pr)), (x10 ++ ([u8] : List (List (List UInt8)))))))))))) (some (.inr (x3, x4, x5, x6, x7, x8, x9, x10))) : Option ((Int × (List Pr) × List (List (List UInt8))) ⊕ (Int × Int × Unit × Int × Int × Unit × (List Pr) × List (List (List UInt8))))) := rfl
theorem rfirst_loop (l : List Pr) (hl : l.length ≤ 1000) (k : List UInt8) : ∀ (m i : Nat), i + m = belowN l k → affiantref1_First_1 l k (i : Int) = some (belowN l k : Int)
 | 0, i, h => by
  have hb := below_le l k
  unfold affiantref1_First_1
  refine loop_out ?_
  show affiantref1_First_1_step l k (i : Int) = _
  have hi : i = belowN l k := by omega
  rw [rfirst_step]
  by_cases c : i < l.length
  ·rw [fork_t (by omega), need_true (by omega), Int.toNat_natCast, hi, below_at l k (by omega), fork_ff]
  ·rw [fork_f (by omega), hi]
 | m + 1, i, h => by
  have hb := below_le l k
  have ih := rfirst_loop l hl k m (i + 1) (by omega)
  unfold affiantref1_First_1 at ih ⊢
  have hs : affiantref1_First_1_step l k (i : Int) = some (.inl ((i + 1 : Nat) : Int)) := by
   rw [rfirst_step, fork_t (by omega), need_true (by omega), Int.toNat_natCast, below_lt l k i (by omega), fork_tt, w64_eq (by omega) (by omega)]; rfl
  rw [loop_next hs]
  exact ih
theorem rfirst_eq (l : List Pr) (hl : l.length ≤ 1000) (k : List UInt8) : affiantref1_First l k = some (belowN l k : Int) := by
 unfold affiantref1_First
 rw [show (0 : Int) = ((0 : Nat) : Int) from rfl, rfirst_loop l hl k (belowN l k) 0 (by omega), andThen_mk]
theorem rLeaf_eq (p : Pr) (h : p.1.length ≤ 100000 ∧ p.2.1.length ≤ 100000) : affiantref1_Leaf p = some (leafB p) := by
 have a := txt_len p.1
 have b := txt_len p.2.1
 unfold affiantref1_Leaf
 rw [rtext_eq _ h.1, andThen_mk, rtext_eq _ h.2, andThen_mk, need_true (by omega)]; rfl
theorem rleaves_eq (l : List Pr) (h : KvOk l) : affiantref1_leaves l = some (leavesB l) := by
 have hl := h.1
 have m1 : affiantref1_leaves_1 l (l.length : Int) 0 [] = some (leavesB l) := by
  unfold affiantref1_leaves_1
  have := loop_for (step := fun (s : Int × List (List UInt8)) => affiantref1_leaves_1_step l (l.length : Int) s.1 s.2) (fun i (_ : Unit) => ((i : Int), leavesB (l.take i))) (fun _ _ => ()) (fun _ => leavesB l) l.length (fun _ _ => True) (fun i w hi _ => ⟨?_, trivial⟩) (fun w _ => ?_) l.length 0 () (by omega) trivial
  ·exact this
  ·show affiantref1_leaves_1_step l (l.length : Int) (i : Int) (leavesB (l.take i)) = _
   rw [rleaves_step, fork_t (by omega), need_true (by omega), Int.toNat_natCast, rLeaf_eq _ (h.2 _ (getD_mem hi)), andThen_mk, need_true (by rw [leavesB_len, List.length_take]; simp only [List.length_cons, List.length_nil]; omega), leavesB_take l hi, w64_eq (by omega) (by omega)]
   rfl
  ·show affiantref1_leaves_1_step l (l.length : Int) (l.length : Int) (leavesB (l.take l.length)) = _
   rw [rleaves_step, fork_f (by omega), List.take_of_length_le (Nat.le_refl _)]
 unfold affiantref1_leaves
 rw [m1, andThen_mk]
theorem rprove_eq (l : List Pr) (h : KvOk l) (F T : Nat) (hT : T ≤ l.length) : affiantref1_Prove l (F : Int) (T : Int) = some (someN l F T) := by
 have hl := h.1
 unfold affiantref1_Prove someN
 by_cases c : T ≤ F
 ·rw [fork_t (by omega), if_pos c]
 ·rw [fork_f (by omega), if_neg c]
  have m2 : affiantref1_Prove_1 l (T : Int) (F : Int) 0 0 () (l.length : Int) (F : Int) () [] [] = some (0, 0, (), (l.length : Int), (F : Int), (), (l.drop F).take (T - F), pathsN l F (T - F)) := by
   unfold affiantref1_Prove_1
   have := loop_for (step := fun (s : Int × (List Pr) × List (List (List UInt8))) => affiantref1_Prove_1_step l (T : Int) s.1 0 0 () (l.length : Int) (F : Int) () s.2.1 s.2.2) (fun i (_ : Unit) => (((F + i : Nat) : Int), (l.drop F).take i, pathsN l F i)) (fun _ _ => ()) (fun _ => (0, 0, (), (l.length : Int), (F : Int), (), (l.drop F).take (T - F), pathsN l F (T - F))) (T - F) (fun _ _ => True) (fun i w hi _ => ⟨?_, trivial⟩) (fun w _ => ?_) (T - F) 0 () (by omega) trivial
   ·exact this
   ·show affiantref1_Prove_1_step l (T : Int) ((F + i : Nat) : Int) 0 0 () (l.length : Int) (F : Int) () ((l.drop F).take i) (pathsN l F i) = _
    have e1 : ((l.drop F).take i).length ≤ 60 := by rw [List.length_take, List.length_drop]; omega
    have e2 : (pathsN l F i).length = i := by simp [pathsN]
    rw [rprove_step, fork_t (by omega), need_true (by omega), Int.toNat_natCast, need_true (by simp only [List.length_cons, List.length_nil]; omega), rleaves_eq l h, andThen_mk, rpath_eq (leavesB l) _ (by rw [leavesB_len]; omega) (leavesB_small h), andThen_mk, need_true (by simp only [List.length_cons, List.length_nil]; omega), w64_eq (by omega) (by omega), ← drop_take_succ l (by omega), ← pathsN_succ]
    congr 3
   ·show affiantref1_Prove_1_step l (T : Int) ((F + (T - F) : Nat) : Int) 0 0 () (l.length : Int) (F : Int) () ((l.drop F).take (T - F)) (pathsN l F (T - F)) = _
    rw [rprove_step, fork_f (by omega)]
  rw [m2, andThen_mk]
theorem rcover_eq (l : List Pr) (h : KvOk l) (a b : List UInt8) : affiantref1_Cover l a b = some (someN l (belowN l a - 1) (min (belowN l (maxS a b) + 1) l.length)) := by
 have hl := h.1
 have h1 := below_le l a
 have h2 := below_le l b
 unfold affiantref1_Cover
 rw [rfirst_eq l (by omega), andThen_mk, rfirst_eq l (by omega), andThen_mk]
 have key : ∀ n : Nat, n ≤ l.length → affiantref1_Prove l (max (w64 ((belowN l a : Int) - (1 : Int))) (0 : Int)) (min (w64 ((n : Int) + (1 : Int))) (List.length l : Int)) = some (someN l (belowN l a - 1) (min (n + 1) l.length)) := fun n hn => by
  rw [w64_eq (by omega) (by omega), w64_eq (by omega) (by omega), show max ((belowN l a : Int) - 1) 0 = ((belowN l a - 1 : Nat) : Int) from by omega, show min ((n : Int) + 1) (l.length : Int) = ((min (n + 1) l.length : Nat) : Int) from by omega]
  exact rprove_eq l h _ _ (by omega)
 by_cases c : belowN l b < belowN l a
 ·have hs : sless a b = false := by
   cases hs : sless a b with
   | false => rfl
   | true =>
    have hs2 : sless b a = false := by
     cases q : sless b a with
     | false => rfl
     | true => have := sless_trans _ _ _ hs q; rw [sless_irr] at this; cases this
    have := below_mono l b a hs2
    omega
  have hm : maxS a b = a := by unfold maxS; rw [hs]; rfl
  rw [fork_t (by omega), key _ h1, andThen_mk, hm]
 ·rw [fork_f (by omega), key _ h2, andThen_mk]
  cases hs : sless a b with
  | true =>
   have hm : maxS a b = b := by unfold maxS; rw [hs]; rfl
   rw [hm]
  | false =>
   have hm : maxS a b = a := by unfold maxS; rw [hs]; rfl
   have := below_mono l a b hs
   rw [hm, show belowN l b = belowN l a from by omega]
end Go.Ax.V
