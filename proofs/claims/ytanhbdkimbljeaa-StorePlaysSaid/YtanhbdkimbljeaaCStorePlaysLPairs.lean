/-
  Pairs of numbers, the document's own proofs, and when two are the same.
-/
import Derived.Test.YtanhbdkimbljeaaCStorePlaysLProve
import Derived.Test.YtanhbdkimbljeaaCStorePlaysLValsLaws1
namespace Go.Ax.V
open Go.Ax
set_option linter.unusedVariables false
set_option linter.unusedSimpArgs false
theorem rfirst_step (x0 : List Pr) (x1 : List UInt8) (x2 : Int) : affiantref1_First_1_step x0 x1 x2 =
  (fork (decide (x2 < (List.length x0 : Int))) (need (0 ≤ x2 ∧ x2 < (List.length x0 : Int)) (fork (sless (List.getD x0 (Int.toNat x2) zPr).1 x1) (some (.inl (w64 (x2 + (1 : Int))))) (some (.inr x2)))) (some (.inr x2)) : Option ((Int) ⊕ (Int))) := rfl
theorem rleaves_step (x0 : List Pr) (x1 : Int) (x2 : Int) (x3 : List (List UInt8)) : affiantref1_leaves_1_step x0 x1 x2 x3 =
  (fork (decide (x2 < x1)) (need (0 ≤ x2 ∧ x2 < (List.length x0 : Int)) (andThen (affiantref1_Leaf (List.getD x0 (Int.toNat x2) zPr)) (fun u4 => need (List.length x3 + List.length ([u4] : List (List UInt8)) ≤ 2147483648) (some (.inl ((w64 (x2 + (1 : Int))), (x3 ++ ([u4] : List (List UInt8))))))))) (some (.inr x3)) : Option ((Int × List (List UInt8)) ⊕ (List (List UInt8)))) := rfl
theorem rfirst_loop (l : List Pr) (hl : l.length ≤ 1000) (k : List UInt8) : ∀ (m i : Nat), i + m = belowN l k → affiantref1_First_1 l k (i : Int) = some (belowN l k : Int)
 | 0, i, h => by
  have hb := below_le l k
  unfold affiantref1_First_1
  refine loop_out ?_
  show affiantref1_First_1_step l k (i : Int) = _
  have hi : i = belowN l k := by omega
  rw [rfirst_step]
  by_cases c : i < l.length
  ·rw [fork_t (by omega), need_true (by omega), Int.toNat_natCast, hi, below_at l k (by omega), fork_ff]
  ·rw [fork_f (by omega), hi]
 | m + 1, i, h => by
  have hb := below_le l k
  have ih := rfirst_loop l hl k m (i + 1) (by omega)
  unfold affiantref1_First_1 at ih ⊢
  have hs : affiantref1_First_1_step l k (i : Int) = some (.inl ((i + 1 : Nat) : Int)) := by
   rw [rfirst_step, fork_t (by omega), need_true (by omega), Int.toNat_natCast, below_lt l k i (by omega), fork_tt, w64_eq (by omega) (by omega)]; rfl
  rw [loop_next hs]
  exact ih
theorem rfirst_eq (l : List Pr) (hl : l.length ≤ 1000) (k : List UInt8) : affiantref1_First l k = some (belowN l k : Int) := by
 unfold affiantref1_First
 rw [show (0 : Int) = ((0 : Nat) : Int) from rfl, rfirst_loop l hl k (belowN l k) 0 (by omega), andThen_mk]
theorem rLeaf_eq (p : Pr) (h : p.1.length ≤ 100000 ∧ p.2.1.length ≤ 100000) : affiantref1_Leaf p = some (leafB p) := by
 have a := txt_len p.1
 have b := txt_len p.2.1
 unfold affiantref1_Leaf
 rw [rtext_eq _ h.1, andThen_mk, rtext_eq _ h.2, andThen_mk, need_true (by omega)]; rfl
theorem rleaves_eq (l : List Pr) (h : KvOk l) : affiantref1_leaves l = some (leavesB l) := by
 have hl := h.1
 have m1 : affiantref1_leaves_1 l (l.length : Int) 0 [] = some (leavesB l) := by
  unfold affiantref1_leaves_1
  have := loop_for (step := fun (s : Int × List (List UInt8)) => affiantref1_leaves_1_step l (l.length : Int) s.1 s.2) (fun i (_ : Unit) => ((i : Int), leavesB (l.take i))) (fun _ _ => ()) (fun _ => leavesB l) l.length (fun _ _ => True) (fun i w hi _ => ⟨?_, trivial⟩) (fun w _ => ?_) l.length 0 () (by omega) trivial
  ·exact this
  ·show affiantref1_leaves_1_step l (l.length : Int) (i : Int) (leavesB (l.take i)) = _
   rw [rleaves_step, fork_t (by omega), need_true (by omega), Int.toNat_natCast, rLeaf_eq _ (h.2 _ (getD_mem hi)), andThen_mk, need_true (by rw [leavesB_len, List.length_take]; simp only [List.length_cons, List.length_nil]; omega), leavesB_take l hi, w64_eq (by omega) (by omega)]
   rfl
  ·show affiantref1_leaves_1_step l (l.length : Int) (l.length : Int) (leavesB (l.take l.length)) = _
   rw [rleaves_step, fork_f (by omega), List.take_of_length_le (Nat.le_refl _)]
 unfold affiantref1_leaves
 rw [m1, andThen_mk]
theorem sp_step (x0 : List Pr) (x1 : List Pr) (x2 : Int) : affiantbook_Same_Pair_1_step x0 x1 x2 =
  (fork (decide (x2 < (List.length x0 : Int))) (need (0 ≤ x2 ∧ x2 < (List.length x0 : Int)) (need (0 ≤ x2 ∧ x2 < (List.length x1 : Int)) (fork (!(Ty.beq (.fld .str (.fld .str .unit)) (List.getD x0 (Int.toNat x2) zPr) (List.getD x1 (Int.toNat x2) zPr))) (some (.inr (.inl false))) (some (.inl (w64 (x2 + (1 : Int)))))))) (some (.inr (.inr ()))) : Option ((Int) ⊕ ((Bool) ⊕ (Unit)))) := rfl
theorem samePair_refl (a : List (Pr)) (ha : a.length ≤ 1073741824) : affiantbook_Same_Pair a a = some true := by
 have h : affiantbook_Same_Pair_1 a a 0 = some (.inr ()) := by
  unfold affiantbook_Same_Pair_1
  have := loop_for (step := fun (s : Int) => affiantbook_Same_Pair_1_step a a s) (fun i (_ : Unit) => (i : Int)) (fun _ _ => ()) (fun _ => .inr ()) a.length (fun _ _ => True) (fun i w hi _ => ⟨?_, trivial⟩) (fun w _ => ?_) a.length 0 () (by omega) trivial
  ·exact this
  ·show affiantbook_Same_Pair_1_step a a (i : Int) = _
   rw [sp_step, fork_t (by omega), need_true (by omega), need_true (by omega), pbeq, fork_nt rfl, w64_eq (by omega) (by omega)]
   rfl
  ·show affiantbook_Same_Pair_1_step a a (a.length : Int) = _
   rw [sp_step, fork_f (by omega)]
 unfold affiantbook_Same_Pair
 rw [fork_nt (by omega), h, andThen_mk]
def keys12 : List (List UInt8) := [[97], [97, 98], [97, 98, 99], [98], [98, 97], [115, 47, 97], [115, 47, 98], [115, 47, 99], [116], [117], [122], [122, 122]]
theorem keys_eq : affiantkeep_keys = some keys12 := rfl
theorem key_eq (n : Int) : ∃ i, i < 12 ∧ affiantkeep_Key n = some (keys12.getD i []) := by
 obtain ⟨r, er, r1, r2⟩ := within_eq n 0 11 (by omega) (by omega) (by omega)
 refine ⟨r.toNat, by omega, ?_⟩
 have hk : keys12.length = 12 := rfl
 unfold affiantkeep_Key
 rw [keys_eq, andThen_mk, andThen_mk, hk, show w64 (((12 : Nat) : Int) - 1) = 11 from rfl, er, andThen_mk, need_true (by omega)]
theorem text_eq (n : Int) : ∃ x, affiantkeep_Text n = some x ∧ x.length ≤ 8 := by
 obtain ⟨r, er, r1, r2⟩ := within_eq n 0 4 (by omega) (by omega) (by omega)
 unfold affiantkeep_Text
 rw [er, andThen_mk, need_true (by show 0 ≤ r ∧ r < ((5 : Nat) : Int); omega)]
 refine ⟨_, rfl, ?_⟩
 have : ∀ i, i < 5 → (([([] : List UInt8), ([49] : List UInt8), ([120] : List UInt8), ([118, 97, 108, 117, 101] : List UInt8), ([49, 50, 51, 52, 53, 54, 55, 56] : List UInt8)] : List (List UInt8)).getD i []).length ≤ 8 := by decide
 exact this r.toNat (by omega)
theorem keys_b : ∀ k ∈ keys12, 1 ≤ k.length ∧ k.length ≤ 3 := by decide
end Go.Ax.V
