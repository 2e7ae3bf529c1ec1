/-
  Proofs that prove makes, of the program and of the document.
-/
import Derived.Test.YtmgmncfhldelfaaCAdmitTellsLKv
import Derived.Test.YtmgmncfhldelfaaCAdmitTellsLVHash
import Derived.Test.YtmgmncfhldelfaaCAdmitTellsLTree2
import Derived.Test.YtmgmncfhldelfaaCAdmitTellsLRTree
namespace Go.Ax.V
open Go.Ax
set_option linter.unusedVariables false
set_option linter.unusedSimpArgs false
abbrev Prf := Int × Int × List Pr × List (List (List UInt8)) × Unit
def leafB (p : Pr) : List UInt8 := txtS p.1 ++ txtS p.2.1
def leavesB (l : List Pr) : List (List UInt8) := l.map leafB
def KvOk (l : List Pr) : Prop := l.length ≤ 60 ∧ ∀ p ∈ l, p.1.length ≤ 100000 ∧ p.2.1.length ≤ 100000
theorem leavesB_len (l : List Pr) : (leavesB l).length = l.length := by simp [leavesB]
theorem leafB_len {p : Pr} (h : p.1.length ≤ 100000 ∧ p.2.1.length ≤ 100000) : (leafB p).length ≤ 200100 := by
 have a := txt_len p.1
 have b := txt_len p.2.1
 unfold leafB; rw [List.length_append]; omega
theorem leavesB_small {l : List Pr} (h : KvOk l) : Small (leavesB l) := by
 intro x hx
 obtain ⟨p, hp, rfl⟩ := List.mem_map.1 hx
 have := leafB_len (h.2 p hp)
 omega
theorem leaf_eq (p : Pr) (h : p.1.length ≤ 100000 ∧ p.2.1.length ≤ 100000) : kv_Leaf p = some (leafB p) := by
 have := vtext_eq [p.1, p.2.1] (by simp) (fun x hx => by
  rcases List.mem_cons.1 hx with rfl | hx
  ·exact h.1
  ·rcases List.mem_cons.1 hx with rfl | hx
   ·exact h.2
   ·cases hx)
 have e : ([p.1, p.2.1] : List (List UInt8)).flatMap txtS = leafB p := by simp [leafB]
 rw [e] at this
 unfold kv_Leaf
 rw [this, andThen_mk]
theorem leavesB_take (l : List Pr) {i : Nat} (hi : i < l.length) : leavesB (l.take i) ++ [leafB (l.getD i zPr)] = leavesB (l.take (i + 1)) := by
 unfold leavesB
 rw [List.take_add_one, List.map_append, List.getElem?_eq_getElem hi, List.getD_eq_getElem?_getD, List.getElem?_eq_getElem hi]; rfl
noncomputable def pathsN (l : List Pr) (f n : Nat) : List (List (List UInt8)) := (List.range n).map fun j => pathS (leavesB l) ((f + j : Nat) : Int)
noncomputable def someN (l : List Pr) (f t : Nat) : Prf := if t ≤ f then ((l.length : Int), 0, [], [], ()) else ((l.length : Int), (f : Int), (l.drop f).take (t - f), pathsN l f (t - f), ())
theorem pathsN_succ (l : List Pr) (f n : Nat) : pathsN l f (n + 1) = pathsN l f n ++ [pathS (leavesB l) ((f + n : Nat) : Int)] := by
 unfold pathsN
 rw [List.range_succ, List.map_append]; rfl
theorem drop_take_succ (l : List Pr) {f n : Nat} (h : f + n < l.length) : (l.drop f).take (n + 1) = (l.drop f).take n ++ [l.getD (f + n) zPr] := by
 rw [List.take_add_one, List.getElem?_drop, List.getElem?_eq_getElem h, List.getD_eq_getElem?_getD, List.getElem?_eq_getElem h]; rfl
def sizeP (p : Prf) : Nat := p.2.2.1.length + (p.2.2.2.1.map List.length).sum
theorem sum_take (ps : List (List (List UInt8))) {i : Nat} (hi : i < ps.length) : ((ps.take (i + 1)).map List.length).sum = ((ps.take i).map List.length).sum + (ps.getD i []).length := by
 rw [List.take_add_one, List.map_append, List.sum_append, List.getElem?_eq_getElem hi, List.getD_eq_getElem?_getD, List.getElem?_eq_getElem hi]
 show _ + (_ + 0) = _
 rw [Nat.add_zero]; rfl
theorem size_step (x0 : Int) (x1 : List (List (List UInt8))) (x2 : Int) (x3 : Int) : prove_Size_1_step x0 x1 x2 x3 =
  (fork (decide (x3 < x2)) (need (0 ≤ x3 ∧ x3 < (List.length x1 : Int)) (some (.inl ((w64 (x0 + (List.length (List.getD x1 (Int.toNat x3) ([] : List (List UInt8))) : Int))), (w64 (x3 + (1 : Int))))))) (some (.inr x0)) : Option ((Int × Int) ⊕ (Int))) := rfl
theorem sum_b : ∀ (ps : List (List (List UInt8))), (∀ x ∈ ps, x.length ≤ 1000) → (ps.map List.length).sum ≤ 1000 * ps.length
 | [], _ => Nat.le_refl _
 | x :: ps, h => by
  have a := h x List.mem_cons_self
  have b := sum_b ps fun y hy => h y (List.mem_cons_of_mem _ hy)
  rw [List.map_cons, List.sum_cons, List.length_cons]; omega
theorem size_eq (p : Prf) (h1 : p.2.2.1.length ≤ 1000000) (h2 : p.2.2.2.1.length ≤ 1000000) (h3 : ∀ x ∈ p.2.2.2.1, x.length ≤ 1000) : prove_Size p = some (sizeP p : Int) := by
 obtain ⟨c, f, l, ps, u⟩ := p
 show andThen (prove_Size_1 (l.length : Int) ps (ps.length : Int) 0) (fun o4 => some o4) = _
 simp only at h1 h2 h3
 have : prove_Size_1 (l.length : Int) ps (ps.length : Int) 0 = some ((l.length + (ps.map List.length).sum : Nat) : Int) := by
  unfold prove_Size_1
  have := loop_for (step := fun (s : Int × Int) => prove_Size_1_step s.1 ps (ps.length : Int) s.2) (fun i (_ : Unit) => (((l.length + ((ps.take i).map List.length).sum : Nat) : Int), (i : Int))) (fun _ _ => ()) (fun _ => ((l.length + (ps.map List.length).sum : Nat) : Int)) ps.length (fun _ _ => True) (fun i w hi _ => ⟨?_, trivial⟩) (fun w _ => ?_) ps.length 0 () (by omega) trivial
  ·exact this
  ·show prove_Size_1_step ((l.length + ((ps.take i).map List.length).sum : Nat) : Int) ps (ps.length : Int) (i : Int) = _
   have a := sum_b (ps.take i) fun x hx => h3 x (List.mem_of_mem_take hx)
   have b := h3 _ (getD_mem (z := []) hi)
   rw [List.length_take] at a
   have t := sum_take ps hi
   rw [size_step, fork_t (by omega), need_true (by omega), Int.toNat_natCast, w64_eq (by omega) (by omega), w64_eq (by omega) (by omega), t]
   congr 3; omega
  ·show prove_Size_1_step ((l.length + ((ps.take ps.length).map List.length).sum : Nat) : Int) ps (ps.length : Int) (ps.length : Int) = _
   rw [size_step, fork_f (by omega), List.take_of_length_le (Nat.le_refl _)]
 rw [this, andThen_mk]; rfl
theorem pathsN_b (l : List Pr) (h : l.length ≤ 60) (f n : Nat) : (pathsN l f n).length = n ∧ ∀ x ∈ pathsN l f n, x.length ≤ 60 := by
 refine ⟨by simp [pathsN], fun x hx => ?_⟩
 obtain ⟨j, _, rfl⟩ := List.mem_map.1 hx
 unfold pathS
 split
 ·have := pathF_len (leavesB l).length (leavesB l) ((f + j : Nat) : Int).toNat
  rw [leavesB_len] at this ⊢; omega
 ·exact Nat.zero_le _
end Go.Ax.V
