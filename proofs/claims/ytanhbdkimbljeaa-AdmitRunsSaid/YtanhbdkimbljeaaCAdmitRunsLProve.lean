/-
  Proofs that prove makes, of the program and of the document.
-/
import Derived.Test.YtanhbdkimbljeaaCAdmitRunsLKv
import Derived.Test.YtanhbdkimbljeaaCAdmitRunsLVHash
import Derived.Test.YtanhbdkimbljeaaCAdmitRunsLTree2
import Derived.Test.YtanhbdkimbljeaaCAdmitRunsLRTree
namespace Go.Ax.V
open Go.Ax
set_option linter.unusedVariables false
set_option linter.unusedSimpArgs false
abbrev Prf := Int × Int × List Pr × List (List (List UInt8)) × Unit
def leafB (p : Pr) : List UInt8 := txtS p.1 ++ txtS p.2.1
def leavesB (l : List Pr) : List (List UInt8) := l.map leafB
def KvOk (l : List Pr) : Prop := l.length ≤ 60 ∧ ∀ p ∈ l, p.1.length ≤ 100000 ∧ p.2.1.length ≤ 100000
theorem leavesB_len (l : List Pr) : (leavesB l).length = l.length := by simp [leavesB]
theorem leafB_len {p : Pr} (h : p.1.length ≤ 100000 ∧ p.2.1.length ≤ 100000) : (leafB p).length ≤ 200100 := by
 have a := txt_len p.1
 have b := txt_len p.2.1
 unfold leafB; rw [List.length_append]; omega
theorem leavesB_small {l : List Pr} (h : KvOk l) : Small (leavesB l) := by
 intro x hx
 obtain ⟨p, hp, rfl⟩ := List.mem_map.1 hx
 have := leafB_len (h.2 p hp)
 omega
theorem leaf_eq (p : Pr) (h : p.1.length ≤ 100000 ∧ p.2.1.length ≤ 100000) : kv_Leaf p = some (leafB p) := by
 have := vtext_eq [p.1, p.2.1] (by simp) (fun x hx => by
  rcases List.mem_cons.1 hx with rfl | hx
  ·exact h.1
  ·rcases List.mem_cons.1 hx with rfl | hx
   ·exact h.2
   ·cases hx)
 have e : ([p.1, p.2.1] : List (List UInt8)).flatMap txtS = leafB p := by simp [leafB]
 rw [e] at this
 unfold kv_Leaf
 rw [this, andThen_mk]
theorem leavesB_take (l : List Pr) {i : Nat} (hi : i < l.length) : leavesB (l.take i) ++ [leafB (l.getD i zPr)] = leavesB (l.take (i + 1)) := by
 unfold leavesB
 rw [List.take_add_one, List.map_append, List.getElem?_eq_getElem hi, List.getD_eq_getElem?_getD, List.getElem?_eq_getElem hi]; rfl
noncomputable def pathsN (l : List Pr) (f n : Nat) : List (List (List UInt8)) := (List.range n).map fun j => pathS (leavesB l) ((f + j : Nat) : Int)
noncomputable def someN (l : List Pr) (f t : Nat) : Prf := if t ≤ f then ((l.length : Int), 0, [], [], ()) else ((l.length : Int), (f : Int), (l.drop f).take (t - f), pathsN l f (t - f), ())
theorem pathsN_succ (l : List Pr) (f n : Nat) : pathsN l f (n + 1) = pathsN l f n ++ [pathS (leavesB l) ((f + n : Nat) : Int)] := by
 unfold pathsN
 rw [List.range_succ, List.map_append]; rfl
theorem drop_take_succ (l : List Pr) {f n : Nat} (h : f + n < l.length) : (l.drop f).take (n + 1) = (l.drop f).take n ++ [l.getD (f + n) zPr] := by
 rw [List.take_add_one, List.getElem?_drop, List.getElem?_eq_getElem h, List.getD_eq_getElem?_getD, List.getElem?_eq_getElem h]; rfl
theorem pathsN_b (l : List Pr) (h : l.length ≤ 60) (f n : Nat) : (pathsN l f n).length = n ∧ ∀ x ∈ pathsN l f n, x.length ≤ 60 := by
 refine ⟨by simp [pathsN], fun x hx => ?_⟩
 obtain ⟨j, _, rfl⟩ := List.mem_map.1 hx
 unfold pathS
 split
 ·have := pathF_len (leavesB l).length (leavesB l) ((f + j : Nat) : Int).toNat
  rw [leavesB_len] at this ⊢; omega
 ·exact Nat.zero_le _
end Go.Ax.V
