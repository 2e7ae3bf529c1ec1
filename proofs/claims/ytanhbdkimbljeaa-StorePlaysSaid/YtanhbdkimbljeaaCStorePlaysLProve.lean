/-
  Proofs that prove makes, of the program and of the document.
-/
import Derived.Test.YtanhbdkimbljeaaCStorePlaysLKv
import Derived.Test.YtanhbdkimbljeaaCStorePlaysLVHash
import Derived.Test.YtanhbdkimbljeaaCStorePlaysLTree2
import Derived.Test.YtanhbdkimbljeaaCStorePlaysLRTree
namespace Go.Ax.V
open Go.Ax
set_option linter.unusedVariables false
set_option linter.unusedSimpArgs false
def leafB (p : Pr) : List UInt8 := txtS p.1 ++ txtS p.2.1
def leavesB (l : List Pr) : List (List UInt8) := l.map leafB
def KvOk (l : List Pr) : Prop := l.length ≤ 60 ∧ ∀ p ∈ l, p.1.length ≤ 100000 ∧ p.2.1.length ≤ 100000
theorem leavesB_len (l : List Pr) : (leavesB l).length = l.length := by simp [leavesB]
theorem leafB_len {p : Pr} (h : p.1.length ≤ 100000 ∧ p.2.1.length ≤ 100000) : (leafB p).length ≤ 200100 := by
 have a := txt_len p.1
 have b := txt_len p.2.1
 unfold leafB; rw [List.length_append]; omega
theorem leavesB_small {l : List Pr} (h : KvOk l) : Small (leavesB l) := by
 intro x hx
 obtain ⟨p, hp, rfl⟩ := List.mem_map.1 hx
 have := leafB_len (h.2 p hp)
 omega
theorem leaf_eq (p : Pr) (h : p.1.length ≤ 100000 ∧ p.2.1.length ≤ 100000) : kv_Leaf p = some (leafB p) := by
 have := vtext_eq [p.1, p.2.1] (by simp) (fun x hx => by
  rcases List.mem_cons.1 hx with rfl | hx
  ·exact h.1
  ·rcases List.mem_cons.1 hx with rfl | hx
   ·exact h.2
   ·cases hx)
 have e : ([p.1, p.2.1] : List (List UInt8)).flatMap txtS = leafB p := by simp [leafB]
 rw [e] at this
 unfold kv_Leaf
 rw [this, andThen_mk]
theorem leavesB_take (l : List Pr) {i : Nat} (hi : i < l.length) : leavesB (l.take i) ++ [leafB (l.getD i zPr)] = leavesB (l.take (i + 1)) := by
 unfold leavesB
 rw [List.take_add_one, List.map_append, List.getElem?_eq_getElem hi, List.getD_eq_getElem?_getD, List.getElem?_eq_getElem hi]; rfl
end Go.Ax.V
