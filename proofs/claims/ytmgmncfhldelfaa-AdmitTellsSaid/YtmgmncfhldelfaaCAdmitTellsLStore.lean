/-
  A store: what is now, what is kept.
-/
import Derived.Test.YtmgmncfhldelfaaCAdmitTellsLKv
import Derived.Test.YtmgmncfhldelfaaCAdmitTellsLTag
namespace Go.Ax.V
open Go.Ax
set_option linter.unusedVariables false
set_option linter.unusedSimpArgs false
def mayP (p : Pr) : Bool := !decide (p.1 = []) && (decide ((p.1.length : Int) ≤ 16) && decide ((p.2.1.length : Int) ≤ 24))
theorem mayP_eq (p : Pr) : kv_may p = some (mayP p) := by
 unfold kv_may mayP
 cases decide (p.1 = []) <;> cases decide ((p.1.length : Int) ≤ 16) <;> rfl
theorem isAt_lt {l : List Pr} {k : List UInt8} (h : isAt l k = true) : belowN l k < l.length ∧ (l.getD (belowN l k) zPr).1 = k := by
 unfold isAt at h; rw [decide_eq_true_eq] at h; exact h
theorem mem_drop_get {l : List Pr} {n : Nat} {p : Pr} (h : p ∈ l.drop n) : ∃ i, n ≤ i ∧ i < l.length ∧ l.getD i zPr = p := by
 obtain ⟨i, hi, rfl⟩ := List.getElem_of_mem h
 rw [List.length_drop] at hi
 refine ⟨n + i, by omega, by omega, ?_⟩
 rw [List.getElem_drop, List.getD_eq_getElem?_getD, List.getElem?_eq_getElem (by omega)]; rfl
end Go.Ax.V
