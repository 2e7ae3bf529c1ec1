/-
  Chapter 7: what is kept of a height is what was there then, whatever is done later; older ones go, one by one.
-/
import Derived.Test.YtanhbdkimbljeaaCStorePlaysLStoreRuns
import Derived.Test.YtanhbdkimbljeaaCStorePlaysLStore2
namespace Go.Ax.V
open Go.Ax
set_option linter.unusedVariables false
set_option linter.unusedSimpArgs false
def last6 (rows : List (List Pr)) : List (List Pr) := rows.drop (rows.length - 6)
theorem keep_last6 (rows : List (List Pr)) (l : List Pr) : keepS (last6 rows) l = last6 (rows ++ [l]) := by
 have e : (last6 rows).length = min rows.length 6 := by unfold last6; rw [List.length_drop]; omega
 unfold keepS
 rw [e]
 unfold last6
 rw [List.length_append, List.length_singleton]
 by_cases c : 6 < min rows.length 6 + 1
 ·rw [if_pos c, ← List.drop_append_of_le_length (by omega : rows.length - 6 ≤ rows.length), List.drop_drop]
  congr 1; omega
 ·rw [if_neg c, show rows.length - 6 = 0 from by omega, show rows.length + 1 - 6 = 0 from by omega]; rfl
def HistOk (st : Stt) (rows : List (List Pr)) : Prop := StOk st ∧ st.2.1 = (rows.length : Int) ∧ st.2.2.1 = last6 rows ∧ rows.length ≤ 16 ∧ ∀ l ∈ rows, RowB l
theorem hist_commit {st : Stt} {rows : List (List Pr)} (h : HistOk st rows) (c : rows.length < 16) : commitS st = ((rows.length : Int) + 1, (st.1, (rows.length : Int) + 1, last6 (rows ++ [st.1]), ())) ∧ HistOk (commitS st).2 (rows ++ [st.1]) := by
 obtain ⟨h1, h2, h3, h4, h5⟩ := h
 have e : commitS st = ((rows.length : Int) + 1, (st.1, (rows.length : Int) + 1, last6 (rows ++ [st.1]), ())) := by
  unfold commitS
  rw [if_neg (by omega), h2, h3, keep_last6]
 refine ⟨e, st_commit h1, ?_, ?_, ?_, fun l hl => ?_⟩
 ·rw [e, List.length_append, List.length_singleton]; show (rows.length : Int) + 1 = _; omega
 ·rw [e]
 ·rw [List.length_append, List.length_singleton]; omega
 ·rcases List.mem_append.1 hl with hl | hl
  ·exact h5 l hl
  ·rw [List.mem_singleton] at hl; subst hl; exact h1.1
theorem hist_at {st : Stt} {rows : List (List Pr)} (h : HistOk st rows) (n : Int) : atS st n = if 1 ≤ n ∧ n ≤ (rows.length : Int) ∧ (rows.length : Int) - 6 < n then (rows.getD (n - 1).toNat [], true) else ([], false) := by
 obtain ⟨h1, h2, h3, h4, h5⟩ := h
 have e : (last6 rows).length = min rows.length 6 := by unfold last6; rw [List.length_drop]; omega
 unfold atS lowS
 rw [h2, h3, e]
 by_cases c : 1 ≤ n ∧ n ≤ (rows.length : Int) ∧ (rows.length : Int) - 6 < n
 ·rw [if_pos c, if_neg (by omega)]
  congr 1
  unfold last6
  rw [List.getD_eq_getElem?_getD, List.getD_eq_getElem?_getD, List.getElem?_drop]
  congr 2; omega
 ·rw [if_neg c, if_pos (by omega)]
end Go.Ax.V
