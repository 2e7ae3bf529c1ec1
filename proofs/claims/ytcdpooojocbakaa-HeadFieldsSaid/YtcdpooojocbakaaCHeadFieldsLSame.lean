/-
  Bytes are the same as themselves.
-/
import Derived.Test.YtcdpooojocbakaaCHeadFieldsP
import Derived.Test.YtcdpooojocbakaaCHeadFieldsLLp
namespace Go.Ax.V
open Go.Ax
set_option linter.unusedVariables false
set_option linter.unusedSimpArgs false

theorem same_refl (a : List UInt8) (ha : a.length ≤ 1073741824) : affiantbook_Same_byte a a = some true := by
  unfold affiantbook_Same_byte
  rw [fork_nt rfl]
  have : affiantbook_Same_byte_1 a a 0 = some (.inr ()) := by
    unfold affiantbook_Same_byte_1
    have := loop_for (step := fun (s : Int) => affiantbook_Same_byte_1_step a a s) (fun i (_ : Unit) => (i : Int)) (fun _ _ => ()) (fun _ => .inr ()) a.length (fun _ _ => True) (fun i w hi _ => ⟨?_, trivial⟩) (fun w _ => ?_) a.length 0 () (by omega) trivial
    · exact this
    · unfold affiantbook_Same_byte_1_step
      simp (disch := omega) only [fork_t, w64_eq, need_true]
      rw [fork_nt trivial]; rfl
    · unfold affiantbook_Same_byte_1_step
      rw [fork_f (by omega)]
  rw [this]; rfl


theorem same_eq (a b : List UInt8) (ha : a.length ≤ 1073741824) (hb : b.length ≤ 1073741824) : affiantbook_Same_byte a b = some (decide (a = b)) := by
  by_cases hl : a.length = b.length
  · have h : affiantbook_Same_byte_1 a b 0 = some (scan (fun i => if a.getD i 0 = b.getD i 0 then none else some (.inl false)) (.inr ()) 0 a.length) := by
      unfold affiantbook_Same_byte_1
      refine loop_scan (step := fun (s : Int) => affiantbook_Same_byte_1_step a b s) (fun i => (i : Int)) _ _ a.length (fun i hi h => ?_) (fun i r hi h => ?_) ?_ a.length 0 (by omega)
      · unfold affiantbook_Same_byte_1_step
        simp (disch := omega) only [fork_t, w64_eq, need_true, Int.toNat_natCast]
        by_cases e : a.getD i 0 = b.getD i 0
        · rw [fork_nt e]; rfl
        · rw [if_neg e] at h; cases h
      · unfold affiantbook_Same_byte_1_step
        simp (disch := omega) only [fork_t, w64_eq, need_true, Int.toNat_natCast]
        by_cases e : a.getD i 0 = b.getD i 0
        · rw [if_pos e] at h; cases h
        · rw [if_neg e] at h; injection h with h; subst h; rw [fork_nf e]
      · unfold affiantbook_Same_byte_1_step
        rw [fork_f (by omega)]
    unfold affiantbook_Same_byte
    rw [fork_nt (by omega), h, andThen_mk]
    by_cases e : a = b
    · subst e
      rw [scan_none _ _ (fun j _ _ => if_pos rfl), decide_eq_true rfl]
    · have : ∃ j, j < a.length ∧ a.getD j 0 ≠ b.getD j 0 := by
        apply Classical.byContradiction
        intro hn
        apply e
        apply List.ext_getElem hl
        intro i h1 h2
        apply Classical.byContradiction
        intro hne
        exact hn ⟨i, h1, by rw [List.getD_eq_getElem?_getD, List.getD_eq_getElem?_getD, List.getElem?_eq_getElem h1, List.getElem?_eq_getElem h2]; exact hne⟩
      obtain ⟨j, hj⟩ := Nat.find_of this
      have hsc : scan (fun i => if a.getD i 0 = b.getD i 0 then none else some (.inl false)) (.inr () : Bool ⊕ Unit) 0 a.length = .inl false := by
        refine scan_some a.length 0 j (Nat.zero_le _) (by omega) (fun j' _ h => if_pos ?_) (if_neg hj.1.2)
        exact Classical.byContradiction fun hne => hj.2 j' h ⟨by omega, hne⟩
      rw [hsc, decide_eq_false e]
  · unfold affiantbook_Same_byte
    rw [fork_nf (by omega), decide_eq_false (fun h => hl (by rw [h]))]
end Go.Ax.V
