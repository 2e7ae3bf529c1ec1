/-
  The tagged sum by the program's own functions.
-/
import Derived.Test.YtcfaippbnmmelaaGreatCLightSkipsLSha2
namespace Go.Ax.V
open Go.Ax
set_option linter.unusedVariables false
set_option linter.unusedSimpArgs false
theorem getD_take {α : Type} (l : List (List α)) {i : Nat} (h : i < l.length) : (l.take i).flatten ++ l.getD i [] = (l.take (i + 1)).flatten := by
 rw [List.take_add_one, List.flatten_append, List.getD_eq_getElem?_getD, List.getElem?_eq_getElem h]
 simp
theorem take_flat_le {α : Type} (l : List (List α)) (i : Nat) : ((l.take i).flatten).length ≤ l.flatten.length := by
 conv => rhs; rw [← List.take_append_drop i l]
 rw [List.flatten_append, List.length_append]; omega
theorem tagged_eq (t : UInt8) (l : List (List UInt8)) (h : l.flatten.length ≤ 1073741823) (hl : l.length ≤ 1073741823) : q2l t l = some (sha (t :: l.flatten)) := by
 unfold q2l
 have : ∀ z, q2l_1 l (l.length : Int) 0 z [t] = some (z, t :: l.flatten) := by
  intro z
  unfold q2l_1
  have := loop_for (step := fun (s : Int × List UInt8) => q2l_1_step l (l.length : Int) s.1 z s.2) (fun i (_ : Unit) => ((i : Int), t :: (l.take i).flatten)) (fun _ _ => ()) (fun _ => (z, t :: l.flatten)) l.length (fun _ _ => True) (fun i w hi _ => ⟨?_, trivial⟩) (fun w _ => ?_) l.length 0 () (by omega) trivial
  ·exact this
  ·unfold q2l_1_step
   have e := getD_take l hi
   have le := take_flat_le l (i + 1)
   rw [← e, List.length_append] at le
   simp (disch := omega) only [fork_t, w64_eq, need_true, Int.toNat_natCast]
   rw [need_true (by rw [List.length_cons]; omega), List.cons_append, e]
   rfl
  ·unfold q2l_1_step
   rw [fork_f (by omega), List.take_of_length_le (Nat.le_refl _)]
 rw [this, andThen_mk]
 simp only []
 rw [sum_eq _ (by rw [List.length_cons]; omega), andThen_mk]
end Go.Ax.V
