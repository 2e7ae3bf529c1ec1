/-
  The tagged sum by the document.
-/
import Derived.Test.YtcfaippbnmmelaaGreatCLightSkipsLTag
import Derived.Test.YtcfaippbnmmelaaGreatCLightSkipsLRef1
namespace Go.Ax.V
open Go.Ax
set_option linter.unusedVariables false
set_option linter.unusedSimpArgs false
theorem rtagged_eq (t : UInt8) (l : List (List UInt8)) (h : l.flatten.length ≤ 1073741823) (hl : l.length ≤ 1073741823) : q1g t l = some (sha (t :: l.flatten)) := by
 unfold q1g
 have : ∀ z, q1g_1 l (l.length : Int) 0 z [t] = some (z, t :: l.flatten) := by
  intro z
  unfold q1g_1
  have := loop_for (step := fun (s : Int × List UInt8) => q1g_1_step l (l.length : Int) s.1 z s.2) (fun i (_ : Unit) => ((i : Int), t :: (l.take i).flatten)) (fun _ _ => ()) (fun _ => (z, t :: l.flatten)) l.length (fun _ _ => True) (fun i w hi _ => ⟨?_, trivial⟩) (fun w _ => ?_) l.length 0 () (by omega) trivial
  ·exact this
  ·unfold q1g_1_step
   have e := getD_take l hi
   have le := take_flat_le l (i + 1)
   rw [← e, List.length_append] at le
   simp (disch := omega) only [fork_t, w64_eq, need_true, Int.toNat_natCast]
   rw [need_true (by rw [List.length_cons]; omega), List.cons_append, e]
   rfl
  ·unfold q1g_1_step
   rw [fork_f (by omega), List.take_of_length_le (Nat.le_refl _)]
 rw [this, andThen_mk]
 simp only []
 rw [rsum_eq _ (by rw [List.length_cons]; omega), andThen_mk]
end Go.Ax.V
