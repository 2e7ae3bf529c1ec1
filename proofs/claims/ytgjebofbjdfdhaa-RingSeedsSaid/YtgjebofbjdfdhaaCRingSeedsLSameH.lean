/-
  Hashes are the same as themselves.
-/
import Derived.Test.YtgjebofbjdfdhaaCRingSeedsP
import Derived.Test.YtgjebofbjdfdhaaCRingSeedsLLp
namespace Go.Ax.V
open Go.Ax
set_option linter.unusedVariables false
set_option linter.unusedSimpArgs false

theorem sameH_refl (a : List (List UInt8)) (ha : a.length ≤ 1073741824) : affiantbook_Same_Hash a a = some true := by
  unfold affiantbook_Same_Hash
  rw [fork_nt rfl]
  have : affiantbook_Same_Hash_1 a a 0 = some (.inr ()) := by
    unfold affiantbook_Same_Hash_1
    have := loop_for (step := fun (s : Int) => affiantbook_Same_Hash_1_step a a s) (fun i (_ : Unit) => (i : Int)) (fun _ _ => ()) (fun _ => .inr ()) a.length (fun _ _ => True) (fun i w hi _ => ⟨?_, trivial⟩) (fun w _ => ?_) a.length 0 () (by omega) trivial
    · exact this
    · unfold affiantbook_Same_Hash_1_step
      simp (disch := omega) only [fork_t, w64_eq, need_true]
      rw [beq_hash]; rfl
    · unfold affiantbook_Same_Hash_1_step
      rw [fork_f (by omega)]
  rw [this]; rfl
end Go.Ax.V
