/-
  Roomy copies: what they hold, and that they are as they were.
-/
import Derived.Test.YtoemjkbemenjhaaCShaTellsP
import Derived.Test.YtoemjkbemenjhaaCShaTellsLLp
namespace Go.Ax.V
open Go.Ax
set_option linter.unusedVariables false
set_option linter.unusedSimpArgs false

theorem set_app2 {α : Type} (a l : List α) (k : Nat) (x : α) : (a ++ l).set (a.length + k) x = a ++ l.set k x := by
  rw [List.set_append_right _ _ (by omega)]
  congr 2; omega

theorem same_refl (a : List UInt8) (ha : a.length ≤ 1073741824) : affiantbook_Same_byte a a = some true := by
  unfold affiantbook_Same_byte
  rw [fork_nt rfl]
  have : affiantbook_Same_byte_1 a a 0 = some (.inr ()) := by
    unfold affiantbook_Same_byte_1
    have := loop_for (step := fun (s : Int) => affiantbook_Same_byte_1_step a a s) (fun i (_ : Unit) => (i : Int)) (fun _ _ => ()) (fun _ => .inr ()) a.length (fun _ _ => True) (fun i w hi _ => ⟨?_, trivial⟩) (fun w _ => ?_) a.length 0 () (by omega) trivial
    · exact this
    · unfold affiantbook_Same_byte_1_step
      simp (disch := omega) only [fork_t, w64_eq, need_true]
      rw [fork_nt trivial]; rfl
    · unfold affiantbook_Same_byte_1_step
      rw [fork_f (by omega)]
  rw [this]; rfl

theorem roomy_eq (b : List UInt8) (c : UInt8) (hb : b.length ≤ 1073741824) : affiantbook_Roomy_byte b c = some (b ++ List.replicate 80 c) := by
  unfold affiantbook_Roomy_byte
  have hn : w64 ((b.length : Int) + 80) = ((b.length + 80 : Nat) : Int) := by rw [w64_eq (by omega) (by omega)]; omega
  rw [hn, need_true (by omega), Int.toNat_natCast, List.length_replicate, List.take_of_length_le (by omega), List.drop_replicate]
  have : affiantbook_Roomy_byte_1 c (b.length : Int) (b ++ List.replicate (b.length + 80 - b.length) 0) = some (b ++ List.replicate 80 c) := by
    unfold affiantbook_Roomy_byte_1
    rw [show b.length + 80 - b.length = 80 from by omega]
    have := loop_for (step := fun (s : Int × List UInt8) => affiantbook_Roomy_byte_1_step c s.1 s.2) (fun i (_ : Unit) => (((b.length + i : Nat) : Int), b ++ (List.replicate i c ++ List.replicate (80 - i) 0))) (fun _ _ => ()) (fun _ => b ++ List.replicate 80 c) 80 (fun _ _ => True) (fun i w hi _ => ⟨?_, trivial⟩) (fun w _ => ?_) 80 0 () (by omega) trivial
    · exact this
    · unfold affiantbook_Roomy_byte_1_step
      have hl : (b ++ (List.replicate i c ++ List.replicate (80 - i) (0 : UInt8))).length = b.length + 80 := by simp; omega
      simp (disch := omega) only [fork_t, w64_eq, need_true, hl, Int.toNat_natCast]
      have h := set_app2 (List.replicate i c) (List.replicate (80 - (i + 1) + 1) (0 : UInt8)) 0 c
      rw [List.length_replicate, Nat.add_zero i, List.replicate_succ, List.set_cons_zero] at h
      rw [set_app2, show 80 - i = 80 - (i + 1) + 1 from by omega, List.replicate_succ, h, List.replicate_succ', List.append_assoc]
      rfl
    · unfold affiantbook_Roomy_byte_1_step
      have hl : (b ++ (List.replicate 80 c ++ List.replicate (80 - 80) (0 : UInt8))).length = b.length + 80 := by simp
      simp only [hl]
      rw [fork_f (by omega)]
      simp
  rw [this]; rfl
theorem intact_eq (b : List UInt8) (c : UInt8) (hb : b.length ≤ 1073741824) : affiantbook_Intact_byte (b ++ List.replicate 80 c) b c = some true := by
  unfold affiantbook_Intact_byte
  have hn : w64 ((b.length : Int) + 80) = ((b.length + 80 : Nat) : Int) := by rw [w64_eq (by omega) (by omega)]; omega
  have hl : (b ++ List.replicate 80 c).length = b.length + 80 := by simp
  rw [hn, hl, fork_nt rfl, need_true (by omega), cut_to, Int.toNat_natCast, List.take_left, same_refl b hb, andThen_mk]
  have : affiantbook_Intact_byte_1 (b ++ List.replicate 80 c) c (b.length : Int) = some (.inr ()) := by
    unfold affiantbook_Intact_byte_1
    have := loop_for (step := fun (s : Int) => affiantbook_Intact_byte_1_step (b ++ List.replicate 80 c) c s) (fun i (_ : Unit) => ((b.length + i : Nat) : Int)) (fun _ _ => ()) (fun _ => .inr ()) 80 (fun _ _ => True) (fun i w hi _ => ⟨?_, trivial⟩) (fun w _ => ?_) 80 0 () (by omega) trivial
    · exact this
    · unfold affiantbook_Intact_byte_1_step
      have hg : (b ++ List.replicate 80 c).getD (b.length + i) 0 = c := by
        rw [List.getD_eq_getElem?_getD, List.getElem?_append_right (by omega), List.getElem?_replicate_of_lt (by omega)]; rfl
      simp (disch := omega) only [fork_t, w64_eq, need_true, hl, Int.toNat_natCast, hg]
      rw [fork_nt trivial]; rfl
    · unfold affiantbook_Intact_byte_1_step
      rw [hl, fork_f (by omega)]
  rw [this]; rfl
end Go.Ax.V
