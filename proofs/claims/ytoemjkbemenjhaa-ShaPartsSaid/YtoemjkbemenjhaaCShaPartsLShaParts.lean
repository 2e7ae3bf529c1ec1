/-
  Chapter 2: parts joined in any way have one sum; the tag is the first byte.
-/
import Derived.Test.YtoemjkbemenjhaaCShaPartsLShaRuns
import Derived.Test.YtoemjkbemenjhaaCShaPartsLRTag
namespace Go.Ax.V
open Go.Ax
set_option linter.unusedVariables false
set_option linter.unusedSimpArgs false

def partS (l : List (List UInt8)) (i : Nat) : List UInt8 := cutL (l.getD i []) 0 (min ((l.getD i []).length : Int) 50)
theorem partS_len (l : List (List UInt8)) (i : Nat) : (partS l i).length ≤ 50 := by
  have := cut_len (l.getD i []) 0 (min ((l.getD i []).length : Int) 50) (by omega) (by omega) (by omega)
  unfold partS; omega
def partsS (l : List (List UInt8)) (n : Nat) : List (List UInt8) := runFor (fun i o => o ++ [partS l i]) 0 n []
theorem parts_1 (l : List (List UInt8)) (tag : UInt8) : ∃ o : List (List UInt8), o.length ≤ 6 ∧ o.flatten.length ≤ 300 ∧ affiantlaw2_ShaParts_1 l tag 0 [] [] = some (tag, o.flatten, o) := by
  have main := loop_for (step := fun (s : Int × List UInt8 × List (List UInt8)) => affiantlaw2_ShaParts_1_step l tag s.1 s.2.1 s.2.2) (fun i (o : List (List UInt8)) => ((i : Int), o.flatten, o)) (fun i o => o ++ [partS l i]) (fun o => (tag, o.flatten, o)) (min l.length 6)
    (fun i o => o.length = i ∧ o.flatten.length ≤ 50 * i) (fun i o hi ho => ⟨?_, ?_⟩) (fun o ho => ?_) (min l.length 6) 0 [] (by omega) (by simp)
  · have inv := runFor_inv (f := fun i (o : List (List UInt8)) => o ++ [partS l i]) (I := fun i o => o.length = i ∧ o.flatten.length ≤ 50 * i) (n := min l.length 6) (fun i o hi ho => by
      have := partS_len l i
      rw [List.flatten_append, List.length_append, List.length_append]
      simp only [List.flatten_cons, List.flatten_nil, List.append_nil, List.length_cons, List.length_nil]
      omega) (k := min l.length 6) (i := 0) (t := []) (by omega) (by simp)
    exact ⟨_, by omega, by omega, main⟩
  · show affiantlaw2_ShaParts_1_step l tag (i : Int) o.flatten o = _
    unfold affiantlaw2_ShaParts_1_step
    have hp := partS_len l i
    have hg : ((l.getD i []).length : Int) ≥ 0 := by omega
    simp only [Int.toNat_natCast, List.nil_append]
    simp only [show cutL (l.getD i []) 0 (min ((l.getD i []).length : Int) 50) = partS l i from rfl]
    rw [fork_t (by omega), fork_t (by omega), need_true (by omega), need_true (by omega), need_true (by simp; omega), need_true (by simp; omega), need_true (by omega), w64_eq (by omega) (by omega)]
    simp
  · have := partS_len l i
    rw [List.flatten_append, List.length_append, List.length_append]
    simp only [List.flatten_cons, List.flatten_nil, List.append_nil, List.length_cons, List.length_nil]
    omega
  · show affiantlaw2_ShaParts_1_step l tag ((min l.length 6 : Nat) : Int) o.flatten o = _
    unfold affiantlaw2_ShaParts_1_step
    by_cases h : l.length ≤ 6
    · rw [fork_f (by omega)]
    · rw [fork_t (by omega), fork_f (by omega)]
theorem law_ShaParts (y0 : List (List UInt8)) (y1 : UInt8) (w0 : Wf (.slice (.slice (.int .u8))) y0) (w1 : Wf (.int .u8) y1) : affiantlaw2_ShaParts y0 y1 = some true := by
  unfold affiantlaw2_ShaParts
  obtain ⟨o, h1, h2, h3⟩ := parts_1 y0 y1
  rw [h3, andThen_mk]
  simp only [List.nil_append]
  rw [tagged_eq _ _ (by omega) (by omega), andThen_mk]
  generalize o.flatten = p at h2 ⊢
  have hf1 : [p].flatten = p := by simp
  rw [tagged_eq _ _ (by rw [hf1]; omega) (by simp), andThen_mk, hf1, beq_hash, fork_tt, need_true (by simp; omega), sum_eq _ (by simp; omega), andThen_mk,
    show [y1] ++ p = y1 :: p from rfl, beq_hash, fork_tt, rtagged_eq _ _ (by rw [hf1]; omega) (by simp), andThen_mk, hf1, beq_hash, fork_tt, tagged_eq _ _ (by simp) (by simp), andThen_mk, sum_eq _ (by simp), andThen_mk,
    show y1 :: ([] : List (List UInt8)).flatten = [y1] from rfl, beq_hash, fork_tt, sum_eq _ (by omega), andThen_mk, need_true (by simp; omega), andThen_mk, beq_hash, fork_tt, law_ShaRuns, andThen_mk]
end Go.Ax.V
