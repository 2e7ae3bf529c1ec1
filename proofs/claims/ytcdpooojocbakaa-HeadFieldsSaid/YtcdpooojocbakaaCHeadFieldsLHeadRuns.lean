/-
  Chapter 11's runs hold.
-/
import Derived.Test.YtcdpooojocbakaaCHeadFieldsLHead
namespace Go.Ax.V
open Go.Ax
set_option linter.unusedVariables false
set_option linter.unusedSimpArgs false

set_option maxRecDepth 100000
theorem zero_hashes (a b : Int) : Hashes (a, b, List.replicate 32 0, List.replicate 32 0, List.replicate 32 0, List.replicate 32 0, ()) := ⟨rfl, rfl, rfl, rfl⟩
theorem law_HeadRuns : affiantlaw11_HeadRuns = some true := by
  unfold affiantlaw11_HeadRuns
  have hb : bytesS (3, 200, List.replicate 32 0, List.replicate 32 0, List.replicate 32 0, List.replicate 32 0, ()) = 3 :: 200 :: 1 :: List.replicate 128 0 := by kernel_rfl
  have hr : head_Read [3] = some (zHdr, 1) := by
    rcases read_cases [3] (by decide) with h | ⟨h, h1, h2, h3, h4⟩
    · exact h
    · exfalso
      have := h3.1
      unfold bytesS at h4
      rw [if_pos h2] at h4
      have hl := congrArg List.length h4
      unfold bodyS at hl
      simp only [List.length_append, List.length_cons, List.length_nil] at hl
      omega
  rw [bytes_eq _ (zero_hashes 3 200), andThen_mk, hr, andThen_mk, hb, rightH_eq]
  rfl
end Go.Ax.V
