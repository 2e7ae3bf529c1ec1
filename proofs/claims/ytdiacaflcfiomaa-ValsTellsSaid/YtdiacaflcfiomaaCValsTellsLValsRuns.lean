/-
  Chapter 10's runs hold.
-/
import Derived.Test.YtdiacaflcfiomaaCValsTellsLVals
namespace Go.Ax.V
open Go.Ax
set_option linter.unusedVariables false
set_option linter.unusedSimpArgs false
theorem law_ValsRuns : affiantlaw10_ValsRuns = some true := by
 unfold affiantlaw10_ValsRuns
 have hs : SmallV [(([97] : List UInt8), (3 : Int), (List.replicate 32 (0 : UInt8)), ()), (([98] : List UInt8), (1 : Int), (List.replicate 32 (0 : UInt8)), ()), (([99] : List UInt8), (1 : Int), (List.replicate 32 (0 : UInt8)), ())] := by
  refine ⟨by decide, ?_⟩
  intro v hv
  simp only [List.mem_cons, List.not_mem_nil, or_false] at hv
  rcases hv with rfl | rfl | rfl <;> decide
 rw [tally_eq _ hs _ (by decide), andThen_mk, over_eq _ _ _ (by decide) (by decide) (by decide) (by decide), andThen_mk, over_eq _ _ _ (by decide) (by decide) (by decide) (by decide), andThen_mk, right_eq _ (by decide), andThen_mk, total_eq _ hs, andThen_mk]
 decide
end Go.Ax.V
