/-
  Chapter 2: a block more for each 64 bytes.
-/
import Derived.Test.YtoemjkbemenjhaaCShaBlocksLShaRuns
import Derived.Test.YtoemjkbemenjhaaCShaBlocksLBlk
import Derived.Test.YtoemjkbemenjhaaCShaBlocksLWithin
namespace Go.Ax.V
open Go.Ax
set_option linter.unusedVariables false
set_option linter.unusedSimpArgs false

theorem law_ShaBlocks (y0 y1 : Int) (w0 : Wf (.int .i64) y0) (w1 : Wf (.int .i64) y1) : affiantlaw2_ShaBlocks y0 y1 = some true := by
  unfold affiantlaw2_ShaBlocks
  obtain ⟨a, ha, a1, a2⟩ := within_eq y0 0 100000 (by omega) (by omega) (by omega)
  obtain ⟨b, hb, b1, b2⟩ := within_eq y1 0 100000 (by omega) (by omega) (by omega)
  simp (disch := omega) only [ha, hb, andThen_mk, blocksI, w64_eq, law_ShaRuns]
  by_cases hab : b < a
  · simp (disch := omega) only [fork_t]
  · simp (disch := omega) only [fork_t, fork_f]
end Go.Ax.V
