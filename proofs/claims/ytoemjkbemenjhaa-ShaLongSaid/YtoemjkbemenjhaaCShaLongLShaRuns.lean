/-
  Chapter 2's runs hold.
-/
import Derived.Test.YtoemjkbemenjhaaCShaLongLSha2
namespace Go.Ax.V
open Go.Ax
set_option linter.unusedVariables false
set_option linter.unusedSimpArgs false
set_option maxRecDepth 100000

theorem sha_nil : sha [] = [227, 176, 196, 66, 152, 252, 28, 20, 154, 251, 244, 200, 153, 111, 185, 36, 39, 174, 65, 228, 100, 155, 147, 76, 164, 149, 153, 27, 120, 82, 184, 85] := by kernel_rfl
theorem sha_abc : sha [97, 98, 99] = [186, 120, 22, 191, 143, 1, 207, 234, 65, 65, 64, 222, 93, 174, 34, 35, 176, 3, 97, 163, 150, 23, 122, 156, 180, 16, 255, 97, 242, 0, 21, 173] := by kernel_rfl

theorem law_ShaRuns : affiantlaw2_ShaRuns = some true := by
  unfold affiantlaw2_ShaRuns
  rw [sum_eq [] (by decide), andThen_mk, sum_eq [97, 98, 99] (by decide), andThen_mk, sha_nil, sha_abc]
  have b0 := blocks_eq 0 (by decide)
  have b55 := blocks_eq 55 (by decide)
  have b56 := blocks_eq 56 (by decide)
  rw [show (0 : Int) = ((0 : Nat) : Int) from rfl, show (55 : Int) = ((55 : Nat) : Int) from rfl, show (56 : Int) = ((56 : Nat) : Int) from rfl, b0, b55, b56]
  rfl
end Go.Ax.V
