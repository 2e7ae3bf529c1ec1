/-
  How many blocks.
-/
import Derived.Test.YtoemjkbemenjhaaCShaLongLSha2
namespace Go.Ax.V
open Go.Ax

theorem blocksI (n : Int) (h0 : 0 ≤ n) (h : n ≤ 1073741824) : sha_Blocks n = some ((n + 8) / 64 + 1) := by
  obtain ⟨k, rfl⟩ := Int.eq_ofNat_of_zero_le h0
  have := blocks_eq k (by omega)
  rw [show ((k : Nat) : Int) = Int.ofNat k from rfl] at this ⊢
  rw [this]
  congr 1
end Go.Ax.V
