/-
  Powers of sets, and texts in order.
-/
import Derived.Test.YtanhbdkimbljeaaCStorePlaysLVals
namespace Go.Ax.V
open Go.Ax
set_option linter.unusedVariables false
set_option linter.unusedSimpArgs false
theorem sless_irr : ∀ a : List UInt8, sless a a = false
 | [] => rfl
 | x :: a => by
  rw [sless, sless_irr a]
  simp
theorem sless_trans : ∀ a b c : List UInt8, sless a b = true → sless b c = true → sless a c = true
 | _, [], _, h, _ => by cases ‹List UInt8› <;> simp [sless] at h
 | _, _ :: _, [], _, h => by simp [sless] at h
 | [], _ :: _, _ :: _, _, _ => rfl
 | x :: a, y :: b, z :: c, h1, h2 => by
  simp only [sless, Bool.or_eq_true, Bool.and_eq_true, decide_eq_true_eq, beq_iff_eq] at h1 h2 ⊢
  rcases h1 with h1 | ⟨rfl, h1⟩
  ·rcases h2 with h2 | ⟨rfl, h2⟩
   ·exact .inl (UInt8.lt_trans h1 h2)
   ·exact .inl h1
  ·rcases h2 with h2 | ⟨rfl, h2⟩
   ·exact .inl h2
   ·exact .inr ⟨rfl, sless_trans a b c h1 h2⟩
end Go.Ax.V
