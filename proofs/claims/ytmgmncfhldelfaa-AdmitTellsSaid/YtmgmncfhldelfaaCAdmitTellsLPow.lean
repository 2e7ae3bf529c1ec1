/-
  Powers of sets, and texts in order.
-/
import Derived.Test.YtmgmncfhldelfaaCAdmitTellsLVals
namespace Go.Ax.V
open Go.Ax
set_option linter.unusedVariables false
set_option linter.unusedSimpArgs false
theorem sless_irr : ∀ a : List UInt8, sless a a = false
 | [] => rfl
 | x :: a => by
  rw [sless, sless_irr a]
  simp
theorem sless_trans : ∀ a b c : List UInt8, sless a b = true → sless b c = true → sless a c = true
 | _, [], _, h, _ => by cases ‹List UInt8› <;> simp [sless] at h
 | _, _ :: _, [], _, h => by simp [sless] at h
 | [], _ :: _, _ :: _, _, _ => rfl
 | x :: a, y :: b, z :: c, h1, h2 => by
  simp only [sless, Bool.or_eq_true, Bool.and_eq_true, decide_eq_true_eq, beq_iff_eq] at h1 h2 ⊢
  rcases h1 with h1 | ⟨rfl, h1⟩
  ·rcases h2 with h2 | ⟨rfl, h2⟩
   ·exact .inl (UInt8.lt_trans h1 h2)
   ·exact .inl h1
  ·rcases h2 with h2 | ⟨rfl, h2⟩
   ·exact .inl h2
   ·exact .inr ⟨rfl, sless_trans a b c h1 h2⟩
def incN (ns : List (List UInt8)) : Bool := (List.range (ns.length - 1)).all fun i => sless (ns.getD i []) (ns.getD (i + 1) [])
theorem incN_pair : ∀ (ns : List (List UInt8)), incN ns = true → ns.Pairwise (fun a b => sless a b = true)
 | [], _ => List.Pairwise.nil
 | [x], _ => List.pairwise_singleton _ _
 | x :: y :: ns, h => by
  have hall : ∀ i, i < ns.length + 1 → sless ((x :: y :: ns).getD i []) ((x :: y :: ns).getD (i + 1) []) = true := fun i hi => List.all_eq_true.1 h i (by simp; omega)
  have ih := incN_pair (y :: ns) (List.all_eq_true.2 fun i hi => by
   have := hall (i + 1) (by simp at hi; omega)
   exact this)
  have h0 : sless x y = true := hall 0 (by omega)
  refine List.pairwise_cons.2 ⟨fun z hz => ?_, ih⟩
  rcases List.mem_cons.1 hz with rfl | hz
  ·exact h0
  ·exact sless_trans _ _ _ h0 ((List.pairwise_cons.1 ih).1 z hz)
end Go.Ax.V
