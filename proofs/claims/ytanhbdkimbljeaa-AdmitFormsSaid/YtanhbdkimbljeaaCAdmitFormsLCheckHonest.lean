/-
  Chapter 9: what is made of a row shows what is in it: each pair, each absence, each range, whole.
-/
import Derived.Test.YtanhbdkimbljeaaCAdmitFormsLCheckRuns
namespace Go.Ax.V
open Go.Ax
set_option linter.unusedVariables false
set_option linter.unusedSimpArgs false
theorem honest_range (l : List Pr) (hrt : rightP l = true) (a b : List UInt8) : rangeS (rootL l) a b (someN l (belowN l a - 1) (min (belowN l (maxS a b) + 1) l.length)) = (rangeF l a b, true) := by
 have h1 := below_le l a
 have h2 := below_le l (maxS a b)
 have h3 : sless (maxS a b) a = false := by
  unfold maxS
  cases c : sless a b with
  | true =>
   show sless b a = false
   cases q : sless b a with
   | false => rfl
   | true => have := sless_trans _ _ _ c q; rw [sless_irr] at this; cases this
  | false => exact sless_irr a
 have h4 := below_mono l (maxS a b) a h3
 rw [rangeS_some l hrt _ _ _ _ (by omega), if_pos]
 by_cases c : l.length = 0
 ·exact .inl c
 ·exact .inr ⟨by omega, by omega, by omega⟩
end Go.Ax.V
