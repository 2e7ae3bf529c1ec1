/-
  What the functions compute, by value.
-/
import Derived.Test.YtoemjkbemenjhaaAxC
namespace Go.Ax.V
open Go.Ax
set_option maxRecDepth 100000
set_option linter.unusedVariables false
noncomputable section
def slices_Index_Lstring_string_1_step (x0 : List (List UInt8)) (x1 : List UInt8) (x2 : Int) (x3 : Int) : Option ((Int) ⊕ ((Int) ⊕ (Unit))) :=
  fork (decide (x3 < x2)) (need (0 ≤ x3 ∧ x3 < (List.length x0 : Int)) (fork (decide (x1 = (List.getD x0 (Int.toNat x3) ([] : List UInt8)))) (some (.inr (.inl x3))) (some (.inl (w64 (x3 + (1 : Int))))))) (some (.inr (.inr ())))
def slices_Index_Lstring_string_1 (x0 : List (List UInt8)) (x1 : List UInt8) (x2 : Int) (x3 : Int) : Option ((Int) ⊕ (Unit)) := loop (fun (s : Int) => slices_Index_Lstring_string_1_step x0 x1 x2 s) x3
/-- slices.Index[[]string,string] -/
def slices_Index_Lstring_string (a0 : List (List UInt8)) (a1 : List UInt8) : Option (Int) :=
  andThen (slices_Index_Lstring_string_1 a0 a1 (List.length a0 : Int) (0 : Int)) (fun o5 => (match o5 with | .inl o7 => some o7 | .inr o8 => some (-1 : Int)))
/-- slices.Contains[[]string,string] -/
def slices_Contains_Lstring_string (a0 : List (List UInt8)) (a1 : List UInt8) : Option (Bool) :=
  andThen (slices_Index_Lstring_string a0 a1) (fun u1 => some (decide ((0 : Int) ≤ u1)))
def vals_Total_1_step (x0 : Int) (x1 : List (List UInt8 × Int × List UInt8 × Unit)) (x2 : Int) (x3 : Int) : Option ((Int × Int) ⊕ (Int)) :=
  fork (decide (x3 < x2)) (need (0 ≤ x3 ∧ x3 < (List.length x1 : Int)) (some (.inl ((w64 (x0 + (List.getD x1 (Int.toNat x3) (([] : List UInt8), (0 : Int), (List.replicate 32 (0 : UInt8)), ())).2.1)), (w64 (x3 + (1 : Int))))))) (some (.inr x0))
def vals_Total_1 (x0 : Int) (x1 : List (List UInt8 × Int × List UInt8 × Unit)) (x2 : Int) (x3 : Int) : Option (Int) := loop (fun (s : Int × Int) => vals_Total_1_step s.1 x1 x2 s.2) (x0, x3)
/-- affiant/vals.Total -/
def vals_Total (a0 : List (List UInt8 × Int × List UInt8 × Unit)) : Option (Int) :=
  andThen (vals_Total_1 (0 : Int) a0 (List.length a0 : Int) (0 : Int)) (fun o4 => some o4)
def vals_Tally_1_step (x0 : List (List UInt8 × Int × List UInt8 × Unit)) (x1 : List (List UInt8)) (x2 : Int) (x3 : List (List UInt8 × Int × List UInt8 × Unit)) (x4 : Int) (x5 : Int) : Option ((Int × Int) ⊕ ((List (List UInt8 × Int × List UInt8 × Unit)) × Int)) :=
  fork (decide (x5 < x4)) (need (0 ≤ x5 ∧ x5 < (List.length x3 : Int)) (andThen (slices_Contains_Lstring_string x1 ((List.getD x3 (Int.toNat x5) (([] : List UInt8), (0 : Int), (List.replicate 32 (0 : UInt8)), ())).1)) (fun u4 => fork u4 (some (.inl ((w64 (x2 + (List.getD x3 (Int.toNat x5) (([] : List UInt8), (0 : Int), (List.replicate 32 (0 : UInt8)), ())).2.1)), (w64 (x5 + (1 : Int)))))) (some (.inl (x2, (w64 (x5 + (1 : Int))))))))) (some (.inr (x0, x2)))
def vals_Tally_1 (x0 : List (List UInt8 × Int × List UInt8 × Unit)) (x1 : List (List UInt8)) (x2 : Int) (x3 : List (List UInt8 × Int × List UInt8 × Unit)) (x4 : Int) (x5 : Int) : Option ((List (List UInt8 × Int × List UInt8 × Unit)) × Int) := loop (fun (s : Int × Int) => vals_Tally_1_step x0 x1 s.1 x3 x4 s.2) (x2, x5)
/-- affiant/vals.Tally -/
def vals_Tally (a0 : List (List UInt8 × Int × List UInt8 × Unit)) (a1 : List (List UInt8)) : Option (Int × Int) :=
  andThen (vals_Tally_1 a0 a1 (0 : Int) a0 (List.length a0 : Int) (0 : Int)) (fun o7 => need (Int.natAbs o7.2 < 9007199254740992) (andThen (vals_Total o7.1) (fun u10 => need (Int.natAbs u10 < 9007199254740992) (some (o7.2, u10)))))
/-- affiant/vals.Over -/
def vals_Over (a0 : Int × Int) (a1 : Int) (a2 : Int) : Option (Bool) :=
  some (decide ((w64 (a0.2 * a1)) < (w64 (a0.1 * a2))))
/-- affiant/vals.may -/
def vals_may (a0 : List UInt8 × Int × List UInt8 × Unit) : Option (Bool) :=
  fork (!decide (a0.1 = ([] : List UInt8))) (fork (decide ((List.length a0.1 : Int) ≤ (16 : Int))) (fork (decide ((1 : Int) ≤ a0.2.1)) (some (decide (a0.2.1 ≤ (1048576 : Int)))) (some false)) (some false)) (some false)
def vals_Right_1_step (x0 : List (List UInt8 × Int × List UInt8 × Unit)) (x1 : List (List UInt8 × Int × List UInt8 × Unit)) (x2 : Int) (x3 : Int) : Option ((Int) ⊕ ((Bool) ⊕ (List (List UInt8 × Int × List UInt8 × Unit)))) :=
  fork (decide (x3 < x2)) (need (0 ≤ x3 ∧ x3 < (List.length x1 : Int)) (andThen (vals_may (List.getD x1 (Int.toNat x3) (([] : List UInt8), (0 : Int), (List.replicate 32 (0 : UInt8)), ()))) (fun u4 => fork (!u4) (some (.inr (.inl false))) (fork (decide ((0 : Int) < x3)) (need (0 ≤ (w64 (x3 - (1 : Int))) ∧ (w64 (x3 - (1 : Int))) < (List.length x0 : Int)) (fork (!sless (List.getD x0 (Int.toNat (w64 (x3 - (1 : Int)))) (([] : List UInt8), (0 : Int), (List.replicate 32 (0 : UInt8)), ())).1 (List.getD x1 (Int.toNat x3) (([] : List UInt8), (0 : Int), (List.replicate 32 (0 : UInt8)), ())).1) (some (.inr (.inl false))) (some (.inl (w64 (x3 + (1 : Int))))))) (some (.inl (w64 (x3 + (1 : Int))))))))) (some (.inr (.inr x0)))
def vals_Right_1 (x0 : List (List UInt8 × Int × List UInt8 × Unit)) (x1 : List (List UInt8 × Int × List UInt8 × Unit)) (x2 : Int) (x3 : Int) : Option ((Bool) ⊕ (List (List UInt8 × Int × List UInt8 × Unit))) := loop (fun (s : Int) => vals_Right_1_step x0 x1 x2 s) x3
/-- affiant/vals.Right -/
def vals_Right (a0 : List (List UInt8 × Int × List UInt8 × Unit)) : Option (Bool) :=
  andThen (vals_Right_1 a0 a0 (List.length a0 : Int) (0 : Int)) (fun o10 => (match o10 with | .inl o12 => some o12 | .inr o13 => fork (decide ((1 : Int) ≤ (List.length o13 : Int))) (some (decide ((List.length o13 : Int) ≤ (5 : Int)))) (some false)))
/-- affiant/affiantlaw10.ValsRuns -/
def affiantlaw10_ValsRuns  : Option (Bool) :=
  andThen (vals_Tally ([(([97] : List UInt8), (3 : Int), (List.replicate 32 (0 : UInt8)), ()), (([98] : List UInt8), (1 : Int), (List.replicate 32 (0 : UInt8)), ()), (([99] : List UInt8), (1 : Int), (List.replicate 32 (0 : UInt8)), ())] : List (List UInt8 × Int × List UInt8 × Unit)) ([([97] : List UInt8), ([97] : List UInt8), ([113] : List UInt8)] : List (List UInt8))) (fun u1 => fork (decide (u1 = ((3 : Int), (5 : Int)))) (andThen (vals_Over u1 (1 : Int) (3 : Int)) (fun u4 => fork u4 (andThen (vals_Over u1 (2 : Int) (3 : Int)) (fun u7 => fork (!u7) (andThen (vals_Right ([(([97] : List UInt8), (3 : Int), (List.replicate 32 (0 : UInt8)), ()), (([98] : List UInt8), (1 : Int), (List.replicate 32 (0 : UInt8)), ()), (([99] : List UInt8), (1 : Int), (List.replicate 32 (0 : UInt8)), ())] : List (List UInt8 × Int × List UInt8 × Unit))) (fun u10 => fork u10 (andThen (vals_Total ([(([97] : List UInt8), (3 : Int), (List.replicate 32 (0 : UInt8)), ()), (([98] : List UInt8), (1 : Int), (List.replicate 32 (0 : UInt8)), ()), (([99] : List UInt8), (1 : Int), (List.replicate 32 (0 : UInt8)), ())] : List (List UInt8 × Int × List UInt8 × Unit))) (fun u13 => some (decide (u13 = (5 : Int))))) (none))) (none))) (none))) (none))
end
end Go.Ax.V
