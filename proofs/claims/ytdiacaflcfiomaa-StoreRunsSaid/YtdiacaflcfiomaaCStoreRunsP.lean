/-
  What the functions compute, by value.
-/
import Derived.Test.YtdiacaflcfiomaaAxC
namespace Go.Ax.V
open Go.Ax
set_option maxRecDepth 100000
set_option linter.unusedVariables false
noncomputable section
abbrev B8 : Type := List UInt8
abbrev T18c3 : Type := B8 × B8 × Unit
abbrev T5e52 : Type := (List (T18c3)) × Int × (List (List (T18c3))) × Unit
/-- affiant/store.New -/
def store_New  : Option (T5e52) :=
  some (([] : List (T18c3)), (0 : Int), ([] : List (List (T18c3))), ())
/-- internal/bytealg.abigen_runtime_cmpstring -/
def bytealg_cmpstring (a0 a1 : B8) : Option Int := some (cmpS a0 a1)
/-- internal/bytealg.CompareString -/
def bytealg_CompareString (a0 : B8) (a1 : B8) : Option (Int) :=
  andThen (bytealg_cmpstring a0 a1) (fun u1 => some u1)
/-- strings.Compare -/
def strings_Compare (a0 : B8) (a1 : B8) : Option (Int) :=
  andThen (bytealg_CompareString a0 a1) (fun u1 => some u1)
/-- affiant/kv.place$1 -/
def kv_placeF1 (a0 : T18c3) (a1 : B8) : Option (Int) :=
  andThen (strings_Compare a0.1 a1) (fun u1 => some u1)
def slices_BinarySearchFunc_LPair_Pair_string_1a7a_1_step (x0 : List (T18c3)) (x1 : B8) (x2 : Int) (x3 : Int) (x4 : Int) : Option ((Int × Int) ⊕ ((List (T18c3)) × B8 × Int × Int)) :=
  fork (decide (x3 < x4)) (need (0 ≤ (w64 ((UInt64.toNat (UInt64.ofNat (UInt64.toNat (UInt64.ofNat (Int.toNat ((w64 (x3 + x4)) % 18446744073709551616))) >>> (Int.toNat (1 : Int)))) : Nat) : Int)) ∧ (w64 ((UInt64.toNat (UInt64.ofNat (UInt64.toNat (UInt64.ofNat (Int.toNat ((w64 (x3 + x4)) % 18446744073709551616))) >>> (Int.toNat (1 : Int)))) : Nat) : Int)) < (List.length x0 : Int)) (andThen (kv_placeF1 (List.getD x0 (Int.toNat (w64 ((UInt64.toNat (UInt64.ofNat (UInt64.toNat (UInt64.ofNat (Int.toNat ((w64 (x3 + x4)) % 18446744073709551616))) >>> (Int.toNat (1 : Int)))) : Nat) : Int))) (([] : B8), ([] : B8), ())) x1) (fun u4 => fork (decide (u4 < (0 : Int))) (some (.inl ((w64 ((w64 ((UInt64.toNat (UInt64.ofNat (UInt64.toNat (UInt64.ofNat (Int.toNat ((w64 (x3 + x4)) % 18446744073709551616))) >>> (Int.toNat (1 : Int)))) : Nat) : Int)) + (1 : Int))), x4))) (some (.inl (x3, (w64 ((UInt64.toNat (UInt64.ofNat (UInt64.toNat (UInt64.ofNat (Int.toNat ((w64 (x3 + x4)) % 18446744073709551616))) >>> (Int.toNat (1 : Int)))) : Nat) : Int)))))))) (some (.inr (x0, x1, x2, x3)))
def slices_BinarySearchFunc_LPair_Pair_string_1a7a_1 (x0 : List (T18c3)) (x1 : B8) (x2 : Int) (x3 : Int) (x4 : Int) : Option ((List (T18c3)) × B8 × Int × Int) := loop (fun (s : Int × Int) => slices_BinarySearchFunc_LPair_Pair_string_1a7a_1_step x0 x1 x2 s.1 s.2) (x3, x4)
/-- slices.BinarySearchFunc[[]affiant/api.Pair,affiant/api.Pair,string] -/
def slices_BinarySearchFunc_LPair_Pair_string_1a7a (a0 : List (T18c3)) (a1 : B8) : Option (Int × Bool) :=
  andThen (slices_BinarySearchFunc_LPair_Pair_string_1a7a_1 a0 a1 (List.length a0 : Int) (0 : Int) (List.length a0 : Int)) (fun o7 => fork (decide (o7.2.2.2 < o7.2.2.1)) (need (0 ≤ o7.2.2.2 ∧ o7.2.2.2 < (List.length o7.1 : Int)) (andThen (kv_placeF1 (List.getD o7.1 (Int.toNat o7.2.2.2) (([] : B8), ([] : B8), ())) o7.2.1) (fun u11 => some (o7.2.2.2, (decide (u11 = (0 : Int))))))) (some (o7.2.2.2, false)))
/-- affiant/kv.place -/
def kv_place (a0 : List (T18c3)) (a1 : B8) : Option (Int × Bool) :=
  andThen (slices_BinarySearchFunc_LPair_Pair_string_1a7a a0 a1) (fun u1 => some (u1.1, u1.2))
/-- affiant/kv.may -/
def kv_may (a0 : T18c3) : Option (Bool) :=
  fork (!decide (a0.1 = ([] : B8))) (fork (decide ((List.length a0.1 : Int) ≤ (16 : Int))) (some (decide ((List.length a0.2.1 : Int) ≤ (24 : Int)))) (some false)) (some false)
/-- slices.Grow[[]affiant/api.Pair,affiant/api.Pair] -/
def slices_Grow_LPair_Pair_f4c0 (a0 : Int) : Option (List (T18c3)) :=
  fork (decide (a0 < (0 : Int))) (none) (fork (decide ((0 : Int) < (w64 (a0 - (0 : Int))))) (need ((0 : Int) = 0 ∧ (0 : Int) = 0) (need (List.length (List.replicate (Int.toNat (w64 (a0 - (0 : Int)))) (([] : B8), ([] : B8), ())) ≤ 2147483648) (need (0 ≤ (w64 (a0 - (0 : Int))) ∧ (w64 (a0 - (0 : Int))) ≤ 1073741824) (need ((0 : Int) = 0 ∧ 0 ≤ (0 : Int) ∧ (0 : Int) ≤ (List.length (List.replicate (Int.toNat (w64 (a0 - (0 : Int)))) (([] : B8), ([] : B8), ())) : Int)) (some (List.take (Int.toNat (0 : Int)) (List.replicate (Int.toNat (w64 (a0 - (0 : Int)))) (([] : B8), ([] : B8), ())))))))) (some ([] : List (T18c3))))
def slices_Concat_LPair_Pair_1_step (x0 : List (List (T18c3))) (x1 : Int) (x2 : List (List (T18c3))) (x3 : Int) (x4 : Int) : Option ((Int × Int) ⊕ ((List (List (T18c3))) × Int)) :=
  fork (decide (x4 < x3)) (need (0 ≤ x4 ∧ x4 < (List.length x2 : Int)) (fork (decide ((w64 (x1 + (List.length (List.getD x2 (Int.toNat x4) ([] : List (T18c3))) : Int))) < (0 : Int))) (none) (some (.inl ((w64 (x1 + (List.length (List.getD x2 (Int.toNat x4) ([] : List (T18c3))) : Int))), (w64 (x4 + (1 : Int)))))))) (some (.inr (x0, x1)))
def slices_Concat_LPair_Pair_1 (x0 : List (List (T18c3))) (x1 : Int) (x2 : List (List (T18c3))) (x3 : Int) (x4 : Int) : Option ((List (List (T18c3))) × Int) := loop (fun (s : Int × Int) => slices_Concat_LPair_Pair_1_step x0 s.1 x2 x3 s.2) (x1, x4)
def slices_Concat_LPair_Pair_2_step (x0 : List (List (T18c3))) (x1 : Int) (x2 : Int) (x3 : List (T18c3)) : Option ((Int × List (T18c3)) ⊕ (List (T18c3))) :=
  fork (decide (x2 < x1)) (need (0 ≤ x2 ∧ x2 < (List.length x0 : Int)) (need (List.length x3 + List.length (List.getD x0 (Int.toNat x2) ([] : List (T18c3))) ≤ 2147483648) (some (.inl ((w64 (x2 + (1 : Int))), (x3 ++ (List.getD x0 (Int.toNat x2) ([] : List (T18c3))))))))) (some (.inr x3))
def slices_Concat_LPair_Pair_2 (x0 : List (List (T18c3))) (x1 : Int) (x2 : Int) (x3 : List (T18c3)) : Option (List (T18c3)) := loop (fun (s : Int × List (T18c3)) => slices_Concat_LPair_Pair_2_step x0 x1 s.1 s.2) (x2, x3)
/-- slices.Concat[[]affiant/api.Pair,affiant/api.Pair] -/
def slices_Concat_LPair_Pair (a0 : List (List (T18c3))) : Option (List (T18c3)) :=
  andThen (slices_Concat_LPair_Pair_1 a0 (0 : Int) a0 (List.length a0 : Int) (0 : Int)) (fun o5 => andThen (slices_Grow_LPair_Pair_f4c0 o5.2) (fun u7 => andThen (slices_Concat_LPair_Pair_2 o5.1 (List.length o5.1 : Int) (0 : Int) u7) (fun o13 => some o13)))
/-- affiant/kv.Set -/
def kv_Set (a0 : List (T18c3)) (a1 : T18c3) : Option ((List (T18c3)) × Bool) :=
  andThen (kv_place a0 a1.1) (fun u1 => andThen (kv_may a1) (fun u3 => fork (!u3) (some (a0, false)) (fork (!u1.2) (fork (decide ((30 : Int) ≤ (List.length a0 : Int))) (some (a0, false)) (fork u1.2 (need (0 ≤ (0 : Int) ∧ (0 : Int) ≤ u1.1 ∧ u1.1 ≤ (List.length a0 : Int)) (need (0 ≤ (w64 (u1.1 + (1 : Int))) ∧ (w64 (u1.1 + (1 : Int))) ≤ (List.length a0 : Int) ∧ (List.length a0 : Int) ≤ (List.length a0 : Int)) (andThen (slices_Concat_LPair_Pair ([(cutL a0 (0 : Int) u1.1), ([a1] : List (T18c3)), (cutL a0 (w64 (u1.1 + (1 : Int))) (List.length a0 : Int))] : List (List (T18c3)))) (fun u11 => some (u11, true))))) (need (0 ≤ (0 : Int) ∧ (0 : Int) ≤ u1.1 ∧ u1.1 ≤ (List.length a0 : Int)) (need (0 ≤ u1.1 ∧ u1.1 ≤ (List.length a0 : Int) ∧ (List.length a0 : Int) ≤ (List.length a0 : Int)) (andThen (slices_Concat_LPair_Pair ([(cutL a0 (0 : Int) u1.1), ([a1] : List (T18c3)), (cutL a0 u1.1 (List.length a0 : Int))] : List (List (T18c3)))) (fun u15 => some (u15, true))))))) (fork u1.2 (need (0 ≤ (0 : Int) ∧ (0 : Int) ≤ u1.1 ∧ u1.1 ≤ (List.length a0 : Int)) (need (0 ≤ (w64 (u1.1 + (1 : Int))) ∧ (w64 (u1.1 + (1 : Int))) ≤ (List.length a0 : Int) ∧ (List.length a0 : Int) ≤ (List.length a0 : Int)) (andThen (slices_Concat_LPair_Pair ([(cutL a0 (0 : Int) u1.1), ([a1] : List (T18c3)), (cutL a0 (w64 (u1.1 + (1 : Int))) (List.length a0 : Int))] : List (List (T18c3)))) (fun u20 => some (u20, true))))) (need (0 ≤ (0 : Int) ∧ (0 : Int) ≤ u1.1 ∧ u1.1 ≤ (List.length a0 : Int)) (need (0 ≤ u1.1 ∧ u1.1 ≤ (List.length a0 : Int) ∧ (List.length a0 : Int) ≤ (List.length a0 : Int)) (andThen (slices_Concat_LPair_Pair ([(cutL a0 (0 : Int) u1.1), ([a1] : List (T18c3)), (cutL a0 u1.1 (List.length a0 : Int))] : List (List (T18c3)))) (fun u24 => some (u24, true)))))))))
/-- (*affiant/store.Store).Set -/
def store_Store_Set_fb44 (a0 : T18c3) (a1 : T5e52) : Option (Bool × T5e52) :=
  andThen (kv_Set a1.1 a0) (fun u1 => some (u1.2, (u1.1, a1.2.1, a1.2.2.1, ())))
/-- slices.Clone[[][]affiant/api.Pair,[]affiant/api.Pair] -/
def slices_Clone_LPair_LPair (a0 : List (List (T18c3))) : Option (List (List (T18c3))) := need (List.length a0 ≤ 2147483648) (some a0)
/-- slices.Clone[[]affiant/api.Pair,affiant/api.Pair] -/
def slices_Clone_LPair_Pair (a0 : List (T18c3)) : Option (List (T18c3)) := need (List.length a0 ≤ 2147483648) (some a0)
/-- (*affiant/store.Store).Now -/
def store_Store_Now_57df (a0 : T5e52) : Option (List (T18c3)) :=
  andThen (slices_Clone_LPair_Pair a0.1) (fun u1 => some u1)
/-- (*affiant/store.Store).Commit -/
def store_Store_Commit_57df (a0 : T5e52) : Option (Int × T5e52) :=
  fork (decide (a0.2.1 = (16 : Int))) (some ((0 : Int), a0)) (andThen (slices_Clone_LPair_LPair a0.2.2.1) (fun u2 => andThen (store_Store_Now_57df (a0.1, (w64 (a0.2.1 + (1 : Int))), a0.2.2.1, ())) (fun u4 => need (List.length u2 + List.length ([u4] : List (List (T18c3))) ≤ 2147483648) (fork (decide ((6 : Int) < (List.length (u2 ++ ([u4] : List (List (T18c3)))) : Int))) (need (0 ≤ (1 : Int) ∧ (1 : Int) ≤ (List.length (u2 ++ ([u4] : List (List (T18c3)))) : Int) ∧ (List.length (u2 ++ ([u4] : List (List (T18c3)))) : Int) ≤ (List.length (u2 ++ ([u4] : List (List (T18c3)))) : Int)) (some ((w64 (a0.2.1 + (1 : Int))), (a0.1, (w64 (a0.2.1 + (1 : Int))), (cutL (u2 ++ ([u4] : List (List (T18c3)))) (1 : Int) (List.length (u2 ++ ([u4] : List (List (T18c3)))) : Int)), ())))) (some ((w64 (a0.2.1 + (1 : Int))), (a0.1, (w64 (a0.2.1 + (1 : Int))), (u2 ++ ([u4] : List (List (T18c3)))), ())))))))
/-- affiant/kv.Del -/
def kv_Del (a0 : List (T18c3)) (a1 : B8) : Option (List (T18c3)) :=
  andThen (kv_place a0 a1) (fun u1 => fork (!u1.2) (some a0) (need (0 ≤ (0 : Int) ∧ (0 : Int) ≤ u1.1 ∧ u1.1 ≤ (List.length a0 : Int)) (need (0 ≤ (w64 (u1.1 + (1 : Int))) ∧ (w64 (u1.1 + (1 : Int))) ≤ (List.length a0 : Int) ∧ (List.length a0 : Int) ≤ (List.length a0 : Int)) (andThen (slices_Concat_LPair_Pair ([(cutL a0 (0 : Int) u1.1), (cutL a0 (w64 (u1.1 + (1 : Int))) (List.length a0 : Int))] : List (List (T18c3)))) (fun u6 => some u6)))))
/-- (*affiant/store.Store).Del -/
def store_Store_Del_71d6 (a0 : B8) (a1 : T5e52) : Option (T5e52) :=
  andThen (kv_Del a1.1 a0) (fun u1 => some (u1, a1.2.1, a1.2.2.1, ()))
/-- (*affiant/store.Store).lowest -/
def store_Store_lowest_57df (a0 : T5e52) : Option (Int) :=
  some (w64 ((w64 (a0.2.1 - (List.length a0.2.2.1 : Int))) + (1 : Int)))
/-- (*affiant/store.Store).At -/
def store_Store_At_79c2 (a0 : Int) (a1 : T5e52) : Option ((List (T18c3)) × Bool) :=
  andThen (store_Store_lowest_57df a1) (fun u1 => fork (decide (a0 < u1)) (some (([] : List (T18c3)), false)) (fork (decide (a1.2.1 < a0)) (some (([] : List (T18c3)), false)) (andThen (store_Store_lowest_57df a1) (fun u5 => need (0 ≤ (w64 (a0 - u5)) ∧ (w64 (a0 - u5)) < (List.length a1.2.2.1 : Int)) (andThen (slices_Clone_LPair_Pair (List.getD a1.2.2.1 (Int.toNat (w64 (a0 - u5))) ([] : List (T18c3)))) (fun u8 => some (u8, true)))))))
/-- (*affiant/store.Store).Height -/
def store_Store_Height_57df (a0 : T5e52) : Option (Int) :=
  some a0.2.1
/-- affiant/affiantlaw7.StoreRuns -/
def affiantlaw7_StoreRuns  : Option (Bool) :=
  andThen (store_New) (fun u1 => andThen (store_Store_Set_fb44 (([97] : B8), ([] : B8), ()) u1) (fun u3 => andThen (store_Store_Commit_57df u3.2) (fun u5 => andThen (store_Store_Del_71d6 ([97] : B8) u5.2) (fun u7 => andThen (store_Store_Commit_57df u7) (fun u9 => andThen (store_Store_At_79c2 (1 : Int) u9.2) (fun u11 => andThen (store_Store_At_79c2 (2 : Int) u9.2) (fun u13 => fork (decide (u5.1 = (1 : Int))) (fork (decide (u9.1 = (2 : Int))) (fork (decide ((List.length u11.1 : Int) = (1 : Int))) (fork u11.2 (fork (decide ((List.length u13.1 : Int) = (0 : Int))) (fork u13.2 (andThen (store_Store_Height_57df u9.2) (fun u21 => some (decide (u21 = (2 : Int))))) (none)) (none)) (none)) (none)) (none)) (none))))))))
end
end Go.Ax.V
