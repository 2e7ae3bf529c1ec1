/-
  What the functions compute, by value.
-/
import Derived.Test.YtbpcajicbklkcaaAxC
namespace Go.Ax.V
open Go.Ax
set_option maxRecDepth 100000
set_option linter.unusedVariables false
noncomputable section
/-- affiant/head.Right -/
def head_Right (a0 : Int × Int × List UInt8 × List UInt8 × List UInt8 × List UInt8 × Unit) : Option (Bool) :=
  fork (decide ((1 : Int) ≤ a0.1)) (fork (decide (a0.1 ≤ (16 : Int))) (fork (decide ((0 : Int) ≤ a0.2.1)) (some (decide (a0.2.1 ≤ (1073741824 : Int)))) (some false)) (some false)) (some false)
def vint_one_1_step (x0 : Int) (x1 : List UInt8) : Option ((Int × List UInt8) ⊕ (Int × List UInt8)) :=
  fork (decide ((127 : Int) < x0)) (need (List.length x1 + List.length ([(UInt8.ofNat (Int.toNat ((bor (band x0 (127 : Int)) (128 : Int)) % 256)))] : List (UInt8)) ≤ 2147483648) (some (.inl ((ishr x0 (Int.toNat (7 : Int))), (x1 ++ ([(UInt8.ofNat (Int.toNat ((bor (band x0 (127 : Int)) (128 : Int)) % 256)))] : List (UInt8))))))) (some (.inr (x0, x1)))
def vint_one_1 (x0 : Int) (x1 : List UInt8) : Option (Int × List UInt8) := loop (fun (s : Int × List UInt8) => vint_one_1_step s.1 s.2) (x0, x1)
/-- affiant/vint.one -/
def vint_one (a0 : Int) : Option (List UInt8) :=
  fork (decide (a0 < (0 : Int))) (some ([] : List (UInt8))) (fork (decide ((1099511627775 : Int) < a0)) (some ([] : List (UInt8))) (andThen (vint_one_1 a0 ([] : List (UInt8))) (fun o6 => need (List.length o6.2 + List.length ([(UInt8.ofNat (Int.toNat (o6.1 % 256)))] : List (UInt8)) ≤ 2147483648) (some (o6.2 ++ ([(UInt8.ofNat (Int.toNat (o6.1 % 256)))] : List (UInt8)))))))
def vint_Put_1_step (x0 : List Int) (x1 : Int) (x2 : Int) (x3 : List UInt8) : Option ((Int × List UInt8) ⊕ (List UInt8)) :=
  fork (decide (x2 < x1)) (need (0 ≤ x2 ∧ x2 < (List.length x0 : Int)) (andThen (vint_one (List.getD x0 (Int.toNat x2) (0 : Int))) (fun u4 => need (List.length x3 + List.length u4 ≤ 2147483648) (some (.inl ((w64 (x2 + (1 : Int))), (x3 ++ u4))))))) (some (.inr x3))
def vint_Put_1 (x0 : List Int) (x1 : Int) (x2 : Int) (x3 : List UInt8) : Option (List UInt8) := loop (fun (s : Int × List UInt8) => vint_Put_1_step x0 x1 s.1 s.2) (x2, x3)
/-- affiant/vint.Put -/
def vint_Put (a0 : List Int) : Option (List UInt8) :=
  andThen (vint_Put_1 a0 (List.length a0 : Int) (0 : Int) ([] : List (UInt8))) (fun o7 => some o7)
def vint_Hash_1_step (x0 : List (List UInt8)) (x1 : Int) (x2 : Int) (x3 : List UInt8) : Option ((Int × List UInt8) ⊕ (List UInt8)) :=
  fork (decide (x2 < x1)) (need (0 ≤ x2 ∧ x2 < (List.length x0 : Int)) (need (List.length x3 + List.length (List.getD x0 (Int.toNat x2) (List.replicate 32 (0 : UInt8))) ≤ 2147483648) (some (.inl ((w64 (x2 + (1 : Int))), (x3 ++ (List.getD x0 (Int.toNat x2) (List.replicate 32 (0 : UInt8))))))))) (some (.inr x3))
def vint_Hash_1 (x0 : List (List UInt8)) (x1 : Int) (x2 : Int) (x3 : List UInt8) : Option (List UInt8) := loop (fun (s : Int × List UInt8) => vint_Hash_1_step x0 x1 s.1 s.2) (x2, x3)
/-- affiant/vint.Hash -/
def vint_Hash (a0 : List (List UInt8)) : Option (List UInt8) :=
  andThen (vint_Hash_1 a0 (List.length a0 : Int) (0 : Int) ([] : List (UInt8))) (fun o5 => some o5)
/-- affiant/head.Bytes -/
def head_Bytes (a0 : Int × Int × List UInt8 × List UInt8 × List UInt8 × List UInt8 × Unit) : Option (List UInt8) :=
  andThen (head_Right a0) (fun u1 => fork (!u1) (some ([] : List (UInt8))) (andThen (vint_Put ([a0.1, a0.2.1] : List (Int))) (fun u4 => andThen (vint_Hash ([a0.2.2.1, a0.2.2.2.1, a0.2.2.2.2.1, a0.2.2.2.2.2.1] : List (List UInt8))) (fun u6 => need (List.length u4 + List.length u6 ≤ 2147483648) (some (u4 ++ u6))))))
/-- affiant/vint.Read -/
def vint_Read (a0 : List UInt8) : Option (List UInt8 × Bool × Unit) :=
  need (List.length ([] : List (UInt8)) + List.length a0 ≤ 2147483648) (some ((([] : List (UInt8)) ++ a0), false, ()))
/-- (*affiant/vint.Reader).take -/
def vint_Reader_take_a34d (a0 : Int) (a1 : List UInt8 × Bool × Unit) : Option (List UInt8 × List UInt8 × Bool × Unit) :=
  fork a1.2.1 (some (([] : List UInt8), (a1.1, true, ()))) (fork (decide ((List.length a1.1 : Int) < a0)) (some (([] : List UInt8), (a1.1, true, ()))) (need (0 ≤ (0 : Int) ∧ (0 : Int) ≤ a0 ∧ a0 ≤ (List.length a1.1 : Int)) (need (0 ≤ a0 ∧ a0 ≤ (List.length a1.1 : Int) ∧ (List.length a1.1 : Int) ≤ (List.length a1.1 : Int)) (some ((cutL a1.1 (0 : Int) a0), ((cutL a1.1 a0 (List.length a1.1 : Int)), a1.2.1, ()))))))
def vint_Reader_Number_4c5f_1_step (x0 : Int) (x1 : Int) (x2 : List UInt8 × Bool × Unit) : Option ((Int × Int × List UInt8 × Bool × Unit) ⊕ ((Int × List UInt8 × Bool × Unit) ⊕ (List UInt8 × Bool × Unit))) :=
  fork (decide (x1 < (42 : Int))) (andThen (vint_Reader_take_a34d (1 : Int) x2) (fun u3 => fork (decide ((List.length u3.1 : Int) = (0 : Int))) (some (.inr (.inl ((0 : Int), u3.2)))) (need (0 ≤ (0 : Int) ∧ (0 : Int) < (List.length u3.1 : Int)) (need (0 ≤ x1) (fork (decide ((List.getD u3.1 (Int.toNat (0 : Int)) (0 : UInt8)) < (128 : UInt8))) (fork (decide ((1099511627775 : Int) < (bor x0 (ishl ((UInt8.toNat ((List.getD u3.1 (Int.toNat (0 : Int)) (0 : UInt8)) &&& (127 : UInt8)) : Nat) : Int) (Int.toNat x1))))) (some (.inr (.inr u3.2))) (fork (decide ((List.getD u3.1 (Int.toNat (0 : Int)) (0 : UInt8)) = (0 : UInt8))) (fork (decide ((0 : Int) < x1)) (some (.inr (.inr u3.2))) (some (.inr (.inl ((bor x0 (ishl ((UInt8.toNat ((List.getD u3.1 (Int.toNat (0 : Int)) (0 : UInt8)) &&& (127 : UInt8)) : Nat) : Int) (Int.toNat x1))), u3.2))))) (some (.inr (.inl ((bor x0 (ishl ((UInt8.toNat ((List.getD u3.1 (Int.toNat (0 : Int)) (0 : UInt8)) &&& (127 : UInt8)) : Nat) : Int) (Int.toNat x1))), u3.2)))))) (some (.inl ((bor x0 (ishl ((UInt8.toNat ((List.getD u3.1 (Int.toNat (0 : Int)) (0 : UInt8)) &&& (127 : UInt8)) : Nat) : Int) (Int.toNat x1))), (w64 (x1 + (7 : Int))), u3.2)))))))) (some (.inr (.inr x2)))
def vint_Reader_Number_4c5f_1 (x0 : Int) (x1 : Int) (x2 : List UInt8 × Bool × Unit) : Option ((Int × List UInt8 × Bool × Unit) ⊕ (List UInt8 × Bool × Unit)) := loop (fun (s : Int × Int × List UInt8 × Bool × Unit) => vint_Reader_Number_4c5f_1_step s.1 s.2.1 s.2.2) (x0, x1, x2)
/-- (*affiant/vint.Reader).Number -/
def vint_Reader_Number_4c5f (a0 : List UInt8 × Bool × Unit) : Option (Int × List UInt8 × Bool × Unit) :=
  andThen (vint_Reader_Number_4c5f_1 (0 : Int) (0 : Int) a0) (fun o12 => (match o12 with | .inl o14 => some (o14.1, o14.2) | .inr o15 => some ((0 : Int), (o15.1, true, ()))))
/-- (*affiant/vint.Reader).Hash -/
def vint_Reader_Hash_4c5f (a0 : List UInt8 × Bool × Unit) : Option (List UInt8 × List UInt8 × Bool × Unit) :=
  andThen (vint_Reader_take_a34d (32 : Int) a0) (fun u1 => some ((List.take (List.length (List.replicate 32 (0 : UInt8))) u1.1 ++ List.drop (List.length u1.1) (List.replicate 32 (0 : UInt8))), u1.2))
/-- (*affiant/vint.Reader).Done -/
def vint_Reader_Done_4c5f (a0 : List UInt8 × Bool × Unit) : Option (Bool) :=
  fork (!a0.2.1) (some (decide ((List.length a0.1 : Int) = (0 : Int)))) (some false)
/-- affiant/head.Read -/
def head_Read (a0 : List UInt8) : Option ((Int × Int × List UInt8 × List UInt8 × List UInt8 × List UInt8 × Unit) × Int) :=
  andThen (vint_Read a0) (fun u1 => andThen (vint_Reader_Number_4c5f u1) (fun u3 => andThen (vint_Reader_Number_4c5f u3.2) (fun u5 => andThen (vint_Reader_Hash_4c5f u5.2) (fun u7 => andThen (vint_Reader_Hash_4c5f u7.2) (fun u9 => andThen (vint_Reader_Hash_4c5f u9.2) (fun u11 => andThen (vint_Reader_Hash_4c5f u11.2) (fun u13 => andThen (vint_Reader_Done_4c5f u13.2) (fun u15 => fork (!u15) (some (((0 : Int), (0 : Int), (List.replicate 32 (0 : UInt8)), (List.replicate 32 (0 : UInt8)), (List.replicate 32 (0 : UInt8)), (List.replicate 32 (0 : UInt8)), ()), (1 : Int))) (andThen (head_Right (u3.1, u5.1, u7.1, u9.1, u11.1, u13.1, ())) (fun u18 => fork (!u18) (some (((0 : Int), (0 : Int), (List.replicate 32 (0 : UInt8)), (List.replicate 32 (0 : UInt8)), (List.replicate 32 (0 : UInt8)), (List.replicate 32 (0 : UInt8)), ()), (1 : Int))) (some ((u3.1, u5.1, u7.1, u9.1, u11.1, u13.1, ()), (0 : Int)))))))))))))
/-- affiant/affiantlaw11.HeadRuns -/
def affiantlaw11_HeadRuns  : Option (Bool) :=
  andThen (head_Bytes ((3 : Int), (200 : Int), (List.replicate 32 (0 : UInt8)), (List.replicate 32 (0 : UInt8)), (List.replicate 32 (0 : UInt8)), (List.replicate 32 (0 : UInt8)), ())) (fun u1 => andThen (head_Read ([(3 : UInt8)] : List (UInt8))) (fun u3 => fork (decide ((List.length u1 : Int) = (131 : Int))) (need (0 ≤ (0 : Int) ∧ (0 : Int) < (List.length u1 : Int)) (fork (decide ((List.getD u1 (Int.toNat (0 : Int)) (0 : UInt8)) = (3 : UInt8))) (need (0 ≤ (1 : Int) ∧ (1 : Int) < (List.length u1 : Int)) (fork (decide ((List.getD u1 (Int.toNat (1 : Int)) (0 : UInt8)) = (200 : UInt8))) (need (0 ≤ (2 : Int) ∧ (2 : Int) < (List.length u1 : Int)) (fork (decide ((List.getD u1 (Int.toNat (2 : Int)) (0 : UInt8)) = (1 : UInt8))) (fork (decide (u3.2 = (1 : Int))) (andThen (head_Right ((0 : Int), (0 : Int), (List.replicate 32 (0 : UInt8)), (List.replicate 32 (0 : UInt8)), (List.replicate 32 (0 : UInt8)), (List.replicate 32 (0 : UInt8)), ())) (fun u13 => some (!u13))) (none)) (none))) (none))) (none))) (none)))
end
end Go.Ax.V
