/-
  What the functions compute, by value.
-/
import Derived.Test.YtmgmncfhldelfaaAxC
namespace Go.Ax.V
open Go.Ax
set_option maxRecDepth 100000
set_option linter.unusedVariables false
noncomputable section
abbrev B8 : Type := List UInt8
abbrev T18c3 : Type := B8 × B8 × Unit
abbrev T20c7 : Type := Int × Int × (List (T18c3)) × List (List (B8)) × Unit
/-- affiant/affiantkeep.keys -/
def affiantkeep_keys  : Option (List (B8)) :=
  some ([([97] : B8), ([97, 98] : B8), ([97, 98, 99] : B8), ([98] : B8), ([98, 97] : B8), ([115, 47, 97] : B8), ([115, 47, 98] : B8), ([115, 47, 99] : B8), ([116] : B8), ([117] : B8), ([122] : B8), ([122, 122] : B8)] : List (B8))
/-- affiant/affiantbook.Within -/
def affiantbook_Within (a0 : Int) (a1 : Int) (a2 : Int) : Option (Int) :=
  need ((w64 ((w64 (a2 - a1)) + (1 : Int))) ≠ 0) (fork (decide ((Int.tmod a0 (w64 ((w64 (a2 - a1)) + (1 : Int)))) < (0 : Int))) (some (w64 (a1 + (w64 ((w64 ((w64 ((Int.tmod a0 (w64 ((w64 (a2 - a1)) + (1 : Int)))) + a2)) - a1)) + (1 : Int)))))) (some (w64 (a1 + (Int.tmod a0 (w64 ((w64 (a2 - a1)) + (1 : Int))))))))
/-- affiant/affiantkeep.Key -/
def affiantkeep_Key (a0 : Int) : Option (B8) :=
  andThen (affiantkeep_keys) (fun u1 => andThen (affiantkeep_keys) (fun u3 => andThen (affiantbook_Within a0 (0 : Int) (w64 ((List.length u3 : Int) - (1 : Int)))) (fun u5 => need (0 ≤ u5 ∧ u5 < (List.length u1 : Int)) (some (List.getD u1 (Int.toNat u5) ([] : B8))))))
/-- affiant/affiantkeep.Text -/
def affiantkeep_Text (a0 : Int) : Option (B8) :=
  andThen (affiantbook_Within a0 (0 : Int) (4 : Int)) (fun u1 => need (0 ≤ u1 ∧ u1 < (List.length ([([] : B8), ([49] : B8), ([120] : B8), ([118, 97, 108, 117, 101] : B8), ([49, 50, 51, 52, 53, 54, 55, 56] : B8)] : List (B8)) : Int)) (some (List.getD ([([] : B8), ([49] : B8), ([120] : B8), ([118, 97, 108, 117, 101] : B8), ([49, 50, 51, 52, 53, 54, 55, 56] : B8)] : List (B8)) (Int.toNat u1) ([] : B8))))
def affiantkeep_Pairs_1_step (x0 : List Int) (x1 : Int) (x2 : List (B8 × B8)) : Option ((Int × List (B8 × B8)) ⊕ (List (B8 × B8))) :=
  fork (decide (x1 < (List.length x0 : Int))) (fork (decide (x1 < (12 : Int))) (need (0 ≤ x1 ∧ x1 < (List.length x0 : Int)) (andThen (affiantkeep_Key (List.getD x0 (Int.toNat x1) (0 : Int))) (fun u5 => andThen (affiantkeep_Text (w64 (Int.tdiv (List.getD x0 (Int.toNat x1) (0 : Int)) (12 : Int)))) (fun u7 => some (.inl ((w64 (x1 + (1 : Int))), (mapPut u5 u7 x2))))))) (some (.inr x2))) (some (.inr x2))
def affiantkeep_Pairs_1 (x0 : List Int) (x1 : Int) (x2 : List (B8 × B8)) : Option (List (B8 × B8)) := loop (fun (s : Int × List (B8 × B8)) => affiantkeep_Pairs_1_step x0 s.1 s.2) (x1, x2)
def affiantkeep_Pairs_2_step (x0 : Int) (x1 : Int) (x2 : List (B8 × B8)) (x3 : List (T18c3)) (x4 : List (B8)) : Option ((Int × List (T18c3)) ⊕ (List (T18c3))) :=
  fork (decide (x1 < x0)) (need (0 ≤ x1 ∧ x1 < (List.length x4 : Int)) (fork (Option.isSome (mapGet (List.getD x4 (Int.toNat x1) ([] : B8)) x2)) (need (List.length x3 + List.length ([((List.getD x4 (Int.toNat x1) ([] : B8)), (Option.getD (mapGet (List.getD x4 (Int.toNat x1) ([] : B8)) x2) ([] : B8)), ())] : List (T18c3)) ≤ 2147483648) (some (.inl ((w64 (x1 + (1 : Int))), (x3 ++ ([((List.getD x4 (Int.toNat x1) ([] : B8)), (Option.getD (mapGet (List.getD x4 (Int.toNat x1) ([] : B8)) x2) ([] : B8)), ())] : List (T18c3))))))) (some (.inl ((w64 (x1 + (1 : Int))), x3))))) (some (.inr x3))
def affiantkeep_Pairs_2 (x0 : Int) (x1 : Int) (x2 : List (B8 × B8)) (x3 : List (T18c3)) (x4 : List (B8)) : Option (List (T18c3)) := loop (fun (s : Int × List (T18c3)) => affiantkeep_Pairs_2_step x0 s.1 x2 s.2 x4) (x1, x3)
/-- affiant/affiantkeep.Pairs -/
def affiantkeep_Pairs (a0 : List Int) : Option (List (T18c3)) :=
  andThen (affiantkeep_Pairs_1 a0 (0 : Int) ([] : List (B8 × B8))) (fun o9 => andThen (affiantkeep_keys) (fun u11 => andThen (affiantkeep_Pairs_2 (List.length u11 : Int) (0 : Int) o9 ([] : List (T18c3)) u11) (fun o18 => some o18)))
def vint_one_1_step (x0 : Int) (x1 : B8) : Option ((Int × B8) ⊕ (Int × B8)) :=
  fork (decide ((127 : Int) < x0)) (need (List.length x1 + List.length ([(UInt8.ofNat (Int.toNat ((bor (band x0 (127 : Int)) (128 : Int)) % 256)))] : List (UInt8)) ≤ 2147483648) (some (.inl ((ishr x0 (Int.toNat (7 : Int))), (x1 ++ ([(UInt8.ofNat (Int.toNat ((bor (band x0 (127 : Int)) (128 : Int)) % 256)))] : List (UInt8))))))) (some (.inr (x0, x1)))
def vint_one_1 (x0 : Int) (x1 : B8) : Option (Int × B8) := loop (fun (s : Int × B8) => vint_one_1_step s.1 s.2) (x0, x1)
/-- affiant/vint.one -/
def vint_one (a0 : Int) : Option (B8) :=
  fork (decide (a0 < (0 : Int))) (some ([] : List (UInt8))) (fork (decide ((1099511627775 : Int) < a0)) (some ([] : List (UInt8))) (andThen (vint_one_1 a0 ([] : List (UInt8))) (fun o6 => need (List.length o6.2 + List.length ([(UInt8.ofNat (Int.toNat (o6.1 % 256)))] : List (UInt8)) ≤ 2147483648) (some (o6.2 ++ ([(UInt8.ofNat (Int.toNat (o6.1 % 256)))] : List (UInt8)))))))
def vint_Text_1_step (x0 : List (B8)) (x1 : Int) (x2 : Int) (x3 : B8) : Option ((Int × B8) ⊕ (B8)) :=
  fork (decide (x2 < x1)) (need (0 ≤ x2 ∧ x2 < (List.length x0 : Int)) (andThen (vint_one (List.length (List.getD x0 (Int.toNat x2) ([] : B8)) : Int)) (fun u4 => need (List.length x3 + List.length u4 ≤ 2147483648) (need (List.length (x3 ++ u4) + List.length (List.getD x0 (Int.toNat x2) ([] : B8)) ≤ 2147483648) (some (.inl ((w64 (x2 + (1 : Int))), ((x3 ++ u4) ++ (List.getD x0 (Int.toNat x2) ([] : B8)))))))))) (some (.inr x3))
def vint_Text_1 (x0 : List (B8)) (x1 : Int) (x2 : Int) (x3 : B8) : Option (B8) := loop (fun (s : Int × B8) => vint_Text_1_step x0 x1 s.1 s.2) (x2, x3)
/-- affiant/vint.Text -/
def vint_Text (a0 : List (B8)) : Option (B8) :=
  andThen (vint_Text_1 a0 (List.length a0 : Int) (0 : Int) ([] : List (UInt8))) (fun o8 => some o8)
/-- affiant/kv.Leaf -/
def kv_Leaf (a0 : T18c3) : Option (B8) :=
  andThen (vint_Text ([a0.1, a0.2.1] : List (B8))) (fun u1 => some u1)
def tree_left_1_step (x0 : Int) (x1 : Int) : Option ((Int) ⊕ (Int)) :=
  fork (decide ((w64 ((2 : Int) * x1)) < x0)) (some (.inl (w64 (x1 * (2 : Int))))) (some (.inr x1))
def tree_left_1 (x0 : Int) (x1 : Int) : Option (Int) := loop (fun (s : Int) => tree_left_1_step x0 s) x1
/-- affiant/tree.left -/
def tree_left (a0 : Int) : Option (Int) :=
  andThen (tree_left_1 a0 (1 : Int)) (fun o3 => some o3)
/-- affiant/sha.first -/
def sha_first  : Option (List UInt32) :=
  some (List.set (List.set (List.set (List.set (List.set (List.set (List.set (List.set (List.replicate 8 (0 : UInt32)) 0 (1779033703 : UInt32)) 1 (3144134277 : UInt32)) 2 (1013904242 : UInt32)) 3 (2773480762 : UInt32)) 4 (1359893119 : UInt32)) 5 (2600822924 : UInt32)) 6 (528734635 : UInt32)) 7 (1541459225 : UInt32))
/-- affiant/sha.added -/
def sha_added  : Option (List UInt32) :=
  some (List.set (List.set (List.set (List.set (List.set (List.set (List.set (List.set (List.set (List.set (List.set (List.set (List.set (List.set (List.set (List.set (List.set (List.set (List.set (List.set (List.set (List.set (List.set (List.set (List.set (List.set (List.set (List.set (List.set (List.set (List.set (List.set (List.set (List.set (List.set (List.set (List.set (List.set (List.set (List.set (List.set (List.set (List.set (List.set (List.set (List.set (List.set (List.set (List.set (List.set (List.set (List.set (List.set (List.set (List.set (List.set (List.set (List.set (List.set (List.set (List.set (List.set (List.set (List.set (List.replicate 64 (0 : UInt32)) 0 (1116352408 : UInt32)) 1 (1899447441 : UInt32)) 2 (3049323471 : UInt32)) 3 (3921009573 : UInt32)) 4 (961987163 : UInt32)) 5 (1508970993 : UInt32)) 6 (2453635748 : UInt32)) 7 (2870763221 : UInt32)) 8 (3624381080 : UInt32)) 9 (310598401 : UInt32)) 10 (607225278 : UInt32)) 11 (1426881987 : UInt32)) 12 (1925078388 : UInt32)) 13 (2162078206 : UInt32)) 14 (2614888103 : UInt32)) 15 (3248222580 : UInt32)) 16 (3835390401 : UInt32)) 17 (4022224774 : UInt32)) 18 (264347078 : UInt32)) 19 (604807628 : UInt32)) 20 (770255983 : UInt32)) 21 (1249150122 : UInt32)) 22 (1555081692 : UInt32)) 23 (1996064986 : UInt32)) 24 (2554220882 : UInt32)) 25 (2821834349 : UInt32)) 26 (2952996808 : UInt32)) 27 (3210313671 : UInt32)) 28 (3336571891 : UInt32)) 29 (3584528711 : UInt32)) 30 (113926993 : UInt32)) 31 (338241895 : UInt32)) 32 (666307205 : UInt32)) 33 (773529912 : UInt32)) 34 (1294757372 : UInt32)) 35 (1396182291 : UInt32)) 36 (1695183700 : UInt32)) 37 (1986661051 : UInt32)) 38 (2177026350 : UInt32)) 39 (2456956037 : UInt32)) 40 (2730485921 : UInt32)) 41 (2820302411 : UInt32)) 42 (3259730800 : UInt32)) 43 (3345764771 : UInt32)) 44 (3516065817 : UInt32)) 45 (3600352804 : UInt32)) 46 (4094571909 : UInt32)) 47 (275423344 : UInt32)) 48 (430227734 : UInt32)) 49 (506948616 : UInt32)) 50 (659060556 : UInt32)) 51 (883997877 : UInt32)) 52 (958139571 : UInt32)) 53 (1322822218 : UInt32)) 54 (1537002063 : UInt32)) 55 (1747873779 : UInt32)) 56 (1955562222 : UInt32)) 57 (2024104815 : UInt32)) 58 (2227730452 : UInt32)) 59 (2361852424 : UInt32)) 60 (2428436474 : UInt32)) 61 (2756734187 : UInt32)) 62 (3204031479 : UInt32)) 63 (3329325298 : UInt32))
/-- affiant/sha.Blocks -/
def sha_Blocks (a0 : Int) : Option (Int) :=
  some (w64 ((w64 (Int.tdiv (w64 (a0 + (8 : Int))) (64 : Int))) + (1 : Int)))
def sha_padded_1_step (x0 : UInt64) (x1 : Int) (x2 : B8) : Option ((Int × B8) ⊕ (B8)) :=
  fork (decide (x1 < (8 : Int))) (need (0 ≤ (w64 ((8 : Int) * x1))) (need (0 ≤ (w64 ((w64 ((List.length x2 : Int) - (1 : Int))) - x1)) ∧ (w64 ((w64 ((List.length x2 : Int) - (1 : Int))) - x1)) < (List.length x2 : Int)) (some (.inl ((w64 (x1 + (1 : Int))), (List.set x2 (Int.toNat (w64 ((w64 ((List.length x2 : Int) - (1 : Int))) - x1))) (UInt8.ofNat (UInt64.toNat (UInt64.ofNat (UInt64.toNat x0 >>> (Int.toNat (w64 ((8 : Int) * x1))))))))))))) (some (.inr x2))
def sha_padded_1 (x0 : UInt64) (x1 : Int) (x2 : B8) : Option (B8) := loop (fun (s : Int × B8) => sha_padded_1_step x0 s.1 s.2) (x1, x2)
/-- affiant/sha.padded -/
def sha_padded (a0 : B8) : Option (B8) :=
  andThen (sha_Blocks (List.length a0 : Int)) (fun u1 => need (0 ≤ (w64 (u1 * (64 : Int))) ∧ (w64 (u1 * (64 : Int))) ≤ (w64 (u1 * (64 : Int))) ∧ (w64 (u1 * (64 : Int))) ≤ 2147483648) (need (0 ≤ (List.length a0 : Int) ∧ (List.length a0 : Int) < (List.length (List.take (List.length (List.replicate (Int.toNat (w64 (u1 * (64 : Int)))) (0 : UInt8))) a0 ++ List.drop (List.length a0) (List.replicate (Int.toNat (w64 (u1 * (64 : Int)))) (0 : UInt8))) : Int)) (andThen (sha_padded_1 ((UInt64.ofNat (Int.toNat ((List.length a0 : Int) % 18446744073709551616))) * (8 : UInt64)) (0 : Int) (List.set (List.take (List.length (List.replicate (Int.toNat (w64 (u1 * (64 : Int)))) (0 : UInt8))) a0 ++ List.drop (List.length a0) (List.replicate (Int.toNat (w64 (u1 * (64 : Int)))) (0 : UInt8))) (Int.toNat (List.length a0 : Int)) (128 : UInt8))) (fun o9 => some o9))))
/-- math/bits.RotateLeft32 -/
def bits_RotateLeft32 (a0 : UInt32) (a1 : Int) : Option (UInt32) :=
  need (0 ≤ ((((UInt64.ofNat (Int.toNat (a1 % 18446744073709551616))) &&& (31 : UInt64)).toNat : Nat) : Int)) (need (0 ≤ ((((32 : UInt64) - ((UInt64.ofNat (Int.toNat (a1 % 18446744073709551616))) &&& (31 : UInt64))).toNat : Nat) : Int)) (some ((UInt32.ofNat (UInt32.toNat a0 <<< (Int.toNat ((((UInt64.ofNat (Int.toNat (a1 % 18446744073709551616))) &&& (31 : UInt64)).toNat : Nat) : Int)))) ||| (UInt32.ofNat (UInt32.toNat a0 >>> (Int.toNat ((((32 : UInt64) - ((UInt64.ofNat (Int.toNat (a1 % 18446744073709551616))) &&& (31 : UInt64))).toNat : Nat) : Int)))))))
/-- affiant/sha.right -/
def sha_right (a0 : UInt32) (a1 : Int) : Option (UInt32) :=
  andThen (bits_RotateLeft32 a0 (w64 (0 - a1))) (fun u1 => some u1)
def sha_spread_1_step (x0 : B8) (x1 : Int) (x2 : List UInt32) (x3 : List UInt32) : Option ((Int × List UInt32) ⊕ (List UInt32 × List UInt32)) :=
  fork (decide (x1 < (16 : Int))) (need (0 ≤ (w64 ((4 : Int) * x1)) ∧ (w64 ((4 : Int) * x1)) < (List.length x0 : Int)) (need (0 ≤ (w64 ((w64 ((4 : Int) * x1)) + (1 : Int))) ∧ (w64 ((w64 ((4 : Int) * x1)) + (1 : Int))) < (List.length x0 : Int)) (need (0 ≤ (w64 ((w64 ((4 : Int) * x1)) + (2 : Int))) ∧ (w64 ((w64 ((4 : Int) * x1)) + (2 : Int))) < (List.length x0 : Int)) (need (0 ≤ (w64 ((w64 ((4 : Int) * x1)) + (3 : Int))) ∧ (w64 ((w64 ((4 : Int) * x1)) + (3 : Int))) < (List.length x0 : Int)) (need (0 ≤ x1 ∧ x1 < (64 : Int)) (some (.inl ((w64 (x1 + (1 : Int))), (List.set x3 (Int.toNat x1) ((((UInt32.ofNat (UInt32.toNat (UInt32.ofNat (UInt8.toNat (List.getD x0 (Int.toNat (w64 ((4 : Int) * x1))) (0 : UInt8)))) <<< (Int.toNat (24 : Int)))) ||| (UInt32.ofNat (UInt32.toNat (UInt32.ofNat (UInt8.toNat (List.getD x0 (Int.toNat (w64 ((w64 ((4 : Int) * x1)) + (1 : Int)))) (0 : UInt8)))) <<< (Int.toNat (16 : Int))))) ||| (UInt32.ofNat (UInt32.toNat (UInt32.ofNat (UInt8.toNat (List.getD x0 (Int.toNat (w64 ((w64 ((4 : Int) * x1)) + (2 : Int)))) (0 : UInt8)))) <<< (Int.toNat (8 : Int))))) ||| (UInt32.ofNat (UInt8.toNat (List.getD x0 (Int.toNat (w64 ((w64 ((4 : Int) * x1)) + (3 : Int)))) (0 : UInt8)))))))))))))) (some (.inr (x2, x3)))
def sha_spread_1 (x0 : B8) (x1 : Int) (x2 : List UInt32) (x3 : List UInt32) : Option (List UInt32 × List UInt32) := loop (fun (s : Int × List UInt32) => sha_spread_1_step x0 s.1 x2 s.2) (x1, x3)
def sha_spread_2_step (x0 : Int) (x1 : List UInt32) (x2 : List UInt32) : Option ((Int × List UInt32) ⊕ (List UInt32 × List UInt32)) :=
  fork (decide (x0 < (64 : Int))) (need (0 ≤ (w64 (x0 - (15 : Int))) ∧ (w64 (x0 - (15 : Int))) < (64 : Int)) (need (0 ≤ (w64 (x0 - (2 : Int))) ∧ (w64 (x0 - (2 : Int))) < (64 : Int)) (need (0 ≤ (w64 (x0 - (16 : Int))) ∧ (w64 (x0 - (16 : Int))) < (64 : Int)) (andThen (sha_right (List.getD x2 (Int.toNat (w64 (x0 - (15 : Int)))) (0 : UInt32)) (7 : Int)) (fun u15 => andThen (sha_right (List.getD x2 (Int.toNat (w64 (x0 - (15 : Int)))) (0 : UInt32)) (18 : Int)) (fun u17 => need (0 ≤ (w64 (x0 - (7 : Int))) ∧ (w64 (x0 - (7 : Int))) < (64 : Int)) (andThen (sha_right (List.getD x2 (Int.toNat (w64 (x0 - (2 : Int)))) (0 : UInt32)) (17 : Int)) (fun u20 => andThen (sha_right (List.getD x2 (Int.toNat (w64 (x0 - (2 : Int)))) (0 : UInt32)) (19 : Int)) (fun u22 => need (0 ≤ x0 ∧ x0 < (64 : Int)) (some (.inl ((w64 (x0 + (1 : Int))), (List.set x2 (Int.toNat x0) ((((List.getD x2 (Int.toNat (w64 (x0 - (16 : Int)))) (0 : UInt32)) + ((u15 ^^^ u17) ^^^ (UInt32.ofNat (UInt32.toNat (List.getD x2 (Int.toNat (w64 (x0 - (15 : Int)))) (0 : UInt32)) >>> (Int.toNat (3 : Int)))))) + (List.getD x2 (Int.toNat (w64 (x0 - (7 : Int)))) (0 : UInt32))) + ((u20 ^^^ u22) ^^^ (UInt32.ofNat (UInt32.toNat (List.getD x2 (Int.toNat (w64 (x0 - (2 : Int)))) (0 : UInt32)) >>> (Int.toNat (10 : Int))))))))))))))))))) (some (.inr (x1, x2)))
def sha_spread_2 (x0 : Int) (x1 : List UInt32) (x2 : List UInt32) : Option (List UInt32 × List UInt32) := loop (fun (s : Int × List UInt32) => sha_spread_2_step s.1 x1 s.2) (x0, x2)
/-- affiant/sha.spread -/
def sha_spread (a0 : B8) : Option (List UInt32) :=
  andThen (sha_spread_1 a0 (0 : Int) (List.replicate 64 (0 : UInt32)) (List.replicate 64 (0 : UInt32))) (fun o8 => andThen (sha_spread_2 (16 : Int) o8.1 o8.2) (fun o25 => some o25.2))
def sha_mix_655a_1_step (x0 : UInt32) (x1 : UInt32) (x2 : UInt32) (x3 : UInt32) (x4 : UInt32) (x5 : UInt32) (x6 : UInt32) (x7 : UInt32) (x8 : Int) (x9 : List UInt32) (x10 : List UInt32) (x11 : List UInt32) : Option ((UInt32 × UInt32 × UInt32 × UInt32 × UInt32 × UInt32 × UInt32 × UInt32 × Int) ⊕ (UInt32 × UInt32 × UInt32 × UInt32 × UInt32 × UInt32 × UInt32 × UInt32 × List UInt32 × List UInt32)) :=
  fork (decide (x8 < (64 : Int))) (andThen (sha_right x4 (6 : Int)) (fun u5 => andThen (sha_right x4 (11 : Int)) (fun u7 => andThen (sha_right x4 (25 : Int)) (fun u9 => need (0 ≤ x8 ∧ x8 < (64 : Int)) (andThen (sha_right x0 (2 : Int)) (fun u12 => andThen (sha_right x0 (13 : Int)) (fun u14 => andThen (sha_right x0 (22 : Int)) (fun u16 => some (.inl ((((((x7 + ((u5 ^^^ u7) ^^^ u9)) + ((x4 &&& x5) ^^^ ((~~~x4) &&& x6))) + (List.getD x10 (Int.toNat x8) (0 : UInt32))) + (List.getD x11 (Int.toNat x8) (0 : UInt32))) + (((u12 ^^^ u14) ^^^ u16) + (((x0 &&& x1) ^^^ (x0 &&& x2)) ^^^ (x1 &&& x2)))), x0, x1, x2, (x3 + ((((x7 + ((u5 ^^^ u7) ^^^ u9)) + ((x4 &&& x5) ^^^ ((~~~x4) &&& x6))) + (List.getD x10 (Int.toNat x8) (0 : UInt32))) + (List.getD x11 (Int.toNat x8) (0 : UInt32)))), x4, x5, x6, (w64 (x8 + (1 : Int))))))))))))) (some (.inr (x0, x1, x2, x3, x4, x5, x6, x7, x9, x10)))
def sha_mix_655a_1 (x0 : UInt32) (x1 : UInt32) (x2 : UInt32) (x3 : UInt32) (x4 : UInt32) (x5 : UInt32) (x6 : UInt32) (x7 : UInt32) (x8 : Int) (x9 : List UInt32) (x10 : List UInt32) (x11 : List UInt32) : Option (UInt32 × UInt32 × UInt32 × UInt32 × UInt32 × UInt32 × UInt32 × UInt32 × List UInt32 × List UInt32) := loop (fun (s : UInt32 × UInt32 × UInt32 × UInt32 × UInt32 × UInt32 × UInt32 × UInt32 × Int) => sha_mix_655a_1_step s.1 s.2.1 s.2.2.1 s.2.2.2.1 s.2.2.2.2.1 s.2.2.2.2.2.1 s.2.2.2.2.2.2.1 s.2.2.2.2.2.2.2.1 s.2.2.2.2.2.2.2.2 x9 x10 x11) (x0, x1, x2, x3, x4, x5, x6, x7, x8)
def sha_mix_655a_2_step (x0 : List UInt32) (x1 : Int) (x2 : List UInt32) (x3 : List UInt32) : Option ((Int × List UInt32) ⊕ (List UInt32 × List UInt32)) :=
  fork (decide (x1 < (8 : Int))) (need (0 ≤ x1 ∧ x1 < (8 : Int)) (some (.inl ((w64 (x1 + (1 : Int))), (List.set x2 (Int.toNat x1) ((List.getD x2 (Int.toNat x1) (0 : UInt32)) + (List.getD x0 (Int.toNat x1) (0 : UInt32)))))))) (some (.inr (x2, x3)))
def sha_mix_655a_2 (x0 : List UInt32) (x1 : Int) (x2 : List UInt32) (x3 : List UInt32) : Option (List UInt32 × List UInt32) := loop (fun (s : Int × List UInt32) => sha_mix_655a_2_step x0 s.1 s.2 x3) (x1, x2)
/-- affiant/sha.mix -/
def sha_mix_655a (a0 : B8) (a1 : List UInt32) (a2 : List UInt32) : Option (List UInt32 × List UInt32) :=
  andThen (sha_spread a0) (fun u1 => andThen (sha_mix_655a_1 (List.getD a1 (Int.toNat (0 : Int)) (0 : UInt32)) (List.getD a1 (Int.toNat (1 : Int)) (0 : UInt32)) (List.getD a1 (Int.toNat (2 : Int)) (0 : UInt32)) (List.getD a1 (Int.toNat (3 : Int)) (0 : UInt32)) (List.getD a1 (Int.toNat (4 : Int)) (0 : UInt32)) (List.getD a1 (Int.toNat (5 : Int)) (0 : UInt32)) (List.getD a1 (Int.toNat (6 : Int)) (0 : UInt32)) (List.getD a1 (Int.toNat (7 : Int)) (0 : UInt32)) (0 : Int) a1 a2 u1) (fun o18 => andThen (sha_mix_655a_2 (List.set (List.set (List.set (List.set (List.set (List.set (List.set (List.set (List.replicate 8 (0 : UInt32)) 0 o18.1) 1 o18.2.1) 2 o18.2.2.1) 3 o18.2.2.2.1) 4 o18.2.2.2.2.1) 5 o18.2.2.2.2.2.1) 6 o18.2.2.2.2.2.2.1) 7 o18.2.2.2.2.2.2.2.1) (0 : Int) o18.2.2.2.2.2.2.2.2.1 o18.2.2.2.2.2.2.2.2.2) (fun o23 => some (o23.1, o23.2))))
def sha_Sum_1_step (x0 : B8) (x1 : B8) (x2 : List UInt32) (x3 : List UInt32) : Option ((B8 × List UInt32 × List UInt32) ⊕ (B8 × List UInt32)) :=
  fork (decide ((0 : Int) < (List.length x0 : Int))) (need (0 ≤ (0 : Int) ∧ (0 : Int) ≤ (64 : Int) ∧ (64 : Int) ≤ (List.length x0 : Int)) (andThen (sha_mix_655a (cutL x0 (0 : Int) (64 : Int)) x2 x3) (fun u10 => need (0 ≤ (64 : Int) ∧ (64 : Int) ≤ (List.length x0 : Int) ∧ (List.length x0 : Int) ≤ (List.length x0 : Int)) (some (.inl ((cutL x0 (64 : Int) (List.length x0 : Int)), u10.1, u10.2)))))) (some (.inr (x1, x2)))
def sha_Sum_1 (x0 : B8) (x1 : B8) (x2 : List UInt32) (x3 : List UInt32) : Option (B8 × List UInt32) := loop (fun (s : B8 × List UInt32 × List UInt32) => sha_Sum_1_step s.1 x1 s.2.1 s.2.2) (x0, x2, x3)
def sha_Sum_2_step (x0 : Int) (x1 : UInt32) (x2 : List UInt32) (x3 : Int) (x4 : Int) (x5 : B8) (x6 : B8) : Option ((Int × B8) ⊕ (List UInt32 × Int × B8 × B8)) :=
  fork (decide (x4 < (4 : Int))) (need (0 ≤ (w64 ((24 : Int) - (w64 ((8 : Int) * x4))))) (need (0 ≤ (w64 ((w64 ((4 : Int) * x0)) + x4)) ∧ (w64 ((w64 ((4 : Int) * x0)) + x4)) < (32 : Int)) (some (.inl ((w64 (x4 + (1 : Int))), (List.set x6 (Int.toNat (w64 ((w64 ((4 : Int) * x0)) + x4))) (UInt8.ofNat (UInt32.toNat (UInt32.ofNat (UInt32.toNat x1 >>> (Int.toNat (w64 ((24 : Int) - (w64 ((8 : Int) * x4))))))))))))))) (some (.inr (x2, x3, x5, x6)))
def sha_Sum_2 (x0 : Int) (x1 : UInt32) (x2 : List UInt32) (x3 : Int) (x4 : Int) (x5 : B8) (x6 : B8) : Option (List UInt32 × Int × B8 × B8) := loop (fun (s : Int × B8) => sha_Sum_2_step x0 x1 x2 x3 s.1 x5 s.2) (x4, x6)
def sha_Sum_3_step (x0 : List UInt32) (x1 : Int) (x2 : B8) (x3 : B8) : Option ((List UInt32 × Int × B8 × B8) ⊕ (B8 × B8)) :=
  fork (decide (x1 < (8 : Int))) (need (0 ≤ x1 ∧ x1 < (8 : Int)) (andThen (sha_Sum_2 x1 (List.getD x0 (Int.toNat x1) (0 : UInt32)) x0 x1 (0 : Int) x2 x3) (fun o22 => some (.inl (o22.1, (w64 (o22.2.1 + (1 : Int))), o22.2.2.1, o22.2.2.2))))) (some (.inr (x2, x3)))
def sha_Sum_3 (x0 : List UInt32) (x1 : Int) (x2 : B8) (x3 : B8) : Option (B8 × B8) := loop (fun (s : List UInt32 × Int × B8 × B8) => sha_Sum_3_step s.1 s.2.1 s.2.2.1 s.2.2.2) (x0, x1, x2, x3)
/-- affiant/sha.Sum -/
def sha_Sum (a0 : B8) : Option (B8) :=
  andThen (sha_first) (fun u1 => andThen (sha_added) (fun u3 => andThen (sha_padded a0) (fun u5 => andThen (sha_Sum_1 u5 (List.replicate 32 (0 : UInt8)) u1 u3) (fun o13 => andThen (sha_Sum_3 o13.2 (0 : Int) o13.1 (List.replicate 32 (0 : UInt8))) (fun o24 => some o24.2)))))
def sha_Tagged_1_step (x0 : List (B8)) (x1 : Int) (x2 : Int) (x3 : B8) (x4 : B8) : Option ((Int × B8) ⊕ (B8 × B8)) :=
  fork (decide (x2 < x1)) (need (0 ≤ x2 ∧ x2 < (List.length x0 : Int)) (need (List.length x4 + List.length (List.getD x0 (Int.toNat x2) ([] : B8)) ≤ 2147483648) (some (.inl ((w64 (x2 + (1 : Int))), (x4 ++ (List.getD x0 (Int.toNat x2) ([] : B8)))))))) (some (.inr (x3, x4)))
def sha_Tagged_1 (x0 : List (B8)) (x1 : Int) (x2 : Int) (x3 : B8) (x4 : B8) : Option (B8 × B8) := loop (fun (s : Int × B8) => sha_Tagged_1_step x0 x1 s.1 x3 s.2) (x2, x4)
/-- affiant/sha.Tagged -/
def sha_Tagged (a0 : UInt8) (a1 : List (B8)) : Option (B8) :=
  andThen (sha_Tagged_1 a1 (List.length a1 : Int) (0 : Int) (List.replicate 32 (0 : UInt8)) ([a0] : List (UInt8))) (fun o5 => andThen (sha_Sum o5.2) (fun u7 => some u7))
/-- affiant/tree.inner -/
def tree_inner (a0 : B8) (a1 : B8) : Option (B8) :=
  andThen (sha_Tagged (1 : UInt8) ([a0, a1] : List (B8))) (fun u1 => some u1)
/-- affiant/tree.Root -/
def tree_Root_f : Nat → (List (B8)) → Option (B8)
  | 0, _ => none
  | k + 1, a0 =>
    fork (decide ((List.length a0 : Int) = (0 : Int))) (andThen (sha_Tagged (2 : UInt8) ([] : List (B8))) (fun u2 => some u2)) (fork (decide ((List.length a0 : Int) = (1 : Int))) (need (0 ≤ (0 : Int) ∧ (0 : Int) < (List.length a0 : Int)) (andThen (sha_Tagged (0 : UInt8) ([(List.getD a0 (Int.toNat (0 : Int)) ([] : B8))] : List (B8))) (fun u6 => some u6))) (andThen (tree_left (List.length a0 : Int)) (fun u8 => need (0 ≤ (0 : Int) ∧ (0 : Int) ≤ u8 ∧ u8 ≤ (List.length a0 : Int)) (andThen (tree_Root_f k (cutL a0 (0 : Int) u8)) (fun u11 => need (0 ≤ u8 ∧ u8 ≤ (List.length a0 : Int) ∧ (List.length a0 : Int) ≤ (List.length a0 : Int)) (andThen (tree_Root_f k (cutL a0 u8 (List.length a0 : Int))) (fun u14 => andThen (tree_inner u11 u14) (fun u16 => some u16))))))))
def tree_Root (a0 : List (B8)) : Option (B8) := tree_Root_f 64 a0
def slices_Reverse_LHash_Hash_8d4f_1_step (x0 : Int) (x1 : Int) (x2 : List (B8)) : Option ((Int × Int × List (B8)) ⊕ (List (B8))) :=
  fork (decide (x0 < x1)) (need (0 ≤ x1 ∧ x1 < (List.length x2 : Int)) (need (0 ≤ x0 ∧ x0 < (List.length x2 : Int)) (need (0 ≤ x1 ∧ x1 < (List.length (List.set x2 (Int.toNat x0) (List.getD x2 (Int.toNat x1) (List.replicate 32 (0 : UInt8)))) : Int)) (some (.inl ((w64 (x0 + (1 : Int))), (w64 (x1 - (1 : Int))), (List.set (List.set x2 (Int.toNat x0) (List.getD x2 (Int.toNat x1) (List.replicate 32 (0 : UInt8)))) (Int.toNat x1) (List.getD x2 (Int.toNat x0) (List.replicate 32 (0 : UInt8)))))))))) (some (.inr x2))
def slices_Reverse_LHash_Hash_8d4f_1 (x0 : Int) (x1 : Int) (x2 : List (B8)) : Option (List (B8)) := loop (fun (s : Int × Int × List (B8)) => slices_Reverse_LHash_Hash_8d4f_1_step s.1 s.2.1 s.2.2) (x0, x1, x2)
/-- slices.Reverse[[]affiant/api.Hash,affiant/api.Hash] -/
def slices_Reverse_LHash_Hash_8d4f (a0 : List (B8)) : Option (List (B8)) :=
  andThen (slices_Reverse_LHash_Hash_8d4f_1 (0 : Int) (w64 ((List.length a0 : Int) - (1 : Int))) a0) (fun o6 => some o6)
def tree_Path_1_step (x0 : List (B8)) (x1 : Int) (x2 : List (B8)) : Option ((List (B8) × Int × List (B8)) ⊕ (List (B8))) :=
  fork (decide ((1 : Int) < (List.length x0 : Int))) (andThen (tree_left (List.length x0 : Int)) (fun u5 => fork (decide (x1 < u5)) (need (0 ≤ u5 ∧ u5 ≤ (List.length x0 : Int) ∧ (List.length x0 : Int) ≤ (List.length x0 : Int)) (andThen (tree_Root (cutL x0 u5 (List.length x0 : Int))) (fun u9 => need (List.length x2 + List.length ([u9] : List (B8)) ≤ 2147483648) (need (0 ≤ (0 : Int) ∧ (0 : Int) ≤ u5 ∧ u5 ≤ (List.length x0 : Int)) (some (.inl ((cutL x0 (0 : Int) u5), x1, (x2 ++ ([u9] : List (B8)))))))))) (need (0 ≤ (0 : Int) ∧ (0 : Int) ≤ u5 ∧ u5 ≤ (List.length x0 : Int)) (andThen (tree_Root (cutL x0 (0 : Int) u5)) (fun u14 => need (List.length x2 + List.length ([u14] : List (B8)) ≤ 2147483648) (need (0 ≤ u5 ∧ u5 ≤ (List.length x0 : Int) ∧ (List.length x0 : Int) ≤ (List.length x0 : Int)) (some (.inl ((cutL x0 u5 (List.length x0 : Int)), (w64 (x1 - u5)), (x2 ++ ([u14] : List (B8)))))))))))) (some (.inr x2))
def tree_Path_1 (x0 : List (B8)) (x1 : Int) (x2 : List (B8)) : Option (List (B8)) := loop (fun (s : List (B8) × Int × List (B8)) => tree_Path_1_step s.1 s.2.1 s.2.2) (x0, x1, x2)
/-- affiant/tree.Path -/
def tree_Path (a0 : List (B8)) (a1 : Int) : Option (List (B8)) :=
  fork (decide (a1 < (0 : Int))) (some ([] : List (B8))) (fork (decide ((List.length a0 : Int) ≤ a1)) (some ([] : List (B8))) (andThen (tree_Path_1 a0 a1 ([] : List (B8))) (fun o18 => andThen (slices_Reverse_LHash_Hash_8d4f o18) (fun u20 => some u20))))
def prove_Some_1_step (x0 : List (T18c3)) (x1 : Int) (x2 : Int) (x3 : List (T18c3)) (x4 : Int) (x5 : Int) (x6 : Int) (x7 : Int) (x8 : Unit) (x9 : Int) (x10 : Int) (x11 : Unit) (x12 : List (B8)) : Option ((Int × List (B8)) ⊕ ((List (T18c3)) × Int × Int × Int × Int × Unit × Int × Int × Unit × List (B8))) :=
  fork (decide (x5 < x4)) (need (0 ≤ x5 ∧ x5 < (List.length x3 : Int)) (andThen (kv_Leaf (List.getD x3 (Int.toNat x5) (([] : B8), ([] : B8), ()))) (fun u5 => need (List.length x12 + List.length ([u5] : List (B8)) ≤ 2147483648) (some (.inl ((w64 (x5 + (1 : Int))), (x12 ++ ([u5] : List (B8))))))))) (some (.inr (x0, x1, x2, x6, x7, x8, x9, x10, x11, x12)))
def prove_Some_1 (x0 : List (T18c3)) (x1 : Int) (x2 : Int) (x3 : List (T18c3)) (x4 : Int) (x5 : Int) (x6 : Int) (x7 : Int) (x8 : Unit) (x9 : Int) (x10 : Int) (x11 : Unit) (x12 : List (B8)) : Option ((List (T18c3)) × Int × Int × Int × Int × Unit × Int × Int × Unit × List (B8)) := loop (fun (s : Int × List (B8)) => prove_Some_1_step x0 x1 x2 x3 x4 s.1 x6 x7 x8 x9 x10 x11 s.2) (x5, x12)
def prove_Some_2_step (x0 : List (T18c3)) (x1 : Int) (x2 : Int) (x3 : Int) (x4 : Int) (x5 : Unit) (x6 : Int) (x7 : Int) (x8 : Unit) (x9 : List (T18c3)) (x10 : List (List (B8))) (x11 : List (B8)) : Option ((Int × (List (T18c3)) × List (List (B8))) ⊕ (Int × Int × Unit × Int × Int × Unit × (List (T18c3)) × List (List (B8)))) :=
  fork (decide (x2 < x1)) (need (0 ≤ x2 ∧ x2 < (List.length x0 : Int)) (need (List.length x9 + List.length ([(List.getD x0 (Int.toNat x2) (([] : B8), ([] : B8), ()))] : List (T18c3)) ≤ 2147483648) (andThen (tree_Path x11 x2) (fun u14 => need (List.length x10 + List.length ([u14] : List (List (B8))) ≤ 2147483648) (some (.inl ((w64 (x2 + (1 : Int))), (x9 ++ ([(List.getD x0 (Int.toNat x2) (([] : B8), ([] : B8), ()))] : List (T18c3))), (x10 ++ ([u14] : List (List (B8))))))))))) (some (.inr (x3, x4, x5, x6, x7, x8, x9, x10)))
def prove_Some_2 (x0 : List (T18c3)) (x1 : Int) (x2 : Int) (x3 : Int) (x4 : Int) (x5 : Unit) (x6 : Int) (x7 : Int) (x8 : Unit) (x9 : List (T18c3)) (x10 : List (List (B8))) (x11 : List (B8)) : Option (Int × Int × Unit × Int × Int × Unit × (List (T18c3)) × List (List (B8))) := loop (fun (s : Int × (List (T18c3)) × List (List (B8))) => prove_Some_2_step x0 x1 s.1 x3 x4 x5 x6 x7 x8 s.2.1 s.2.2 x11) (x2, x9, x10)
/-- affiant/prove.Some -/
def prove_Some (a0 : List (T18c3)) (a1 : Int) (a2 : Int) : Option (T20c7) :=
  fork (decide ((min a2 (List.length a0 : Int)) ≤ (max a1 (0 : Int)))) (some ((List.length a0 : Int), (0 : Int), ([] : List (T18c3)), ([] : List (List (B8))), ())) (andThen (prove_Some_1 a0 (max a1 (0 : Int)) (min a2 (List.length a0 : Int)) a0 (List.length a0 : Int) (0 : Int) (0 : Int) (0 : Int) (()) (List.length a0 : Int) (0 : Int) (()) ([] : List (B8))) (fun o8 => andThen (prove_Some_2 o8.1 o8.2.2.1 o8.2.1 o8.2.2.2.1 o8.2.2.2.2.1 o8.2.2.2.2.2.1 o8.2.2.2.2.2.2.1 o8.2.1 o8.2.2.2.2.2.2.2.2.1 ([] : List (T18c3)) ([] : List (List (B8))) o8.2.2.2.2.2.2.2.2.2) (fun o17 => some (o17.2.2.2.1, o17.2.2.2.2.1, o17.2.2.2.2.2.2.1, o17.2.2.2.2.2.2.2, ()))))
def vint_Put_1_step (x0 : List Int) (x1 : Int) (x2 : Int) (x3 : B8) : Option ((Int × B8) ⊕ (B8)) :=
  fork (decide (x2 < x1)) (need (0 ≤ x2 ∧ x2 < (List.length x0 : Int)) (andThen (vint_one (List.getD x0 (Int.toNat x2) (0 : Int))) (fun u4 => need (List.length x3 + List.length u4 ≤ 2147483648) (some (.inl ((w64 (x2 + (1 : Int))), (x3 ++ u4))))))) (some (.inr x3))
def vint_Put_1 (x0 : List Int) (x1 : Int) (x2 : Int) (x3 : B8) : Option (B8) := loop (fun (s : Int × B8) => vint_Put_1_step x0 x1 s.1 s.2) (x2, x3)
/-- affiant/vint.Put -/
def vint_Put (a0 : List Int) : Option (B8) :=
  andThen (vint_Put_1 a0 (List.length a0 : Int) (0 : Int) ([] : List (UInt8))) (fun o7 => some o7)
def store_Root_1_step (x0 : List (T18c3)) (x1 : List (T18c3)) (x2 : Int) (x3 : Int) (x4 : B8) (x5 : List (B8)) : Option ((Int × List (B8)) ⊕ ((List (T18c3)) × B8 × List (B8))) :=
  fork (decide (x3 < x2)) (need (0 ≤ x3 ∧ x3 < (List.length x1 : Int)) (andThen (kv_Leaf (List.getD x1 (Int.toNat x3) (([] : B8), ([] : B8), ()))) (fun u4 => need (List.length x5 + List.length ([u4] : List (B8)) ≤ 2147483648) (some (.inl ((w64 (x3 + (1 : Int))), (x5 ++ ([u4] : List (B8))))))))) (some (.inr (x0, x4, x5)))
def store_Root_1 (x0 : List (T18c3)) (x1 : List (T18c3)) (x2 : Int) (x3 : Int) (x4 : B8) (x5 : List (B8)) : Option ((List (T18c3)) × B8 × List (B8)) := loop (fun (s : Int × List (B8)) => store_Root_1_step x0 x1 x2 s.1 x4 s.2) (x3, x5)
/-- affiant/store.Root -/
def store_Root (a0 : List (T18c3)) : Option (B8) :=
  andThen (store_Root_1 a0 a0 (List.length a0 : Int) (0 : Int) (List.replicate 32 (0 : UInt8)) ([] : List (B8))) (fun o7 => andThen (tree_Root o7.2.2) (fun u9 => andThen (vint_Put ([(List.length o7.1 : Int)] : List (Int))) (fun u11 => andThen (sha_Tagged (83 : UInt8) ([u11, u9] : List (B8))) (fun u13 => some u13))))
/-- affiant/kv.may -/
def kv_may (a0 : T18c3) : Option (Bool) :=
  fork (!decide (a0.1 = ([] : B8))) (fork (decide ((List.length a0.1 : Int) ≤ (16 : Int))) (some (decide ((List.length a0.2.1 : Int) ≤ (24 : Int)))) (some false)) (some false)
def kv_Right_1_step (x0 : List (T18c3)) (x1 : List (T18c3)) (x2 : Int) (x3 : Int) : Option ((Int) ⊕ ((Bool) ⊕ (List (T18c3)))) :=
  fork (decide (x3 < x2)) (need (0 ≤ x3 ∧ x3 < (List.length x1 : Int)) (andThen (kv_may (List.getD x1 (Int.toNat x3) (([] : B8), ([] : B8), ()))) (fun u4 => fork (!u4) (some (.inr (.inl false))) (fork (decide ((0 : Int) < x3)) (need (0 ≤ (w64 (x3 - (1 : Int))) ∧ (w64 (x3 - (1 : Int))) < (List.length x0 : Int)) (fork (!sless (List.getD x0 (Int.toNat (w64 (x3 - (1 : Int)))) (([] : B8), ([] : B8), ())).1 (List.getD x1 (Int.toNat x3) (([] : B8), ([] : B8), ())).1) (some (.inr (.inl false))) (some (.inl (w64 (x3 + (1 : Int))))))) (some (.inl (w64 (x3 + (1 : Int))))))))) (some (.inr (.inr x0)))
def kv_Right_1 (x0 : List (T18c3)) (x1 : List (T18c3)) (x2 : Int) (x3 : Int) : Option ((Bool) ⊕ (List (T18c3))) := loop (fun (s : Int) => kv_Right_1_step x0 x1 x2 s) x3
/-- affiant/kv.Right -/
def kv_Right (a0 : List (T18c3)) : Option (Bool) :=
  andThen (kv_Right_1 a0 a0 (List.length a0 : Int) (0 : Int)) (fun o10 => (match o10 with | .inl o12 => some o12 | .inr o13 => some (decide ((List.length o13 : Int) ≤ (30 : Int)))))
/-- affiant/tree.is -/
def tree_is (a0 : Int) (a1 : Int) : Option (Bool) :=
  fork (decide ((0 : Int) ≤ a0)) (fork (decide (a0 < a1)) (some (decide (a1 ≤ (1048576 : Int)))) (some false)) (some false)
def tree_sides_1_step (x0 : Int) (x1 : Int) (x2 : List Bool) : Option ((Int × Int × List Bool) ⊕ (List Bool)) :=
  fork (decide ((1 : Int) < x1)) (andThen (tree_left x1) (fun u3 => need (List.length x2 + List.length ([(decide (x0 < u3))] : List (Bool)) ≤ 2147483648) (fork (decide (x0 < u3)) (some (.inl (x0, u3, (x2 ++ ([(decide (x0 < u3))] : List (Bool)))))) (some (.inl ((w64 (x0 - u3)), (w64 (x1 - u3)), (x2 ++ ([(decide (x0 < u3))] : List (Bool))))))))) (some (.inr x2))
def tree_sides_1 (x0 : Int) (x1 : Int) (x2 : List Bool) : Option (List Bool) := loop (fun (s : Int × Int × List Bool) => tree_sides_1_step s.1 s.2.1 s.2.2) (x0, x1, x2)
/-- affiant/tree.sides -/
def tree_sides (a0 : Int) (a1 : Int) : Option (List Bool) :=
  andThen (tree_sides_1 a0 a1 ([] : List (Bool))) (fun o7 => some o7)
/-- affiant/tree.Depth -/
def tree_Depth (a0 : Int) (a1 : Int) : Option (Int) :=
  andThen (tree_is a0 a1) (fun u1 => fork (!u1) (some (-1 : Int)) (andThen (tree_sides a0 a1) (fun u4 => some (List.length u4 : Int))))
def tree_Up_1_step (x0 : List (B8)) (x1 : Int) (x2 : Int) (x3 : B8) (x4 : B8) (x5 : List Bool) : Option ((Int × B8) ⊕ (B8 × B8)) :=
  fork (decide (x2 < x1)) (need (0 ≤ x2 ∧ x2 < (List.length x0 : Int)) (need (0 ≤ (w64 ((w64 ((List.length x5 : Int) - (1 : Int))) - x2)) ∧ (w64 ((w64 ((List.length x5 : Int) - (1 : Int))) - x2)) < (List.length x5 : Int)) (fork (List.getD x5 (Int.toNat (w64 ((w64 ((List.length x5 : Int) - (1 : Int))) - x2))) false) (andThen (tree_inner x4 (List.getD x0 (Int.toNat x2) (List.replicate 32 (0 : UInt8)))) (fun u16 => some (.inl ((w64 (x2 + (1 : Int))), u16)))) (andThen (tree_inner (List.getD x0 (Int.toNat x2) (List.replicate 32 (0 : UInt8))) x4) (fun u18 => some (.inl ((w64 (x2 + (1 : Int))), u18))))))) (some (.inr (x3, x4)))
def tree_Up_1 (x0 : List (B8)) (x1 : Int) (x2 : Int) (x3 : B8) (x4 : B8) (x5 : List Bool) : Option (B8 × B8) := loop (fun (s : Int × B8) => tree_Up_1_step x0 x1 s.1 x3 s.2 x5) (x2, x4)
/-- affiant/tree.Up -/
def tree_Up (a0 : B8) (a1 : Int) (a2 : Int) (a3 : List (B8)) : Option (B8 × Bool) :=
  andThen (tree_is a1 a2) (fun u1 => fork (!u1) (some ((List.replicate 32 (0 : UInt8)), false)) (andThen (tree_Depth a1 a2) (fun u4 => fork (!decide ((List.length a3 : Int) = u4)) (some ((List.replicate 32 (0 : UInt8)), false)) (andThen (tree_Root ([a0] : List (B8))) (fun u7 => andThen (tree_sides a1 a2) (fun u9 => andThen (tree_Up_1 a3 (List.length a3 : Int) (0 : Int) (List.replicate 32 (0 : UInt8)) u7 u9) (fun o20 => some (o20.2, true))))))))
/-- affiant/check.whole -/
def check_whole (a0 : Int) (a1 : B8) : Option (B8) :=
  andThen (vint_Put ([a0] : List (Int))) (fun u1 => andThen (sha_Tagged (83 : UInt8) ([u1, a1] : List (B8))) (fun u3 => some u3))
def check_Sound_1_step (x0 : List (T18c3)) (x1 : Int) (x2 : Int) (x3 : B8) (x4 : T20c7) : Option ((Int) ⊕ ((Unit) ⊕ (Unit))) :=
  fork (decide (x2 < x1)) (need (0 ≤ x2 ∧ x2 < (List.length x0 : Int)) (andThen (kv_Leaf (List.getD x0 (Int.toNat x2) (([] : B8), ([] : B8), ()))) (fun u16 => need (0 ≤ x2 ∧ x2 < (List.length x4.2.2.2.1 : Int)) (andThen (tree_Up u16 (w64 (x4.2.1 + x2)) x4.1 (List.getD x4.2.2.2.1 (Int.toNat x2) ([] : List (B8)))) (fun u19 => fork (!u19.2) (some (.inr (.inl ()))) (andThen (check_whole x4.1 u19.1) (fun u22 => fork (!(Ty.beq (.arr 32 (.int .u8)) u22 x3)) (some (.inr (.inl ()))) (some (.inl (w64 (x2 + (1 : Int)))))))))))) (some (.inr (.inr ())))
def check_Sound_1 (x0 : List (T18c3)) (x1 : Int) (x2 : Int) (x3 : B8) (x4 : T20c7) : Option ((Unit) ⊕ (Unit)) := loop (fun (s : Int) => check_Sound_1_step x0 x1 s x3 x4) x2
/-- affiant/check.Sound -/
def check_Sound (a0 : B8) (a1 : T20c7) : Option (Bool) :=
  fork (decide (a1.1 < (0 : Int))) (some false) (fork (decide ((30 : Int) < a1.1)) (some false) (fork (!decide ((List.length a1.2.2.2.1 : Int) = (List.length a1.2.2.1 : Int))) (some false) (andThen (kv_Right a1.2.2.1) (fun u4 => fork (!u4) (some false) (fork (decide (a1.2.1 < (0 : Int))) (some false) (fork (decide ((w64 (a1.1 - (List.length a1.2.2.1 : Int))) < a1.2.1)) (some false) (fork (decide (a1.1 = (0 : Int))) (andThen (store_Root ([] : List (T18c3))) (fun u10 => some (Ty.beq (.arr 32 (.int .u8)) a0 u10))) (fork (decide ((List.length a1.2.2.1 : Int) = (0 : Int))) (some false) (andThen (check_Sound_1 a1.2.2.1 (List.length a1.2.2.1 : Int) (0 : Int) a0 a1) (fun o25 => (match o25 with | .inl o27 => some false | .inr o28 => some true)))))))))))
/-- internal/bytealg.abigen_runtime_cmpstring -/
def bytealg_cmpstring (a0 a1 : B8) : Option Int := some (cmpS a0 a1)
/-- internal/bytealg.CompareString -/
def bytealg_CompareString (a0 : B8) (a1 : B8) : Option (Int) :=
  andThen (bytealg_cmpstring a0 a1) (fun u1 => some u1)
/-- strings.Compare -/
def strings_Compare (a0 : B8) (a1 : B8) : Option (Int) :=
  andThen (bytealg_CompareString a0 a1) (fun u1 => some u1)
/-- affiant/kv.place$1 -/
def kv_placeF1 (a0 : T18c3) (a1 : B8) : Option (Int) :=
  andThen (strings_Compare a0.1 a1) (fun u1 => some u1)
def slices_BinarySearchFunc_LPair_Pair_string_1a7a_1_step (x0 : List (T18c3)) (x1 : B8) (x2 : Int) (x3 : Int) (x4 : Int) : Option ((Int × Int) ⊕ ((List (T18c3)) × B8 × Int × Int)) :=
  fork (decide (x3 < x4)) (need (0 ≤ (w64 ((UInt64.toNat (UInt64.ofNat (UInt64.toNat (UInt64.ofNat (Int.toNat ((w64 (x3 + x4)) % 18446744073709551616))) >>> (Int.toNat (1 : Int)))) : Nat) : Int)) ∧ (w64 ((UInt64.toNat (UInt64.ofNat (UInt64.toNat (UInt64.ofNat (Int.toNat ((w64 (x3 + x4)) % 18446744073709551616))) >>> (Int.toNat (1 : Int)))) : Nat) : Int)) < (List.length x0 : Int)) (andThen (kv_placeF1 (List.getD x0 (Int.toNat (w64 ((UInt64.toNat (UInt64.ofNat (UInt64.toNat (UInt64.ofNat (Int.toNat ((w64 (x3 + x4)) % 18446744073709551616))) >>> (Int.toNat (1 : Int)))) : Nat) : Int))) (([] : B8), ([] : B8), ())) x1) (fun u4 => fork (decide (u4 < (0 : Int))) (some (.inl ((w64 ((w64 ((UInt64.toNat (UInt64.ofNat (UInt64.toNat (UInt64.ofNat (Int.toNat ((w64 (x3 + x4)) % 18446744073709551616))) >>> (Int.toNat (1 : Int)))) : Nat) : Int)) + (1 : Int))), x4))) (some (.inl (x3, (w64 ((UInt64.toNat (UInt64.ofNat (UInt64.toNat (UInt64.ofNat (Int.toNat ((w64 (x3 + x4)) % 18446744073709551616))) >>> (Int.toNat (1 : Int)))) : Nat) : Int)))))))) (some (.inr (x0, x1, x2, x3)))
def slices_BinarySearchFunc_LPair_Pair_string_1a7a_1 (x0 : List (T18c3)) (x1 : B8) (x2 : Int) (x3 : Int) (x4 : Int) : Option ((List (T18c3)) × B8 × Int × Int) := loop (fun (s : Int × Int) => slices_BinarySearchFunc_LPair_Pair_string_1a7a_1_step x0 x1 x2 s.1 s.2) (x3, x4)
/-- slices.BinarySearchFunc[[]affiant/api.Pair,affiant/api.Pair,string] -/
def slices_BinarySearchFunc_LPair_Pair_string_1a7a (a0 : List (T18c3)) (a1 : B8) : Option (Int × Bool) :=
  andThen (slices_BinarySearchFunc_LPair_Pair_string_1a7a_1 a0 a1 (List.length a0 : Int) (0 : Int) (List.length a0 : Int)) (fun o7 => fork (decide (o7.2.2.2 < o7.2.2.1)) (need (0 ≤ o7.2.2.2 ∧ o7.2.2.2 < (List.length o7.1 : Int)) (andThen (kv_placeF1 (List.getD o7.1 (Int.toNat o7.2.2.2) (([] : B8), ([] : B8), ())) o7.2.1) (fun u11 => some (o7.2.2.2, (decide (u11 = (0 : Int))))))) (some (o7.2.2.2, false)))
/-- affiant/kv.place -/
def kv_place (a0 : List (T18c3)) (a1 : B8) : Option (Int × Bool) :=
  andThen (slices_BinarySearchFunc_LPair_Pair_string_1a7a a0 a1) (fun u1 => some (u1.1, u1.2))
/-- affiant/kv.First -/
def kv_First (a0 : List (T18c3)) (a1 : B8) : Option (Int) :=
  andThen (kv_place a0 a1) (fun u1 => some u1.1)
/-- slices.Clone[[]affiant/api.Pair,affiant/api.Pair] -/
def slices_Clone_LPair_Pair (a0 : List (T18c3)) : Option (List (T18c3)) := need (List.length a0 ≤ 2147483648) (some a0)
/-- affiant/kv.Range -/
def kv_Range (a0 : List (T18c3)) (a1 : B8) (a2 : B8) : Option (List (T18c3)) :=
  andThen (kv_First a0 a1) (fun u1 => andThen (kv_First a0 a2) (fun u3 => need (0 ≤ u1 ∧ u1 ≤ (max u1 u3) ∧ (max u1 u3) ≤ (List.length a0 : Int)) (andThen (slices_Clone_LPair_Pair (cutL a0 u1 (max u1 u3))) (fun u6 => some u6))))
/-- affiant/check.Range -/
def check_Range (a0 : B8) (a1 : B8) (a2 : B8) (a3 : T20c7) : Option ((List (T18c3)) × Bool) :=
  andThen (check_Sound a0 a3) (fun u1 => fork (!u1) (some (([] : List (T18c3)), false)) (fork (decide ((List.length a3.2.2.1 : Int) = (0 : Int))) (some (([] : List (T18c3)), true)) (fork (decide (a3.2.1 = (0 : Int))) (fork (decide ((w64 (a3.2.1 + (List.length a3.2.2.1 : Int))) = a3.1)) (andThen (kv_Range a3.2.2.1 a1 a2) (fun u7 => some (u7, true))) (need (0 ≤ (w64 ((List.length a3.2.2.1 : Int) - (1 : Int))) ∧ (w64 ((List.length a3.2.2.1 : Int) - (1 : Int))) < (List.length a3.2.2.1 : Int)) (fork (!(!sless (List.getD a3.2.2.1 (Int.toNat (w64 ((List.length a3.2.2.1 : Int) - (1 : Int)))) (([] : B8), ([] : B8), ())).1 (maxS a1 a2))) (some (([] : List (T18c3)), false)) (andThen (kv_Range a3.2.2.1 a1 a2) (fun u11 => some (u11, true)))))) (need (0 ≤ (0 : Int) ∧ (0 : Int) < (List.length a3.2.2.1 : Int)) (fork (decide ((w64 (a3.2.1 + (List.length a3.2.2.1 : Int))) = a3.1)) (fork (!(sless (List.getD a3.2.2.1 (Int.toNat (0 : Int)) (([] : B8), ([] : B8), ())).1 a1)) (some (([] : List (T18c3)), false)) (andThen (kv_Range a3.2.2.1 a1 a2) (fun u16 => some (u16, true)))) (need (0 ≤ (w64 ((List.length a3.2.2.1 : Int) - (1 : Int))) ∧ (w64 ((List.length a3.2.2.1 : Int) - (1 : Int))) < (List.length a3.2.2.1 : Int)) (fork (!(sless (List.getD a3.2.2.1 (Int.toNat (0 : Int)) (([] : B8), ([] : B8), ())).1 a1)) (some (([] : List (T18c3)), false)) (fork (!(!sless (List.getD a3.2.2.1 (Int.toNat (w64 ((List.length a3.2.2.1 : Int) - (1 : Int)))) (([] : B8), ([] : B8), ())).1 (maxS a1 a2))) (some (([] : List (T18c3)), false)) (andThen (kv_Range a3.2.2.1 a1 a2) (fun u21 => some (u21, true)))))))))))
/-- affiant/kv.Get -/
def kv_Get (a0 : List (T18c3)) (a1 : B8) : Option (B8 × Bool) :=
  andThen (kv_place a0 a1) (fun u1 => fork (!u1.2) (some (([] : B8), false)) (need (0 ≤ u1.1 ∧ u1.1 < (List.length a0 : Int)) (some ((List.getD a0 (Int.toNat u1.1) (([] : B8), ([] : B8), ())).2.1, true))))
/-- affiant/check.Absent -/
def check_Absent (a0 : B8) (a1 : B8) (a2 : T20c7) : Option (Bool) :=
  andThen (check_Range a0 a1 a1 a2) (fun u1 => fork (!u1.2) (some false) (andThen (kv_Get a2.2.2.1 a1) (fun u4 => some (!u4.2))))
/-- affiant/prove.Range -/
def prove_Range (a0 : List (T18c3)) (a1 : B8) (a2 : B8) : Option (T20c7) :=
  andThen (kv_First a0 a1) (fun u1 => andThen (kv_First a0 (maxS a1 a2)) (fun u3 => andThen (prove_Some a0 (w64 (u1 - (1 : Int))) (w64 (u3 + (1 : Int)))) (fun u5 => some u5)))
/-- affiant/affiantlaw9.CheckRuns -/
def affiantlaw9_CheckRuns  : Option (Bool) :=
  andThen (store_Root ([(([97] : B8), ([] : B8), ()), (([99] : B8), ([] : B8), ()), (([101] : B8), ([] : B8), ())] : List (T18c3))) (fun u1 => andThen (prove_Range ([(([97] : B8), ([] : B8), ()), (([99] : B8), ([] : B8), ()), (([101] : B8), ([] : B8), ())] : List (T18c3)) ([98] : B8) ([100] : B8)) (fun u3 => andThen (check_Range u1 ([98] : B8) ([100] : B8) u3) (fun u5 => andThen (prove_Some ([(([97] : B8), ([] : B8), ()), (([99] : B8), ([] : B8), ()), (([101] : B8), ([] : B8), ())] : List (T18c3)) (0 : Int) (2 : Int)) (fun u7 => andThen (check_Range u1 ([98] : B8) ([100] : B8) u7) (fun u9 => fork u5.2 (fork (decide ((List.length u5.1 : Int) = (1 : Int))) (need (0 ≤ (0 : Int) ∧ (0 : Int) < (List.length u5.1 : Int)) (fork (decide ((List.getD u5.1 (Int.toNat (0 : Int)) (([] : B8), ([] : B8), ())).1 = ([99] : B8))) (fork (!u9.2) (andThen (prove_Some ([(([97] : B8), ([] : B8), ()), (([99] : B8), ([] : B8), ()), (([101] : B8), ([] : B8), ())] : List (T18c3)) (0 : Int) (2 : Int)) (fun u16 => andThen (check_Absent u1 ([98] : B8) u16) (fun u18 => some u18))) (none)) (none))) (none)) (none))))))
def affiantbook_Same_Pair_1_step (x0 : List (T18c3)) (x1 : List (T18c3)) (x2 : Int) : Option ((Int) ⊕ ((Bool) ⊕ (Unit))) :=
  fork (decide (x2 < (List.length x0 : Int))) (need (0 ≤ x2 ∧ x2 < (List.length x0 : Int)) (need (0 ≤ x2 ∧ x2 < (List.length x1 : Int)) (fork (!(Ty.beq (.fld .str (.fld .str .unit)) (List.getD x0 (Int.toNat x2) (([] : B8), ([] : B8), ())) (List.getD x1 (Int.toNat x2) (([] : B8), ([] : B8), ())))) (some (.inr (.inl false))) (some (.inl (w64 (x2 + (1 : Int)))))))) (some (.inr (.inr ())))
def affiantbook_Same_Pair_1 (x0 : List (T18c3)) (x1 : List (T18c3)) (x2 : Int) : Option ((Bool) ⊕ (Unit)) := loop (fun (s : Int) => affiantbook_Same_Pair_1_step x0 x1 s) x2
/-- affiant/affiantbook.Same[affiant/api.Pair] -/
def affiantbook_Same_Pair (a0 : List (T18c3)) (a1 : List (T18c3)) : Option (Bool) :=
  fork (!decide ((List.length a0 : Int) = (List.length a1 : Int))) (some false) (andThen (affiantbook_Same_Pair_1 a0 a1 (0 : Int)) (fun o7 => (match o7 with | .inl o9 => some o9 | .inr o10 => some true)))
def prove_Size_1_step (x0 : Int) (x1 : List (List (B8))) (x2 : Int) (x3 : Int) : Option ((Int × Int) ⊕ (Int)) :=
  fork (decide (x3 < x2)) (need (0 ≤ x3 ∧ x3 < (List.length x1 : Int)) (some (.inl ((w64 (x0 + (List.length (List.getD x1 (Int.toNat x3) ([] : List (B8))) : Int))), (w64 (x3 + (1 : Int))))))) (some (.inr x0))
def prove_Size_1 (x0 : Int) (x1 : List (List (B8))) (x2 : Int) (x3 : Int) : Option (Int) := loop (fun (s : Int × Int) => prove_Size_1_step s.1 x1 x2 s.2) (x0, x3)
/-- affiant/prove.Size -/
def prove_Size (a0 : T20c7) : Option (Int) :=
  andThen (prove_Size_1 (List.length a0.2.2.1 : Int) a0.2.2.2.1 (List.length a0.2.2.2.1 : Int) (0 : Int)) (fun o4 => some o4)
/-- affiant/check.Cost -/
def check_Cost (a0 : T20c7) : Option (Int) :=
  fork (decide (a0.1 = (0 : Int))) (some (2 : Int)) (andThen (prove_Size a0) (fun u2 => some (w64 (u2 + (List.length a0.2.2.1 : Int)))))
def slices_Equal_LPair_Pair_1_step (x0 : List (T18c3)) (x1 : List (T18c3)) (x2 : Int) (x3 : Int) : Option ((Int) ⊕ ((Bool) ⊕ (Unit))) :=
  fork (decide (x3 < x2)) (need (0 ≤ x3 ∧ x3 < (List.length x0 : Int)) (need (0 ≤ x3 ∧ x3 < (List.length x1 : Int)) (fork (!(Ty.beq (.fld .str (.fld .str .unit)) (List.getD x0 (Int.toNat x3) (([] : B8), ([] : B8), ())) (List.getD x1 (Int.toNat x3) (([] : B8), ([] : B8), ())))) (some (.inr (.inl false))) (some (.inl (w64 (x3 + (1 : Int)))))))) (some (.inr (.inr ())))
def slices_Equal_LPair_Pair_1 (x0 : List (T18c3)) (x1 : List (T18c3)) (x2 : Int) (x3 : Int) : Option ((Bool) ⊕ (Unit)) := loop (fun (s : Int) => slices_Equal_LPair_Pair_1_step x0 x1 x2 s) x3
/-- slices.Equal[[]affiant/api.Pair,affiant/api.Pair] -/
def slices_Equal_LPair_Pair (a0 : List (T18c3)) (a1 : List (T18c3)) : Option (Bool) :=
  fork (!decide ((List.length a0 : Int) = (List.length a1 : Int))) (some false) (andThen (slices_Equal_LPair_Pair_1 a0 a1 (List.length a0 : Int) (0 : Int)) (fun o7 => (match o7 with | .inl o9 => some o9 | .inr o10 => some true)))
/-- affiant/check.Exist -/
def check_Exist (a0 : B8) (a1 : T18c3) (a2 : T20c7) : Option (Bool) :=
  andThen (check_Sound a0 a2) (fun u1 => fork u1 (andThen (slices_Equal_LPair_Pair a2.2.2.1 ([a1] : List (T18c3))) (fun u4 => some u4)) (some false))
/-- affiant/prove.Exist -/
def prove_Exist (a0 : List (T18c3)) (a1 : B8) : Option ((T20c7) × Bool) :=
  andThen (kv_Get a0 a1) (fun u1 => fork (!u1.2) (some (((0 : Int), (0 : Int), ([] : List (T18c3)), ([] : List (List (B8))), ()), false)) (andThen (kv_First a0 a1) (fun u4 => andThen (prove_Some a0 u4 (w64 (u4 + (1 : Int)))) (fun u6 => some (u6, true)))))
/-- affiant/prove.Absent -/
def prove_Absent (a0 : List (T18c3)) (a1 : B8) : Option ((T20c7) × Bool) :=
  andThen (kv_Get a0 a1) (fun u1 => fork u1.2 (some (((0 : Int), (0 : Int), ([] : List (T18c3)), ([] : List (List (B8))), ()), false)) (andThen (prove_Range a0 a1 a1) (fun u4 => some (u4, true))))
/-- affiant/affiantlaw9.CheckHonest -/
def affiantlaw9_CheckHonest (a0 : List Int) (a1 : Int) (a2 : Int) : Option (Bool) :=
  andThen (affiantkeep_Pairs a0) (fun u1 => andThen (store_Root u1) (fun u3 => andThen (affiantkeep_Key a1) (fun u5 => andThen (affiantkeep_Key a2) (fun u7 => andThen (prove_Range u1 u5 u7) (fun u9 => andThen (check_Range u3 u5 u7 u9) (fun u11 => andThen (kv_Get u1 u5) (fun u13 => andThen (prove_Exist u1 u5) (fun u15 => andThen (prove_Absent u1 u5) (fun u17 => fork u11.2 (andThen (kv_Range u1 u5 u7) (fun u20 => andThen (affiantbook_Same_Pair u11.1 u20) (fun u22 => fork u22 (fork (u15.2 == u13.2) (fork (u17.2 == (!u13.2)) (fork (!u13.2) (fork u13.2 (andThen (check_Cost u15.1) (fun u29 => fork (decide (u29 ≤ (12 : Int))) (andThen (affiantlaw9_CheckRuns) (fun u32 => some u32)) (none))) (andThen (check_Absent u3 u5 u17.1) (fun u34 => fork u34 (andThen (check_Cost u15.1) (fun u37 => fork (decide (u37 ≤ (12 : Int))) (andThen (affiantlaw9_CheckRuns) (fun u40 => some u40)) (none))) (none)))) (andThen (check_Exist u3 (u5, u13.1, ()) u15.1) (fun u42 => fork u42 (fork u13.2 (andThen (check_Cost u15.1) (fun u46 => fork (decide (u46 ≤ (12 : Int))) (andThen (affiantlaw9_CheckRuns) (fun u49 => some u49)) (none))) (andThen (check_Absent u3 u5 u17.1) (fun u51 => fork u51 (andThen (check_Cost u15.1) (fun u54 => fork (decide (u54 ≤ (12 : Int))) (andThen (affiantlaw9_CheckRuns) (fun u57 => some u57)) (none))) (none)))) (none)))) (none)) (none)) (none)))) (none))))))))))
end
end Go.Ax.V
