/-
  The functions, walked through: each call comes to what the pure text says.
-/
import Derived.Test.YtcfaippbnmmelaaProg
import Derived.Test.YtcfaippbnmmelaaAxC
import Derived.Test.YtcfaippbnmmelaaCLightTrustP
namespace Go.Proofs.Ytcfaippbnmmelaa.lightTrust
open Go.Ax Go.Ax.V Go.Proofs.Try
set_option maxRecDepth 100000
set_option linter.unusedVariables false
noncomputable section
abbrev Y18c3 : Ty := (.fld .str (.fld .str .unit))
abbrev Z32 := (List.replicate 32 (0 : UInt8))
abbrev Z18c3 := (([] : B8), ([] : B8), ())
abbrev Z9c6e := (([] : List (B8)), ([] : List (B8)), ())
abbrev Y484d : Ty := (.fld .str (.fld (.int .i64) (.fld (.arr 32 (.int .u8)) .unit)))
abbrev Zf321 := ((0 : Int), (0 : Int), (0 : Int), (0 : Int), ([] : List Int), ())
abbrev Z484d := (([] : B8), (0 : Int), Z32, ())
abbrev Y9c6e : Ty := (.fld (.slice (.arr 32 (.int .u8))) (.fld (.slice (.arr 32 (.int .u8))) .unit))
abbrev Z8266 := ((0 : Int), Z9c6e, ([] : List (B8)), ())
abbrev Yf321 : Ty := (.fld (.int .i64) (.fld (.int .i64) (.fld (.int .i64) (.fld (.int .i64) (.fld (.slice (.int .i64)) .unit)))))
abbrev Yba7c : Ty := (.fld (.int .i64) (.fld (.int .i64) (.fld (.int .i64) (.fld (.int .i64) (.fld (.int .i64) (.fld (.int .i64) .unit))))))
abbrev Z8f72 := (([] : B8), Z8266, ())
abbrev Y8266 : Ty := (.fld (.int .i64) (.fld Y9c6e (.fld (.slice (.arr 32 (.int .u8))) .unit)))
abbrev Yf0bc : Ty := (.fld (.int .i64) (.fld (.int .i64) (.fld (.arr 32 (.int .u8)) (.fld (.arr 32 (.int .u8)) (.fld (.arr 32 (.int .u8)) (.fld (.arr 32 (.int .u8)) .unit))))))
abbrev Zf0bc := ((0 : Int), (0 : Int), Z32, Z32, Z32, Z32, ())
abbrev Y8f72 : Ty := (.fld .str (.fld Y8266 .unit))
abbrev Y65da : Ty := (.fld (.slice Yf0bc) (.fld (.slice Y484d) (.fld (.int .i64) (.fld .bool .unit))))
abbrev Zedcc := (Zf0bc, ([] : List (T8f72)), ([] : List (T484d)), ([] : List (T484d)), ())
abbrev Yedcc : Ty := (.fld Yf0bc (.fld (.slice Y8f72) (.fld (.slice Y484d) (.fld (.slice Y484d) .unit))))
abbrev Y6488 : Ty := (.fld (.slice (.arr 32 (.int .u8))) (.fld (.slice (.slice (.slice (.int .u8)))) (.fld (.slice .str) (.fld (.slice Y18c3) (.fld (.slice Y484d) (.fld (.slice Yedcc) (.fld (.slice (.slice Y18c3)) .unit)))))))
abbrev rg := List.range
abbrev b0 : It := .br false
abbrev b1 : It := .br true
theorem r0 : (false : Bool) = false := rfl
theorem r1 : (true : Bool) = true := rfl
theorem rn : ([] : List AObj) = [] := rfl
abbrev p0 : List (List Nat) := [[], [], [], [2], [1, 2, 3], [1, 2, 3, 4], [1, 2, 3, 4, 5], [1, 2, 3, 4, 5, 6], [], [], [9], [9, 10], [8, 9, 10, 11], [8, 9, 10, 11, 12], [8, 9, 10, 11, 12, 13], [8, 9, 10, 11, 12, 13, 14], [1, 2, 3, 4, 5, 6, 7, 8, 9, 10, 11, 12, 13, 14, 15], [], [], [18], [18, 19], [17, 18, 19, 20], [17, 18, 19, 20, 21], [17, 18, 19, 20, 21, 22], [17, 18, 19, 20, 21, 22, 23], [1, 2, 3, 4, 5, 6, 7, 8, 9, 10, 11, 12, 13, 14, 15, 16, 17, 18, 19, 20, 21, 22, 23, 24], [], [], [27], [27, 28], [26, 27, 28, 29], [26, 27, 28, 29, 30], [26, 27, 28, 29, 30, 31], [1, 2, 3, 4, 5, 6, 7, 8, 9, 10, 11, 12, 13, 14, 15, 16, 17, 18, 19, 20, 21, 22, 23, 24, 25, 26, 27, 28, 29, 30, 31, 32], (rg 34), (rg 35)]
abbrev p1 : List (List Nat) := [[], [0], [0, 1], [0, 1, 2], [], [4], [4, 5], [4, 5, 6], (rg 4), (rg 9)]
abbrev p2 : List (List Nat) := [[], [], [1], [1, 2], [1, 2, 3], [], [5], [], [5, 6, 7], [5, 6, 7, 8], [], [10], [5, 6, 7, 8, 9, 10, 11], [1, 2, 3, 4, 5, 6, 7, 8, 9, 10, 11, 12], [], [14], [14, 15], [14, 15, 16], [1, 2, 3, 4, 5, 6, 7, 8, 9, 10, 11, 12, 13, 14, 15, 16, 17], [], [5, 6, 7, 8, 19], [], [5, 6, 7, 8, 19, 20, 21], [5, 6, 7, 8, 19, 20, 21, 22], [], [24], [5, 6, 7, 8, 19, 20, 21, 22, 23, 24, 25], [1, 2, 3, 4, 5, 6, 7, 8, 9, 10, 11, 12, 13, 14, 15, 16, 17, 18, 19, 20, 21, 22, 23, 24, 25, 26], (rg 28), (rg 29)]
abbrev p3 : List (List Nat) := [[], [0], [0, 1], [], [3], (rg 5), (rg 6), [], [7], [0, 1, 2, 3, 4, 5, 7, 8], (rg 10), (rg 11)]
abbrev p4 : List (List Nat) := [[], [0], [], [0, 1, 2], [], (rg 5), [], [], [6, 7], [6, 7, 8], (rg 10), [], [11], [11, 12], (rg 14), (rg 15)]
abbrev p5 : List (List Nat) := [[], [], [1], [1, 2], [], [4], [4, 5], [1, 2, 3, 4, 5, 6], (rg 8), (rg 9)]
abbrev p6 : List (List Nat) := [[], [], [], [], [3], [1, 2, 3, 4], [], (rg 7), (rg 8)]
abbrev p7 : List (List Nat) := [[], [], [], [1, 2], [1, 2, 3], [], [], [1, 2, 3, 4, 5, 6], [1, 2, 3, 4, 5, 6, 7], [1, 2, 3, 4, 5, 6, 7, 8], (rg 10), (rg 11)]
abbrev p8 : List (List Nat) := [[], [], [0, 1], [0, 1, 2], [], [], [4, 5], (rg 7), [], [], (rg 10), (rg 11)]
abbrev p9 : List (List Nat) := [[], [], [0, 1], [0, 1, 2], (rg 4)]
abbrev p10 : List (List Nat) := [[], [], [1], [1, 2], [1, 2, 3], [], [5], [5, 6], [1, 2, 3, 4, 5, 6, 7], (rg 9), (rg 10), (rg 11)]
abbrev p11 : List (List Nat) := [[], [], [1], [1, 2], [1, 2, 3], [], [], [5, 6], [5, 6, 7], [5, 6, 7, 8], [5, 6, 7, 8, 9], [1, 2, 3, 4, 5, 6, 7, 8, 9, 10], (rg 12), (rg 13), (rg 14)]
abbrev p12 : List (List Nat) := [[], [0], [0, 1], [], [3], (rg 5), (rg 6), (rg 7)]
abbrev p13 : List (List Nat) := [[], [0], [], [0, 1, 2], (rg 4), (rg 5)]
abbrev p14 : List (List Nat) := [[], [], [1], [1, 2], (rg 4), [], [5], (rg 7), (rg 8), [], [9], (rg 11), (rg 12)]
abbrev p15 : List (List Nat) := [[], [0], [], [], [], [2, 3, 4], [2, 3, 4, 5], (rg 7), (rg 8), (rg 9)]
abbrev p16 : List (List Nat) := [[], [0], [], [], [], [4], [2, 3, 4, 5], [2, 3, 4, 5, 6], [2, 3, 4, 5, 6, 7], (rg 9), (rg 10), (rg 11)]
abbrev p17 : List (List Nat) := [[], [], [0, 1], [], (rg 4), [], [], [5, 6], (rg 8), (rg 9), (rg 10), (rg 11)]
abbrev p18 : List (List Nat) := [[], [], [0, 1], [], [], [3, 4], (rg 6), [], [], [7, 8], (rg 10), (rg 11), (rg 12), (rg 13)]
abbrev p19 : List (List Nat) := [[], [0], [], [2], [2, 3], [2, 3, 4], [], [2, 3, 4, 5, 6], [2, 3, 4, 5, 6, 7], [], [9], [9, 10], [9, 10, 11], [], [9, 10, 11, 12, 13], [9, 10, 11, 12, 13, 14], [], [], [17], [], [9, 10, 11, 12, 13, 14, 15, 16, 17, 18, 19], [2, 3, 4, 5, 6, 7, 8, 9, 10, 11, 12, 13, 14, 15, 16, 17, 18, 19, 20], [2, 3, 4, 5, 6, 7, 8, 9, 10, 11, 12, 13, 14, 15, 16, 17, 18, 19, 20, 21], (rg 23), (rg 24), (rg 25)]
abbrev p20 : List (List Nat) := [[], [0], [0, 1], [0, 1, 2], [], [4], (rg 6), (rg 7), (rg 8), [], [9], [9, 10], [9, 10, 11], [], [13], [9, 10, 11, 12, 13, 14], [9, 10, 11, 12, 13, 14, 15], [9, 10, 11, 12, 13, 14, 15, 16], [9, 10, 11, 12, 13, 14, 15, 16, 17], (rg 9), (rg 20), (rg 21), (rg 22), (rg 23)]
abbrev p21 : List (List Nat) := [[], [0], [0, 1], [], [3], (rg 5), (rg 5), [0, 1, 2, 3, 4, 6], (rg 8), (rg 9), (rg 10), (rg 11)]
abbrev p22 : List (List Nat) := [[], [], [], [2], [2, 3], [2, 3, 4], [1, 2, 3, 4, 5], [], [7], [1, 2, 3, 4, 5, 6, 7, 8], (rg 10), (rg 11), (rg 12)]
abbrev p23 : List (List Nat) := [[], [], [], [2], [2, 3], [2, 3, 4], [1, 2, 3, 4, 5], [], [7], [7, 8], [7, 8, 9], [7, 8, 9, 10], [1, 2, 3, 4, 5, 6, 7, 8, 9, 10, 11], (rg 13), (rg 14), (rg 15)]
abbrev p24 : List (List Nat) := [[], [0], [0, 1], [0, 1, 2], (rg 4), (rg 5), (rg 6), (rg 7), (rg 7), [0, 1, 2, 3, 4, 5, 6, 8], (rg 10), (rg 11), (rg 12), (rg 7), [0, 1, 2, 3, 4, 5, 6, 13], (rg 15), (rg 16), (rg 17)]
abbrev p25 : List (List Nat) := [[], [], [1], [], [1, 2, 3], [1, 2, 3, 4], [], [1, 2, 3, 4, 6], [1, 2, 3, 4, 5, 6, 7], (rg 9), [], (rg 11), [], [], [12], [12, 13, 14], [12, 13, 14, 15], (rg 17), [], [18], [18, 19], (rg 21), (rg 22)]
abbrev p26 : List (List Nat) := [[], [], [0], [0, 1, 2], (rg 4), [], (rg 6), [0], (rg 8), (rg 9)]
abbrev p27 : List (List Nat) := [[], [0], [0, 1], [0, 1, 2], [], [4], [4, 5], [4, 5, 6], [], [8], [8, 9], [8, 9, 10], [], [12], [12, 13], [12, 13, 14], [], [16], [16, 17], [16, 17, 18], [], [20], [20, 21], [20, 21, 22], [], [24], [24, 25], [24, 25, 26], [], [28], [28, 29], [28, 29, 30], (rg 4), [0, 1, 2, 3, 4, 5, 6, 7, 32], [0, 1, 2, 3, 4, 5, 6, 7, 8, 9, 10, 11, 32, 33], [0, 1, 2, 3, 4, 5, 6, 7, 8, 9, 10, 11, 12, 13, 14, 15, 32, 33, 34], [0, 1, 2, 3, 4, 5, 6, 7, 8, 9, 10, 11, 12, 13, 14, 15, 16, 17, 18, 19, 32, 33, 34, 35], [0, 1, 2, 3, 4, 5, 6, 7, 8, 9, 10, 11, 12, 13, 14, 15, 16, 17, 18, 19, 20, 21, 22, 23, 32, 33, 34, 35, 36], [0, 1, 2, 3, 4, 5, 6, 7, 8, 9, 10, 11, 12, 13, 14, 15, 16, 17, 18, 19, 20, 21, 22, 23, 24, 25, 26, 27, 32, 33, 34, 35, 36, 37], (rg 39)]
abbrev p28 : List (List Nat) := [[], [], [1], [1, 2], [1, 2, 3], [], [5], [5, 6], [1, 2, 3, 4, 5, 6, 7], [], [9], [9, 10], [1, 2, 3, 4, 5, 6, 7, 8, 9, 10, 11], (rg 13), (rg 14), (rg 15)]
abbrev p29 : List (List Nat) := [[], [0], [0, 1], [0, 1, 2], (rg 4), (rg 5), (rg 6), (rg 7), (rg 8), (rg 9), (rg 10), (rg 9), [0, 1, 2, 3, 4, 5, 6, 7, 8, 11], (rg 13), (rg 14), (rg 15), (rg 16), (rg 17), (rg 18), (rg 19)]
abbrev p30 : List (List Nat) := [[], [0], [], [2], [], (rg 5), (rg 6), (rg 7), (rg 8)]
abbrev p31 : List (List Nat) := [[], [0], [], [], [], (rg 5), (rg 6)]
abbrev p32 : List (List Nat) := [[], [0], [], [], [3], [], [5], [5, 6], [], [3, 4, 5, 6, 7, 8], (rg 10), (rg 11), (rg 12)]
abbrev p33 : List (List Nat) := [[], [0], [0, 1], [0, 1, 2], [], [4], [4, 5], [4, 5, 6], [4, 5, 6, 7], [4, 5, 6, 7, 8], (rg 10), (rg 11), (rg 12)]
abbrev p34 : List (List Nat) := [[], [0], [0, 1], [0, 1, 2], (rg 4), (rg 5), (rg 6), (rg 7), (rg 8), (rg 9), (rg 10), (rg 11), (rg 12), (rg 13), (rg 14), (rg 15), (rg 16), (rg 17), (rg 18), (rg 19), (rg 20), (rg 21), (rg 22), (rg 20), [0, 1, 2, 3, 4, 5, 6, 7, 8, 9, 10, 11, 12, 13, 14, 15, 16, 17, 18, 19, 23], [0, 1, 2, 3, 4, 5, 6, 7, 8, 9, 10, 11, 12, 13, 14, 15, 16, 17, 18, 19, 23, 24], (rg 26), (rg 27), (rg 28), (rg 29), (rg 30), (rg 31), (rg 29), [0, 1, 2, 3, 4, 5, 6, 7, 8, 9, 10, 11, 12, 13, 14, 15, 16, 17, 18, 19, 20, 21, 22, 23, 24, 25, 26, 27, 28, 32], [0, 1, 2, 3, 4, 5, 6, 7, 8, 9, 10, 11, 12, 13, 14, 15, 16, 17, 18, 19, 20, 21, 22, 23, 24, 25, 26, 27, 28, 32, 33], (rg 35), (rg 36), (rg 37)]
abbrev p35 : List (List Nat) := [[], [], [1], [1, 2], (rg 4), [], [5], [5, 6], [5, 6, 7], (rg 9), (rg 10)]
abbrev p36 : List (List Nat) := [[], [], [1], [0, 1, 2], (rg 4), (rg 5), [], [], [6, 7], [6, 7, 8], [6, 7, 8, 9], (rg 11)]
abbrev p37 : List (List Nat) := [[], [0], [], [2], (rg 4), (rg 5), [], [6], [], [8], [], [10], [], [12], [6, 7, 8, 9, 10, 11, 12, 13], (rg 15), (rg 16), (rg 17)]
abbrev p38 : List (List Nat) := [[], [], [1], [], [1, 2, 3], [], [], [6], [6, 7], [], [6, 7, 8, 9], [], [11], [], [11, 12, 13], [11, 12, 13, 14], [11, 12, 13, 14, 15], [], [17], [], [17, 18, 19], [17, 18, 19, 20], [0, 1, 2, 3, 4, 11, 12, 13, 14, 15, 16, 17, 18, 19, 20, 21], [0, 1, 2, 3, 4, 11, 12, 13, 14, 15, 16, 17, 18, 19, 20, 21, 22], (rg 24), (rg 25)]
abbrev p39 : List (List Nat) := [[], [], [0, 1], [0, 1, 2], [], [], [4, 5], (rg 7), (rg 8), (rg 9)]
abbrev p40 : List (List Nat) := [[], [], [1], [], [3], (rg 5), (rg 6), (rg 7), (rg 7), [], [0, 1, 2, 3, 4, 5, 6, 7, 9], (rg 11)]
abbrev p41 : List (List Nat) := [[], [0], [0, 1], [0, 1, 2], (rg 4), [0, 1], [0, 1, 5], (rg 7), (rg 8), (rg 9), (rg 10), (rg 11), (rg 10), [0, 1, 2, 3, 4, 5, 6, 7, 8, 9, 12], (rg 10), [0, 1, 2, 3, 4, 5, 6, 7, 8, 9, 14], (rg 16), (rg 17), (rg 18), (rg 19), (rg 20), (rg 21), (rg 22), (rg 23), (rg 24), (rg 25), (rg 26), (rg 23), [0, 1, 2, 3, 4, 5, 6, 7, 8, 9, 10, 11, 12, 13, 14, 15, 16, 17, 18, 19, 20, 21, 22, 27], (rg 23), [0, 1, 2, 3, 4, 5, 6, 7, 8, 9, 10, 11, 12, 13, 14, 15, 16, 17, 18, 19, 20, 21, 22, 29], (rg 31), (rg 32), (rg 33), (rg 34)]
abbrev p42 : List (List Nat) := [[], [], [1], [1, 2], [1, 2, 3], [1, 2, 3, 4], [], [6], [6, 7], [1, 2, 3, 4, 5, 6, 7, 8], (rg 10), (rg 11), (rg 12)]
abbrev p43 : List (List Nat) := [[], [0], [], [0, 1, 2], (rg 4), (rg 5), [], [6], [], [6, 7, 8], [6, 7, 8, 9], [], [], [0, 1, 2, 3, 4, 5, 11, 12], (rg 14)]
abbrev p44 : List (List Nat) := [[], [0], [], [], [3], [3, 4], [2, 3, 4, 5], [2, 3, 4, 5, 6], [], [0, 1, 8], (rg 10)]
abbrev p45 : List (List Nat) := [[], [], [0, 1], [0, 1, 2], [], (rg 4), (rg 6)]
abbrev p46 : List (List Nat) := [[], [0], [], [2], [], [4], (rg 6), (rg 7), (rg 8), (rg 9), (rg 10), (rg 11), (rg 12), (rg 9), [0, 1, 2, 3, 4, 5, 6, 7, 8, 13], (rg 9), [0, 1, 2, 3, 4, 5, 6, 7, 8, 15], (rg 17), (rg 18), (rg 19)]
abbrev p47 : List (List Nat) := [[], [0], [0, 1], [0, 1, 2], [], [4], [4, 5], [4, 5, 6], (rg 8), (rg 9), (rg 10), (rg 10), (rg 11), (rg 13)]
abbrev p48 : List (List Nat) := [[], [], [1], [1, 2], (rg 4), [], [], [6], [6, 7], (rg 9), (rg 10), (rg 11)]
abbrev p49 : List (List Nat) := [[], [], [1], [1, 2], [], (rg 5), (rg 6)]
abbrev p50 : List (List Nat) := [[], [], [1], [0, 1, 2], [], [], [5], [4, 5, 6], (rg 4), (rg 9)]
abbrev p51 : List (List Nat) := [[], [0], [0, 1], [0, 1, 2], (rg 4), (rg 5), (rg 4), [0, 1, 2, 3, 6], (rg 8), (rg 9), (rg 10), (rg 11), (rg 12), (rg 11), [0, 1, 2, 3, 4, 5, 6, 7, 8, 9, 10, 13], [0, 1, 2, 3, 4, 5, 6, 7, 8, 9, 10, 13, 14], (rg 11), (rg 11), [0, 1, 2, 3, 4, 5, 6, 7, 8, 9, 10, 17], (rg 19), (rg 20), (rg 21), (rg 22)]
abbrev p52 : List (List Nat) := [[], [0], [0, 1], [0, 1, 2], [], [], [4, 5], [4, 5, 6], [4, 5, 6, 7], [4, 5, 6, 7, 8], (rg 10), (rg 11), [], (rg 13)]
abbrev p53 : List (List Nat) := [[], [], [], [], [2, 3], [2, 3, 4], [2, 3, 4, 5], (rg 7), [], (rg 9)]
def T : Tab := [(3, (.int .i64), 8), (4, .bool, 1), (5, (.int .u8), 1), (9, .str, 16), (23, Yba7c, 48), (24, (.slice (.int .i64)), 24), (25, (.slice Y484d), 24), (28, (.arr 32 (.int .u8)), 32), (30, Yf0bc, 144), (32, (.slice Y8f72), 24), (33, .flt, 8), (35, Y484d, 56), (36, (.slice (.arr 32 (.int .u8))), 24), (38, Y9c6e, 48), (40, Y8266, 80), (42, Y8f72, 96), (45, .cplx, 16), (49, (.slice .str), 24), (54, (.slice (.int .u8)), 24), (60, (.slice (.slice (.slice (.int .u8)))), 24), (61, (.slice Y18c3), 24), (62, (.slice Yedcc), 24), (63, (.slice (.slice Y18c3)), 24), (65, Y6488, 168), (66, .ptr, 8), (67, (.int .i64), 8), (71, Yedcc, 216), (75, (.slice Yf321), 24), (76, (.slice .bool), 24), (78, Yf321, 56), (86, (.slice Yf0bc), 24), (91, (.slice (.slice (.int .u8))), 24), (108, Y65da, 64), (118, (.int .u64), 8), (144, Y18c3, 32), (147, (.slice (.int .u32)), 24), (149, (.int .u32), 4), (150, (.arr 8 (.int .u32)), 32), (151, (.int .u64), 8), (155, (.arr 64 (.int .u32)), 256)]
theorem tab : TabOK prog T := tab_of_b (by kernel_rfl)
theorem bytes : bytesB T = true := by kernel_rfl
theorem mix : prog.follows .mixedOrders = true := by kernel_rfl
theorem eqs : eqTypes prog T [28, 30] = true := by kernel_rfl
theorem env : Env prog T [28, 30] := ⟨tab, eqs, mix⟩
theorem can64 : Callable prog 64 := ⟨_, func64, by kernel_rfl, by kernel_rfl⟩
def affiantkeep_Names_R  (u : List (B8)) : Slot := (.own 0 [])
def affiantkeep_Names_O  (u : List (B8)) : List AObj := [.row .str u true]
theorem affiantkeep_Names_ok  (u : List (B8)) (h : affiantkeep_Names  = some u) : CallC prog 64 [] [] (affiantkeep_Names_R u) (affiantkeep_Names_O u) := by
 unfold affiantkeep_Names at h
 injection h with h; subst h
 exact env.fun func64 can64 (its := []) (pos := [.sel [0]]) .n (by kernel_rfl)
theorem can14 : Callable prog 14 := ⟨_, func14, by kernel_rfl, by kernel_rfl⟩
def affiantbook_Within_R (a0 : Int) (a1 : Int) (a2 : Int) (u : Int) : Slot := (.v (.int .i64) u)
def affiantbook_Within_O (a0 : Int) (a1 : Int) (a2 : Int) (u : Int) : List AObj := []
theorem affiantbook_Within_ok (a0 : Int) (a1 : Int) (a2 : Int) (u : Int) (h : affiantbook_Within a0 a1 a2 = some u) : CallC prog 14 [(.v (.int .i64) a0), (.v (.int .i64) a1), (.v (.int .i64) a2)] [] (affiantbook_Within_R a0 a1 a2 u) (affiantbook_Within_O a0 a1 a2 u) := by
 unfold affiantbook_Within at h
 obtain ⟨h1, h⟩ := need_some h
 rcases fork_some h with ⟨h2, h⟩ | ⟨h2, h⟩
 ·injection h with h; subst h
  exact env.fun func14 can14 (its := [b1]) (pos := [.sel []]) (.c h1 (.c h2 .n)) (by kernel_rfl)
 ·injection h with h; subst h
  exact env.fun func14 can14 (its := [b0]) (pos := [.sel []]) (.c h1 (.c h2 .n)) (by kernel_rfl)
theorem can36 : Callable prog 36 := ⟨_, func36, by kernel_rfl, by kernel_rfl⟩
def affiantkeep_Set_1_in (x0 : List Int) (x1 : Int) (x2 : Int) (x3 : List (T484d)) (x4 : List (B8)) : St := ⟨[(0, (.v (.slice (.int .i64)) x0)), (3, (.own 0 [])), (7, (.own 1 [])), (8, (.v (.int .i64) x1)), (9, (.v (.int .i64) x2))], [.row Y484d x3 true, .row .str x4 true], 43, 0⟩
def affiantkeep_Set_1_ex (o : List (T484d)) : Exit := (.exit 0)
def affiantkeep_Set_1_st (o : List (T484d)) : St := ⟨[(3, (.own 0 []))], [.row Y484d o true], 43, 0⟩
theorem affiantkeep_Set_1_body (x0 : List Int) (x1 : Int) (x2 : Int) (x3 : List (T484d)) (x4 : List (B8)) : ∀ r, affiantkeep_Set_1_step x0 x1 x2 x3 x4 = some r → (match r with | .inl s => CodeOK prog (codeAt (bodyOf f36) [1, 1, 0, 1, 0, 0]) (affiantkeep_Set_1_in x0 x1 x2 x3 x4) .normal (affiantkeep_Set_1_in x0 x1 s.1 s.2 x4) | .inr o => affiantkeep_Set_1_ex o ≠ .normal ∧ CodeOK prog (codeAt (bodyOf f36) [1, 1, 0, 1, 0, 0]) (affiantkeep_Set_1_in x0 x1 x2 x3 x4) (affiantkeep_Set_1_ex o) (affiantkeep_Set_1_st o)) := by
 intro r h
 unfold affiantkeep_Set_1_step at h
 rcases fork_some h with ⟨h4, h⟩ | ⟨h4, h⟩
 ·obtain ⟨h5, h⟩ := need_some h
  rcases fork_some h with ⟨h6, h⟩ | ⟨h6, h⟩
  ·rcases fork_some h with ⟨h7, h⟩ | ⟨h7, h⟩
   ·obtain ⟨h8, h⟩ := need_some h
    obtain ⟨u9, h10, h⟩ := andThen_some h
    obtain ⟨h11, h⟩ := need_some h
    injection h with h; subst h
    exact env.code (its := [b1, b1, b1, b1, b1, b1, b1, b1, .call [none, none, none] [] [] true (affiantbook_Within_R (List.getD x0 (Int.toNat x2) (0 : Int)) (1 : Int) (9 : Int) u9) (affiantbook_Within_O (List.getD x0 (Int.toNat x2) (0 : Int)) (1 : Int) (9 : Int) u9), .sel [0, 3, 7, 8, 9] [3, 1]]) (.c h4 (.c h5 (.c h6 (.c h6 (.c h6 (.c h6 (.c h6 (.c r1 (.c h7 (.c h8 (.c (affiantbook_Within_ok (List.getD x0 (Int.toNat x2) (0 : Int)) (1 : Int) (9 : Int) u9 h10) (.c h11 .n)))))))))))) (by kernel_rfl)
   ·obtain ⟨h12, h⟩ := need_some h
    injection h with h; subst h
    exact env.code (its := [b1, b1, b1, b1, b1, b1, b1, b0, .sel [0, 3, 7, 8, 9] [3, 1]]) (.c h4 (.c h5 (.c h6 (.c h6 (.c h6 (.c h6 (.c h6 (.c r1 (.c h7 (.c h12 .n)))))))))) (by kernel_rfl)
  ·rcases fork_some h with ⟨h13, h⟩ | ⟨h13, h⟩
   ·obtain ⟨h14, h⟩ := need_some h
    obtain ⟨u15, h16, h⟩ := andThen_some h
    obtain ⟨h17, h⟩ := need_some h
    injection h with h; subst h
    exact env.code (its := [b1, b0, b0, b0, b0, b0, b1, b1, .call [none, none, none] [] [] true (affiantbook_Within_R (List.getD x0 (Int.toNat x2) (0 : Int)) (1 : Int) (9 : Int) u15) (affiantbook_Within_O (List.getD x0 (Int.toNat x2) (0 : Int)) (1 : Int) (9 : Int) u15), .sel [0, 3, 7, 8, 9] [3, 1]]) (.c h4 (.c h5 (.c h6 (.c h6 (.c h6 (.c h6 (.c h6 (.c h13 (.c h13 (.c h14 (.c (affiantbook_Within_ok (List.getD x0 (Int.toNat x2) (0 : Int)) (1 : Int) (9 : Int) u15 h16) (.c h17 .n)))))))))))) (by kernel_rfl)
   ·injection h with h; subst h
    exact env.code (its := [b1, b0, b0, b0, b0, b0, b0, .sel [0, 3, 7, 8, 9] [0, 1]]) (.c h4 (.c h5 (.c h6 (.c h6 (.c h6 (.c h6 (.c h6 (.c h13 .n)))))))) (by kernel_rfl)
 ·injection h with h; subst h
  exact ⟨by intro e; simp [affiantkeep_Set_1_ex] at e, env.code (its := [b0, .sel [3] [0]]) (.c h4 .n) (by kernel_rfl)⟩
theorem affiantkeep_Set_1_ok (x0 : List Int) (x1 : Int) (x2 : Int) (x3 : List (T484d)) (x4 : List (B8)) (o : List (T484d)) (h : affiantkeep_Set_1 x0 x1 x2 x3 x4 = some o) : CodeOK prog (codeAt (bodyOf f36) [1, 1, 0, 1, 0]) (affiantkeep_Set_1_in x0 x1 x2 x3 x4) (affiantkeep_Set_1_ex o) (affiantkeep_Set_1_st o) :=
 LoopOK.of_step (st := fun s => affiantkeep_Set_1_in x0 x1 s.1 s.2 x4) (ex := affiantkeep_Set_1_ex) (stO := affiantkeep_Set_1_st) (fun s s2 hs => affiantkeep_Set_1_body x0 x1 s.1 s.2 x4 (.inl s2) hs) (fun s r hs => affiantkeep_Set_1_body x0 x1 s.1 s.2 x4 (.inr r) hs) _ o h
def affiantkeep_Set_R (a0 : List Int) (u : List (T484d)) : Slot := (.own 0 [])
def affiantkeep_Set_O (a0 : List Int) (u : List (T484d)) : List AObj := [.row Y484d u true]
theorem affiantkeep_Set_ok (a0 : List Int) (u : List (T484d)) (h : affiantkeep_Set a0 = some u) : CallC prog 36 [(.v (.slice (.int .i64)) a0)] [] (affiantkeep_Set_R a0 u) (affiantkeep_Set_O a0 u) := by
 unfold affiantkeep_Set at h
 obtain ⟨u1, h2, h⟩ := andThen_some h
 obtain ⟨o18, h19, h⟩ := andThen_some h
 injection h with h; subst h
 exact env.fun func36 can36 (its := [.call [] [] [] true (affiantkeep_Names_R u1) (affiantkeep_Names_O u1), .dive, .promote 3 Y484d, .sel [0, 3, 7, 8, 9] [1, 0], .part (affiantkeep_Set_1_ex o18) (affiantkeep_Set_1_st o18)]) (pos := [.sel [0]]) (.c (affiantkeep_Names_ok u1 h2) (.c (affiantkeep_Set_1_ok a0 (List.length u1 : Int) (0 : Int) ([] : List (T484d)) u1 o18 h19) .n)) (by kernel_rfl)
theorem can12 : Callable prog 12 := ⟨_, func12, by kernel_rfl, by kernel_rfl⟩
def affiantkeep_Seed_R (a0 : Int) (u : B8) : Slot := (.v (.arr 32 (.int .u8)) u)
def affiantkeep_Seed_O (a0 : Int) (u : B8) : List AObj := []
theorem affiantkeep_Seed_ok (a0 : Int) (u : B8) (h : affiantkeep_Seed a0 = some u) : CallC prog 12 [(.v (.int .i64) a0)] [] (affiantkeep_Seed_R a0 u) (affiantkeep_Seed_O a0 u) := by
 unfold affiantkeep_Seed at h
 injection h with h; subst h
 exact env.fun func12 can12 (its := []) (pos := [.sel []]) .n (by kernel_rfl)
theorem can113 : Callable prog 113 := ⟨_, func113, by kernel_rfl, by kernel_rfl⟩
def affiantref1_constants_R  (u : List UInt32) : Slot := (.own 0 [])
def affiantref1_constants_O  (u : List UInt32) : List AObj := [.row (.int .u32) u true]
theorem affiantref1_constants_ok  (u : List UInt32) (h : affiantref1_constants  = some u) : CallC prog 113 [] [] (affiantref1_constants_R u) (affiantref1_constants_O u) := by
 unfold affiantref1_constants at h
 injection h with h; subst h
 exact env.fun func113 can113 (its := []) (pos := [.sel [0]]) .n (by kernel_rfl)
theorem can121 : Callable prog 121 := ⟨_, func121, by kernel_rfl, by kernel_rfl⟩
def affiantref1_turn_R (a0 : UInt32) (a1 : UInt64) (u : UInt32) : Slot := (.v (.int .u32) u)
def affiantref1_turn_O (a0 : UInt32) (a1 : UInt64) (u : UInt32) : List AObj := []
theorem affiantref1_turn_ok (a0 : UInt32) (a1 : UInt64) (u : UInt32) (h : affiantref1_turn a0 a1 = some u) : CallC prog 121 [(.v (.int .u32) a0), (.v (.int .u64) a1)] [] (affiantref1_turn_R a0 a1 u) (affiantref1_turn_O a0 a1 u) := by
 unfold affiantref1_turn at h
 obtain ⟨h1, h⟩ := need_some h
 obtain ⟨h2, h⟩ := need_some h
 injection h with h; subst h
 exact env.fun func121 can121 (its := []) (pos := [.sel []]) (.c h1 (.c h2 .n)) (by kernel_rfl)
theorem can114 : Callable prog 114 := ⟨_, func114, by kernel_rfl, by kernel_rfl⟩
def affiantref1_block_1_in (x0 : B8) (x1 : List UInt32) (x2 : Int) (x3 : List UInt32) (x4 : List UInt32) (x5 : List UInt32) : St := ⟨[(1, (.v (.slice (.int .u8)) x0)), (2, (.v (.slice (.int .u32)) x1)), (3, (.ptr 0 [])), (6, (.ptr 1 [])), (7, (.ptr 2 [])), (20, (.v (.int .i64) x2))], [.box (.arr 8 (.int .u32)) (.v (.arr 8 (.int .u32)) x3) true, .box (.arr 8 (.int .u32)) (.v (.arr 8 (.int .u32)) x4) true, .box (.arr 64 (.int .u32)) (.v (.arr 64 (.int .u32)) x5) true], 207, 0⟩
def affiantref1_block_1_ex (o : List UInt32 × List UInt32 × List UInt32 × List UInt32) : Exit := (.exit 0)
def affiantref1_block_1_st (o : List UInt32 × List UInt32 × List UInt32 × List UInt32) : St := ⟨[(2, (.v (.slice (.int .u32)) o.1)), (3, (.ptr 0 [])), (6, (.ptr 1 [])), (7, (.ptr 2 []))], [.box (.arr 8 (.int .u32)) (.v (.arr 8 (.int .u32)) o.2.1) true, .box (.arr 8 (.int .u32)) (.v (.arr 8 (.int .u32)) o.2.2.1) true, .box (.arr 64 (.int .u32)) (.v (.arr 64 (.int .u32)) o.2.2.2) true], 207, 0⟩
theorem affiantref1_block_1_body (x0 : B8) (x1 : List UInt32) (x2 : Int) (x3 : List UInt32) (x4 : List UInt32) (x5 : List UInt32) : ∀ r, affiantref1_block_1_step x0 x1 x2 x3 x4 x5 = some r → (match r with | .inl s => CodeOK prog (codeAt (bodyOf f114) [1, 1, 0, 1, 0, 0]) (affiantref1_block_1_in x0 x1 x2 x3 x4 x5) .normal (affiantref1_block_1_in x0 x1 s.1 x3 x4 s.2) | .inr o => affiantref1_block_1_ex o ≠ .normal ∧ CodeOK prog (codeAt (bodyOf f114) [1, 1, 0, 1, 0, 0]) (affiantref1_block_1_in x0 x1 x2 x3 x4 x5) (affiantref1_block_1_ex o) (affiantref1_block_1_st o)) := by
 intro r h
 unfold affiantref1_block_1_step at h
 rcases fork_some h with ⟨h2, h⟩ | ⟨h2, h⟩
 ·obtain ⟨h3, h⟩ := need_some h
  obtain ⟨h4, h⟩ := need_some h
  obtain ⟨h5, h⟩ := need_some h
  obtain ⟨h6, h⟩ := need_some h
  obtain ⟨h7, h⟩ := need_some h
  injection h with h; subst h
  exact env.code (its := [b1, .pre p0, .sel [1, 2, 3, 6, 7, 20] [0, 1, 2]]) (.c h2 (.c h3 (.c (of_decide_eq_true (p := (0 ≤ (24 : Int))) (by kernel_rfl)) (.c h4 (.c (of_decide_eq_true (p := (0 ≤ (16 : Int))) (by kernel_rfl)) (.c h5 (.c (of_decide_eq_true (p := (0 ≤ (8 : Int))) (by kernel_rfl)) (.c h6 (.c h7 .n))))))))) (by kernel_rfl)
 ·injection h with h; subst h
  exact ⟨by intro e; simp [affiantref1_block_1_ex] at e, env.code (its := [b0, .sel [2, 3, 6, 7] [0, 1, 2]]) (.c h2 .n) (by kernel_rfl)⟩
theorem affiantref1_block_1_ok (x0 : B8) (x1 : List UInt32) (x2 : Int) (x3 : List UInt32) (x4 : List UInt32) (x5 : List UInt32) (o : List UInt32 × List UInt32 × List UInt32 × List UInt32) (h : affiantref1_block_1 x0 x1 x2 x3 x4 x5 = some o) : CodeOK prog (codeAt (bodyOf f114) [1, 1, 0, 1, 0]) (affiantref1_block_1_in x0 x1 x2 x3 x4 x5) (affiantref1_block_1_ex o) (affiantref1_block_1_st o) :=
 LoopOK.of_step (st := fun s => affiantref1_block_1_in x0 x1 s.1 x3 x4 s.2) (ex := affiantref1_block_1_ex) (stO := affiantref1_block_1_st) (fun s s2 hs => affiantref1_block_1_body x0 x1 s.1 x3 x4 s.2 (.inl s2) hs) (fun s r hs => affiantref1_block_1_body x0 x1 s.1 x3 x4 s.2 (.inr r) hs) _ o h
def affiantref1_block_2_in (x0 : List UInt32) (x1 : Int) (x2 : List UInt32) (x3 : List UInt32) (x4 : List UInt32) : St := ⟨[(2, (.v (.slice (.int .u32)) x0)), (3, (.ptr 0 [])), (6, (.ptr 1 [])), (7, (.ptr 2 [])), (9, (.v (.int .i64) x1))], [.box (.arr 8 (.int .u32)) (.v (.arr 8 (.int .u32)) x2) true, .box (.arr 8 (.int .u32)) (.v (.arr 8 (.int .u32)) x3) true, .box (.arr 64 (.int .u32)) (.v (.arr 64 (.int .u32)) x4) true], 207, 0⟩
def affiantref1_block_2_ex (o : List UInt32 × List UInt32 × List UInt32 × List UInt32) : Exit := (.exit 2)
def affiantref1_block_2_st (o : List UInt32 × List UInt32 × List UInt32 × List UInt32) : St := ⟨[(2, (.v (.slice (.int .u32)) o.1)), (3, (.ptr 0 [])), (6, (.ptr 1 [])), (7, (.ptr 2 []))], [.box (.arr 8 (.int .u32)) (.v (.arr 8 (.int .u32)) o.2.1) true, .box (.arr 8 (.int .u32)) (.v (.arr 8 (.int .u32)) o.2.2.1) true, .box (.arr 64 (.int .u32)) (.v (.arr 64 (.int .u32)) o.2.2.2) true], 207, 0⟩
theorem affiantref1_block_2_body (x0 : List UInt32) (x1 : Int) (x2 : List UInt32) (x3 : List UInt32) (x4 : List UInt32) : ∀ r, affiantref1_block_2_step x0 x1 x2 x3 x4 = some r → (match r with | .inl s => CodeOK prog (codeAt (bodyOf f114) [1, 1, 1, 0, 1, 0, 0]) (affiantref1_block_2_in x0 x1 x2 x3 x4) .normal (affiantref1_block_2_in x0 s.1 x2 x3 s.2) | .inr o => affiantref1_block_2_ex o ≠ .normal ∧ CodeOK prog (codeAt (bodyOf f114) [1, 1, 1, 0, 1, 0, 0]) (affiantref1_block_2_in x0 x1 x2 x3 x4) (affiantref1_block_2_ex o) (affiantref1_block_2_st o)) := by
 intro r h
 unfold affiantref1_block_2_step at h
 rcases fork_some h with ⟨h11, h⟩ | ⟨h11, h⟩
 ·obtain ⟨h12, h⟩ := need_some h
  obtain ⟨h13, h⟩ := need_some h
  obtain ⟨h14, h⟩ := need_some h
  obtain ⟨u15, h16, h⟩ := andThen_some h
  obtain ⟨u17, h18, h⟩ := andThen_some h
  obtain ⟨h19, h⟩ := need_some h
  obtain ⟨u20, h21, h⟩ := andThen_some h
  obtain ⟨u22, h23, h⟩ := andThen_some h
  obtain ⟨h24, h⟩ := need_some h
  injection h with h; subst h
  exact env.code (its := [b1, .pre p1, .pre p2, .asis, .call [none, none] [] [] true (affiantref1_turn_R (List.getD x4 (Int.toNat (w64 (x1 - (15 : Int)))) (0 : UInt32)) (7 : UInt64) u15) (affiantref1_turn_O (List.getD x4 (Int.toNat (w64 (x1 - (15 : Int)))) (0 : UInt32)) (7 : UInt64) u15), .asis, .call [none, none] [] [] true (affiantref1_turn_R (List.getD x4 (Int.toNat (w64 (x1 - (15 : Int)))) (0 : UInt32)) (18 : UInt64) u17) (affiantref1_turn_O (List.getD x4 (Int.toNat (w64 (x1 - (15 : Int)))) (0 : UInt32)) (18 : UInt64) u17), .asis, .call [none, none] [] [] true (affiantref1_turn_R (List.getD x4 (Int.toNat (w64 (x1 - (2 : Int)))) (0 : UInt32)) (17 : UInt64) u20) (affiantref1_turn_O (List.getD x4 (Int.toNat (w64 (x1 - (2 : Int)))) (0 : UInt32)) (17 : UInt64) u20), .asis, .call [none, none] [] [] true (affiantref1_turn_R (List.getD x4 (Int.toNat (w64 (x1 - (2 : Int)))) (0 : UInt32)) (19 : UInt64) u22) (affiantref1_turn_O (List.getD x4 (Int.toNat (w64 (x1 - (2 : Int)))) (0 : UInt32)) (19 : UInt64) u22), .sel [2, 3, 6, 7, 9] [0, 1, 2]]) (.c h11 (.c h12 (.c h13 (.c h14 (.c rn (.c (affiantref1_turn_ok (List.getD x4 (Int.toNat (w64 (x1 - (15 : Int)))) (0 : UInt32)) (7 : UInt64) u15 h16) (.c rn (.c (affiantref1_turn_ok (List.getD x4 (Int.toNat (w64 (x1 - (15 : Int)))) (0 : UInt32)) (18 : UInt64) u17 h18) (.c (of_decide_eq_true (p := (0 ≤ (3 : Int))) (by kernel_rfl)) (.c h19 (.c rn (.c (affiantref1_turn_ok (List.getD x4 (Int.toNat (w64 (x1 - (2 : Int)))) (0 : UInt32)) (17 : UInt64) u20 h21) (.c rn (.c (affiantref1_turn_ok (List.getD x4 (Int.toNat (w64 (x1 - (2 : Int)))) (0 : UInt32)) (19 : UInt64) u22 h23) (.c (of_decide_eq_true (p := (0 ≤ (10 : Int))) (by kernel_rfl)) (.c h24 .n)))))))))))))))) (by kernel_rfl)
 ·injection h with h; subst h
  exact ⟨by intro e; simp [affiantref1_block_2_ex] at e, env.code (its := [b0, .sel [2, 3, 6, 7] [0, 1, 2]]) (.c h11 .n) (by kernel_rfl)⟩
theorem affiantref1_block_2_ok (x0 : List UInt32) (x1 : Int) (x2 : List UInt32) (x3 : List UInt32) (x4 : List UInt32) (o : List UInt32 × List UInt32 × List UInt32 × List UInt32) (h : affiantref1_block_2 x0 x1 x2 x3 x4 = some o) : CodeOK prog (codeAt (bodyOf f114) [1, 1, 1, 0, 1, 0]) (affiantref1_block_2_in x0 x1 x2 x3 x4) (affiantref1_block_2_ex o) (affiantref1_block_2_st o) :=
 LoopOK.of_step (st := fun s => affiantref1_block_2_in x0 s.1 x2 x3 s.2) (ex := affiantref1_block_2_ex) (stO := affiantref1_block_2_st) (fun s s2 hs => affiantref1_block_2_body x0 s.1 x2 x3 s.2 (.inl s2) hs) (fun s r hs => affiantref1_block_2_body x0 s.1 x2 x3 s.2 (.inr r) hs) _ o h
def affiantref1_block_3_in (x0 : List UInt32) (x1 : Int) (x2 : List UInt32) (x3 : List UInt32) (x4 : List UInt32) (x5 : List UInt32) : St := ⟨[(2, (.v (.slice (.int .u32)) x0)), (3, (.ptr 0 [])), (6, (.ptr 1 [])), (7, (.ptr 2 [])), (12, (.ptr 3 [])), (101, (.v (.int .i64) x1))], [.box (.arr 8 (.int .u32)) (.v (.arr 8 (.int .u32)) x2) true, .box (.arr 8 (.int .u32)) (.v (.arr 8 (.int .u32)) x3) true, .box (.arr 64 (.int .u32)) (.v (.arr 64 (.int .u32)) x4) true, .box (.arr 8 (.int .u32)) (.v (.arr 8 (.int .u32)) x5) true], 207, 0⟩
def affiantref1_block_3_ex (o : List UInt32 × List UInt32 × List UInt32) : Exit := (.exit 4)
def affiantref1_block_3_st (o : List UInt32 × List UInt32 × List UInt32) : St := ⟨[(3, (.ptr 0 [])), (6, (.ptr 1 [])), (12, (.ptr 2 []))], [.box (.arr 8 (.int .u32)) (.v (.arr 8 (.int .u32)) o.1) true, .box (.arr 8 (.int .u32)) (.v (.arr 8 (.int .u32)) o.2.1) true, .box (.arr 8 (.int .u32)) (.v (.arr 8 (.int .u32)) o.2.2) true], 207, 0⟩
theorem affiantref1_block_3_body (x0 : List UInt32) (x1 : Int) (x2 : List UInt32) (x3 : List UInt32) (x4 : List UInt32) (x5 : List UInt32) : ∀ r, affiantref1_block_3_step x0 x1 x2 x3 x4 x5 = some r → (match r with | .inl s => CodeOK prog (codeAt (bodyOf f114) [1, 1, 1, 1, 1, 0, 1, 0, 0]) (affiantref1_block_3_in x0 x1 x2 x3 x4 x5) .normal (affiantref1_block_3_in x0 s.1 x2 x3 x4 s.2) | .inr o => affiantref1_block_3_ex o ≠ .normal ∧ CodeOK prog (codeAt (bodyOf f114) [1, 1, 1, 1, 1, 0, 1, 0, 0]) (affiantref1_block_3_in x0 x1 x2 x3 x4 x5) (affiantref1_block_3_ex o) (affiantref1_block_3_st o)) := by
 intro r h
 unfold affiantref1_block_3_step at h
 rcases fork_some h with ⟨h28, h⟩ | ⟨h28, h⟩
 ·obtain ⟨u29, h30, h⟩ := andThen_some h
  obtain ⟨u31, h32, h⟩ := andThen_some h
  obtain ⟨u33, h34, h⟩ := andThen_some h
  obtain ⟨h35, h⟩ := need_some h
  obtain ⟨h36, h⟩ := need_some h
  obtain ⟨u37, h38, h⟩ := andThen_some h
  obtain ⟨u39, h40, h⟩ := andThen_some h
  obtain ⟨u41, h42, h⟩ := andThen_some h
  injection h with h; subst h
  exact env.code (its := [b1, .pre p3, .asis, .call [none, none] [] [] true (affiantref1_turn_R (List.getD x5 (Int.toNat (4 : Int)) (0 : UInt32)) (6 : UInt64) u29) (affiantref1_turn_O (List.getD x5 (Int.toNat (4 : Int)) (0 : UInt32)) (6 : UInt64) u29), .asis, .call [none, none] [] [] true (affiantref1_turn_R (List.getD x5 (Int.toNat (4 : Int)) (0 : UInt32)) (11 : UInt64) u31) (affiantref1_turn_O (List.getD x5 (Int.toNat (4 : Int)) (0 : UInt32)) (11 : UInt64) u31), .asis, .call [none, none] [] [] true (affiantref1_turn_R (List.getD x5 (Int.toNat (4 : Int)) (0 : UInt32)) (25 : UInt64) u33) (affiantref1_turn_O (List.getD x5 (Int.toNat (4 : Int)) (0 : UInt32)) (25 : UInt64) u33), .pre p4, .pre p3, .asis, .call [none, none] [] [] true (affiantref1_turn_R (List.getD x5 (Int.toNat (0 : Int)) (0 : UInt32)) (2 : UInt64) u37) (affiantref1_turn_O (List.getD x5 (Int.toNat (0 : Int)) (0 : UInt32)) (2 : UInt64) u37), .asis, .call [none, none] [] [] true (affiantref1_turn_R (List.getD x5 (Int.toNat (0 : Int)) (0 : UInt32)) (13 : UInt64) u39) (affiantref1_turn_O (List.getD x5 (Int.toNat (0 : Int)) (0 : UInt32)) (13 : UInt64) u39), .asis, .call [none, none] [] [] true (affiantref1_turn_R (List.getD x5 (Int.toNat (0 : Int)) (0 : UInt32)) (22 : UInt64) u41) (affiantref1_turn_O (List.getD x5 (Int.toNat (0 : Int)) (0 : UInt32)) (22 : UInt64) u41), .sel [2, 3, 6, 7, 12, 101] [0, 1, 2, 3]]) (.c h28 (.c (of_decide_eq_true (p := (0 ≤ (4 : Int) ∧ (4 : Int) < (8 : Int))) (by kernel_rfl)) (.c rn (.c (affiantref1_turn_ok (List.getD x5 (Int.toNat (4 : Int)) (0 : UInt32)) (6 : UInt64) u29 h30) (.c (of_decide_eq_true (p := (0 ≤ (4 : Int) ∧ (4 : Int) < (8 : Int))) (by kernel_rfl)) (.c rn (.c (affiantref1_turn_ok (List.getD x5 (Int.toNat (4 : Int)) (0 : UInt32)) (11 : UInt64) u31 h32) (.c (of_decide_eq_true (p := (0 ≤ (4 : Int) ∧ (4 : Int) < (8 : Int))) (by kernel_rfl)) (.c rn (.c (affiantref1_turn_ok (List.getD x5 (Int.toNat (4 : Int)) (0 : UInt32)) (25 : UInt64) u33 h34) (.c (of_decide_eq_true (p := (0 ≤ (4 : Int) ∧ (4 : Int) < (8 : Int))) (by kernel_rfl)) (.c (of_decide_eq_true (p := (0 ≤ (5 : Int) ∧ (5 : Int) < (8 : Int))) (by kernel_rfl)) (.c (of_decide_eq_true (p := (0 ≤ (4 : Int) ∧ (4 : Int) < (8 : Int))) (by kernel_rfl)) (.c (of_decide_eq_true (p := (0 ≤ (6 : Int) ∧ (6 : Int) < (8 : Int))) (by kernel_rfl)) (.c (of_decide_eq_true (p := (0 ≤ (7 : Int) ∧ (7 : Int) < (8 : Int))) (by kernel_rfl)) (.c h35 (.c h36 (.c (of_decide_eq_true (p := (0 ≤ (0 : Int) ∧ (0 : Int) < (8 : Int))) (by kernel_rfl)) (.c rn (.c (affiantref1_turn_ok (List.getD x5 (Int.toNat (0 : Int)) (0 : UInt32)) (2 : UInt64) u37 h38) (.c (of_decide_eq_true (p := (0 ≤ (0 : Int) ∧ (0 : Int) < (8 : Int))) (by kernel_rfl)) (.c rn (.c (affiantref1_turn_ok (List.getD x5 (Int.toNat (0 : Int)) (0 : UInt32)) (13 : UInt64) u39 h40) (.c (of_decide_eq_true (p := (0 ≤ (0 : Int) ∧ (0 : Int) < (8 : Int))) (by kernel_rfl)) (.c rn (.c (affiantref1_turn_ok (List.getD x5 (Int.toNat (0 : Int)) (0 : UInt32)) (22 : UInt64) u41 h42) (.c (of_decide_eq_true (p := (0 ≤ (0 : Int) ∧ (0 : Int) < (8 : Int))) (by kernel_rfl)) (.c (of_decide_eq_true (p := (0 ≤ (1 : Int) ∧ (1 : Int) < (8 : Int))) (by kernel_rfl)) (.c (of_decide_eq_true (p := (0 ≤ (0 : Int) ∧ (0 : Int) < (8 : Int))) (by kernel_rfl)) (.c (of_decide_eq_true (p := (0 ≤ (2 : Int) ∧ (2 : Int) < (8 : Int))) (by kernel_rfl)) (.c (of_decide_eq_true (p := (0 ≤ (1 : Int) ∧ (1 : Int) < (8 : Int))) (by kernel_rfl)) (.c (of_decide_eq_true (p := (0 ≤ (2 : Int) ∧ (2 : Int) < (8 : Int))) (by kernel_rfl)) (.c (of_decide_eq_true (p := (0 ≤ (0 : Int) ∧ (0 : Int) < (8 : Int))) (by kernel_rfl)) (.c (of_decide_eq_true (p := (0 ≤ (1 : Int) ∧ (1 : Int) < (8 : Int))) (by kernel_rfl)) (.c (of_decide_eq_true (p := (0 ≤ (2 : Int) ∧ (2 : Int) < (8 : Int))) (by kernel_rfl)) (.c (of_decide_eq_true (p := (0 ≤ (3 : Int) ∧ (3 : Int) < (8 : Int))) (by kernel_rfl)) (.c (of_decide_eq_true (p := (0 ≤ (4 : Int) ∧ (4 : Int) < (8 : Int))) (by kernel_rfl)) (.c (of_decide_eq_true (p := (0 ≤ (5 : Int) ∧ (5 : Int) < (8 : Int))) (by kernel_rfl)) (.c (of_decide_eq_true (p := (0 ≤ (6 : Int) ∧ (6 : Int) < (8 : Int))) (by kernel_rfl)) .n))))))))))))))))))))))))))))))))))))))) (by kernel_rfl)
 ·injection h with h; subst h
  exact ⟨by intro e; simp [affiantref1_block_3_ex] at e, env.code (its := [b0, .sel [3, 6, 12] [0, 1, 3]]) (.c h28 .n) (by kernel_rfl)⟩
theorem affiantref1_block_3_ok (x0 : List UInt32) (x1 : Int) (x2 : List UInt32) (x3 : List UInt32) (x4 : List UInt32) (x5 : List UInt32) (o : List UInt32 × List UInt32 × List UInt32) (h : affiantref1_block_3 x0 x1 x2 x3 x4 x5 = some o) : CodeOK prog (codeAt (bodyOf f114) [1, 1, 1, 1, 1, 0, 1, 0]) (affiantref1_block_3_in x0 x1 x2 x3 x4 x5) (affiantref1_block_3_ex o) (affiantref1_block_3_st o) :=
 LoopOK.of_step (st := fun s => affiantref1_block_3_in x0 s.1 x2 x3 x4 s.2) (ex := affiantref1_block_3_ex) (stO := affiantref1_block_3_st) (fun s s2 hs => affiantref1_block_3_body x0 s.1 x2 x3 x4 s.2 (.inl s2) hs) (fun s r hs => affiantref1_block_3_body x0 s.1 x2 x3 x4 s.2 (.inr r) hs) _ o h
def affiantref1_block_4_in (x0 : Int) (x1 : List UInt32) (x2 : List UInt32) (x3 : List UInt32) : St := ⟨[(3, (.ptr 0 [])), (6, (.ptr 1 [])), (12, (.ptr 2 [])), (193, (.v (.int .i64) x0))], [.box (.arr 8 (.int .u32)) (.v (.arr 8 (.int .u32)) x1) true, .box (.arr 8 (.int .u32)) (.v (.arr 8 (.int .u32)) x2) true, .box (.arr 8 (.int .u32)) (.v (.arr 8 (.int .u32)) x3) true], 207, 0⟩
def affiantref1_block_4_ex (o : List UInt32 × List UInt32) : Exit := (.exit 6)
def affiantref1_block_4_st (o : List UInt32 × List UInt32) : St := ⟨[(3, (.ptr 0 [])), (6, (.ptr 1 []))], [.box (.arr 8 (.int .u32)) (.v (.arr 8 (.int .u32)) o.1) true, .box (.arr 8 (.int .u32)) (.v (.arr 8 (.int .u32)) o.2) true], 207, 0⟩
theorem affiantref1_block_4_body (x0 : Int) (x1 : List UInt32) (x2 : List UInt32) (x3 : List UInt32) : ∀ r, affiantref1_block_4_step x0 x1 x2 x3 = some r → (match r with | .inl s => CodeOK prog (codeAt (bodyOf f114) [1, 1, 1, 1, 1, 1, 0, 1, 0, 0]) (affiantref1_block_4_in x0 x1 x2 x3) .normal (affiantref1_block_4_in s.1 s.2 x2 x3) | .inr o => affiantref1_block_4_ex o ≠ .normal ∧ CodeOK prog (codeAt (bodyOf f114) [1, 1, 1, 1, 1, 1, 0, 1, 0, 0]) (affiantref1_block_4_in x0 x1 x2 x3) (affiantref1_block_4_ex o) (affiantref1_block_4_st o)) := by
 intro r h
 unfold affiantref1_block_4_step at h
 rcases fork_some h with ⟨h46, h⟩ | ⟨h46, h⟩
 ·obtain ⟨h47, h⟩ := need_some h
  injection h with h; subst h
  exact env.code (its := [b1, .pre p5, .sel [3, 6, 12, 193] [0, 1, 2]]) (.c h46 (.c h47 (.c h47 (.c h47 .n)))) (by kernel_rfl)
 ·injection h with h; subst h
  exact ⟨by intro e; simp [affiantref1_block_4_ex] at e, env.code (its := [b0, .sel [3, 6] [0, 1]]) (.c h46 .n) (by kernel_rfl)⟩
theorem affiantref1_block_4_ok (x0 : Int) (x1 : List UInt32) (x2 : List UInt32) (x3 : List UInt32) (o : List UInt32 × List UInt32) (h : affiantref1_block_4 x0 x1 x2 x3 = some o) : CodeOK prog (codeAt (bodyOf f114) [1, 1, 1, 1, 1, 1, 0, 1, 0]) (affiantref1_block_4_in x0 x1 x2 x3) (affiantref1_block_4_ex o) (affiantref1_block_4_st o) :=
 LoopOK.of_step (st := fun s => affiantref1_block_4_in s.1 s.2 x2 x3) (ex := affiantref1_block_4_ex) (stO := affiantref1_block_4_st) (fun s s2 hs => affiantref1_block_4_body s.1 s.2 x2 x3 (.inl s2) hs) (fun s r hs => affiantref1_block_4_body s.1 s.2 x2 x3 (.inr r) hs) _ o h
def affiantref1_block_R (a0 : List UInt32) (a1 : B8) (a2 : List UInt32) (u : List UInt32) : Slot := (.v (.arr 8 (.int .u32)) u)
def affiantref1_block_O (a0 : List UInt32) (a1 : B8) (a2 : List UInt32) (u : List UInt32) : List AObj := []
theorem affiantref1_block_ok (a0 : List UInt32) (a1 : B8) (a2 : List UInt32) (u : List UInt32) (h : affiantref1_block a0 a1 a2 = some u) : CallC prog 114 [(.v (.arr 8 (.int .u32)) a0), (.v (.slice (.int .u8)) a1), (.v (.slice (.int .u32)) a2)] [] (affiantref1_block_R a0 a1 a2 u) (affiantref1_block_O a0 a1 a2 u) := by
 unfold affiantref1_block at h
 obtain ⟨o8, h9, h⟩ := andThen_some h
 obtain ⟨o25, h26, h⟩ := andThen_some h
 obtain ⟨o43, h44, h⟩ := andThen_some h
 obtain ⟨o48, h49, h⟩ := andThen_some h
 injection h with h; subst h
 exact env.fun func114 can114 (its := [.dive, .sel [1, 2, 3, 6, 7, 20] [0, 1, 2], .part (affiantref1_block_1_ex o8) (affiantref1_block_1_st o8), .dive, .sel [2, 3, 6, 7, 9] [0, 1, 2], .part (affiantref1_block_2_ex o25) (affiantref1_block_2_st o25), .dive, .sel [2, 3, 6, 7, 12, 101] [0, 1, 2, 3], .part (affiantref1_block_3_ex o43) (affiantref1_block_3_st o43), .dive, .sel [3, 6, 12, 193] [0, 1, 2], .part (affiantref1_block_4_ex o48) (affiantref1_block_4_st o48)]) (pos := [.sel []]) (.c (affiantref1_block_1_ok a1 a2 (0 : Int) a0 (List.replicate 8 (0 : UInt32)) (List.replicate 64 (0 : UInt32)) o8 h9) (.c (affiantref1_block_2_ok o8.1 (16 : Int) o8.2.1 o8.2.2.1 o8.2.2.2 o25 h26) (.c (affiantref1_block_3_ok o25.1 (0 : Int) o25.2.1 o25.2.2.1 o25.2.2.2 o25.2.1 o43 h44) (.c (affiantref1_block_4_ok (0 : Int) o43.1 o43.2.1 o43.2.2 o48 h49) .n)))) (by kernel_rfl)
theorem can90 : Callable prog 90 := ⟨_, func90, by kernel_rfl, by kernel_rfl⟩
def affiantref1_Sum_1_in (x0 : B8) (x1 : B8) (x2 : List UInt32) (x3 : List UInt32) (x4 : B8) : St := ⟨[(0, (.v (.slice (.int .u8)) x0)), (2, (.ptr 0 [])), (3, (.own 1 [])), (4, (.ptr 2 [])), (5, (.own 3 []))], [.box (.arr 32 (.int .u8)) (.v (.arr 32 (.int .u8)) x1) true, .row (.int .u32) x2 true, .box (.arr 8 (.int .u32)) (.v (.arr 8 (.int .u32)) x3) true, .row (.int .u8) x4 true], 88, 0⟩
def affiantref1_Sum_1_ex (o : B8 × B8 × List UInt32 × List UInt32 × B8) : Exit := (.exit 0)
def affiantref1_Sum_1_st (o : B8 × B8 × List UInt32 × List UInt32 × B8) : St := ⟨[(0, (.v (.slice (.int .u8)) o.1)), (2, (.ptr 0 [])), (3, (.own 1 [])), (4, (.ptr 2 [])), (5, (.own 3 []))], [.box (.arr 32 (.int .u8)) (.v (.arr 32 (.int .u8)) o.2.1) true, .row (.int .u32) o.2.2.1 true, .box (.arr 8 (.int .u32)) (.v (.arr 8 (.int .u32)) o.2.2.2.1) true, .row (.int .u8) o.2.2.2.2 true], 88, 0⟩
theorem affiantref1_Sum_1_body (x0 : B8) (x1 : B8) (x2 : List UInt32) (x3 : List UInt32) (x4 : B8) : ∀ r, affiantref1_Sum_1_step x0 x1 x2 x3 x4 = some r → (match r with | .inl s => CodeOK prog (codeAt (bodyOf f90) [1, 1, 1, 1, 0, 0, 0]) (affiantref1_Sum_1_in x0 x1 x2 x3 x4) .normal (affiantref1_Sum_1_in x0 x1 x2 x3 s) | .inr o => affiantref1_Sum_1_ex o ≠ .normal ∧ CodeOK prog (codeAt (bodyOf f90) [1, 1, 1, 1, 0, 0, 0]) (affiantref1_Sum_1_in x0 x1 x2 x3 x4) (affiantref1_Sum_1_ex o) (affiantref1_Sum_1_st o)) := by
 intro r h
 unfold affiantref1_Sum_1_step at h
 rcases fork_some h with ⟨h6, h⟩ | ⟨h6, h⟩
 ·obtain ⟨h7, h⟩ := need_some h
  injection h with h; subst h
  exact env.code (its := [b1, .dive, .sel [0, 2, 3, 4, 5] [0, 1, 2, 5]]) (.c (of_decide_eq_true (p := ((64 : Int) ≠ 0)) (by kernel_rfl)) (.c h6 (.c h7 .n))) (by kernel_rfl)
 ·injection h with h; subst h
  exact ⟨by intro e; simp [affiantref1_Sum_1_ex] at e, env.code (its := [b0, .sel [0, 2, 3, 4, 5] [0, 1, 2, 3]]) (.c (of_decide_eq_true (p := ((64 : Int) ≠ 0)) (by kernel_rfl)) (.c h6 .n)) (by kernel_rfl)⟩
theorem affiantref1_Sum_1_ok (x0 : B8) (x1 : B8) (x2 : List UInt32) (x3 : List UInt32) (x4 : B8) (o : B8 × B8 × List UInt32 × List UInt32 × B8) (h : affiantref1_Sum_1 x0 x1 x2 x3 x4 = some o) : CodeOK prog (codeAt (bodyOf f90) [1, 1, 1, 1, 0, 0]) (affiantref1_Sum_1_in x0 x1 x2 x3 x4) (affiantref1_Sum_1_ex o) (affiantref1_Sum_1_st o) :=
 LoopOK.of_step (st := fun s => affiantref1_Sum_1_in x0 x1 x2 x3 s) (ex := affiantref1_Sum_1_ex) (stO := affiantref1_Sum_1_st) (fun s s2 hs => affiantref1_Sum_1_body x0 x1 x2 x3 s (.inl s2) hs) (fun s r hs => affiantref1_Sum_1_body x0 x1 x2 x3 s (.inr r) hs) _ o h
def affiantref1_Sum_2_in (x0 : B8) (x1 : Int) (x2 : B8) (x3 : List UInt32) (x4 : List UInt32) (x5 : B8) : St := ⟨[(0, (.v (.slice (.int .u8)) x0)), (2, (.ptr 0 [])), (3, (.own 1 [])), (4, (.ptr 2 [])), (5, (.own 3 [])), (6, (.v (.int .i64) x1))], [.box (.arr 32 (.int .u8)) (.v (.arr 32 (.int .u8)) x2) true, .row (.int .u32) x3 true, .box (.arr 8 (.int .u32)) (.v (.arr 8 (.int .u32)) x4) true, .row (.int .u8) x5 true], 88, 0⟩
def affiantref1_Sum_2_ex (o : B8 × List UInt32 × List UInt32 × B8) : Exit := (.exit 2)
def affiantref1_Sum_2_st (o : B8 × List UInt32 × List UInt32 × B8) : St := ⟨[(2, (.ptr 0 [])), (3, (.own 1 [])), (4, (.ptr 2 [])), (5, (.own 3 []))], [.box (.arr 32 (.int .u8)) (.v (.arr 32 (.int .u8)) o.1) true, .row (.int .u32) o.2.1 true, .box (.arr 8 (.int .u32)) (.v (.arr 8 (.int .u32)) o.2.2.1) true, .row (.int .u8) o.2.2.2 true], 88, 0⟩
theorem affiantref1_Sum_2_body (x0 : B8) (x1 : Int) (x2 : B8) (x3 : List UInt32) (x4 : List UInt32) (x5 : B8) : ∀ r, affiantref1_Sum_2_step x0 x1 x2 x3 x4 x5 = some r → (match r with | .inl s => CodeOK prog (codeAt (bodyOf f90) [1, 1, 1, 1, 1, 0, 1, 0, 0]) (affiantref1_Sum_2_in x0 x1 x2 x3 x4 x5) .normal (affiantref1_Sum_2_in x0 s.1 x2 x3 x4 s.2) | .inr o => affiantref1_Sum_2_ex o ≠ .normal ∧ CodeOK prog (codeAt (bodyOf f90) [1, 1, 1, 1, 1, 0, 1, 0, 0]) (affiantref1_Sum_2_in x0 x1 x2 x3 x4 x5) (affiantref1_Sum_2_ex o) (affiantref1_Sum_2_st o)) := by
 intro r h
 unfold affiantref1_Sum_2_step at h
 rcases fork_some h with ⟨h11, h⟩ | ⟨h11, h⟩
 ·obtain ⟨h12, h⟩ := need_some h
  obtain ⟨h13, h⟩ := need_some h
  injection h with h; subst h
  exact env.code (its := [b1, .dive, .sel [0, 2, 3, 4, 5, 6] [0, 1, 2, 5]]) (.c h11 (.c h12 (.c h13 .n))) (by kernel_rfl)
 ·injection h with h; subst h
  exact ⟨by intro e; simp [affiantref1_Sum_2_ex] at e, env.code (its := [b0, .sel [2, 3, 4, 5] [0, 1, 2, 3]]) (.c h11 .n) (by kernel_rfl)⟩
theorem affiantref1_Sum_2_ok (x0 : B8) (x1 : Int) (x2 : B8) (x3 : List UInt32) (x4 : List UInt32) (x5 : B8) (o : B8 × List UInt32 × List UInt32 × B8) (h : affiantref1_Sum_2 x0 x1 x2 x3 x4 x5 = some o) : CodeOK prog (codeAt (bodyOf f90) [1, 1, 1, 1, 1, 0, 1, 0]) (affiantref1_Sum_2_in x0 x1 x2 x3 x4 x5) (affiantref1_Sum_2_ex o) (affiantref1_Sum_2_st o) :=
 LoopOK.of_step (st := fun s => affiantref1_Sum_2_in x0 s.1 x2 x3 x4 s.2) (ex := affiantref1_Sum_2_ex) (stO := affiantref1_Sum_2_st) (fun s s2 hs => affiantref1_Sum_2_body x0 s.1 x2 x3 x4 s.2 (.inl s2) hs) (fun s r hs => affiantref1_Sum_2_body x0 s.1 x2 x3 x4 s.2 (.inr r) hs) _ o h
def affiantref1_Sum_3_in (x0 : B8) (x1 : Int) (x2 : B8) (x3 : List UInt32) (x4 : List UInt32) : St := ⟨[(2, (.ptr 0 [])), (3, (.own 1 [])), (4, (.ptr 2 [])), (5, (.v (.slice (.int .u8)) x0)), (7, (.v (.int .i64) x1))], [.box (.arr 32 (.int .u8)) (.v (.arr 32 (.int .u8)) x2) true, .row (.int .u32) x3 true, .box (.arr 8 (.int .u32)) (.v (.arr 8 (.int .u32)) x4) true], 88, 0⟩
def affiantref1_Sum_3_ex (o : B8 × List UInt32) : Exit := (.exit 4)
def affiantref1_Sum_3_st (o : B8 × List UInt32) : St := ⟨[(2, (.ptr 0 [])), (4, (.ptr 1 []))], [.box (.arr 32 (.int .u8)) (.v (.arr 32 (.int .u8)) o.1) true, .box (.arr 8 (.int .u32)) (.v (.arr 8 (.int .u32)) o.2) true], 88, 0⟩
theorem affiantref1_Sum_3_body (x0 : B8) (x1 : Int) (x2 : B8) (x3 : List UInt32) (x4 : List UInt32) : ∀ r, affiantref1_Sum_3_step x0 x1 x2 x3 x4 = some r → (match r with | .inl s => CodeOK prog (codeAt (bodyOf f90) [1, 1, 1, 1, 1, 1, 0, 1, 0, 0]) (affiantref1_Sum_3_in x0 x1 x2 x3 x4) .normal (affiantref1_Sum_3_in x0 s.1 x2 x3 s.2) | .inr o => affiantref1_Sum_3_ex o ≠ .normal ∧ CodeOK prog (codeAt (bodyOf f90) [1, 1, 1, 1, 1, 1, 0, 1, 0, 0]) (affiantref1_Sum_3_in x0 x1 x2 x3 x4) (affiantref1_Sum_3_ex o) (affiantref1_Sum_3_st o)) := by
 intro r h
 unfold affiantref1_Sum_3_step at h
 rcases fork_some h with ⟨h17, h⟩ | ⟨h17, h⟩
 ·obtain ⟨h18, h⟩ := need_some h
  obtain ⟨u19, h20, h⟩ := andThen_some h
  injection h with h; subst h
  exact env.code (its := [b1, .pre p6, b0, .asis, .call [none, none, none] [] [0] true (affiantref1_block_R x4 (cutL x0 x1 (w64 (x1 + (64 : Int)))) x3 u19) (affiantref1_block_O x4 (cutL x0 x1 (w64 (x1 + (64 : Int)))) x3 u19), .sel [2, 3, 4, 5, 7] [0, 1, 2]]) (.c h17 (.c h18 (.c (rfl : ([.row (.int .u32) x3 true] : List AObj) = [.row (.int .u32) x3 true]) (.c (affiantref1_block_ok x4 (cutL x0 x1 (w64 (x1 + (64 : Int)))) x3 u19 h20) .n)))) (by kernel_rfl)
 ·injection h with h; subst h
  exact ⟨by intro e; simp [affiantref1_Sum_3_ex] at e, env.code (its := [b0, .sel [2, 4] [0, 2]]) (.c h17 .n) (by kernel_rfl)⟩
theorem affiantref1_Sum_3_ok (x0 : B8) (x1 : Int) (x2 : B8) (x3 : List UInt32) (x4 : List UInt32) (o : B8 × List UInt32) (h : affiantref1_Sum_3 x0 x1 x2 x3 x4 = some o) : CodeOK prog (codeAt (bodyOf f90) [1, 1, 1, 1, 1, 1, 0, 1, 0]) (affiantref1_Sum_3_in x0 x1 x2 x3 x4) (affiantref1_Sum_3_ex o) (affiantref1_Sum_3_st o) :=
 LoopOK.of_step (st := fun s => affiantref1_Sum_3_in x0 s.1 x2 x3 s.2) (ex := affiantref1_Sum_3_ex) (stO := affiantref1_Sum_3_st) (fun s s2 hs => affiantref1_Sum_3_body x0 s.1 x2 x3 s.2 (.inl s2) hs) (fun s r hs => affiantref1_Sum_3_body x0 s.1 x2 x3 s.2 (.inr r) hs) _ o h
def affiantref1_Sum_4_in (x0 : List UInt32) (x1 : Int) (x2 : B8) (x3 : B8) : St := ⟨[(2, (.ptr 0 [])), (8, (.ptr 1 [])), (55, (.v (.arr 8 (.int .u32)) x0)), (56, (.v (.int .i64) x1))], [.box (.arr 32 (.int .u8)) (.v (.arr 32 (.int .u8)) x2) true, .box (.arr 32 (.int .u8)) (.v (.arr 32 (.int .u8)) x3) true], 88, 0⟩
def affiantref1_Sum_4_ex (o : B8 × B8) : Exit := (.exit 6)
def affiantref1_Sum_4_st (o : B8 × B8) : St := ⟨[(2, (.ptr 0 [])), (8, (.ptr 1 []))], [.box (.arr 32 (.int .u8)) (.v (.arr 32 (.int .u8)) o.1) true, .box (.arr 32 (.int .u8)) (.v (.arr 32 (.int .u8)) o.2) true], 88, 0⟩
theorem affiantref1_Sum_4_body (x0 : List UInt32) (x1 : Int) (x2 : B8) (x3 : B8) : ∀ r, affiantref1_Sum_4_step x0 x1 x2 x3 = some r → (match r with | .inl s => CodeOK prog (codeAt (bodyOf f90) [1, 1, 1, 1, 1, 1, 1, 1, 0, 1, 0, 0]) (affiantref1_Sum_4_in x0 x1 x2 x3) .normal (affiantref1_Sum_4_in x0 s.1 x2 s.2) | .inr o => affiantref1_Sum_4_ex o ≠ .normal ∧ CodeOK prog (codeAt (bodyOf f90) [1, 1, 1, 1, 1, 1, 1, 1, 0, 1, 0, 0]) (affiantref1_Sum_4_in x0 x1 x2 x3) (affiantref1_Sum_4_ex o) (affiantref1_Sum_4_st o)) := by
 intro r h
 unfold affiantref1_Sum_4_step at h
 rcases fork_some h with ⟨h24, h⟩ | ⟨h24, h⟩
 ·obtain ⟨h25, h⟩ := need_some h
  obtain ⟨h26, h⟩ := need_some h
  obtain ⟨h27, h⟩ := need_some h
  obtain ⟨h28, h⟩ := need_some h
  obtain ⟨h29, h⟩ := need_some h
  injection h with h; subst h
  exact env.code (its := [b1, .dive, .sel [2, 8, 55, 56] [0, 1]]) (.c h24 (.c h25 (.c (of_decide_eq_true (p := (0 ≤ (24 : Int))) (by kernel_rfl)) (.c (of_decide_eq_true (p := (0 ≤ (16 : Int))) (by kernel_rfl)) (.c (of_decide_eq_true (p := (0 ≤ (8 : Int))) (by kernel_rfl)) (.c h26 (.c h27 (.c h28 (.c h29 .n))))))))) (by kernel_rfl)
 ·injection h with h; subst h
  exact ⟨by intro e; simp [affiantref1_Sum_4_ex] at e, env.code (its := [b0, .sel [2, 8] [0, 1]]) (.c h24 .n) (by kernel_rfl)⟩
theorem affiantref1_Sum_4_ok (x0 : List UInt32) (x1 : Int) (x2 : B8) (x3 : B8) (o : B8 × B8) (h : affiantref1_Sum_4 x0 x1 x2 x3 = some o) : CodeOK prog (codeAt (bodyOf f90) [1, 1, 1, 1, 1, 1, 1, 1, 0, 1, 0]) (affiantref1_Sum_4_in x0 x1 x2 x3) (affiantref1_Sum_4_ex o) (affiantref1_Sum_4_st o) :=
 LoopOK.of_step (st := fun s => affiantref1_Sum_4_in x0 s.1 x2 s.2) (ex := affiantref1_Sum_4_ex) (stO := affiantref1_Sum_4_st) (fun s s2 hs => affiantref1_Sum_4_body x0 s.1 x2 s.2 (.inl s2) hs) (fun s r hs => affiantref1_Sum_4_body x0 s.1 x2 s.2 (.inr r) hs) _ o h
def affiantref1_Sum_R (a0 : B8) (u : B8) : Slot := (.v (.arr 32 (.int .u8)) u)
def affiantref1_Sum_O (a0 : B8) (u : B8) : List AObj := []
theorem affiantref1_Sum_ok (a0 : B8) (u : B8) (h : affiantref1_Sum a0 = some u) : CallC prog 90 [(.v (.slice (.int .u8)) a0)] [] (affiantref1_Sum_R a0 u) (affiantref1_Sum_O a0 u) := by
 unfold affiantref1_Sum at h
 obtain ⟨u1, h2, h⟩ := andThen_some h
 obtain ⟨h3, h⟩ := need_some h
 obtain ⟨h4, h⟩ := need_some h
 obtain ⟨o8, h9, h⟩ := andThen_some h
 obtain ⟨o14, h15, h⟩ := andThen_some h
 obtain ⟨o21, h22, h⟩ := andThen_some h
 obtain ⟨o30, h31, h⟩ := andThen_some h
 injection h with h; subst h
 exact env.fun func90 can90 (its := [.call [] [] [] true (affiantref1_constants_R u1) (affiantref1_constants_O u1), .dive, .sel [0, 2, 3, 4, 5] [0, 1, 2, 6], .part (affiantref1_Sum_1_ex o8) (affiantref1_Sum_1_st o8), .dive, .sel [0, 2, 3, 4, 5, 6] [0, 1, 2, 3], .part (affiantref1_Sum_2_ex o14) (affiantref1_Sum_2_st o14), .dive, .val 5 (.slice (.int .u8)), .sel [2, 3, 4, 5, 7] [0, 1, 2], .part (affiantref1_Sum_3_ex o21) (affiantref1_Sum_3_st o21), .dive, .sel [2, 8, 55, 56] [0, 2], .part (affiantref1_Sum_4_ex o30) (affiantref1_Sum_4_st o30)]) (pos := [.sel []]) (.c (affiantref1_constants_ok u1 h2) (.c h3 (.c h4 (.c (affiantref1_Sum_1_ok a0 Z32 u1 (List.set (List.set (List.set (List.set (List.set (List.set (List.set (List.set (List.replicate 8 (0 : UInt32)) 0 (1779033703 : UInt32)) 1 (3144134277 : UInt32)) 2 (1013904242 : UInt32)) 3 (2773480762 : UInt32)) 4 (1359893119 : UInt32)) 5 (2600822924 : UInt32)) 6 (528734635 : UInt32)) 7 (1541459225 : UInt32)) ((([] : List (UInt8)) ++ a0) ++ ([(128 : UInt8)] : List (UInt8))) o8 h9) (.c (affiantref1_Sum_2_ok o8.1 (7 : Int) o8.2.1 o8.2.2.1 o8.2.2.2.1 o8.2.2.2.2 o14 h15) (.c (affiantref1_Sum_3_ok o14.2.2.2 (0 : Int) o14.1 o14.2.1 o14.2.2.1 o21 h22) (.c (affiantref1_Sum_4_ok o21.2 (0 : Int) o21.1 Z32 o30 h31) .n))))))) (by kernel_rfl)
theorem can60 : Callable prog 60 := ⟨_, func60, by kernel_rfl, by kernel_rfl⟩
def affiantref1_Tagged_1_in (x0 : List (B8)) (x1 : Int) (x2 : Int) (x3 : B8) (x4 : B8) : St := ⟨[(4, (.ptr 0 [])), (5, (.own 1 [])), (10, (.v (.slice (.slice (.int .u8))) x0)), (11, (.v (.int .i64) x1)), (12, (.v (.int .i64) x2))], [.box (.arr 32 (.int .u8)) (.v (.arr 32 (.int .u8)) x3) true, .row (.int .u8) x4 true], 22, 0⟩
def affiantref1_Tagged_1_ex (o : B8 × B8) : Exit := (.exit 0)
def affiantref1_Tagged_1_st (o : B8 × B8) : St := ⟨[(4, (.ptr 0 [])), (5, (.own 1 []))], [.box (.arr 32 (.int .u8)) (.v (.arr 32 (.int .u8)) o.1) true, .row (.int .u8) o.2 true], 22, 0⟩
theorem affiantref1_Tagged_1_body (x0 : List (B8)) (x1 : Int) (x2 : Int) (x3 : B8) (x4 : B8) : ∀ r, affiantref1_Tagged_1_step x0 x1 x2 x3 x4 = some r → (match r with | .inl s => CodeOK prog (codeAt (bodyOf f60) [1, 1, 0, 1, 0, 0]) (affiantref1_Tagged_1_in x0 x1 x2 x3 x4) .normal (affiantref1_Tagged_1_in x0 x1 s.1 x3 s.2) | .inr o => affiantref1_Tagged_1_ex o ≠ .normal ∧ CodeOK prog (codeAt (bodyOf f60) [1, 1, 0, 1, 0, 0]) (affiantref1_Tagged_1_in x0 x1 x2 x3 x4) (affiantref1_Tagged_1_ex o) (affiantref1_Tagged_1_st o)) := by
 intro r h
 unfold affiantref1_Tagged_1_step at h
 rcases fork_some h with ⟨h2, h⟩ | ⟨h2, h⟩
 ·obtain ⟨h3, h⟩ := need_some h
  obtain ⟨h4, h⟩ := need_some h
  injection h with h; subst h
  exact env.code (its := [b1, .dive, .sel [4, 5, 10, 11, 12] [0, 2]]) (.c h2 (.c h3 (.c h4 .n))) (by kernel_rfl)
 ·injection h with h; subst h
  exact ⟨by intro e; simp [affiantref1_Tagged_1_ex] at e, env.code (its := [b0, .sel [4, 5] [0, 1]]) (.c h2 .n) (by kernel_rfl)⟩
theorem affiantref1_Tagged_1_ok (x0 : List (B8)) (x1 : Int) (x2 : Int) (x3 : B8) (x4 : B8) (o : B8 × B8) (h : affiantref1_Tagged_1 x0 x1 x2 x3 x4 = some o) : CodeOK prog (codeAt (bodyOf f60) [1, 1, 0, 1, 0]) (affiantref1_Tagged_1_in x0 x1 x2 x3 x4) (affiantref1_Tagged_1_ex o) (affiantref1_Tagged_1_st o) :=
 LoopOK.of_step (st := fun s => affiantref1_Tagged_1_in x0 x1 s.1 x3 s.2) (ex := affiantref1_Tagged_1_ex) (stO := affiantref1_Tagged_1_st) (fun s s2 hs => affiantref1_Tagged_1_body x0 x1 s.1 x3 s.2 (.inl s2) hs) (fun s r hs => affiantref1_Tagged_1_body x0 x1 s.1 x3 s.2 (.inr r) hs) _ o h
def affiantref1_Tagged_R (a0 : UInt8) (a1 : List (B8)) (u : B8) : Slot := (.v (.arr 32 (.int .u8)) u)
def affiantref1_Tagged_O (a0 : UInt8) (a1 : List (B8)) (u : B8) : List AObj := []
theorem affiantref1_Tagged_ok (a0 : UInt8) (a1 : List (B8)) (u : B8) (h : affiantref1_Tagged a0 a1 = some u) : CallC prog 60 [(.v (.int .u8) a0), (.v (.slice (.slice (.int .u8))) a1)] [] (affiantref1_Tagged_R a0 a1 u) (affiantref1_Tagged_O a0 a1 u) := by
 unfold affiantref1_Tagged at h
 obtain ⟨o5, h6, h⟩ := andThen_some h
 obtain ⟨u7, h8, h⟩ := andThen_some h
 injection h with h; subst h
 exact env.fun func60 can60 (its := [.dive, .sel [4, 5, 10, 11, 12] [0, 1], .part (affiantref1_Tagged_1_ex o5) (affiantref1_Tagged_1_st o5), .call [none] [] [1] true (affiantref1_Sum_R o5.2 u7) (affiantref1_Sum_O o5.2 u7)]) (pos := [.sel []]) (.c (affiantref1_Tagged_1_ok a1 (List.length a1 : Int) (0 : Int) Z32 ([a0] : List (UInt8)) o5 h6) (.c (affiantref1_Sum_ok o5.2 u7 h8) .n)) (by kernel_rfl)
theorem can82 : Callable prog 82 := ⟨_, func82, by kernel_rfl, by kernel_rfl⟩
def affiantref1_seedOf_R (a0 : B8) (a1 : Int) (u : B8) : Slot := (.v (.arr 32 (.int .u8)) u)
def affiantref1_seedOf_O (a0 : B8) (a1 : Int) (u : B8) : List AObj := []
theorem affiantref1_seedOf_ok (a0 : B8) (a1 : Int) (u : B8) (h : affiantref1_seedOf a0 a1 = some u) : CallC prog 82 [(.v (.arr 32 (.int .u8)) a0), (.v (.int .i64) a1)] [] (affiantref1_seedOf_R a0 a1 u) (affiantref1_seedOf_O a0 a1 u) := by
 unfold affiantref1_seedOf at h
 obtain ⟨u1, h2, h⟩ := andThen_some h
 injection h with h; subst h
 exact env.fun func82 can82 (its := [b1, .call [none, none] [] [3] true (affiantref1_Tagged_R (114 : UInt8) ([a0, ([(UInt8.ofNat (Int.toNat (a1 % 256)))] : List (UInt8))] : List (B8)) u1) (affiantref1_Tagged_O (114 : UInt8) ([a0, ([(UInt8.ofNat (Int.toNat (a1 % 256)))] : List (UInt8))] : List (B8)) u1)]) (pos := [.sel []]) (.c (affiantref1_Tagged_ok (114 : UInt8) ([a0, ([(UInt8.ofNat (Int.toNat (a1 % 256)))] : List (UInt8))] : List (B8)) u1 h2) .n) (by kernel_rfl)
theorem can109 : Callable prog 109 := ⟨_, func109, by kernel_rfl, by kernel_rfl⟩
def affiantref1_secret_R (a0 : B8) (a1 : Int) (a2 : Int) (u : B8) : Slot := (.v (.arr 32 (.int .u8)) u)
def affiantref1_secret_O (a0 : B8) (a1 : Int) (a2 : Int) (u : B8) : List AObj := []
theorem affiantref1_secret_ok (a0 : B8) (a1 : Int) (a2 : Int) (u : B8) (h : affiantref1_secret a0 a1 a2 = some u) : CallC prog 109 [(.v (.arr 32 (.int .u8)) a0), (.v (.int .i64) a1), (.v (.int .i64) a2)] [] (affiantref1_secret_R a0 a1 a2 u) (affiantref1_secret_O a0 a1 a2 u) := by
 unfold affiantref1_secret at h
 obtain ⟨u1, h2, h⟩ := andThen_some h
 injection h with h; subst h
 exact env.fun func109 can109 (its := [b1, .call [none, none] [] [3] true (affiantref1_Tagged_R (115 : UInt8) ([a0, ([(UInt8.ofNat (Int.toNat (a1 % 256))), (UInt8.ofNat (Int.toNat (a2 % 256)))] : List (UInt8))] : List (B8)) u1) (affiantref1_Tagged_O (115 : UInt8) ([a0, ([(UInt8.ofNat (Int.toNat (a1 % 256))), (UInt8.ofNat (Int.toNat (a2 % 256)))] : List (UInt8))] : List (B8)) u1)]) (pos := [.sel []]) (.c (affiantref1_Tagged_ok (115 : UInt8) ([a0, ([(UInt8.ofNat (Int.toNat (a1 % 256))), (UInt8.ofNat (Int.toNat (a2 % 256)))] : List (UInt8))] : List (B8)) u1 h2) .n) (by kernel_rfl)
theorem can91 : Callable prog 91 := ⟨_, func91, by kernel_rfl, by kernel_rfl⟩
def affiantref1_public_R (a0 : B8) (u : B8) : Slot := (.v (.arr 32 (.int .u8)) u)
def affiantref1_public_O (a0 : B8) (u : B8) : List AObj := []
theorem affiantref1_public_ok (a0 : B8) (u : B8) (h : affiantref1_public a0 = some u) : CallC prog 91 [(.v (.arr 32 (.int .u8)) a0)] [] (affiantref1_public_R a0 u) (affiantref1_public_O a0 u) := by
 unfold affiantref1_public at h
 obtain ⟨u1, h2, h⟩ := andThen_some h
 injection h with h; subst h
 exact env.fun func91 can91 (its := [b1, .call [none, none] [] [2] true (affiantref1_Tagged_R (112 : UInt8) ([a0] : List (B8)) u1) (affiantref1_Tagged_O (112 : UInt8) ([a0] : List (B8)) u1)]) (pos := [.sel []]) (.c (affiantref1_Tagged_ok (112 : UInt8) ([a0] : List (B8)) u1 h2) .n) (by kernel_rfl)
theorem can93 : Callable prog 93 := ⟨_, func93, by kernel_rfl, by kernel_rfl⟩
def affiantref1_key_1_in (x0 : List (B8)) (x1 : Int) (x2 : Int) (x3 : B8) (x4 : B8) : St := ⟨[(2, (.ptr 0 [])), (3, (.own 1 [])), (6, (.v (.slice (.arr 32 (.int .u8))) x0)), (7, (.v (.int .i64) x1)), (8, (.v (.int .i64) x2))], [.box (.arr 32 (.int .u8)) (.v (.arr 32 (.int .u8)) x3) true, .row (.int .u8) x4 true], 19, 0⟩
def affiantref1_key_1_ex (o : B8 × B8) : Exit := (.exit 0)
def affiantref1_key_1_st (o : B8 × B8) : St := ⟨[(2, (.ptr 0 [])), (3, (.own 1 []))], [.box (.arr 32 (.int .u8)) (.v (.arr 32 (.int .u8)) o.1) true, .row (.int .u8) o.2 true], 19, 0⟩
theorem affiantref1_key_1_body (x0 : List (B8)) (x1 : Int) (x2 : Int) (x3 : B8) (x4 : B8) : ∀ r, affiantref1_key_1_step x0 x1 x2 x3 x4 = some r → (match r with | .inl s => CodeOK prog (codeAt (bodyOf f93) [1, 1, 0, 1, 0, 0]) (affiantref1_key_1_in x0 x1 x2 x3 x4) .normal (affiantref1_key_1_in x0 x1 s.1 x3 s.2) | .inr o => affiantref1_key_1_ex o ≠ .normal ∧ CodeOK prog (codeAt (bodyOf f93) [1, 1, 0, 1, 0, 0]) (affiantref1_key_1_in x0 x1 x2 x3 x4) (affiantref1_key_1_ex o) (affiantref1_key_1_st o)) := by
 intro r h
 unfold affiantref1_key_1_step at h
 rcases fork_some h with ⟨h2, h⟩ | ⟨h2, h⟩
 ·obtain ⟨h3, h⟩ := need_some h
  obtain ⟨h4, h⟩ := need_some h
  injection h with h; subst h
  exact env.code (its := [b1, b1, .sel [2, 3, 6, 7, 8] [0, 3]]) (.c h2 (.c h3 (.c h4 .n))) (by kernel_rfl)
 ·injection h with h; subst h
  exact ⟨by intro e; simp [affiantref1_key_1_ex] at e, env.code (its := [b0, .sel [2, 3] [0, 1]]) (.c h2 .n) (by kernel_rfl)⟩
theorem affiantref1_key_1_ok (x0 : List (B8)) (x1 : Int) (x2 : Int) (x3 : B8) (x4 : B8) (o : B8 × B8) (h : affiantref1_key_1 x0 x1 x2 x3 x4 = some o) : CodeOK prog (codeAt (bodyOf f93) [1, 1, 0, 1, 0]) (affiantref1_key_1_in x0 x1 x2 x3 x4) (affiantref1_key_1_ex o) (affiantref1_key_1_st o) :=
 LoopOK.of_step (st := fun s => affiantref1_key_1_in x0 x1 s.1 x3 s.2) (ex := affiantref1_key_1_ex) (stO := affiantref1_key_1_st) (fun s s2 hs => affiantref1_key_1_body x0 x1 s.1 x3 s.2 (.inl s2) hs) (fun s r hs => affiantref1_key_1_body x0 x1 s.1 x3 s.2 (.inr r) hs) _ o h
def affiantref1_key_R (a0 : List (B8)) (u : B8) : Slot := (.v (.arr 32 (.int .u8)) u)
def affiantref1_key_O (a0 : List (B8)) (u : B8) : List AObj := []
theorem affiantref1_key_ok (a0 : List (B8)) (u : B8) (h : affiantref1_key a0 = some u) : CallC prog 93 [(.v (.slice (.arr 32 (.int .u8))) a0)] [] (affiantref1_key_R a0 u) (affiantref1_key_O a0 u) := by
 unfold affiantref1_key at h
 obtain ⟨o5, h6, h⟩ := andThen_some h
 obtain ⟨u7, h8, h⟩ := andThen_some h
 injection h with h; subst h
 exact env.fun func93 can93 (its := [.dive, .promote 3 (.int .u8), .sel [2, 3, 6, 7, 8] [0, 1], .part (affiantref1_key_1_ex o5) (affiantref1_key_1_st o5), .call [none, none] [] [2] true (affiantref1_Tagged_R (107 : UInt8) ([o5.2] : List (B8)) u7) (affiantref1_Tagged_O (107 : UInt8) ([o5.2] : List (B8)) u7)]) (pos := [.sel []]) (.c (affiantref1_key_1_ok a0 (List.length a0 : Int) (0 : Int) Z32 ([] : List (UInt8)) o5 h6) (.c (affiantref1_Tagged_ok (107 : UInt8) ([o5.2] : List (B8)) u7 h8) .n)) (by kernel_rfl)
theorem can107 : Callable prog 107 := ⟨_, func107, by kernel_rfl, by kernel_rfl⟩
def affiantref1_Key_1_in (x0 : Int) (x1 : B8) (x2 : B8) (x3 : List (B8)) : St := ⟨[(1, (.ptr 0 [])), (2, (.ptr 1 [])), (3, (.own 2 [])), (5, (.v (.int .i64) x0))], [.box (.arr 32 (.int .u8)) (.v (.arr 32 (.int .u8)) x1) true, .box (.arr 32 (.int .u8)) (.v (.arr 32 (.int .u8)) x2) true, .row (.arr 32 (.int .u8)) x3 true], 22, 0⟩
def affiantref1_Key_1_ex (o : B8 × List (B8)) : Exit := (.exit 0)
def affiantref1_Key_1_st (o : B8 × List (B8)) : St := ⟨[(2, (.ptr 0 [])), (3, (.own 1 []))], [.box (.arr 32 (.int .u8)) (.v (.arr 32 (.int .u8)) o.1) true, .row (.arr 32 (.int .u8)) o.2 true], 22, 0⟩
theorem affiantref1_Key_1_body (x0 : Int) (x1 : B8) (x2 : B8) (x3 : List (B8)) : ∀ r, affiantref1_Key_1_step x0 x1 x2 x3 = some r → (match r with | .inl s => CodeOK prog (codeAt (bodyOf f107) [1, 1, 0, 1, 0, 0]) (affiantref1_Key_1_in x0 x1 x2 x3) .normal (affiantref1_Key_1_in s.1 x1 x2 s.2) | .inr o => affiantref1_Key_1_ex o ≠ .normal ∧ CodeOK prog (codeAt (bodyOf f107) [1, 1, 0, 1, 0, 0]) (affiantref1_Key_1_in x0 x1 x2 x3) (affiantref1_Key_1_ex o) (affiantref1_Key_1_st o)) := by
 intro r h
 unfold affiantref1_Key_1_step at h
 rcases fork_some h with ⟨h2, h⟩ | ⟨h2, h⟩
 ·obtain ⟨u3, h4, h⟩ := andThen_some h
  obtain ⟨u5, h6, h⟩ := andThen_some h
  obtain ⟨u7, h8, h⟩ := andThen_some h
  obtain ⟨u9, h10, h⟩ := andThen_some h
  obtain ⟨h11, h⟩ := need_some h
  injection h with h; subst h
  exact env.code (its := [b1, .pre p7, .asis, .call [none, none, none] [] [] true (affiantref1_secret_R x1 x0 (0 : Int) u3) (affiantref1_secret_O x1 x0 (0 : Int) u3), .asis, .call [none] [] [] true (affiantref1_public_R u3 u5) (affiantref1_public_O u3 u5), .asis, .call [none, none, none] [] [] true (affiantref1_secret_R x1 x0 (1 : Int) u7) (affiantref1_secret_O x1 x0 (1 : Int) u7), .asis, .call [none] [] [] true (affiantref1_public_R u7 u9) (affiantref1_public_O u7 u9), .sel [1, 2, 3, 5] [0, 1, 4]]) (.c h2 (.c rn (.c (affiantref1_secret_ok x1 x0 (0 : Int) u3 h4) (.c rn (.c (affiantref1_public_ok u3 u5 h6) (.c rn (.c (affiantref1_secret_ok x1 x0 (1 : Int) u7 h8) (.c rn (.c (affiantref1_public_ok u7 u9 h10) (.c h11 .n)))))))))) (by kernel_rfl)
 ·injection h with h; subst h
  exact ⟨by intro e; simp [affiantref1_Key_1_ex] at e, env.code (its := [b0, .sel [2, 3] [1, 2]]) (.c h2 .n) (by kernel_rfl)⟩
theorem affiantref1_Key_1_ok (x0 : Int) (x1 : B8) (x2 : B8) (x3 : List (B8)) (o : B8 × List (B8)) (h : affiantref1_Key_1 x0 x1 x2 x3 = some o) : CodeOK prog (codeAt (bodyOf f107) [1, 1, 0, 1, 0]) (affiantref1_Key_1_in x0 x1 x2 x3) (affiantref1_Key_1_ex o) (affiantref1_Key_1_st o) :=
 LoopOK.of_step (st := fun s => affiantref1_Key_1_in s.1 x1 x2 s.2) (ex := affiantref1_Key_1_ex) (stO := affiantref1_Key_1_st) (fun s s2 hs => affiantref1_Key_1_body s.1 x1 x2 s.2 (.inl s2) hs) (fun s r hs => affiantref1_Key_1_body s.1 x1 x2 s.2 (.inr r) hs) _ o h
def affiantref1_Key_R (a0 : B8) (u : B8) : Slot := (.v (.arr 32 (.int .u8)) u)
def affiantref1_Key_O (a0 : B8) (u : B8) : List AObj := []
theorem affiantref1_Key_ok (a0 : B8) (u : B8) (h : affiantref1_Key a0 = some u) : CallC prog 107 [(.v (.arr 32 (.int .u8)) a0)] [] (affiantref1_Key_R a0 u) (affiantref1_Key_O a0 u) := by
 unfold affiantref1_Key at h
 obtain ⟨o12, h13, h⟩ := andThen_some h
 obtain ⟨u14, h15, h⟩ := andThen_some h
 injection h with h; subst h
 exact env.fun func107 can107 (its := [.dive, .promote 3 (.arr 32 (.int .u8)), .sel [1, 2, 3, 5] [0, 1, 2], .part (affiantref1_Key_1_ex o12) (affiantref1_Key_1_st o12), .call [none] [] [1] true (affiantref1_key_R o12.2 u14) (affiantref1_key_O o12.2 u14)]) (pos := [.sel []]) (.c (affiantref1_Key_1_ok (0 : Int) a0 Z32 ([] : List (B8)) o12 h13) (.c (affiantref1_key_ok o12.2 u14 h15) .n)) (by kernel_rfl)
theorem can75 : Callable prog 75 := ⟨_, func75, by kernel_rfl, by kernel_rfl⟩
def affiantref1_Keys_1_in (x0 : Int) (x1 : B8) (x2 : List (B8)) : St := ⟨[(1, (.ptr 0 [])), (3, (.own 1 [])), (4, (.v (.int .i64) x0))], [.box (.arr 32 (.int .u8)) (.v (.arr 32 (.int .u8)) x1) true, .row (.slice (.int .u8)) x2 true], 19, 0⟩
def affiantref1_Keys_1_ex (o : List (B8)) : Exit := (.exit 0)
def affiantref1_Keys_1_st (o : List (B8)) : St := ⟨[(3, (.own 0 []))], [.row (.slice (.int .u8)) o true], 19, 0⟩
theorem affiantref1_Keys_1_body (x0 : Int) (x1 : B8) (x2 : List (B8)) : ∀ r, affiantref1_Keys_1_step x0 x1 x2 = some r → (match r with | .inl s => CodeOK prog (codeAt (bodyOf f75) [1, 1, 0, 1, 0, 0]) (affiantref1_Keys_1_in x0 x1 x2) .normal (affiantref1_Keys_1_in s.1 x1 s.2) | .inr o => affiantref1_Keys_1_ex o ≠ .normal ∧ CodeOK prog (codeAt (bodyOf f75) [1, 1, 0, 1, 0, 0]) (affiantref1_Keys_1_in x0 x1 x2) (affiantref1_Keys_1_ex o) (affiantref1_Keys_1_st o)) := by
 intro r h
 unfold affiantref1_Keys_1_step at h
 rcases fork_some h with ⟨h2, h⟩ | ⟨h2, h⟩
 ·obtain ⟨u3, h4, h⟩ := andThen_some h
  obtain ⟨u5, h6, h⟩ := andThen_some h
  obtain ⟨h7, h⟩ := need_some h
  injection h with h; subst h
  exact env.code (its := [b1, .call [none, none] [] [] true (affiantref1_seedOf_R x1 x0 u3) (affiantref1_seedOf_O x1 x0 u3), .call [none] [] [] true (affiantref1_Key_R u3 u5) (affiantref1_Key_O u3 u5), b1, .sel [1, 3, 4] [0, 4]]) (.c h2 (.c (affiantref1_seedOf_ok x1 x0 u3 h4) (.c (affiantref1_Key_ok u3 u5 h6) (.c h7 .n)))) (by kernel_rfl)
 ·injection h with h; subst h
  exact ⟨by intro e; simp [affiantref1_Keys_1_ex] at e, env.code (its := [b0, .sel [3] [1]]) (.c h2 .n) (by kernel_rfl)⟩
theorem affiantref1_Keys_1_ok (x0 : Int) (x1 : B8) (x2 : List (B8)) (o : List (B8)) (h : affiantref1_Keys_1 x0 x1 x2 = some o) : CodeOK prog (codeAt (bodyOf f75) [1, 1, 0, 1, 0]) (affiantref1_Keys_1_in x0 x1 x2) (affiantref1_Keys_1_ex o) (affiantref1_Keys_1_st o) :=
 LoopOK.of_step (st := fun s => affiantref1_Keys_1_in s.1 x1 s.2) (ex := affiantref1_Keys_1_ex) (stO := affiantref1_Keys_1_st) (fun s s2 hs => affiantref1_Keys_1_body s.1 x1 s.2 (.inl s2) hs) (fun s r hs => affiantref1_Keys_1_body s.1 x1 s.2 (.inr r) hs) _ o h
def affiantref1_Keys_R (a0 : B8) (u : List (B8)) : Slot := (.own 0 [])
def affiantref1_Keys_O (a0 : B8) (u : List (B8)) : List AObj := [.row (.slice (.int .u8)) u true]
theorem affiantref1_Keys_ok (a0 : B8) (u : List (B8)) (h : affiantref1_Keys a0 = some u) : CallC prog 75 [(.v (.arr 32 (.int .u8)) a0)] [] (affiantref1_Keys_R a0 u) (affiantref1_Keys_O a0 u) := by
 unfold affiantref1_Keys at h
 obtain ⟨o8, h9, h⟩ := andThen_some h
 injection h with h; subst h
 exact env.fun func75 can75 (its := [.dive, .promote 3 (.slice (.int .u8)), .sel [1, 3, 4] [0, 1], .part (affiantref1_Keys_1_ex o8) (affiantref1_Keys_1_st o8)]) (pos := [.sel [0]]) (.c (affiantref1_Keys_1_ok (1 : Int) a0 ([] : List (B8)) o8 h9) .n) (by kernel_rfl)
theorem can76 : Callable prog 76 := ⟨_, func76, by kernel_rfl, by kernel_rfl⟩
def affiantref1_half_1_in (x0 : Int) (x1 : Int) : St := ⟨[(0, (.v (.int .i64) x0)), (3, (.v (.int .i64) x1))], [], 11, 0⟩
def affiantref1_half_1_ex (o : Int) : Exit := (.exit 0)
def affiantref1_half_1_st (o : Int) : St := ⟨[(3, (.v (.int .i64) o))], [], 11, 0⟩
theorem affiantref1_half_1_body (x0 : Int) (x1 : Int) : ∀ r, affiantref1_half_1_step x0 x1 = some r → (match r with | .inl s => CodeOK prog (codeAt (bodyOf f76) [1, 1, 0, 0, 0]) (affiantref1_half_1_in x0 x1) .normal (affiantref1_half_1_in x0 s) | .inr o => affiantref1_half_1_ex o ≠ .normal ∧ CodeOK prog (codeAt (bodyOf f76) [1, 1, 0, 0, 0]) (affiantref1_half_1_in x0 x1) (affiantref1_half_1_ex o) (affiantref1_half_1_st o)) := by
 intro r h
 unfold affiantref1_half_1_step at h
 rcases fork_some h with ⟨h2, h⟩ | ⟨h2, h⟩
 ·injection h with h; subst h
  exact env.code (its := [b1, .dive, .sel [0, 3] []]) (.c h2 .n) (by kernel_rfl)
 ·injection h with h; subst h
  exact ⟨by intro e; simp [affiantref1_half_1_ex] at e, env.code (its := [b0, .sel [3] []]) (.c h2 .n) (by kernel_rfl)⟩
theorem affiantref1_half_1_ok (x0 : Int) (x1 : Int) (o : Int) (h : affiantref1_half_1 x0 x1 = some o) : CodeOK prog (codeAt (bodyOf f76) [1, 1, 0, 0]) (affiantref1_half_1_in x0 x1) (affiantref1_half_1_ex o) (affiantref1_half_1_st o) :=
 LoopOK.of_step (st := fun s => affiantref1_half_1_in x0 s) (ex := affiantref1_half_1_ex) (stO := affiantref1_half_1_st) (fun s s2 hs => affiantref1_half_1_body x0 s (.inl s2) hs) (fun s r hs => affiantref1_half_1_body x0 s (.inr r) hs) _ o h
def affiantref1_half_R (a0 : Int) (u : Int) : Slot := (.v (.int .i64) u)
def affiantref1_half_O (a0 : Int) (u : Int) : List AObj := []
theorem affiantref1_half_ok (a0 : Int) (u : Int) (h : affiantref1_half a0 = some u) : CallC prog 76 [(.v (.int .i64) a0)] [] (affiantref1_half_R a0 u) (affiantref1_half_O a0 u) := by
 unfold affiantref1_half at h
 obtain ⟨o3, h4, h⟩ := andThen_some h
 injection h with h; subst h
 exact env.fun func76 can76 (its := [.dive, .sel [0, 3] [], .part (affiantref1_half_1_ex o3) (affiantref1_half_1_st o3)]) (pos := [.sel []]) (.c (affiantref1_half_1_ok a0 (1 : Int) o3 h4) .n) (by kernel_rfl)
theorem can48 : Callable prog 48 := ⟨_, func48, by kernel_rfl, by kernel_rfl⟩
def affiantref1_Root_R (a0 : List (B8)) (u : B8) : Slot := (.v (.arr 32 (.int .u8)) u)
def affiantref1_Root_O (a0 : List (B8)) (u : B8) : List AObj := []
theorem affiantref1_Root_f_ok : ∀ (k : Nat) (a0 : List (B8)) (u : B8) (h : affiantref1_Root_f k a0 = some u), CallC prog 48 [(.v (.slice (.slice (.int .u8))) a0)] [] (affiantref1_Root_R a0 u) (affiantref1_Root_O a0 u)
 | 0, a0, u, h => by cases h
 | k + 1, a0, u, h => by
  unfold affiantref1_Root_f at h
  rcases fork_some h with ⟨h1, h⟩ | ⟨h1, h⟩
  ·obtain ⟨u2, h3, h⟩ := andThen_some h
   injection h with h; subst h
   exact env.fun func48 can48 (its := [b1, .call [none, (some (.slice (.int .u8)))] [] [] true (affiantref1_Tagged_R (2 : UInt8) ([] : List (B8)) u2) (affiantref1_Tagged_O (2 : UInt8) ([] : List (B8)) u2)]) (pos := [.sel []]) (.c h1 (.c (affiantref1_Tagged_ok (2 : UInt8) ([] : List (B8)) u2 h3) .n)) (by kernel_rfl)
  ·rcases fork_some h with ⟨h4, h⟩ | ⟨h4, h⟩
   ·obtain ⟨h5, h⟩ := need_some h
    obtain ⟨u6, h7, h⟩ := andThen_some h
    injection h with h; subst h
    exact env.fun func48 can48 (its := [b0, b1, .call [none, none] [] [1] true (affiantref1_Tagged_R (0 : UInt8) ([(List.getD a0 (Int.toNat (0 : Int)) ([] : B8))] : List (B8)) u6) (affiantref1_Tagged_O (0 : UInt8) ([(List.getD a0 (Int.toNat (0 : Int)) ([] : B8))] : List (B8)) u6)]) (pos := [.sel []]) (.c h1 (.c h4 (.c h5 (.c (affiantref1_Tagged_ok (0 : UInt8) ([(List.getD a0 (Int.toNat (0 : Int)) ([] : B8))] : List (B8)) u6 h7) .n)))) (by kernel_rfl)
   ·obtain ⟨u8, h9, h⟩ := andThen_some h
    obtain ⟨h10, h⟩ := need_some h
    obtain ⟨u11, h12, h⟩ := andThen_some h
    obtain ⟨h13, h⟩ := need_some h
    obtain ⟨u14, h15, h⟩ := andThen_some h
    obtain ⟨u16, h17, h⟩ := andThen_some h
    injection h with h; subst h
    exact env.fun func48 can48 (its := [b0, b0, .call [none] [] [] true (affiantref1_half_R (List.length a0 : Int) u8) (affiantref1_half_O (List.length a0 : Int) u8), .pre p8, b0, .asis, .call [none] [] [] true (affiantref1_Root_R (cutL a0 (0 : Int) u8) u11) (affiantref1_Root_O (cutL a0 (0 : Int) u8) u11), b0, .asis, .call [none] [] [] true (affiantref1_Root_R (cutL a0 u8 (List.length a0 : Int)) u14) (affiantref1_Root_O (cutL a0 u8 (List.length a0 : Int)) u14), .pre p9, b1, b1, .asis, .call [none, none] [] [0] true (affiantref1_Tagged_R (1 : UInt8) ([u11, u14] : List (B8)) u16) (affiantref1_Tagged_O (1 : UInt8) ([u11, u14] : List (B8)) u16)]) (pos := [.sel []]) (.c h1 (.c h4 (.c (affiantref1_half_ok (List.length a0 : Int) u8 h9) (.c h10 (.c rn (.c (affiantref1_Root_f_ok k (cutL a0 (0 : Int) u8) u11 h12) (.c h13 (.c rn (.c (affiantref1_Root_f_ok k (cutL a0 u8 (List.length a0 : Int)) u14 h15) (.c (rfl : ([.row (.slice (.int .u8)) ([u11, u14] : List (B8)) true] : List AObj) = [.row (.slice (.int .u8)) ([u11, u14] : List (B8)) true]) (.c (affiantref1_Tagged_ok (1 : UInt8) ([u11, u14] : List (B8)) u16 h17) .n))))))))))) (by kernel_rfl)
theorem affiantref1_Root_ok (a0 : List (B8)) (u : B8) (h : affiantref1_Root a0 = some u) : CallC prog 48 [(.v (.slice (.slice (.int .u8))) a0)] [] (affiantref1_Root_R a0 u) (affiantref1_Root_O a0 u) := affiantref1_Root_f_ok 64 a0 u h
theorem can47 : Callable prog 47 := ⟨_, func47, by kernel_rfl, by kernel_rfl⟩
def affiantref10_NewChain_1830_1_in (x0 : Int) (x1 : Int) (x2 : List (T484d)) (x3 : List (B8)) (x4 : Unit) (x5 : List (List (B8))) (x6 : List (B8)) : St := ⟨[(1, (.own 1 [])), (5, (.ptr 2 [])), (12, (.own 0 [])), (13, (.v (.int .i64) x0)), (14, (.v (.int .i64) x1))], [.row Y484d x2 true, .row (.arr 32 (.int .u8)) x3 true, .box Y6488 (.node (.own 1 []) (.node (.own 3 []) (.node (.own 4 []) (.node .nil (.node (.own 0 []) (.node .nil (.node .nil (.v .unit x4)))))))) true, .row (.slice (.slice (.int .u8))) x5 true, .row .str x6 true], 46, 2⟩
def affiantref10_NewChain_1830_1_ex (o : (List (T484d)) × List (B8) × Unit × List (List (B8)) × List (B8)) : Exit := (.exit 0)
def affiantref10_NewChain_1830_1_st (o : (List (T484d)) × List (B8) × Unit × List (List (B8)) × List (B8)) : St := ⟨[(5, (.ptr 2 []))], [.row Y484d o.1 true, .row (.arr 32 (.int .u8)) o.2.1 true, .box Y6488 (.node (.own 1 []) (.node (.own 3 []) (.node (.own 4 []) (.node .nil (.node (.own 0 []) (.node .nil (.node .nil (.v .unit o.2.2.1)))))))) true, .row (.slice (.slice (.int .u8))) o.2.2.2.1 true, .row .str o.2.2.2.2 true], 46, 2⟩
theorem affiantref10_NewChain_1830_1_body (x0 : Int) (x1 : Int) (x2 : List (T484d)) (x3 : List (B8)) (x4 : Unit) (x5 : List (List (B8))) (x6 : List (B8)) : ∀ r, affiantref10_NewChain_1830_1_step x0 x1 x2 x3 x4 x5 x6 = some r → (match r with | .inl s => CodeOK prog (codeAt (bodyOf f47) [1, 1, 0, 1, 0, 0]) (affiantref10_NewChain_1830_1_in x0 x1 x2 x3 x4 x5 x6) .normal (affiantref10_NewChain_1830_1_in x0 s.1 x2 x3 x4 s.2.1 s.2.2) | .inr o => affiantref10_NewChain_1830_1_ex o ≠ .normal ∧ CodeOK prog (codeAt (bodyOf f47) [1, 1, 0, 1, 0, 0]) (affiantref10_NewChain_1830_1_in x0 x1 x2 x3 x4 x5 x6) (affiantref10_NewChain_1830_1_ex o) (affiantref10_NewChain_1830_1_st o)) := by
 intro r h
 unfold affiantref10_NewChain_1830_1_step at h
 rcases fork_some h with ⟨h2, h⟩ | ⟨h2, h⟩
 ·obtain ⟨h3, h⟩ := need_some h
  obtain ⟨h4, h⟩ := need_some h
  obtain ⟨h5, h⟩ := need_some h
  obtain ⟨u6, h7, h⟩ := andThen_some h
  obtain ⟨h8, h⟩ := need_some h
  injection h with h; subst h
  exact env.code (its := [b1, .pre p10, .pre p11, .call [none] [] [] false (affiantref1_Keys_R (List.getD x3 (Int.toNat x1) Z32) u6) (affiantref1_Keys_O (List.getD x3 (Int.toNat x1) Z32) u6), .sel [1, 5, 12, 13, 14] [0, 1, 2, 10, 7]]) (.c h2 (.c h3 (.c h4 (.c h5 (.c (affiantref1_Keys_ok (List.getD x3 (Int.toNat x1) Z32) u6 h7) (.c h8 .n)))))) (by kernel_rfl)
 ·injection h with h; subst h
  exact ⟨by intro e; simp [affiantref10_NewChain_1830_1_ex] at e, env.code (its := [b0, .sel [5] [0, 1, 2, 3, 4]]) (.c h2 .n) (by kernel_rfl)⟩
theorem affiantref10_NewChain_1830_1_ok (x0 : Int) (x1 : Int) (x2 : List (T484d)) (x3 : List (B8)) (x4 : Unit) (x5 : List (List (B8))) (x6 : List (B8)) (o : (List (T484d)) × List (B8) × Unit × List (List (B8)) × List (B8)) (h : affiantref10_NewChain_1830_1 x0 x1 x2 x3 x4 x5 x6 = some o) : CodeOK prog (codeAt (bodyOf f47) [1, 1, 0, 1, 0]) (affiantref10_NewChain_1830_1_in x0 x1 x2 x3 x4 x5 x6) (affiantref10_NewChain_1830_1_ex o) (affiantref10_NewChain_1830_1_st o) :=
 LoopOK.of_step (st := fun s => affiantref10_NewChain_1830_1_in x0 s.1 x2 x3 x4 s.2.1 s.2.2) (ex := affiantref10_NewChain_1830_1_ex) (stO := affiantref10_NewChain_1830_1_st) (fun s s2 hs => affiantref10_NewChain_1830_1_body x0 s.1 x2 x3 x4 s.2.1 s.2.2 (.inl s2) hs) (fun s r hs => affiantref10_NewChain_1830_1_body x0 s.1 x2 x3 x4 s.2.1 s.2.2 (.inr r) hs) _ o h
def affiantref10_NewChain_1830_R (a0 : List (T484d)) (a1 : List (B8)) (u : (List (T484d)) × List (B8) × Unit × List (List (B8)) × List (B8)) : Slot := (.ptr 2 [])
def affiantref10_NewChain_1830_O (a0 : List (T484d)) (a1 : List (B8)) (u : (List (T484d)) × List (B8) × Unit × List (List (B8)) × List (B8)) : List AObj := [.row Y484d u.1 true, .row (.arr 32 (.int .u8)) u.2.1 true, .box Y6488 (.node (.own 1 []) (.node (.own 3 []) (.node (.own 4 []) (.node .nil (.node (.own 0 []) (.node .nil (.node .nil (.v .unit u.2.2.1)))))))) true, .row (.slice (.slice (.int .u8))) u.2.2.2.1 true, .row .str u.2.2.2.2 true]
theorem affiantref10_NewChain_1830_ok (a0 : List (T484d)) (a1 : List (B8)) (u : (List (T484d)) × List (B8) × Unit × List (List (B8)) × List (B8)) (h : affiantref10_NewChain_1830 a0 a1 = some u) : CallC prog 47 [(.own 0 []), (.own 1 [])] [.row Y484d a0 true, .row (.arr 32 (.int .u8)) a1 true] (affiantref10_NewChain_1830_R a0 a1 u) (affiantref10_NewChain_1830_O a0 a1 u) := by
 unfold affiantref10_NewChain_1830 at h
 obtain ⟨o9, h10, h⟩ := andThen_some h
 injection h with h; subst h
 exact env.fun func47 can47 (its := [.asis, .dive, .promoteObj 2 [.fld 1], .promoteObj 2 [.fld 2], .sel [1, 5, 12, 13, 14] [0, 1, 2, 3, 4], .part (affiantref10_NewChain_1830_1_ex o9) (affiantref10_NewChain_1830_1_st o9)]) (pos := [.sel [0, 1, 2, 3, 4]]) (.c (affiantref10_NewChain_1830_1_ok (List.length a0 : Int) (0 : Int) a0 a1 (()) ([] : List (List (B8))) ([] : List (B8)) o9 h10) .n) (by kernel_rfl)
theorem can21 : Callable prog 21 := ⟨_, func21, by kernel_rfl, by kernel_rfl⟩
def affiantkeep_Chain_1_in (x0 : Int) (x1 : Int) (x2 : List (T484d)) (x3 : List (B8)) : St := ⟨[(3, (.own 0 [])), (4, (.own 1 [])), (11, (.v (.int .i64) x0)), (12, (.v (.int .i64) x1))], [.row Y484d x2 true, .row (.arr 32 (.int .u8)) x3 true], 43, 0⟩
def affiantkeep_Chain_1_ex (o : (List (T484d)) × List (B8)) : Exit := (.exit 0)
def affiantkeep_Chain_1_st (o : (List (T484d)) × List (B8)) : St := ⟨[(3, (.own 0 [])), (4, (.own 1 []))], [.row Y484d o.1 true, .row (.arr 32 (.int .u8)) o.2 true], 43, 0⟩
theorem affiantkeep_Chain_1_body (x0 : Int) (x1 : Int) (x2 : List (T484d)) (x3 : List (B8)) : ∀ r, affiantkeep_Chain_1_step x0 x1 x2 x3 = some r → (match r with | .inl s => CodeOK prog (codeAt (bodyOf f21) [1, 1, 1, 0, 1, 0, 0]) (affiantkeep_Chain_1_in x0 x1 x2 x3) .normal (affiantkeep_Chain_1_in x0 s.1 x2 s.2) | .inr o => affiantkeep_Chain_1_ex o ≠ .normal ∧ CodeOK prog (codeAt (bodyOf f21) [1, 1, 1, 0, 1, 0, 0]) (affiantkeep_Chain_1_in x0 x1 x2 x3) (affiantkeep_Chain_1_ex o) (affiantkeep_Chain_1_st o)) := by
 intro r h
 unfold affiantkeep_Chain_1_step at h
 rcases fork_some h with ⟨h4, h⟩ | ⟨h4, h⟩
 ·obtain ⟨u5, h6, h⟩ := andThen_some h
  obtain ⟨h7, h⟩ := need_some h
  injection h with h; subst h
  exact env.code (its := [b1, .call [none] [] [] true (affiantkeep_Seed_R x1 u5) (affiantkeep_Seed_O x1 u5), .sel [3, 4, 11, 12] [0, 3]]) (.c h4 (.c (affiantkeep_Seed_ok x1 u5 h6) (.c h7 .n))) (by kernel_rfl)
 ·injection h with h; subst h
  exact ⟨by intro e; simp [affiantkeep_Chain_1_ex] at e, env.code (its := [b0, .sel [3, 4] [0, 1]]) (.c h4 .n) (by kernel_rfl)⟩
theorem affiantkeep_Chain_1_ok (x0 : Int) (x1 : Int) (x2 : List (T484d)) (x3 : List (B8)) (o : (List (T484d)) × List (B8)) (h : affiantkeep_Chain_1 x0 x1 x2 x3 = some o) : CodeOK prog (codeAt (bodyOf f21) [1, 1, 1, 0, 1, 0]) (affiantkeep_Chain_1_in x0 x1 x2 x3) (affiantkeep_Chain_1_ex o) (affiantkeep_Chain_1_st o) :=
 LoopOK.of_step (st := fun s => affiantkeep_Chain_1_in x0 s.1 x2 s.2) (ex := affiantkeep_Chain_1_ex) (stO := affiantkeep_Chain_1_st) (fun s s2 hs => affiantkeep_Chain_1_body x0 s.1 x2 s.2 (.inl s2) hs) (fun s r hs => affiantkeep_Chain_1_body x0 s.1 x2 s.2 (.inr r) hs) _ o h
def affiantkeep_Chain_2_in (x0 : Int) (x1 : Int) (x2 : List (T484d)) (x3 : Unit) (x4 : List (B8)) (x5 : List (List (B8))) (x6 : List (B8)) : St := ⟨[(3, (.own 0 [])), (6, (.ptr 1 [])), (25, (.v (.int .i64) x0)), (26, (.v (.int .i64) x1))], [.row Y484d x2 true, .box Y6488 (.node (.own 2 []) (.node (.own 3 []) (.node (.own 4 []) (.node .nil (.node (.own 0 []) (.node .nil (.node .nil (.v .unit x3)))))))) true, .row (.arr 32 (.int .u8)) x4 true, .row (.slice (.slice (.int .u8))) x5 true, .row .str x6 true], 43, 0⟩
def affiantkeep_Chain_2_ex (o : Unit × List (B8) × List (List (B8)) × List (B8) × List (T484d)) : Exit := (.exit 2)
def affiantkeep_Chain_2_st (o : Unit × List (B8) × List (List (B8)) × List (B8) × List (T484d)) : St := ⟨[(6, (.ptr 0 []))], [.box Y6488 (.node (.own 1 []) (.node (.own 2 []) (.node (.own 3 []) (.node .nil (.node (.own 4 []) (.node .nil (.node .nil (.v .unit o.1)))))))) true, .row (.arr 32 (.int .u8)) o.2.1 true, .row (.slice (.slice (.int .u8))) o.2.2.1 true, .row .str o.2.2.2.1 true, .row Y484d o.2.2.2.2 true], 43, 0⟩
theorem affiantkeep_Chain_2_body (x0 : Int) (x1 : Int) (x2 : List (T484d)) (x3 : Unit) (x4 : List (B8)) (x5 : List (List (B8))) (x6 : List (B8)) : ∀ r, affiantkeep_Chain_2_step x0 x1 x2 x3 x4 x5 x6 = some r → (match r with | .inl s => CodeOK prog (codeAt (bodyOf f21) [1, 1, 1, 1, 1, 0, 1, 0, 0]) (affiantkeep_Chain_2_in x0 x1 x2 x3 x4 x5 x6) .normal (affiantkeep_Chain_2_in x0 s.1 s.2 x3 x4 x5 x6) | .inr o => affiantkeep_Chain_2_ex o ≠ .normal ∧ CodeOK prog (codeAt (bodyOf f21) [1, 1, 1, 1, 1, 0, 1, 0, 0]) (affiantkeep_Chain_2_in x0 x1 x2 x3 x4 x5 x6) (affiantkeep_Chain_2_ex o) (affiantkeep_Chain_2_st o)) := by
 intro r h
 unfold affiantkeep_Chain_2_step at h
 rcases fork_some h with ⟨h13, h⟩ | ⟨h13, h⟩
 ·obtain ⟨h14, h⟩ := need_some h
  obtain ⟨u15, h16, h⟩ := andThen_some h
  obtain ⟨h17, h⟩ := need_some h
  injection h with h; subst h
  exact env.code (its := [b1, .call [none] [] [] true (affiantref1_Root_R (List.getD x5 (Int.toNat x1) ([] : List (B8))) u15) (affiantref1_Root_O (List.getD x5 (Int.toNat x1) ([] : List (B8))) u15), .sel [3, 6, 25, 26] [0, 1, 2, 3, 4]]) (.c h13 (.c h14 (.c (affiantref1_Root_ok (List.getD x5 (Int.toNat x1) ([] : List (B8))) u15 h16) (.c h17 .n)))) (by kernel_rfl)
 ·injection h with h; subst h
  exact ⟨by intro e; simp [affiantkeep_Chain_2_ex] at e, env.code (its := [b0, .sel [6] [1, 2, 3, 4, 0]]) (.c h13 .n) (by kernel_rfl)⟩
theorem affiantkeep_Chain_2_ok (x0 : Int) (x1 : Int) (x2 : List (T484d)) (x3 : Unit) (x4 : List (B8)) (x5 : List (List (B8))) (x6 : List (B8)) (o : Unit × List (B8) × List (List (B8)) × List (B8) × List (T484d)) (h : affiantkeep_Chain_2 x0 x1 x2 x3 x4 x5 x6 = some o) : CodeOK prog (codeAt (bodyOf f21) [1, 1, 1, 1, 1, 0, 1, 0]) (affiantkeep_Chain_2_in x0 x1 x2 x3 x4 x5 x6) (affiantkeep_Chain_2_ex o) (affiantkeep_Chain_2_st o) :=
 LoopOK.of_step (st := fun s => affiantkeep_Chain_2_in x0 s.1 s.2 x3 x4 x5 x6) (ex := affiantkeep_Chain_2_ex) (stO := affiantkeep_Chain_2_st) (fun s s2 hs => affiantkeep_Chain_2_body x0 s.1 s.2 x3 x4 x5 x6 (.inl s2) hs) (fun s r hs => affiantkeep_Chain_2_body x0 s.1 s.2 x3 x4 x5 x6 (.inr r) hs) _ o h
def affiantkeep_Chain_R (a0 : List Int) (u : Unit × List (B8) × List (List (B8)) × List (B8) × List (T484d)) : Slot := (.ptr 0 [])
def affiantkeep_Chain_O (a0 : List Int) (u : Unit × List (B8) × List (List (B8)) × List (B8) × List (T484d)) : List AObj := [.box Y6488 (.node (.own 1 []) (.node (.own 2 []) (.node (.own 3 []) (.node .nil (.node (.own 4 []) (.node .nil (.node .nil (.v .unit u.1)))))))) true, .row (.arr 32 (.int .u8)) u.2.1 true, .row (.slice (.slice (.int .u8))) u.2.2.1 true, .row .str u.2.2.2.1 true, .row Y484d u.2.2.2.2 true]
theorem affiantkeep_Chain_ok (a0 : List Int) (u : Unit × List (B8) × List (List (B8)) × List (B8) × List (T484d)) (h : affiantkeep_Chain a0 = some u) : CallC prog 21 [(.v (.slice (.int .i64)) a0)] [] (affiantkeep_Chain_R a0 u) (affiantkeep_Chain_O a0 u) := by
 unfold affiantkeep_Chain at h
 obtain ⟨u1, h2, h⟩ := andThen_some h
 obtain ⟨o8, h9, h⟩ := andThen_some h
 obtain ⟨u10, h11, h⟩ := andThen_some h
 obtain ⟨o18, h19, h⟩ := andThen_some h
 injection h with h; subst h
 exact env.fun func21 can21 (its := [.call [none] [] [] true (affiantkeep_Set_R a0 u1) (affiantkeep_Set_O a0 u1), .dive, .promote 4 (.arr 32 (.int .u8)), .sel [3, 4, 11, 12] [0, 1], .part (affiantkeep_Chain_1_ex o8) (affiantkeep_Chain_1_st o8), .call [none, none] [0, 1] [] false (affiantref10_NewChain_1830_R o8.1 o8.2 u10) (affiantref10_NewChain_1830_O o8.1 o8.2 u10), .dive, .sel [3, 6, 25, 26] [0, 2, 1, 3, 4], .part (affiantkeep_Chain_2_ex o18) (affiantkeep_Chain_2_st o18)]) (pos := [.sel [0, 1, 2, 3, 4]]) (.c (affiantkeep_Set_ok a0 u1 h2) (.c (affiantkeep_Chain_1_ok (List.length u1 : Int) (0 : Int) u1 ([] : List (B8)) o8 h9) (.c (affiantref10_NewChain_1830_ok o8.1 o8.2 u10 h11) (.c (affiantkeep_Chain_2_ok (List.length u10.1 : Int) (0 : Int) u10.1 u10.2.2.1 u10.2.1 u10.2.2.2.1 u10.2.2.2.2 o18 h19) .n)))) (by kernel_rfl)
theorem can79 : Callable prog 79 := ⟨_, func79, by kernel_rfl, by kernel_rfl⟩
def affiantref1_Put_R (a0 : Int) (u : B8) : Slot := (.own 0 [])
def affiantref1_Put_O (a0 : Int) (u : B8) : List AObj := [.row (.int .u8) u true]
theorem affiantref1_Put_f_ok : ∀ (k : Nat) (a0 : Int) (u : B8) (h : affiantref1_Put_f k a0 = some u), CallC prog 79 [(.v (.int .i64) a0)] [] (affiantref1_Put_R a0 u) (affiantref1_Put_O a0 u)
 | 0, a0, u, h => by cases h
 | k + 1, a0, u, h => by
  unfold affiantref1_Put_f at h
  rcases fork_some h with ⟨h1, h⟩ | ⟨h1, h⟩
  ·injection h with h; subst h
   exact env.fun func79 can79 (its := [b1, b1, b1, b1]) (pos := [.promote (.int .u8), .sel [0]]) (.c h1 (.c h1 (.c h1 (.c r1 .n)))) (by kernel_rfl)
  ·rcases fork_some h with ⟨h2, h⟩ | ⟨h2, h⟩
   ·injection h with h; subst h
    exact env.fun func79 can79 (its := [b0, b0, b0, b1]) (pos := [.promote (.int .u8), .sel [0]]) (.c h1 (.c h1 (.c h1 (.c h2 .n)))) (by kernel_rfl)
   ·rcases fork_some h with ⟨h3, h⟩ | ⟨h3, h⟩
    ·injection h with h; subst h
     exact env.fun func79 can79 (its := [b0, b0, b0, b0, b1]) (pos := [.sel [0]]) (.c h1 (.c h1 (.c h1 (.c h2 (.c h3 .n))))) (by kernel_rfl)
    ·obtain ⟨u4, h5, h⟩ := andThen_some h
     obtain ⟨h6, h⟩ := need_some h
     injection h with h; subst h
     exact env.fun func79 can79 (its := [b0, b0, b0, b0, b0, .call [none] [] [] true (affiantref1_Put_R (ishr a0 (Int.toNat (7 : Int))) u4) (affiantref1_Put_O (ishr a0 (Int.toNat (7 : Int))) u4)]) (pos := [.sel [2]]) (.c h1 (.c h1 (.c h1 (.c h2 (.c h3 (.c (of_decide_eq_true (p := (0 ≤ (7 : Int))) (by kernel_rfl)) (.c (affiantref1_Put_f_ok k (ishr a0 (Int.toNat (7 : Int))) u4 h5) (.c h6 .n)))))))) (by kernel_rfl)
theorem affiantref1_Put_ok (a0 : Int) (u : B8) (h : affiantref1_Put a0 = some u) : CallC prog 79 [(.v (.int .i64) a0)] [] (affiantref1_Put_R a0 u) (affiantref1_Put_O a0 u) := affiantref1_Put_f_ok 64 a0 u h
theorem can80 : Callable prog 80 := ⟨_, func80, by kernel_rfl, by kernel_rfl⟩
def affiantref1_Text_R (a0 : B8) (u : B8) : Slot := (.own 0 [])
def affiantref1_Text_O (a0 : B8) (u : B8) : List AObj := [.row (.int .u8) u true]
theorem affiantref1_Text_ok (a0 : B8) (u : B8) (h : affiantref1_Text a0 = some u) : CallC prog 80 [(.v .str a0)] [] (affiantref1_Text_R a0 u) (affiantref1_Text_O a0 u) := by
 unfold affiantref1_Text at h
 obtain ⟨u1, h2, h⟩ := andThen_some h
 obtain ⟨h3, h⟩ := need_some h
 injection h with h; subst h
 exact env.fun func80 can80 (its := [.call [none] [] [] true (affiantref1_Put_R (List.length a0 : Int) u1) (affiantref1_Put_O (List.length a0 : Int) u1)]) (pos := [.sel [1]]) (.c (affiantref1_Put_ok (List.length a0 : Int) u1 h2) (.c h3 .n)) (by kernel_rfl)
theorem can108 : Callable prog 108 := ⟨_, func108, by kernel_rfl, by kernel_rfl⟩
def affiantref1_Leaf_R (a0 : T18c3) (u : B8) : Slot := (.own 0 [])
def affiantref1_Leaf_O (a0 : T18c3) (u : B8) : List AObj := [.row (.int .u8) u true]
theorem affiantref1_Leaf_ok (a0 : T18c3) (u : B8) (h : affiantref1_Leaf a0 = some u) : CallC prog 108 [(.v Y18c3 a0)] [] (affiantref1_Leaf_R a0 u) (affiantref1_Leaf_O a0 u) := by
 unfold affiantref1_Leaf at h
 obtain ⟨u1, h2, h⟩ := andThen_some h
 obtain ⟨u3, h4, h⟩ := andThen_some h
 obtain ⟨h5, h⟩ := need_some h
 injection h with h; subst h
 exact env.fun func108 can108 (its := [.pre p12, .call [none] [] [] true (affiantref1_Text_R a0.1 u1) (affiantref1_Text_O a0.1 u1), .call [none] [] [] true (affiantref1_Text_R a0.2.1 u3) (affiantref1_Text_O a0.2.1 u3)]) (pos := [.sel [3]]) (.c (affiantref1_Text_ok a0.1 u1 h2) (.c (affiantref1_Text_ok a0.2.1 u3 h4) (.c h5 .n))) (by kernel_rfl)
theorem can78 : Callable prog 78 := ⟨_, func78, by kernel_rfl, by kernel_rfl⟩
def affiantref1_leaves_1_in (x0 : List (T18c3)) (x1 : Int) (x2 : Int) (x3 : List (B8)) : St := ⟨[(3, (.own 0 [])), (6, (.v (.slice Y18c3) x0)), (7, (.v (.int .i64) x1)), (8, (.v (.int .i64) x2))], [.row (.slice (.int .u8)) x3 true], 19, 0⟩
def affiantref1_leaves_1_ex (o : List (B8)) : Exit := (.exit 0)
def affiantref1_leaves_1_st (o : List (B8)) : St := ⟨[(3, (.own 0 []))], [.row (.slice (.int .u8)) o true], 19, 0⟩
theorem affiantref1_leaves_1_body (x0 : List (T18c3)) (x1 : Int) (x2 : Int) (x3 : List (B8)) : ∀ r, affiantref1_leaves_1_step x0 x1 x2 x3 = some r → (match r with | .inl s => CodeOK prog (codeAt (bodyOf f78) [1, 1, 0, 1, 0, 0]) (affiantref1_leaves_1_in x0 x1 x2 x3) .normal (affiantref1_leaves_1_in x0 x1 s.1 s.2) | .inr o => affiantref1_leaves_1_ex o ≠ .normal ∧ CodeOK prog (codeAt (bodyOf f78) [1, 1, 0, 1, 0, 0]) (affiantref1_leaves_1_in x0 x1 x2 x3) (affiantref1_leaves_1_ex o) (affiantref1_leaves_1_st o)) := by
 intro r h
 unfold affiantref1_leaves_1_step at h
 rcases fork_some h with ⟨h2, h⟩ | ⟨h2, h⟩
 ·obtain ⟨h3, h⟩ := need_some h
  obtain ⟨u4, h5, h⟩ := andThen_some h
  obtain ⟨h6, h⟩ := need_some h
  injection h with h; subst h
  exact env.code (its := [b1, .call [none] [] [] true (affiantref1_Leaf_R (List.getD x0 (Int.toNat x2) Z18c3) u4) (affiantref1_Leaf_O (List.getD x0 (Int.toNat x2) Z18c3) u4), .sel [3, 6, 7, 8] [4]]) (.c h2 (.c h3 (.c (affiantref1_Leaf_ok (List.getD x0 (Int.toNat x2) Z18c3) u4 h5) (.c h6 .n)))) (by kernel_rfl)
 ·injection h with h; subst h
  exact ⟨by intro e; simp [affiantref1_leaves_1_ex] at e, env.code (its := [b0, .sel [3] [0]]) (.c h2 .n) (by kernel_rfl)⟩
theorem affiantref1_leaves_1_ok (x0 : List (T18c3)) (x1 : Int) (x2 : Int) (x3 : List (B8)) (o : List (B8)) (h : affiantref1_leaves_1 x0 x1 x2 x3 = some o) : CodeOK prog (codeAt (bodyOf f78) [1, 1, 0, 1, 0]) (affiantref1_leaves_1_in x0 x1 x2 x3) (affiantref1_leaves_1_ex o) (affiantref1_leaves_1_st o) :=
 LoopOK.of_step (st := fun s => affiantref1_leaves_1_in x0 x1 s.1 s.2) (ex := affiantref1_leaves_1_ex) (stO := affiantref1_leaves_1_st) (fun s s2 hs => affiantref1_leaves_1_body x0 x1 s.1 s.2 (.inl s2) hs) (fun s r hs => affiantref1_leaves_1_body x0 x1 s.1 s.2 (.inr r) hs) _ o h
def affiantref1_leaves_R (a0 : List (T18c3)) (u : List (B8)) : Slot := (.own 0 [])
def affiantref1_leaves_O (a0 : List (T18c3)) (u : List (B8)) : List AObj := [.row (.slice (.int .u8)) u true]
theorem affiantref1_leaves_ok (a0 : List (T18c3)) (u : List (B8)) (h : affiantref1_leaves a0 = some u) : CallC prog 78 [(.v (.slice Y18c3) a0)] [] (affiantref1_leaves_R a0 u) (affiantref1_leaves_O a0 u) := by
 unfold affiantref1_leaves at h
 obtain ⟨o7, h8, h⟩ := andThen_some h
 injection h with h; subst h
 exact env.fun func78 can78 (its := [.dive, .promote 3 (.slice (.int .u8)), .sel [3, 6, 7, 8] [0], .part (affiantref1_leaves_1_ex o7) (affiantref1_leaves_1_st o7)]) (pos := [.sel [0]]) (.c (affiantref1_leaves_1_ok a0 (List.length a0 : Int) (0 : Int) ([] : List (B8)) o7 h8) .n) (by kernel_rfl)
theorem can77 : Callable prog 77 := ⟨_, func77, by kernel_rfl, by kernel_rfl⟩
def affiantref1_Bound_R (a0 : Int) (a1 : B8) (u : B8) : Slot := (.v (.arr 32 (.int .u8)) u)
def affiantref1_Bound_O (a0 : Int) (a1 : B8) (u : B8) : List AObj := []
theorem affiantref1_Bound_ok (a0 : Int) (a1 : B8) (u : B8) (h : affiantref1_Bound a0 a1 = some u) : CallC prog 77 [(.v (.int .i64) a0), (.v (.arr 32 (.int .u8)) a1)] [] (affiantref1_Bound_R a0 a1 u) (affiantref1_Bound_O a0 a1 u) := by
 unfold affiantref1_Bound at h
 obtain ⟨u1, h2, h⟩ := andThen_some h
 obtain ⟨u3, h4, h⟩ := andThen_some h
 injection h with h; subst h
 exact env.fun func77 can77 (its := [.pre p13, .call [none] [] [] true (affiantref1_Put_R a0 u1) (affiantref1_Put_O a0 u1), b1, .asis, .call [none, none] [] [0] true (affiantref1_Tagged_R (83 : UInt8) ([u1, a1] : List (B8)) u3) (affiantref1_Tagged_O (83 : UInt8) ([u1, a1] : List (B8)) u3)]) (pos := [.sel []]) (.c (affiantref1_Put_ok a0 u1 h2) (.c (rfl : ([.row (.slice (.int .u8)) ([u1, a1] : List (B8)) true] : List AObj) = [.row (.slice (.int .u8)) ([u1, a1] : List (B8)) true]) (.c (affiantref1_Tagged_ok (83 : UInt8) ([u1, a1] : List (B8)) u3 h4) .n))) (by kernel_rfl)
theorem can49 : Callable prog 49 := ⟨_, func49, by kernel_rfl, by kernel_rfl⟩
def affiantref1_StoreRoot_R (a0 : List (T18c3)) (u : B8) : Slot := (.v (.arr 32 (.int .u8)) u)
def affiantref1_StoreRoot_O (a0 : List (T18c3)) (u : B8) : List AObj := []
theorem affiantref1_StoreRoot_ok (a0 : List (T18c3)) (u : B8) (h : affiantref1_StoreRoot a0 = some u) : CallC prog 49 [(.v (.slice Y18c3) a0)] [] (affiantref1_StoreRoot_R a0 u) (affiantref1_StoreRoot_O a0 u) := by
 unfold affiantref1_StoreRoot at h
 obtain ⟨u1, h2, h⟩ := andThen_some h
 obtain ⟨u3, h4, h⟩ := andThen_some h
 obtain ⟨u5, h6, h⟩ := andThen_some h
 injection h with h; subst h
 exact env.fun func49 can49 (its := [.call [none] [] [] false (affiantref1_leaves_R a0 u1) (affiantref1_leaves_O a0 u1), .call [none] [] [1] true (affiantref1_Root_R u1 u3) (affiantref1_Root_O u1 u3), .call [none, none] [] [] true (affiantref1_Bound_R (List.length a0 : Int) u3 u5) (affiantref1_Bound_O (List.length a0 : Int) u3 u5)]) (pos := [.sel []]) (.c (affiantref1_leaves_ok a0 u1 h2) (.c (affiantref1_Root_ok u1 u3 h4) (.c (affiantref1_Bound_ok (List.length a0 : Int) u3 u5 h6) .n))) (by kernel_rfl)
theorem can50 : Callable prog 50 := ⟨_, func50, by kernel_rfl, by kernel_rfl⟩
def affiantref10_SetHash_1_in (x0 : List (T484d)) (x1 : Int) (x2 : Int) (x3 : B8) (x4 : B8) : St := ⟨[(2, (.ptr 0 [])), (3, (.own 1 [])), (9, (.v (.slice Y484d) x0)), (10, (.v (.int .i64) x1)), (11, (.v (.int .i64) x2))], [.box (.arr 32 (.int .u8)) (.v (.arr 32 (.int .u8)) x3) true, .row (.int .u8) x4 true], 31, 0⟩
def affiantref10_SetHash_1_ex (o : B8 × B8) : Exit := (.exit 0)
def affiantref10_SetHash_1_st (o : B8 × B8) : St := ⟨[(2, (.ptr 0 [])), (3, (.own 1 []))], [.box (.arr 32 (.int .u8)) (.v (.arr 32 (.int .u8)) o.1) true, .row (.int .u8) o.2 true], 31, 0⟩
theorem affiantref10_SetHash_1_body (x0 : List (T484d)) (x1 : Int) (x2 : Int) (x3 : B8) (x4 : B8) : ∀ r, affiantref10_SetHash_1_step x0 x1 x2 x3 x4 = some r → (match r with | .inl s => CodeOK prog (codeAt (bodyOf f50) [1, 1, 0, 1, 0, 0]) (affiantref10_SetHash_1_in x0 x1 x2 x3 x4) .normal (affiantref10_SetHash_1_in x0 x1 s.1 x3 s.2) | .inr o => affiantref10_SetHash_1_ex o ≠ .normal ∧ CodeOK prog (codeAt (bodyOf f50) [1, 1, 0, 1, 0, 0]) (affiantref10_SetHash_1_in x0 x1 x2 x3 x4) (affiantref10_SetHash_1_ex o) (affiantref10_SetHash_1_st o)) := by
 intro r h
 unfold affiantref10_SetHash_1_step at h
 rcases fork_some h with ⟨h4, h⟩ | ⟨h4, h⟩
 ·obtain ⟨h5, h⟩ := need_some h
  obtain ⟨u6, h7, h⟩ := andThen_some h
  obtain ⟨h8, h⟩ := need_some h
  obtain ⟨u9, h10, h⟩ := andThen_some h
  obtain ⟨h11, h⟩ := need_some h
  obtain ⟨h12, h⟩ := need_some h
  injection h with h; subst h
  exact env.code (its := [b1, .pre p14, .call [none] [] [] true (affiantref1_Text_R ((List.getD x0 (Int.toNat x2) Z484d).1) u6) (affiantref1_Text_O ((List.getD x0 (Int.toNat x2) Z484d).1) u6), .call [none] [] [] true (affiantref1_Put_R ((List.getD x0 (Int.toNat x2) Z484d).2.1) u9) (affiantref1_Put_O ((List.getD x0 (Int.toNat x2) Z484d).2.1) u9), b1, .sel [2, 3, 9, 10, 11] [0, 7]]) (.c h4 (.c h5 (.c (affiantref1_Text_ok ((List.getD x0 (Int.toNat x2) Z484d).1) u6 h7) (.c h8 (.c (affiantref1_Put_ok ((List.getD x0 (Int.toNat x2) Z484d).2.1) u9 h10) (.c h11 (.c h12 .n))))))) (by kernel_rfl)
 ·injection h with h; subst h
  exact ⟨by intro e; simp [affiantref10_SetHash_1_ex] at e, env.code (its := [b0, .sel [2, 3] [0, 1]]) (.c h4 .n) (by kernel_rfl)⟩
theorem affiantref10_SetHash_1_ok (x0 : List (T484d)) (x1 : Int) (x2 : Int) (x3 : B8) (x4 : B8) (o : B8 × B8) (h : affiantref10_SetHash_1 x0 x1 x2 x3 x4 = some o) : CodeOK prog (codeAt (bodyOf f50) [1, 1, 0, 1, 0]) (affiantref10_SetHash_1_in x0 x1 x2 x3 x4) (affiantref10_SetHash_1_ex o) (affiantref10_SetHash_1_st o) :=
 LoopOK.of_step (st := fun s => affiantref10_SetHash_1_in x0 x1 s.1 x3 s.2) (ex := affiantref10_SetHash_1_ex) (stO := affiantref10_SetHash_1_st) (fun s s2 hs => affiantref10_SetHash_1_body x0 x1 s.1 x3 s.2 (.inl s2) hs) (fun s r hs => affiantref10_SetHash_1_body x0 x1 s.1 x3 s.2 (.inr r) hs) _ o h
def affiantref10_SetHash_R (a0 : List (T484d)) (u : B8) : Slot := (.v (.arr 32 (.int .u8)) u)
def affiantref10_SetHash_O (a0 : List (T484d)) (u : B8) : List AObj := []
theorem affiantref10_SetHash_ok (a0 : List (T484d)) (u : B8) (h : affiantref10_SetHash a0 = some u) : CallC prog 50 [(.v (.slice Y484d) a0)] [] (affiantref10_SetHash_R a0 u) (affiantref10_SetHash_O a0 u) := by
 unfold affiantref10_SetHash at h
 obtain ⟨u1, h2, h⟩ := andThen_some h
 obtain ⟨o13, h14, h⟩ := andThen_some h
 obtain ⟨u15, h16, h⟩ := andThen_some h
 injection h with h; subst h
 exact env.fun func50 can50 (its := [.call [none] [] [] true (affiantref1_Put_R (List.length a0 : Int) u1) (affiantref1_Put_O (List.length a0 : Int) u1), .dive, .sel [2, 3, 9, 10, 11] [0, 1], .part (affiantref10_SetHash_1_ex o13) (affiantref10_SetHash_1_st o13), .call [none, none] [] [2] true (affiantref1_Tagged_R (86 : UInt8) ([o13.2] : List (B8)) u15) (affiantref1_Tagged_O (86 : UInt8) ([o13.2] : List (B8)) u15)]) (pos := [.sel []]) (.c (affiantref1_Put_ok (List.length a0 : Int) u1 h2) (.c (affiantref10_SetHash_1_ok a0 (List.length a0 : Int) (0 : Int) Z32 u1 o13 h14) (.c (affiantref1_Tagged_ok (86 : UInt8) ([o13.2] : List (B8)) u15 h16) .n))) (by kernel_rfl)
theorem can61 : Callable prog 61 := ⟨_, func61, by kernel_rfl, by kernel_rfl⟩
def affiantref10_HeaderBytes_1_in (x0 : Int) (x1 : Int) (x2 : B8) (x3 : List (B8)) : St := ⟨[(3, (.own 0 [])), (21, (.own 1 [])), (22, (.v (.int .i64) x0)), (23, (.v (.int .i64) x1))], [.row (.int .u8) x2 true, .row (.arr 32 (.int .u8)) x3 true], 32, 0⟩
def affiantref10_HeaderBytes_1_ex (o : B8) : Exit := (.exit 0)
def affiantref10_HeaderBytes_1_st (o : B8) : St := ⟨[(3, (.own 0 []))], [.row (.int .u8) o true], 32, 0⟩
theorem affiantref10_HeaderBytes_1_body (x0 : Int) (x1 : Int) (x2 : B8) (x3 : List (B8)) : ∀ r, affiantref10_HeaderBytes_1_step x0 x1 x2 x3 = some r → (match r with | .inl s => CodeOK prog (codeAt (bodyOf f61) [1, 1, 0, 1, 0, 0]) (affiantref10_HeaderBytes_1_in x0 x1 x2 x3) .normal (affiantref10_HeaderBytes_1_in x0 s.1 s.2 x3) | .inr o => affiantref10_HeaderBytes_1_ex o ≠ .normal ∧ CodeOK prog (codeAt (bodyOf f61) [1, 1, 0, 1, 0, 0]) (affiantref10_HeaderBytes_1_in x0 x1 x2 x3) (affiantref10_HeaderBytes_1_ex o) (affiantref10_HeaderBytes_1_st o)) := by
 intro r h
 unfold affiantref10_HeaderBytes_1_step at h
 rcases fork_some h with ⟨h7, h⟩ | ⟨h7, h⟩
 ·obtain ⟨h8, h⟩ := need_some h
  obtain ⟨h9, h⟩ := need_some h
  injection h with h; subst h
  exact env.code (its := [b1, b1, .sel [3, 21, 22, 23] [3, 1]]) (.c h7 (.c h8 (.c h9 .n))) (by kernel_rfl)
 ·injection h with h; subst h
  exact ⟨by intro e; simp [affiantref10_HeaderBytes_1_ex] at e, env.code (its := [b0, .sel [3] [0]]) (.c h7 .n) (by kernel_rfl)⟩
theorem affiantref10_HeaderBytes_1_ok (x0 : Int) (x1 : Int) (x2 : B8) (x3 : List (B8)) (o : B8) (h : affiantref10_HeaderBytes_1 x0 x1 x2 x3 = some o) : CodeOK prog (codeAt (bodyOf f61) [1, 1, 0, 1, 0]) (affiantref10_HeaderBytes_1_in x0 x1 x2 x3) (affiantref10_HeaderBytes_1_ex o) (affiantref10_HeaderBytes_1_st o) :=
 LoopOK.of_step (st := fun s => affiantref10_HeaderBytes_1_in x0 s.1 s.2 x3) (ex := affiantref10_HeaderBytes_1_ex) (stO := affiantref10_HeaderBytes_1_st) (fun s s2 hs => affiantref10_HeaderBytes_1_body x0 s.1 s.2 x3 (.inl s2) hs) (fun s r hs => affiantref10_HeaderBytes_1_body x0 s.1 s.2 x3 (.inr r) hs) _ o h
def affiantref10_HeaderBytes_R (a0 : Tf0bc) (u : B8) : Slot := (.own 0 [])
def affiantref10_HeaderBytes_O (a0 : Tf0bc) (u : B8) : List AObj := [.row (.int .u8) u true]
theorem affiantref10_HeaderBytes_ok (a0 : Tf0bc) (u : B8) (h : affiantref10_HeaderBytes a0 = some u) : CallC prog 61 [(.v Yf0bc a0)] [] (affiantref10_HeaderBytes_R a0 u) (affiantref10_HeaderBytes_O a0 u) := by
 unfold affiantref10_HeaderBytes at h
 obtain ⟨u1, h2, h⟩ := andThen_some h
 obtain ⟨u3, h4, h⟩ := andThen_some h
 obtain ⟨h5, h⟩ := need_some h
 obtain ⟨o10, h11, h⟩ := andThen_some h
 injection h with h; subst h
 exact env.fun func61 can61 (its := [.pre p12, .call [none] [] [] true (affiantref1_Put_R a0.1 u1) (affiantref1_Put_O a0.1 u1), .call [none] [] [] true (affiantref1_Put_R a0.2.1 u3) (affiantref1_Put_O a0.2.1 u3), .dive, .sel [3, 21, 22, 23] [3, 4], .part (affiantref10_HeaderBytes_1_ex o10) (affiantref10_HeaderBytes_1_st o10)]) (pos := [.sel [0]]) (.c (affiantref1_Put_ok a0.1 u1 h2) (.c (affiantref1_Put_ok a0.2.1 u3 h4) (.c h5 (.c (affiantref10_HeaderBytes_1_ok (List.length ([a0.2.2.1, a0.2.2.2.1, a0.2.2.2.2.1, a0.2.2.2.2.2.1] : List (B8)) : Int) (0 : Int) (u1 ++ u3) ([a0.2.2.1, a0.2.2.2.1, a0.2.2.2.2.1, a0.2.2.2.2.2.1] : List (B8)) o10 h11) .n)))) (by kernel_rfl)
theorem can30 : Callable prog 30 := ⟨_, func30, by kernel_rfl, by kernel_rfl⟩
def affiantref10_HeaderHash_R (a0 : Tf0bc) (u : B8) : Slot := (.v (.arr 32 (.int .u8)) u)
def affiantref10_HeaderHash_O (a0 : Tf0bc) (u : B8) : List AObj := []
theorem affiantref10_HeaderHash_ok (a0 : Tf0bc) (u : B8) (h : affiantref10_HeaderHash a0 = some u) : CallC prog 30 [(.v Yf0bc a0)] [] (affiantref10_HeaderHash_R a0 u) (affiantref10_HeaderHash_O a0 u) := by
 unfold affiantref10_HeaderHash at h
 obtain ⟨u1, h2, h⟩ := andThen_some h
 obtain ⟨u3, h4, h⟩ := andThen_some h
 injection h with h; subst h
 exact env.fun func30 can30 (its := [.call [none] [] [] true (affiantref10_HeaderBytes_R a0 u1) (affiantref10_HeaderBytes_O a0 u1), .call [none, none] [] [3] true (affiantref1_Tagged_R (72 : UInt8) ([u1] : List (B8)) u3) (affiantref1_Tagged_O (72 : UInt8) ([u1] : List (B8)) u3)]) (pos := [.sel []]) (.c (affiantref10_HeaderBytes_ok a0 u1 h2) (.c (affiantref1_Tagged_ok (72 : UInt8) ([u1] : List (B8)) u3 h4) .n)) (by kernel_rfl)
theorem can92 : Callable prog 92 := ⟨_, func92, by kernel_rfl, by kernel_rfl⟩
def affiantref1_bit_R (a0 : B8) (a1 : Int) (u : Int) : Slot := (.v (.int .i64) u)
def affiantref1_bit_O (a0 : B8) (a1 : Int) (u : Int) : List AObj := []
theorem affiantref1_bit_ok (a0 : B8) (a1 : Int) (u : Int) (h : affiantref1_bit a0 a1 = some u) : CallC prog 92 [(.v (.slice (.int .u8)) a0), (.v (.int .i64) a1)] [] (affiantref1_bit_R a0 a1 u) (affiantref1_bit_O a0 a1 u) := by
 unfold affiantref1_bit at h
 obtain ⟨u1, h2, h⟩ := andThen_some h
 obtain ⟨h3, h⟩ := need_some h
 obtain ⟨h4, h⟩ := need_some h
 injection h with h; subst h
 exact env.fun func92 can92 (its := [.call [none, none] [] [0] true (affiantref1_Tagged_R (109 : UInt8) ([a0] : List (B8)) u1) (affiantref1_Tagged_O (109 : UInt8) ([a0] : List (B8)) u1)]) (pos := [.sel []]) (.c (affiantref1_Tagged_ok (109 : UInt8) ([a0] : List (B8)) u1 h2) (.c (of_decide_eq_true (p := ((8 : Int) ≠ 0)) (by kernel_rfl)) (.c h3 (.c (of_decide_eq_true (p := ((8 : Int) ≠ 0)) (by kernel_rfl)) (.c h4 .n))))) (by kernel_rfl)
theorem can81 : Callable prog 81 := ⟨_, func81, by kernel_rfl, by kernel_rfl⟩
def affiantref1_Sign_1_in (x0 : B8) (x1 : Int) (x2 : B8) (x3 : Unit) (x4 : Unit) (x5 : List (B8)) (x6 : List (B8)) : St := ⟨[(1, (.v (.slice (.int .u8)) x0)), (2, (.ptr 0 [])), (4, (.ptr 1 [])), (5, (.ptr 2 [])), (8, (.v (.int .i64) x1))], [.box (.arr 32 (.int .u8)) (.v (.arr 32 (.int .u8)) x2) true, .box Y9c6e (.node .nil (.node .nil (.v .unit x3))) true, .box Y9c6e (.node (.own 3 []) (.node (.own 4 []) (.v .unit x4))) true, .row (.arr 32 (.int .u8)) x5 true, .row (.arr 32 (.int .u8)) x6 true], 36, 0⟩
def affiantref1_Sign_1_ex (o : Unit × Unit × List (B8) × List (B8)) : Exit := (.exit 0)
def affiantref1_Sign_1_st (o : Unit × Unit × List (B8) × List (B8)) : St := ⟨[(4, (.ptr 0 [])), (5, (.ptr 1 []))], [.box Y9c6e (.node .nil (.node .nil (.v .unit o.1))) true, .box Y9c6e (.node (.own 2 []) (.node (.own 3 []) (.v .unit o.2.1))) true, .row (.arr 32 (.int .u8)) o.2.2.1 true, .row (.arr 32 (.int .u8)) o.2.2.2 true], 36, 0⟩
theorem affiantref1_Sign_1_body (x0 : B8) (x1 : Int) (x2 : B8) (x3 : Unit) (x4 : Unit) (x5 : List (B8)) (x6 : List (B8)) : ∀ r, affiantref1_Sign_1_step x0 x1 x2 x3 x4 x5 x6 = some r → (match r with | .inl s => CodeOK prog (codeAt (bodyOf f81) [1, 1, 0, 1, 0, 0]) (affiantref1_Sign_1_in x0 x1 x2 x3 x4 x5 x6) .normal (affiantref1_Sign_1_in x0 s.1 x2 x3 x4 s.2.1 s.2.2) | .inr o => affiantref1_Sign_1_ex o ≠ .normal ∧ CodeOK prog (codeAt (bodyOf f81) [1, 1, 0, 1, 0, 0]) (affiantref1_Sign_1_in x0 x1 x2 x3 x4 x5 x6) (affiantref1_Sign_1_ex o) (affiantref1_Sign_1_st o)) := by
 intro r h
 unfold affiantref1_Sign_1_step at h
 rcases fork_some h with ⟨h2, h⟩ | ⟨h2, h⟩
 ·obtain ⟨u3, h4, h⟩ := andThen_some h
  obtain ⟨u5, h6, h⟩ := andThen_some h
  obtain ⟨h7, h⟩ := need_some h
  obtain ⟨u8, h9, h⟩ := andThen_some h
  obtain ⟨u10, h11, h⟩ := andThen_some h
  obtain ⟨h12, h⟩ := need_some h
  injection h with h; subst h
  exact env.code (its := [b1, .call [none, none] [] [] true (affiantref1_bit_R x0 x1 u3) (affiantref1_bit_O x0 x1 u3), .pre p15, .asis, .call [none, none, none] [] [] true (affiantref1_secret_R x2 x1 u3 u5) (affiantref1_secret_O x2 x1 u3 u5), .pre p16, .asis, .call [none, none, none] [] [] true (affiantref1_secret_R x2 x1 (w64 ((1 : Int) - u3)) u8) (affiantref1_secret_O x2 x1 (w64 ((1 : Int) - u3)) u8), .asis, .call [none] [] [] true (affiantref1_public_R u8 u10) (affiantref1_public_O u8 u10), .sel [1, 2, 4, 5, 8] [0, 1, 2, 6, 8]]) (.c h2 (.c (affiantref1_bit_ok x0 x1 u3 h4) (.c rn (.c (affiantref1_secret_ok x2 x1 u3 u5 h6) (.c h7 (.c rn (.c (affiantref1_secret_ok x2 x1 (w64 ((1 : Int) - u3)) u8 h9) (.c rn (.c (affiantref1_public_ok u8 u10 h11) (.c h12 .n)))))))))) (by kernel_rfl)
 ·injection h with h; subst h
  exact ⟨by intro e; simp [affiantref1_Sign_1_ex] at e, env.code (its := [b0, .sel [4, 5] [1, 2, 3, 4]]) (.c h2 .n) (by kernel_rfl)⟩
theorem affiantref1_Sign_1_ok (x0 : B8) (x1 : Int) (x2 : B8) (x3 : Unit) (x4 : Unit) (x5 : List (B8)) (x6 : List (B8)) (o : Unit × Unit × List (B8) × List (B8)) (h : affiantref1_Sign_1 x0 x1 x2 x3 x4 x5 x6 = some o) : CodeOK prog (codeAt (bodyOf f81) [1, 1, 0, 1, 0]) (affiantref1_Sign_1_in x0 x1 x2 x3 x4 x5 x6) (affiantref1_Sign_1_ex o) (affiantref1_Sign_1_st o) :=
 LoopOK.of_step (st := fun s => affiantref1_Sign_1_in x0 s.1 x2 x3 x4 s.2.1 s.2.2) (ex := affiantref1_Sign_1_ex) (stO := affiantref1_Sign_1_st) (fun s s2 hs => affiantref1_Sign_1_body x0 s.1 x2 x3 x4 s.2.1 s.2.2 (.inl s2) hs) (fun s r hs => affiantref1_Sign_1_body x0 s.1 x2 x3 x4 s.2.1 s.2.2 (.inr r) hs) _ o h
def affiantref1_Sign_R (a0 : B8) (a1 : B8) (u : T9c6e) : Slot := (.v Y9c6e u)
def affiantref1_Sign_O (a0 : B8) (a1 : B8) (u : T9c6e) : List AObj := []
theorem affiantref1_Sign_ok (a0 : B8) (a1 : B8) (u : T9c6e) (h : affiantref1_Sign a0 a1 = some u) : CallC prog 81 [(.v (.arr 32 (.int .u8)) a0), (.v (.slice (.int .u8)) a1)] [] (affiantref1_Sign_R a0 a1 u) (affiantref1_Sign_O a0 a1 u) := by
 unfold affiantref1_Sign at h
 obtain ⟨o13, h14, h⟩ := andThen_some h
 injection h with h; subst h
 exact env.fun func81 can81 (its := [.dive, .promoteObj 2 [.fld 0], .promoteObj 2 [.fld 1], .sel [1, 2, 4, 5, 8] [0, 1, 2, 3, 4], .part (affiantref1_Sign_1_ex o13) (affiantref1_Sign_1_st o13)]) (pos := [.sel []]) (.c (affiantref1_Sign_1_ok a1 (0 : Int) a0 (()) (()) ([] : List (B8)) ([] : List (B8)) o13 h14) .n) (by kernel_rfl)
theorem can83 : Callable prog 83 := ⟨_, func83, by kernel_rfl, by kernel_rfl⟩
def affiantref1_Path_R (a0 : List (B8)) (a1 : Int) (u : List (B8)) : Slot := (.own 0 [])
def affiantref1_Path_O (a0 : List (B8)) (a1 : Int) (u : List (B8)) : List AObj := [.row (.arr 32 (.int .u8)) u true]
theorem affiantref1_Path_f_ok : ∀ (k : Nat) (a0 : List (B8)) (a1 : Int) (u : List (B8)) (h : affiantref1_Path_f k a0 a1 = some u), CallC prog 83 [(.v (.slice (.slice (.int .u8))) a0), (.v (.int .i64) a1)] [] (affiantref1_Path_R a0 a1 u) (affiantref1_Path_O a0 a1 u)
 | 0, a0, a1, u, h => by cases h
 | k + 1, a0, a1, u, h => by
  unfold affiantref1_Path_f at h
  rcases fork_some h with ⟨h1, h⟩ | ⟨h1, h⟩
  ·injection h with h; subst h
   exact env.fun func83 can83 (its := [b1, b1, b1, b1, b1, b1, b1, b1, b1, b1]) (pos := [.promote (.arr 32 (.int .u8)), .sel [0]]) (.c h1 (.c h1 (.c h1 (.c h1 (.c h1 (.c r1 (.c r1 (.c r1 (.c r1 (.c r1 .n)))))))))) (by kernel_rfl)
  ·rcases fork_some h with ⟨h2, h⟩ | ⟨h2, h⟩
   ·injection h with h; subst h
    exact env.fun func83 can83 (its := [b0, b0, b0, b0, b0, b1, b1, b1, b1, b1]) (pos := [.promote (.arr 32 (.int .u8)), .sel [0]]) (.c h1 (.c h1 (.c h1 (.c h1 (.c h1 (.c h2 (.c h2 (.c h2 (.c h2 (.c r1 .n)))))))))) (by kernel_rfl)
   ·rcases fork_some h with ⟨h3, h⟩ | ⟨h3, h⟩
    ·injection h with h; subst h
     exact env.fun func83 can83 (its := [b0, b0, b0, b0, b0, b0, b0, b0, b0, b1]) (pos := [.promote (.arr 32 (.int .u8)), .sel [0]]) (.c h1 (.c h1 (.c h1 (.c h1 (.c h1 (.c h2 (.c h2 (.c h2 (.c h2 (.c h3 .n)))))))))) (by kernel_rfl)
    ·obtain ⟨u4, h5, h⟩ := andThen_some h
     rcases fork_some h with ⟨h6, h⟩ | ⟨h6, h⟩
     ·obtain ⟨h7, h⟩ := need_some h
      obtain ⟨u8, h9, h⟩ := andThen_some h
      obtain ⟨h10, h⟩ := need_some h
      obtain ⟨u11, h12, h⟩ := andThen_some h
      obtain ⟨h13, h⟩ := need_some h
      injection h with h; subst h
      exact env.fun func83 can83 (its := [b0, b0, b0, b0, b0, b0, b0, b0, b0, b0, .call [none] [] [] true (affiantref1_half_R (List.length a0 : Int) u4) (affiantref1_half_O (List.length a0 : Int) u4), b1, .pre p17, b0, .call [none, none] [] [] true (affiantref1_Path_R (cutL a0 (0 : Int) u4) a1 u8) (affiantref1_Path_O (cutL a0 (0 : Int) u4) a1 u8), b0, .asis, .call [none] [] [] true (affiantref1_Root_R (cutL a0 u4 (List.length a0 : Int)) u11) (affiantref1_Root_O (cutL a0 u4 (List.length a0 : Int)) u11)]) (pos := [.sel [2]]) (.c h1 (.c h1 (.c h1 (.c h1 (.c h1 (.c h2 (.c h2 (.c h2 (.c h2 (.c h3 (.c (affiantref1_half_ok (List.length a0 : Int) u4 h5) (.c h6 (.c h7 (.c (affiantref1_Path_f_ok k (cutL a0 (0 : Int) u4) a1 u8 h9) (.c h10 (.c rn (.c (affiantref1_Root_ok (cutL a0 u4 (List.length a0 : Int)) u11 h12) (.c h13 .n)))))))))))))))))) (by kernel_rfl)
     ·obtain ⟨h14, h⟩ := need_some h
      obtain ⟨u15, h16, h⟩ := andThen_some h
      obtain ⟨h17, h⟩ := need_some h
      obtain ⟨u18, h19, h⟩ := andThen_some h
      obtain ⟨h20, h⟩ := need_some h
      injection h with h; subst h
      exact env.fun func83 can83 (its := [b0, b0, b0, b0, b0, b0, b0, b0, b0, b0, .call [none] [] [] true (affiantref1_half_R (List.length a0 : Int) u4) (affiantref1_half_O (List.length a0 : Int) u4), b0, .pre p18, b0, .call [none, none] [] [] true (affiantref1_Path_R (cutL a0 u4 (List.length a0 : Int)) (w64 (a1 - u4)) u15) (affiantref1_Path_O (cutL a0 u4 (List.length a0 : Int)) (w64 (a1 - u4)) u15), b0, .asis, .call [none] [] [] true (affiantref1_Root_R (cutL a0 (0 : Int) u4) u18) (affiantref1_Root_O (cutL a0 (0 : Int) u4) u18)]) (pos := [.sel [2]]) (.c h1 (.c h1 (.c h1 (.c h1 (.c h1 (.c h2 (.c h2 (.c h2 (.c h2 (.c h3 (.c (affiantref1_half_ok (List.length a0 : Int) u4 h5) (.c h6 (.c h14 (.c (affiantref1_Path_f_ok k (cutL a0 u4 (List.length a0 : Int)) (w64 (a1 - u4)) u15 h16) (.c h17 (.c rn (.c (affiantref1_Root_ok (cutL a0 (0 : Int) u4) u18 h19) (.c h20 .n)))))))))))))))))) (by kernel_rfl)
theorem affiantref1_Path_ok (a0 : List (B8)) (a1 : Int) (u : List (B8)) (h : affiantref1_Path a0 a1 = some u) : CallC prog 83 [(.v (.slice (.slice (.int .u8))) a0), (.v (.int .i64) a1)] [] (affiantref1_Path_R a0 a1 u) (affiantref1_Path_O a0 a1 u) := affiantref1_Path_f_ok 64 a0 a1 u h
theorem can51 : Callable prog 51 := ⟨_, func51, by kernel_rfl, by kernel_rfl⟩
def affiantref1_By_R (a0 : List (B8)) (a1 : B8) (a2 : Int) (a3 : B8) (u : T8266) : Slot := (.v Y8266 u)
def affiantref1_By_O (a0 : List (B8)) (a1 : B8) (a2 : Int) (a3 : B8) (u : T8266) : List AObj := []
theorem affiantref1_By_ok (a0 : List (B8)) (a1 : B8) (a2 : Int) (a3 : B8) (u : T8266) (h : affiantref1_By a0 a1 a2 a3 = some u) : CallC prog 51 [(.v (.slice (.slice (.int .u8))) a0), (.v (.arr 32 (.int .u8)) a1), (.v (.int .i64) a2), (.v (.slice (.int .u8)) a3)] [] (affiantref1_By_R a0 a1 a2 a3 u) (affiantref1_By_O a0 a1 a2 a3 u) := by
 unfold affiantref1_By at h
 obtain ⟨u1, h2, h⟩ := andThen_some h
 obtain ⟨u3, h4, h⟩ := andThen_some h
 obtain ⟨u5, h6, h⟩ := andThen_some h
 injection h with h; subst h
 exact env.fun func51 can51 (its := [.call [none, none] [] [] true (affiantref1_seedOf_R a1 a2 u1) (affiantref1_seedOf_O a1 a2 u1), .call [none, none] [] [] false (affiantref1_Sign_R u1 a3 u3) (affiantref1_Sign_O u1 a3 u3), .call [none, none] [] [] true (affiantref1_Path_R a0 (w64 (a2 - (1 : Int))) u5) (affiantref1_Path_O a0 (w64 (a2 - (1 : Int))) u5)]) (pos := [.sel []]) (.c (affiantref1_seedOf_ok a1 a2 u1 h2) (.c (affiantref1_Sign_ok u1 a3 u3 h4) (.c (affiantref1_Path_ok a0 (w64 (a2 - (1 : Int))) u5 h6) .n))) (by kernel_rfl)
theorem can22 : Callable prog 22 := ⟨_, func22, by kernel_rfl, by kernel_rfl⟩
def affiantref10_Chain_Commit_20bb_1_in (x0 : Int) (x1 : Int) (x2 : Int) (x3 : List (Tedcc)) (x4 : List (List (T18c3))) (x5 : Unit) (x6 : List (B8)) (x7 : List (List (B8))) (x8 : List (B8)) (x9 : List (T484d)) (x10 : Tf0bc) (x11 : List (T484d)) (x12 : Unit) (x13 : List (T8f72)) (x14 : List (T484d)) (x15 : B8) : St := ⟨[(0, (.ptr 0 [])), (5, (.v (.int .i64) x0)), (6, (.ptr 5 [])), (7, (.ptr 8 [])), (103, (.own 1 [])), (104, (.v (.int .i64) x1)), (105, (.v (.int .i64) x2))], [.box Y6488 (.node (.own 1 []) (.node (.own 2 []) (.node (.own 3 []) (.node .nil (.node (.own 4 []) (.node (.v (.slice Yedcc) x3) (.node (.v (.slice (.slice Y18c3)) x4) (.v .unit x5)))))))) true, .row (.arr 32 (.int .u8)) x6 true, .row (.slice (.slice (.int .u8))) x7 true, .row .str x8 true, .row Y484d x9 true, .box Yedcc (.node (.v Yf0bc x10) (.node (.own 6 []) (.node (.v (.slice Y484d) x11) (.node (.own 7 []) (.v .unit x12))))) true, .row Y8f72 x13 true, .row Y484d x14 true, .box (.arr 32 (.int .u8)) (.v (.arr 32 (.int .u8)) x15) false], 165, 5⟩
def affiantref10_Chain_Commit_20bb_1_ex (o : Int × (List (Tedcc)) × (List (List (T18c3))) × Unit × List (B8) × List (List (B8)) × List (B8) × (List (T484d)) × (Tf0bc) × (List (T484d)) × Unit × (List (T8f72)) × List (T484d)) : Exit := (.exit 0)
def affiantref10_Chain_Commit_20bb_1_st (o : Int × (List (Tedcc)) × (List (List (T18c3))) × Unit × List (B8) × List (List (B8)) × List (B8) × (List (T484d)) × (Tf0bc) × (List (T484d)) × Unit × (List (T8f72)) × List (T484d)) : St := ⟨[(0, (.ptr 0 [])), (5, (.v (.int .i64) o.1)), (6, (.ptr 5 []))], [.box Y6488 (.node (.own 1 []) (.node (.own 2 []) (.node (.own 3 []) (.node .nil (.node (.own 4 []) (.node (.v (.slice Yedcc) o.2.1) (.node (.v (.slice (.slice Y18c3)) o.2.2.1) (.v .unit o.2.2.2.1)))))))) true, .row (.arr 32 (.int .u8)) o.2.2.2.2.1 true, .row (.slice (.slice (.int .u8))) o.2.2.2.2.2.1 true, .row .str o.2.2.2.2.2.2.1 true, .row Y484d o.2.2.2.2.2.2.2.1 true, .box Yedcc (.node (.v Yf0bc o.2.2.2.2.2.2.2.2.1) (.node (.own 6 []) (.node (.v (.slice Y484d) o.2.2.2.2.2.2.2.2.2.1) (.node (.own 7 []) (.v .unit o.2.2.2.2.2.2.2.2.2.2.1))))) true, .row Y8f72 o.2.2.2.2.2.2.2.2.2.2.2.1 true, .row Y484d o.2.2.2.2.2.2.2.2.2.2.2.2 true], 165, 5⟩
theorem affiantref10_Chain_Commit_20bb_1_body (x0 : Int) (x1 : Int) (x2 : Int) (x3 : List (Tedcc)) (x4 : List (List (T18c3))) (x5 : Unit) (x6 : List (B8)) (x7 : List (List (B8))) (x8 : List (B8)) (x9 : List (T484d)) (x10 : Tf0bc) (x11 : List (T484d)) (x12 : Unit) (x13 : List (T8f72)) (x14 : List (T484d)) (x15 : B8) : ∀ r, affiantref10_Chain_Commit_20bb_1_step x0 x1 x2 x3 x4 x5 x6 x7 x8 x9 x10 x11 x12 x13 x14 x15 = some r → (match r with | .inl s => CodeOK prog (codeAt (bodyOf f22) [1, 1, 1, 1, 1, 1, 1, 1, 1, 0, 1, 0, 0]) (affiantref10_Chain_Commit_20bb_1_in x0 x1 x2 x3 x4 x5 x6 x7 x8 x9 x10 x11 x12 x13 x14 x15) .normal (affiantref10_Chain_Commit_20bb_1_in x0 x1 s.1 x3 x4 x5 x6 x7 x8 x9 x10 x11 x12 s.2 x14 x15) | .inr o => affiantref10_Chain_Commit_20bb_1_ex o ≠ .normal ∧ CodeOK prog (codeAt (bodyOf f22) [1, 1, 1, 1, 1, 1, 1, 1, 1, 0, 1, 0, 0]) (affiantref10_Chain_Commit_20bb_1_in x0 x1 x2 x3 x4 x5 x6 x7 x8 x9 x10 x11 x12 x13 x14 x15) (affiantref10_Chain_Commit_20bb_1_ex o) (affiantref10_Chain_Commit_20bb_1_st o)) := by
 intro r h
 unfold affiantref10_Chain_Commit_20bb_1_step at h
 rcases fork_some h with ⟨h19, h⟩ | ⟨h19, h⟩
 ·obtain ⟨h20, h⟩ := need_some h
  obtain ⟨h21, h⟩ := need_some h
  obtain ⟨h22, h⟩ := need_some h
  obtain ⟨u23, h24, h⟩ := andThen_some h
  obtain ⟨h25, h⟩ := need_some h
  injection h with h; subst h
  exact env.code (its := [b1, .pre p19, b0, .asis, .call [none, none, none, none] [] [] false (affiantref1_By_R (List.getD x7 (Int.toNat x2) ([] : List (B8))) (List.getD x6 (Int.toNat x2) Z32) (w64 (x0 + (1 : Int))) x15 u23) (affiantref1_By_O (List.getD x7 (Int.toNat x2) ([] : List (B8))) (List.getD x6 (Int.toNat x2) Z32) (w64 (x0 + (1 : Int))) x15 u23), .asis, .sel [0, 5, 6, 7, 103, 104, 105] [0, 1, 2, 3, 4, 5, 11, 7, 8]]) (.c h19 (.c h20 (.c h21 (.c h22 (.c rn (.c (affiantref1_By_ok (List.getD x7 (Int.toNat x2) ([] : List (B8))) (List.getD x6 (Int.toNat x2) Z32) (w64 (x0 + (1 : Int))) x15 u23 h24) (.c h25 .n))))))) (by kernel_rfl)
 ·injection h with h; subst h
  exact ⟨by intro e; simp [affiantref10_Chain_Commit_20bb_1_ex] at e, env.code (its := [b0, .sel [0, 5, 6] [0, 1, 2, 3, 4, 5, 6, 7]]) (.c h19 .n) (by kernel_rfl)⟩
theorem affiantref10_Chain_Commit_20bb_1_ok (x0 : Int) (x1 : Int) (x2 : Int) (x3 : List (Tedcc)) (x4 : List (List (T18c3))) (x5 : Unit) (x6 : List (B8)) (x7 : List (List (B8))) (x8 : List (B8)) (x9 : List (T484d)) (x10 : Tf0bc) (x11 : List (T484d)) (x12 : Unit) (x13 : List (T8f72)) (x14 : List (T484d)) (x15 : B8) (o : Int × (List (Tedcc)) × (List (List (T18c3))) × Unit × List (B8) × List (List (B8)) × List (B8) × (List (T484d)) × (Tf0bc) × (List (T484d)) × Unit × (List (T8f72)) × List (T484d)) (h : affiantref10_Chain_Commit_20bb_1 x0 x1 x2 x3 x4 x5 x6 x7 x8 x9 x10 x11 x12 x13 x14 x15 = some o) : CodeOK prog (codeAt (bodyOf f22) [1, 1, 1, 1, 1, 1, 1, 1, 1, 0, 1, 0]) (affiantref10_Chain_Commit_20bb_1_in x0 x1 x2 x3 x4 x5 x6 x7 x8 x9 x10 x11 x12 x13 x14 x15) (affiantref10_Chain_Commit_20bb_1_ex o) (affiantref10_Chain_Commit_20bb_1_st o) :=
 LoopOK.of_step (st := fun s => affiantref10_Chain_Commit_20bb_1_in x0 x1 s.1 x3 x4 x5 x6 x7 x8 x9 x10 x11 x12 s.2 x14 x15) (ex := affiantref10_Chain_Commit_20bb_1_ex) (stO := affiantref10_Chain_Commit_20bb_1_st) (fun s s2 hs => affiantref10_Chain_Commit_20bb_1_body x0 x1 s.1 x3 x4 x5 x6 x7 x8 x9 x10 x11 x12 s.2 x14 x15 (.inl s2) hs) (fun s r hs => affiantref10_Chain_Commit_20bb_1_body x0 x1 s.1 x3 x4 x5 x6 x7 x8 x9 x10 x11 x12 s.2 x14 x15 (.inr r) hs) _ o h
def affiantref10_Chain_Commit_20bb_2_in (x0 : Int) (x1 : Int) (x2 : Int) (x3 : List (Tedcc)) (x4 : List (List (T18c3))) (x5 : Unit) (x6 : List (B8)) (x7 : List (List (B8))) (x8 : List (B8)) (x9 : List (T484d)) (x10 : Tf0bc) (x11 : Unit) (x12 : List (T8f72)) (x13 : List (T484d)) (x14 : B8) : St := ⟨[(0, (.ptr 0 [])), (5, (.v (.int .i64) x0)), (6, (.ptr 5 [])), (7, (.ptr 8 [])), (103, (.own 1 [])), (104, (.v (.int .i64) x1)), (105, (.v (.int .i64) x2))], [.box Y6488 (.node (.own 1 []) (.node (.own 2 []) (.node (.own 3 []) (.node .nil (.node (.own 4 []) (.node (.v (.slice Yedcc) x3) (.node (.v (.slice (.slice Y18c3)) x4) (.v .unit x5)))))))) true, .row (.arr 32 (.int .u8)) x6 true, .row (.slice (.slice (.int .u8))) x7 true, .row .str x8 true, .row Y484d x9 true, .box Yedcc (.node (.v Yf0bc x10) (.node (.own 6 []) (.node (.own 7 []) (.node (.own 7 []) (.v .unit x11))))) true, .row Y8f72 x12 true, .row Y484d x13 true, .box (.arr 32 (.int .u8)) (.v (.arr 32 (.int .u8)) x14) false], 165, 5⟩
def affiantref10_Chain_Commit_20bb_2_ex (o : Int × (List (Tedcc)) × (List (List (T18c3))) × Unit × List (B8) × List (List (B8)) × List (B8) × (List (T484d)) × (Tf0bc) × Unit × (List (T8f72)) × List (T484d)) : Exit := (.exit 0)
def affiantref10_Chain_Commit_20bb_2_st (o : Int × (List (Tedcc)) × (List (List (T18c3))) × Unit × List (B8) × List (List (B8)) × List (B8) × (List (T484d)) × (Tf0bc) × Unit × (List (T8f72)) × List (T484d)) : St := ⟨[(0, (.ptr 0 [])), (5, (.v (.int .i64) o.1)), (6, (.ptr 5 []))], [.box Y6488 (.node (.own 1 []) (.node (.own 2 []) (.node (.own 3 []) (.node .nil (.node (.own 4 []) (.node (.v (.slice Yedcc) o.2.1) (.node (.v (.slice (.slice Y18c3)) o.2.2.1) (.v .unit o.2.2.2.1)))))))) true, .row (.arr 32 (.int .u8)) o.2.2.2.2.1 true, .row (.slice (.slice (.int .u8))) o.2.2.2.2.2.1 true, .row .str o.2.2.2.2.2.2.1 true, .row Y484d o.2.2.2.2.2.2.2.1 true, .box Yedcc (.node (.v Yf0bc o.2.2.2.2.2.2.2.2.1) (.node (.own 6 []) (.node (.own 7 []) (.node (.own 7 []) (.v .unit o.2.2.2.2.2.2.2.2.2.1))))) true, .row Y8f72 o.2.2.2.2.2.2.2.2.2.2.1 true, .row Y484d o.2.2.2.2.2.2.2.2.2.2.2 true], 165, 5⟩
theorem affiantref10_Chain_Commit_20bb_2_body (x0 : Int) (x1 : Int) (x2 : Int) (x3 : List (Tedcc)) (x4 : List (List (T18c3))) (x5 : Unit) (x6 : List (B8)) (x7 : List (List (B8))) (x8 : List (B8)) (x9 : List (T484d)) (x10 : Tf0bc) (x11 : Unit) (x12 : List (T8f72)) (x13 : List (T484d)) (x14 : B8) : ∀ r, affiantref10_Chain_Commit_20bb_2_step x0 x1 x2 x3 x4 x5 x6 x7 x8 x9 x10 x11 x12 x13 x14 = some r → (match r with | .inl s => CodeOK prog (codeAt (bodyOf f22) [1, 1, 1, 1, 1, 1, 1, 1, 1, 0, 1, 0, 0]) (affiantref10_Chain_Commit_20bb_2_in x0 x1 x2 x3 x4 x5 x6 x7 x8 x9 x10 x11 x12 x13 x14) .normal (affiantref10_Chain_Commit_20bb_2_in x0 x1 s.1 x3 x4 x5 x6 x7 x8 x9 x10 x11 s.2 x13 x14) | .inr o => affiantref10_Chain_Commit_20bb_2_ex o ≠ .normal ∧ CodeOK prog (codeAt (bodyOf f22) [1, 1, 1, 1, 1, 1, 1, 1, 1, 0, 1, 0, 0]) (affiantref10_Chain_Commit_20bb_2_in x0 x1 x2 x3 x4 x5 x6 x7 x8 x9 x10 x11 x12 x13 x14) (affiantref10_Chain_Commit_20bb_2_ex o) (affiantref10_Chain_Commit_20bb_2_st o)) := by
 intro r h
 unfold affiantref10_Chain_Commit_20bb_2_step at h
 rcases fork_some h with ⟨h42, h⟩ | ⟨h42, h⟩
 ·obtain ⟨h43, h⟩ := need_some h
  obtain ⟨h44, h⟩ := need_some h
  obtain ⟨h45, h⟩ := need_some h
  obtain ⟨u46, h47, h⟩ := andThen_some h
  obtain ⟨h48, h⟩ := need_some h
  injection h with h; subst h
  exact env.code (its := [b1, .pre p19, b0, .asis, .call [none, none, none, none] [] [] false (affiantref1_By_R (List.getD x7 (Int.toNat x2) ([] : List (B8))) (List.getD x6 (Int.toNat x2) Z32) (w64 (x0 + (1 : Int))) x14 u46) (affiantref1_By_O (List.getD x7 (Int.toNat x2) ([] : List (B8))) (List.getD x6 (Int.toNat x2) Z32) (w64 (x0 + (1 : Int))) x14 u46), .asis, .sel [0, 5, 6, 7, 103, 104, 105] [0, 1, 2, 3, 4, 5, 11, 7, 8]]) (.c h42 (.c h43 (.c h44 (.c h45 (.c rn (.c (affiantref1_By_ok (List.getD x7 (Int.toNat x2) ([] : List (B8))) (List.getD x6 (Int.toNat x2) Z32) (w64 (x0 + (1 : Int))) x14 u46 h47) (.c h48 .n))))))) (by kernel_rfl)
 ·injection h with h; subst h
  exact ⟨by intro e; simp [affiantref10_Chain_Commit_20bb_2_ex] at e, env.code (its := [b0, .sel [0, 5, 6] [0, 1, 2, 3, 4, 5, 6, 7]]) (.c h42 .n) (by kernel_rfl)⟩
theorem affiantref10_Chain_Commit_20bb_2_ok (x0 : Int) (x1 : Int) (x2 : Int) (x3 : List (Tedcc)) (x4 : List (List (T18c3))) (x5 : Unit) (x6 : List (B8)) (x7 : List (List (B8))) (x8 : List (B8)) (x9 : List (T484d)) (x10 : Tf0bc) (x11 : Unit) (x12 : List (T8f72)) (x13 : List (T484d)) (x14 : B8) (o : Int × (List (Tedcc)) × (List (List (T18c3))) × Unit × List (B8) × List (List (B8)) × List (B8) × (List (T484d)) × (Tf0bc) × Unit × (List (T8f72)) × List (T484d)) (h : affiantref10_Chain_Commit_20bb_2 x0 x1 x2 x3 x4 x5 x6 x7 x8 x9 x10 x11 x12 x13 x14 = some o) : CodeOK prog (codeAt (bodyOf f22) [1, 1, 1, 1, 1, 1, 1, 1, 1, 0, 1, 0]) (affiantref10_Chain_Commit_20bb_2_in x0 x1 x2 x3 x4 x5 x6 x7 x8 x9 x10 x11 x12 x13 x14) (affiantref10_Chain_Commit_20bb_2_ex o) (affiantref10_Chain_Commit_20bb_2_st o) :=
 LoopOK.of_step (st := fun s => affiantref10_Chain_Commit_20bb_2_in x0 x1 s.1 x3 x4 x5 x6 x7 x8 x9 x10 x11 s.2 x13 x14) (ex := affiantref10_Chain_Commit_20bb_2_ex) (stO := affiantref10_Chain_Commit_20bb_2_st) (fun s s2 hs => affiantref10_Chain_Commit_20bb_2_body x0 x1 s.1 x3 x4 x5 x6 x7 x8 x9 x10 x11 s.2 x13 x14 (.inl s2) hs) (fun s r hs => affiantref10_Chain_Commit_20bb_2_body x0 x1 s.1 x3 x4 x5 x6 x7 x8 x9 x10 x11 s.2 x13 x14 (.inr r) hs) _ o h
def affiantref10_Chain_Commit_20bb_R (a0 : Int) (a1 : List (Tedcc)) (a2 : List (List (T18c3))) (a3 : Unit) (a4 : List (B8)) (a5 : List (List (B8))) (a6 : List (B8)) (a7 : List (T484d)) (u : Int × (List (Tedcc)) × (List (List (T18c3))) × Unit × List (B8) × List (List (B8)) × List (B8) × List (T484d)) : Slot := (.v (.int .i64) u.1)
def affiantref10_Chain_Commit_20bb_O (a0 : Int) (a1 : List (Tedcc)) (a2 : List (List (T18c3))) (a3 : Unit) (a4 : List (B8)) (a5 : List (List (B8))) (a6 : List (B8)) (a7 : List (T484d)) (u : Int × (List (Tedcc)) × (List (List (T18c3))) × Unit × List (B8) × List (List (B8)) × List (B8) × List (T484d)) : List AObj := [.box Y6488 (.node (.own 1 []) (.node (.own 2 []) (.node (.own 3 []) (.node .nil (.node (.own 4 []) (.node (.v (.slice Yedcc) u.2.1) (.node (.v (.slice (.slice Y18c3)) u.2.2.1) (.v .unit u.2.2.2.1)))))))) true, .row (.arr 32 (.int .u8)) u.2.2.2.2.1 true, .row (.slice (.slice (.int .u8))) u.2.2.2.2.2.1 true, .row .str u.2.2.2.2.2.2.1 true, .row Y484d u.2.2.2.2.2.2.2 true]
theorem affiantref10_Chain_Commit_20bb_ok (a0 : Int) (a1 : List (Tedcc)) (a2 : List (List (T18c3))) (a3 : Unit) (a4 : List (B8)) (a5 : List (List (B8))) (a6 : List (B8)) (a7 : List (T484d)) (u : Int × (List (Tedcc)) × (List (List (T18c3))) × Unit × List (B8) × List (List (B8)) × List (B8) × List (T484d)) (h : affiantref10_Chain_Commit_20bb a0 a1 a2 a3 a4 a5 a6 a7 = some u) : CallC prog 22 [(.ptr 0 []), (.v (.int .i64) a0)] [.box Y6488 (.node (.own 1 []) (.node (.own 2 []) (.node (.own 3 []) (.node .nil (.node (.own 4 []) (.node (.v (.slice Yedcc) a1) (.node (.v (.slice (.slice Y18c3)) a2) (.v .unit a3)))))))) true, .row (.arr 32 (.int .u8)) a4 true, .row (.slice (.slice (.int .u8))) a5 true, .row .str a6 true, .row Y484d a7 true] (affiantref10_Chain_Commit_20bb_R a0 a1 a2 a3 a4 a5 a6 a7 u) (affiantref10_Chain_Commit_20bb_O a0 a1 a2 a3 a4 a5 a6 a7 u) := by
 unfold affiantref10_Chain_Commit_20bb at h
 rcases fork_some h with ⟨h1, h⟩ | ⟨h1, h⟩
 ·injection h with h; subst h
  exact env.fun func22 can22 (its := [b1, b1, b1, b1, b1, b1, b1, b1, b1, b1, b1, b1]) (pos := [.sel [0, 1, 2, 3, 4]]) (.c h1 (.c h1 (.c h1 (.c r1 (.c r1 (.c r1 (.c r1 (.c r1 (.c r1 (.c r1 (.c r1 (.c r1 .n)))))))))))) (by kernel_rfl)
 ·rcases fork_some h with ⟨h2, h⟩ | ⟨h2, h⟩
  ·injection h with h; subst h
   exact env.fun func22 can22 (its := [b0, b0, b0, b1, b1, b1, b1, b1, b1, b1, b1, b1]) (pos := [.sel [0, 1, 2, 3, 4]]) (.c h1 (.c h1 (.c h1 (.c h2 (.c h2 (.c h2 (.c r1 (.c r1 (.c r1 (.c r1 (.c r1 (.c r1 .n)))))))))))) (by kernel_rfl)
  ·rcases fork_some h with ⟨h3, h⟩ | ⟨h3, h⟩
   ·injection h with h; subst h
    exact env.fun func22 can22 (its := [b0, b0, b0, b0, b0, b0, b1, b1, b1, b1, b1, b1]) (pos := [.sel [0, 1, 2, 3, 4]]) (.c h1 (.c h1 (.c h1 (.c h2 (.c h2 (.c h2 (.c h3 (.c h3 (.c h3 (.c h3 (.c h3 (.c r1 .n)))))))))))) (by kernel_rfl)
   ·rcases fork_some h with ⟨h4, h⟩ | ⟨h4, h⟩
    ·obtain ⟨h5, h⟩ := need_some h
     rcases fork_some h with ⟨h6, h⟩ | ⟨h6, h⟩
     ·injection h with h; subst h
      exact env.fun func22 can22 (its := [b0, b0, b0, b0, b0, b0, b0, b0, b0, b1, b1, b1, b1, b1, b1, b1, b1, b1, b1, b1, b1, b0, b1, b0, b1]) (pos := [.sel [0, 1, 2, 3, 4]]) (.c h1 (.c h1 (.c h1 (.c h2 (.c h2 (.c h2 (.c h3 (.c h3 (.c h3 (.c h4 (.c h4 (.c h4 (.c h4 (.c h4 (.c h4 (.c h4 (.c h4 (.c h5 (.c h4 (.c h4 (.c h4 (.c h4 (.c h3 (.c h4 (.c h3 (.c h6 .n)))))))))))))))))))))))))) (by kernel_rfl)
     ·obtain ⟨h7, h⟩ := need_some h
      obtain ⟨u8, h9, h⟩ := andThen_some h
      obtain ⟨u10, h11, h⟩ := andThen_some h
      obtain ⟨u12, h13, h⟩ := andThen_some h
      obtain ⟨u14, h15, h⟩ := andThen_some h
      obtain ⟨u16, h17, h⟩ := andThen_some h
      obtain ⟨o26, h27, h⟩ := andThen_some h
      obtain ⟨h28, h⟩ := need_some h
      obtain ⟨h29, h⟩ := need_some h
      obtain ⟨h30, h⟩ := need_some h
      obtain ⟨h31, h⟩ := need_some h
      injection h with h; subst h
      exact env.fun func22 can22 (its := [b0, b0, b0, b0, b0, b0, b0, b0, b0, b1, b1, b1, b1, b1, b1, b1, b1, b1, b1, b1, b1, b0, b1, b0, b0, .asis, .call [(some Y18c3)] [] [] true (affiantref1_StoreRoot_R ([] : List (T18c3)) u8) (affiantref1_StoreRoot_O ([] : List (T18c3)) u8), .asis, b1, .pre p20, .asis, .call [none] [] [] true (affiantref10_HeaderHash_R ((List.getD a1 (Int.toNat (w64 ((List.length a1 : Int) - (1 : Int)))) Zedcc).1) u10) (affiantref10_HeaderHash_O ((List.getD a1 (Int.toNat (w64 ((List.length a1 : Int) - (1 : Int)))) Zedcc).1) u10), .pre p21, .asis, .call [none] [] [] true (affiantref10_SetHash_R ((List.getD a1 (Int.toNat (w64 ((List.length a1 : Int) - (1 : Int)))) Zedcc).2.2.2.1) u12) (affiantref10_SetHash_O ((List.getD a1 (Int.toNat (w64 ((List.length a1 : Int) - (1 : Int)))) Zedcc).2.2.2.1) u12), .asis, .call [none] [] [0] true (affiantref10_SetHash_R (([] : List (T484d)) ++ a7) u14) (affiantref10_SetHash_O (([] : List (T484d)) ++ a7) u14), .call [none] [] [] true (affiantref10_HeaderHash_R ((w64 ((List.length a1 : Int) + (1 : Int))), a0, u8, u12, u14, u10, ()) u16) (affiantref10_HeaderHash_O ((w64 ((List.length a1 : Int) + (1 : Int))), a0, u8, u12, u14, u10, ()) u16), .dive, .promoteObj 7 [.fld 1], .freeze [8], .sel [0, 5, 6, 7, 103, 104, 105] [0, 1, 2, 3, 4, 7, 9, 6, 8], .part (affiantref10_Chain_Commit_20bb_1_ex o26) (affiantref10_Chain_Commit_20bb_1_st o26), .pre p22, .pre p23]) (pos := [.valObj 0 [.fld 5], .valObj 0 [.fld 6], .sel [0, 1, 2, 3, 4]]) (.c h1 (.c h1 (.c h1 (.c h2 (.c h2 (.c h2 (.c h3 (.c h3 (.c h3 (.c h4 (.c h4 (.c h4 (.c h4 (.c h4 (.c h4 (.c h4 (.c h4 (.c h5 (.c h4 (.c h4 (.c h4 (.c h4 (.c h3 (.c h4 (.c h3 (.c h6 (.c h7 (.c (affiantref1_StoreRoot_ok ([] : List (T18c3)) u8 h9) (.c h4 (.c h5 (.c h5 (.c rn (.c (affiantref10_HeaderHash_ok ((List.getD a1 (Int.toNat (w64 ((List.length a1 : Int) - (1 : Int)))) Zedcc).1) u10 h11) (.c rn (.c (affiantref10_SetHash_ok ((List.getD a1 (Int.toNat (w64 ((List.length a1 : Int) - (1 : Int)))) Zedcc).2.2.2.1) u12 h13) (.c (rfl : ([.row Y484d (([] : List (T484d)) ++ a7) true] : List AObj) = [.row Y484d (([] : List (T484d)) ++ a7) true]) (.c (affiantref10_SetHash_ok (([] : List (T484d)) ++ a7) u14 h15) (.c (affiantref10_HeaderHash_ok ((w64 ((List.length a1 : Int) + (1 : Int))), a0, u8, u12, u14, u10, ()) u16 h17) (.c (affiantref10_Chain_Commit_20bb_1_ok (List.length a1 : Int) (List.length a4 : Int) (0 : Int) a1 a2 a3 a4 a5 a6 a7 ((w64 ((List.length a1 : Int) + (1 : Int))), a0, u8, u12, u14, u10, ()) (List.getD a1 (Int.toNat (w64 ((List.length a1 : Int) - (1 : Int)))) Zedcc).2.2.2.1 (()) ([] : List (T8f72)) (([] : List (T484d)) ++ a7) u16 o26 h27) (.c h28 (.c h29 (.c h30 (.c h31 .n))))))))))))))))))))))))))))))))))))))))))) (by kernel_rfl)
    ·obtain ⟨h32, h⟩ := need_some h
     obtain ⟨u33, h34, h⟩ := andThen_some h
     obtain ⟨u35, h36, h⟩ := andThen_some h
     obtain ⟨u37, h38, h⟩ := andThen_some h
     obtain ⟨u39, h40, h⟩ := andThen_some h
     obtain ⟨o49, h50, h⟩ := andThen_some h
     obtain ⟨h51, h⟩ := need_some h
     obtain ⟨h52, h⟩ := need_some h
     obtain ⟨h53, h⟩ := need_some h
     obtain ⟨h54, h⟩ := need_some h
     injection h with h; subst h
     exact env.fun func22 can22 (its := [b0, b0, b0, b0, b0, b0, b0, b0, b0, b0, b0, b0, b0, b0, b0, b0, b0, b0, b0, b0, b0, b0, b0, b0, b0, .asis, .call [(some Y18c3)] [] [] true (affiantref1_StoreRoot_R ([] : List (T18c3)) u33) (affiantref1_StoreRoot_O ([] : List (T18c3)) u33), .asis, b0, .pre p21, .asis, .call [none] [] [0] true (affiantref10_SetHash_R (([] : List (T484d)) ++ a7) u35) (affiantref10_SetHash_O (([] : List (T484d)) ++ a7) u35), .asis, .call [none] [] [0] true (affiantref10_SetHash_R (([] : List (T484d)) ++ a7) u37) (affiantref10_SetHash_O (([] : List (T484d)) ++ a7) u37), .call [none] [] [] true (affiantref10_HeaderHash_R ((w64 ((List.length a1 : Int) + (1 : Int))), a0, u33, u35, u37, Z32, ()) u39) (affiantref10_HeaderHash_O ((w64 ((List.length a1 : Int) + (1 : Int))), a0, u33, u35, u37, Z32, ()) u39), .dive, .promoteObj 7 [.fld 1], .freeze [8], .sel [0, 5, 6, 7, 103, 104, 105] [0, 1, 2, 3, 4, 7, 9, 6, 8], .part (affiantref10_Chain_Commit_20bb_2_ex o49) (affiantref10_Chain_Commit_20bb_2_st o49), .pre p22, .pre p23]) (pos := [.valObj 0 [.fld 5], .valObj 0 [.fld 6], .sel [0, 1, 2, 3, 4]]) (.c h1 (.c h1 (.c h1 (.c h2 (.c h2 (.c h2 (.c h3 (.c h3 (.c h3 (.c h4 (.c h4 (.c h4 (.c h4 (.c h4 (.c h4 (.c h4 (.c h4 (.c h4 (.c h4 (.c h4 (.c h4 (.c h3 (.c h4 (.c h3 (.c r0 (.c h32 (.c (affiantref1_StoreRoot_ok ([] : List (T18c3)) u33 h34) (.c h4 (.c (rfl : ([.row Y484d (([] : List (T484d)) ++ a7) true] : List AObj) = [.row Y484d (([] : List (T484d)) ++ a7) true]) (.c (affiantref10_SetHash_ok (([] : List (T484d)) ++ a7) u35 h36) (.c (rfl : ([.row Y484d (([] : List (T484d)) ++ a7) true] : List AObj) = [.row Y484d (([] : List (T484d)) ++ a7) true]) (.c (affiantref10_SetHash_ok (([] : List (T484d)) ++ a7) u37 h38) (.c (affiantref10_HeaderHash_ok ((w64 ((List.length a1 : Int) + (1 : Int))), a0, u33, u35, u37, Z32, ()) u39 h40) (.c (affiantref10_Chain_Commit_20bb_2_ok (List.length a1 : Int) (List.length a4 : Int) (0 : Int) a1 a2 a3 a4 a5 a6 a7 ((w64 ((List.length a1 : Int) + (1 : Int))), a0, u33, u35, u37, Z32, ()) (()) ([] : List (T8f72)) (([] : List (T484d)) ++ a7) u39 o49 h50) (.c h51 (.c h52 (.c h53 (.c h54 .n)))))))))))))))))))))))))))))))))))))) (by kernel_rfl)
theorem can52 : Callable prog 52 := ⟨_, func52, by kernel_rfl, by kernel_rfl⟩
def head_Right_R (a0 : Tf0bc) (u : Bool) : Slot := (.v .bool u)
def head_Right_O (a0 : Tf0bc) (u : Bool) : List AObj := []
theorem head_Right_ok (a0 : Tf0bc) (u : Bool) (h : head_Right a0 = some u) : CallC prog 52 [(.v Yf0bc a0)] [] (head_Right_R a0 u) (head_Right_O a0 u) := by
 unfold head_Right at h
 rcases fork_some h with ⟨h1, h⟩ | ⟨h1, h⟩
 ·rcases fork_some h with ⟨h2, h⟩ | ⟨h2, h⟩
  ·rcases fork_some h with ⟨h3, h⟩ | ⟨h3, h⟩
   ·injection h with h; subst h
    exact env.fun func52 can52 (its := [b1, b1, b1, b1, b1, b1, b1, b1, b1, b1, b1, b1]) (pos := [.sel []]) (.c h1 (.c h1 (.c h1 (.c h1 (.c h2 (.c h2 (.c h2 (.c h2 (.c h3 (.c h3 (.c h3 (.c h3 .n)))))))))))) (by kernel_rfl)
   ·injection h with h; subst h
    exact env.fun func52 can52 (its := [b1, b1, b1, b1, b1, b1, b1, b1, b0, b0, b0, b0]) (pos := [.sel []]) (.c h1 (.c h1 (.c h1 (.c h1 (.c h2 (.c h2 (.c h2 (.c h2 (.c h3 (.c h3 (.c h3 (.c h3 .n)))))))))))) (by kernel_rfl)
  ·injection h with h; subst h
   exact env.fun func52 can52 (its := [b1, b1, b1, b1, b0, b0, b0, b0, b0, b0, b0, b0]) (pos := [.sel []]) (.c h1 (.c h1 (.c h1 (.c h1 (.c h2 (.c h2 (.c h2 (.c h2 (.c r0 (.c r0 (.c r0 (.c r0 .n)))))))))))) (by kernel_rfl)
 ·injection h with h; subst h
  exact env.fun func52 can52 (its := [b0, b0, b0, b0, b0, b0, b0, b0, b0, b0, b0, b0]) (pos := [.sel []]) (.c h1 (.c h1 (.c h1 (.c h1 (.c r0 (.c r0 (.c r0 (.c r0 (.c r0 (.c r0 (.c r0 (.c r0 .n)))))))))))) (by kernel_rfl)
theorem can84 : Callable prog 84 := ⟨_, func84, by kernel_rfl, by kernel_rfl⟩
def vals_may_R (a0 : T484d) (u : Bool) : Slot := (.v .bool u)
def vals_may_O (a0 : T484d) (u : Bool) : List AObj := []
theorem vals_may_ok (a0 : T484d) (u : Bool) (h : vals_may a0 = some u) : CallC prog 84 [(.v Y484d a0)] [] (vals_may_R a0 u) (vals_may_O a0 u) := by
 unfold vals_may at h
 rcases fork_some h with ⟨h1, h⟩ | ⟨h1, h⟩
 ·rcases fork_some h with ⟨h2, h⟩ | ⟨h2, h⟩
  ·rcases fork_some h with ⟨h3, h⟩ | ⟨h3, h⟩
   ·injection h with h; subst h
    exact env.fun func84 can84 (its := [b1, b1, b1, b1, b1, b1, b1, b1, b1, b1, b1, b1, b1]) (pos := [.sel []]) (.c h1 (.c h1 (.c h1 (.c h1 (.c h1 (.c h2 (.c h2 (.c h2 (.c h2 (.c h3 (.c h3 (.c h3 (.c h3 .n))))))))))))) (by kernel_rfl)
   ·injection h with h; subst h
    exact env.fun func84 can84 (its := [b1, b1, b1, b1, b1, b1, b1, b1, b1, b0, b0, b0, b0]) (pos := [.sel []]) (.c h1 (.c h1 (.c h1 (.c h1 (.c h1 (.c h2 (.c h2 (.c h2 (.c h2 (.c h3 (.c h3 (.c h3 (.c h3 .n))))))))))))) (by kernel_rfl)
  ·injection h with h; subst h
   exact env.fun func84 can84 (its := [b1, b1, b1, b1, b1, b0, b0, b0, b0, b0, b0, b0, b0]) (pos := [.sel []]) (.c h1 (.c h1 (.c h1 (.c h1 (.c h1 (.c h2 (.c h2 (.c h2 (.c h2 (.c r0 (.c r0 (.c r0 (.c r0 .n))))))))))))) (by kernel_rfl)
 ·injection h with h; subst h
  exact env.fun func84 can84 (its := [b0, b0, b0, b0, b0, b0, b0, b0, b0, b0, b0, b0, b0]) (pos := [.sel []]) (.c h1 (.c h1 (.c h1 (.c h1 (.c h1 (.c r0 (.c r0 (.c r0 (.c r0 (.c r0 (.c r0 (.c r0 (.c r0 .n))))))))))))) (by kernel_rfl)
theorem can53 : Callable prog 53 := ⟨_, func53, by kernel_rfl, by kernel_rfl⟩
def vals_Right_1_in (x0 : List (T484d)) (x1 : List (T484d)) (x2 : Int) (x3 : Int) : St := ⟨[(0, (.v (.slice Y484d) x0)), (5, (.v (.slice Y484d) x1)), (6, (.v (.int .i64) x2)), (7, (.v (.int .i64) x3))], [], 39, 0⟩
def vals_Right_1_ex (o : (Bool) ⊕ (List (T484d))) : Exit := match o with | (.inl o) => .ret | (.inr o) => (.exit 0)
def vals_Right_1_st (o : (Bool) ⊕ (List (T484d))) : St := match o with | (.inl o) => ⟨[(2, (.v .bool o))], [], 39, 0⟩ | (.inr o) => ⟨[(0, (.v (.slice Y484d) o))], [], 39, 0⟩
theorem vals_Right_1_body (x0 : List (T484d)) (x1 : List (T484d)) (x2 : Int) (x3 : Int) : ∀ r, vals_Right_1_step x0 x1 x2 x3 = some r → (match r with | .inl s => CodeOK prog (codeAt (bodyOf f53) [1, 0, 1, 0, 0]) (vals_Right_1_in x0 x1 x2 x3) .normal (vals_Right_1_in x0 x1 x2 s) | .inr o => vals_Right_1_ex o ≠ .normal ∧ CodeOK prog (codeAt (bodyOf f53) [1, 0, 1, 0, 0]) (vals_Right_1_in x0 x1 x2 x3) (vals_Right_1_ex o) (vals_Right_1_st o)) := by
 intro r h
 unfold vals_Right_1_step at h
 rcases fork_some h with ⟨h2, h⟩ | ⟨h2, h⟩
 ·obtain ⟨h3, h⟩ := need_some h
  obtain ⟨u4, h5, h⟩ := andThen_some h
  rcases fork_some h with ⟨h6, h⟩ | ⟨h6, h⟩
  ·injection h with h; subst h
   exact ⟨by intro e; simp [vals_Right_1_ex] at e, env.code (its := [b1, .pre p24, .asis, .call [none] [] [] true (vals_may_R (List.getD x1 (Int.toNat x3) Z484d) u4) (vals_may_O (List.getD x1 (Int.toNat x3) Z484d) u4), b1, b1, b1, b1, b1, b1, .sel [2] []]) (.c h2 (.c h3 (.c rn (.c (vals_may_ok (List.getD x1 (Int.toNat x3) Z484d) u4 h5) (.c h6 (.c h6 (.c h6 (.c h6 (.c h6 (.c r1 .n)))))))))) (by kernel_rfl)⟩
  ·rcases fork_some h with ⟨h7, h⟩ | ⟨h7, h⟩
   ·obtain ⟨h8, h⟩ := need_some h
    rcases fork_some h with ⟨h9, h⟩ | ⟨h9, h⟩
    ·injection h with h; subst h
     exact ⟨by intro e; simp [vals_Right_1_ex] at e, env.code (its := [b1, .pre p24, .asis, .call [none] [] [] true (vals_may_R (List.getD x1 (Int.toNat x3) Z484d) u4) (vals_may_O (List.getD x1 (Int.toNat x3) Z484d) u4), b0, b0, b0, b1, b1, b1, b1, b1, b1, b1, b1, b1, b0, b1, b0, b1, .sel [2] []]) (.c h2 (.c h3 (.c rn (.c (vals_may_ok (List.getD x1 (Int.toNat x3) Z484d) u4 h5) (.c h6 (.c h6 (.c h6 (.c h7 (.c h7 (.c h7 (.c h7 (.c h8 (.c h7 (.c h7 (.c h7 (.c h7 (.c h7 (.c h6 (.c h7 (.c h6 (.c h9 .n))))))))))))))))))))) (by kernel_rfl)⟩
    ·injection h with h; subst h
     exact env.code (its := [b1, .pre p24, .asis, .call [none] [] [] true (vals_may_R (List.getD x1 (Int.toNat x3) Z484d) u4) (vals_may_O (List.getD x1 (Int.toNat x3) Z484d) u4), b0, b0, b0, b1, b1, b1, b1, b1, b1, b1, b1, b1, b0, b1, b0, b0, .sel [0, 5, 6, 7] []]) (.c h2 (.c h3 (.c rn (.c (vals_may_ok (List.getD x1 (Int.toNat x3) Z484d) u4 h5) (.c h6 (.c h6 (.c h6 (.c h7 (.c h7 (.c h7 (.c h7 (.c h8 (.c h7 (.c h7 (.c h7 (.c h7 (.c h7 (.c h6 (.c h7 (.c h6 (.c h9 .n))))))))))))))))))))) (by kernel_rfl)
   ·injection h with h; subst h
    exact env.code (its := [b1, .pre p24, .asis, .call [none] [] [] true (vals_may_R (List.getD x1 (Int.toNat x3) Z484d) u4) (vals_may_O (List.getD x1 (Int.toNat x3) Z484d) u4), b0, b0, b0, b0, b0, b0, b0, b0, b0, b0, b0, b0, b0, b0, b0, b0, .sel [0, 5, 6, 7] []]) (.c h2 (.c h3 (.c rn (.c (vals_may_ok (List.getD x1 (Int.toNat x3) Z484d) u4 h5) (.c h6 (.c h6 (.c h6 (.c h7 (.c h7 (.c h7 (.c h7 (.c h7 (.c h7 (.c h7 (.c h7 (.c h7 (.c h6 (.c h7 (.c h6 (.c r0 .n)))))))))))))))))))) (by kernel_rfl)
 ·injection h with h; subst h
  exact ⟨by intro e; simp [vals_Right_1_ex] at e, env.code (its := [b0, .sel [0] []]) (.c h2 .n) (by kernel_rfl)⟩
theorem vals_Right_1_ok (x0 : List (T484d)) (x1 : List (T484d)) (x2 : Int) (x3 : Int) (o : (Bool) ⊕ (List (T484d))) (h : vals_Right_1 x0 x1 x2 x3 = some o) : CodeOK prog (codeAt (bodyOf f53) [1, 0, 1, 0]) (vals_Right_1_in x0 x1 x2 x3) (vals_Right_1_ex o) (vals_Right_1_st o) :=
 LoopOK.of_step (st := fun s => vals_Right_1_in x0 x1 x2 s) (ex := vals_Right_1_ex) (stO := vals_Right_1_st) (fun s s2 hs => vals_Right_1_body x0 x1 x2 s (.inl s2) hs) (fun s r hs => vals_Right_1_body x0 x1 x2 s (.inr r) hs) _ o h
def vals_Right_R (a0 : List (T484d)) (u : Bool) : Slot := (.v .bool u)
def vals_Right_O (a0 : List (T484d)) (u : Bool) : List AObj := []
theorem vals_Right_ok (a0 : List (T484d)) (u : Bool) (h : vals_Right a0 = some u) : CallC prog 53 [(.v (.slice Y484d) a0)] [] (vals_Right_R a0 u) (vals_Right_O a0 u) := by
 unfold vals_Right at h
 obtain ⟨o10, h11, h⟩ := andThen_some h
 rcases o10 with o12 | o13
 ·injection h with h; subst h
  exact env.fun func53 can53 (its := [.dive, .sel [0, 5, 6, 7] [], .part (vals_Right_1_ex (.inl o12)) (vals_Right_1_st (.inl o12))]) (pos := [.sel []]) (.c (vals_Right_1_ok a0 a0 (List.length a0 : Int) (0 : Int) (.inl o12) h11) .n) (by kernel_rfl)
 ·rcases fork_some h with ⟨h14, h⟩ | ⟨h14, h⟩
  ·injection h with h; subst h
   exact env.fun func53 can53 (its := [.dive, .sel [0, 5, 6, 7] [], .part (vals_Right_1_ex (.inr o13)) (vals_Right_1_st (.inr o13)), b1, b1, b1, b1]) (pos := [.sel []]) (.c (vals_Right_1_ok a0 a0 (List.length a0 : Int) (0 : Int) (.inr o13) h11) (.c h14 (.c h14 (.c h14 (.c h14 .n))))) (by kernel_rfl)
  ·injection h with h; subst h
   exact env.fun func53 can53 (its := [.dive, .sel [0, 5, 6, 7] [], .part (vals_Right_1_ex (.inr o13)) (vals_Right_1_st (.inr o13)), b0, b0, b0, b0]) (pos := [.sel []]) (.c (vals_Right_1_ok a0 a0 (List.length a0 : Int) (0 : Int) (.inr o13) h11) (.c h14 (.c h14 (.c h14 (.c h14 .n))))) (by kernel_rfl)
theorem can110 : Callable prog 110 := ⟨_, func110, by kernel_rfl, by kernel_rfl⟩
def vint_one_1_in (x0 : Int) (x1 : B8) : St := ⟨[(0, (.v (.int .i64) x0)), (3, (.own 0 []))], [.row (.int .u8) x1 true], 26, 0⟩
def vint_one_1_ex (o : Int × B8) : Exit := (.exit 0)
def vint_one_1_st (o : Int × B8) : St := ⟨[(0, (.v (.int .i64) o.1)), (3, (.own 0 []))], [.row (.int .u8) o.2 true], 26, 0⟩
theorem vint_one_1_body (x0 : Int) (x1 : B8) : ∀ r, vint_one_1_step x0 x1 = some r → (match r with | .inl s => CodeOK prog (codeAt (bodyOf f110) [1, 1, 1, 0, 0, 0]) (vint_one_1_in x0 x1) .normal (vint_one_1_in s.1 s.2) | .inr o => vint_one_1_ex o ≠ .normal ∧ CodeOK prog (codeAt (bodyOf f110) [1, 1, 1, 0, 0, 0]) (vint_one_1_in x0 x1) (vint_one_1_ex o) (vint_one_1_st o)) := by
 intro r h
 unfold vint_one_1_step at h
 rcases fork_some h with ⟨h4, h⟩ | ⟨h4, h⟩
 ·obtain ⟨h5, h⟩ := need_some h
  injection h with h; subst h
  exact env.code (its := [b1, .dive, .sel [0, 3] [2]]) (.c h4 (.c h5 (.c (of_decide_eq_true (p := (0 ≤ (7 : Int))) (by kernel_rfl)) .n))) (by kernel_rfl)
 ·injection h with h; subst h
  exact ⟨by intro e; simp [vint_one_1_ex] at e, env.code (its := [b0, .sel [0, 3] [0]]) (.c h4 .n) (by kernel_rfl)⟩
theorem vint_one_1_ok (x0 : Int) (x1 : B8) (o : Int × B8) (h : vint_one_1 x0 x1 = some o) : CodeOK prog (codeAt (bodyOf f110) [1, 1, 1, 0, 0]) (vint_one_1_in x0 x1) (vint_one_1_ex o) (vint_one_1_st o) :=
 LoopOK.of_step (st := fun s => vint_one_1_in s.1 s.2) (ex := vint_one_1_ex) (stO := vint_one_1_st) (fun s s2 hs => vint_one_1_body s.1 s.2 (.inl s2) hs) (fun s r hs => vint_one_1_body s.1 s.2 (.inr r) hs) _ o h
def vint_one_R (a0 : Int) (u : B8) : Slot := (.own 0 [])
def vint_one_O (a0 : Int) (u : B8) : List AObj := [.row (.int .u8) u true]
theorem vint_one_ok (a0 : Int) (u : B8) (h : vint_one a0 = some u) : CallC prog 110 [(.v (.int .i64) a0)] [] (vint_one_R a0 u) (vint_one_O a0 u) := by
 unfold vint_one at h
 rcases fork_some h with ⟨h1, h⟩ | ⟨h1, h⟩
 ·injection h with h; subst h
  exact env.fun func110 can110 (its := [b1, b1, b1, b1]) (pos := [.promote (.int .u8), .sel [0]]) (.c h1 (.c h1 (.c h1 (.c r1 .n)))) (by kernel_rfl)
 ·rcases fork_some h with ⟨h2, h⟩ | ⟨h2, h⟩
  ·injection h with h; subst h
   exact env.fun func110 can110 (its := [b0, b0, b0, b1]) (pos := [.promote (.int .u8), .sel [0]]) (.c h1 (.c h1 (.c h1 (.c h2 .n)))) (by kernel_rfl)
  ·obtain ⟨o6, h7, h⟩ := andThen_some h
   obtain ⟨h8, h⟩ := need_some h
   injection h with h; subst h
   exact env.fun func110 can110 (its := [b0, b0, b0, b0, .dive, .promote 3 (.int .u8), .sel [0, 3] [0], .part (vint_one_1_ex o6) (vint_one_1_st o6)]) (pos := [.sel [2]]) (.c h1 (.c h1 (.c h1 (.c h2 (.c (vint_one_1_ok a0 ([] : List (UInt8)) o6 h7) (.c h8 .n)))))) (by kernel_rfl)
theorem can85 : Callable prog 85 := ⟨_, func85, by kernel_rfl, by kernel_rfl⟩
def vint_Put_1_in (x0 : List Int) (x1 : Int) (x2 : Int) (x3 : B8) : St := ⟨[(3, (.own 0 [])), (6, (.v (.slice (.int .i64)) x0)), (7, (.v (.int .i64) x1)), (8, (.v (.int .i64) x2))], [.row (.int .u8) x3 true], 18, 0⟩
def vint_Put_1_ex (o : B8) : Exit := (.exit 0)
def vint_Put_1_st (o : B8) : St := ⟨[(3, (.own 0 []))], [.row (.int .u8) o true], 18, 0⟩
theorem vint_Put_1_body (x0 : List Int) (x1 : Int) (x2 : Int) (x3 : B8) : ∀ r, vint_Put_1_step x0 x1 x2 x3 = some r → (match r with | .inl s => CodeOK prog (codeAt (bodyOf f85) [1, 1, 0, 1, 0, 0]) (vint_Put_1_in x0 x1 x2 x3) .normal (vint_Put_1_in x0 x1 s.1 s.2) | .inr o => vint_Put_1_ex o ≠ .normal ∧ CodeOK prog (codeAt (bodyOf f85) [1, 1, 0, 1, 0, 0]) (vint_Put_1_in x0 x1 x2 x3) (vint_Put_1_ex o) (vint_Put_1_st o)) := by
 intro r h
 unfold vint_Put_1_step at h
 rcases fork_some h with ⟨h2, h⟩ | ⟨h2, h⟩
 ·obtain ⟨h3, h⟩ := need_some h
  obtain ⟨u4, h5, h⟩ := andThen_some h
  obtain ⟨h6, h⟩ := need_some h
  injection h with h; subst h
  exact env.code (its := [b1, .call [none] [] [] true (vint_one_R (List.getD x0 (Int.toNat x2) (0 : Int)) u4) (vint_one_O (List.getD x0 (Int.toNat x2) (0 : Int)) u4), .sel [3, 6, 7, 8] [2]]) (.c h2 (.c h3 (.c (vint_one_ok (List.getD x0 (Int.toNat x2) (0 : Int)) u4 h5) (.c h6 .n)))) (by kernel_rfl)
 ·injection h with h; subst h
  exact ⟨by intro e; simp [vint_Put_1_ex] at e, env.code (its := [b0, .sel [3] [0]]) (.c h2 .n) (by kernel_rfl)⟩
theorem vint_Put_1_ok (x0 : List Int) (x1 : Int) (x2 : Int) (x3 : B8) (o : B8) (h : vint_Put_1 x0 x1 x2 x3 = some o) : CodeOK prog (codeAt (bodyOf f85) [1, 1, 0, 1, 0]) (vint_Put_1_in x0 x1 x2 x3) (vint_Put_1_ex o) (vint_Put_1_st o) :=
 LoopOK.of_step (st := fun s => vint_Put_1_in x0 x1 s.1 s.2) (ex := vint_Put_1_ex) (stO := vint_Put_1_st) (fun s s2 hs => vint_Put_1_body x0 x1 s.1 s.2 (.inl s2) hs) (fun s r hs => vint_Put_1_body x0 x1 s.1 s.2 (.inr r) hs) _ o h
def vint_Put_R (a0 : List Int) (u : B8) : Slot := (.own 0 [])
def vint_Put_O (a0 : List Int) (u : B8) : List AObj := [.row (.int .u8) u true]
theorem vint_Put_ok (a0 : List Int) (u : B8) (h : vint_Put a0 = some u) : CallC prog 85 [(.v (.slice (.int .i64)) a0)] [] (vint_Put_R a0 u) (vint_Put_O a0 u) := by
 unfold vint_Put at h
 obtain ⟨o7, h8, h⟩ := andThen_some h
 injection h with h; subst h
 exact env.fun func85 can85 (its := [.dive, .promote 3 (.int .u8), .sel [3, 6, 7, 8] [0], .part (vint_Put_1_ex o7) (vint_Put_1_st o7)]) (pos := [.sel [0]]) (.c (vint_Put_1_ok a0 (List.length a0 : Int) (0 : Int) ([] : List (UInt8)) o7 h8) .n) (by kernel_rfl)
theorem can87 : Callable prog 87 := ⟨_, func87, by kernel_rfl, by kernel_rfl⟩
def vint_Text_1_in (x0 : List (B8)) (x1 : Int) (x2 : Int) (x3 : B8) : St := ⟨[(3, (.own 0 [])), (6, (.v (.slice .str) x0)), (7, (.v (.int .i64) x1)), (8, (.v (.int .i64) x2))], [.row (.int .u8) x3 true], 21, 0⟩
def vint_Text_1_ex (o : B8) : Exit := (.exit 0)
def vint_Text_1_st (o : B8) : St := ⟨[(3, (.own 0 []))], [.row (.int .u8) o true], 21, 0⟩
theorem vint_Text_1_body (x0 : List (B8)) (x1 : Int) (x2 : Int) (x3 : B8) : ∀ r, vint_Text_1_step x0 x1 x2 x3 = some r → (match r with | .inl s => CodeOK prog (codeAt (bodyOf f87) [1, 1, 0, 1, 0, 0]) (vint_Text_1_in x0 x1 x2 x3) .normal (vint_Text_1_in x0 x1 s.1 s.2) | .inr o => vint_Text_1_ex o ≠ .normal ∧ CodeOK prog (codeAt (bodyOf f87) [1, 1, 0, 1, 0, 0]) (vint_Text_1_in x0 x1 x2 x3) (vint_Text_1_ex o) (vint_Text_1_st o)) := by
 intro r h
 unfold vint_Text_1_step at h
 rcases fork_some h with ⟨h2, h⟩ | ⟨h2, h⟩
 ·obtain ⟨h3, h⟩ := need_some h
  obtain ⟨u4, h5, h⟩ := andThen_some h
  obtain ⟨h6, h⟩ := need_some h
  obtain ⟨h7, h⟩ := need_some h
  injection h with h; subst h
  exact env.code (its := [b1, .call [none] [] [] true (vint_one_R (List.length (List.getD x0 (Int.toNat x2) ([] : B8)) : Int) u4) (vint_one_O (List.length (List.getD x0 (Int.toNat x2) ([] : B8)) : Int) u4), .sel [3, 6, 7, 8] [3]]) (.c h2 (.c h3 (.c (vint_one_ok (List.length (List.getD x0 (Int.toNat x2) ([] : B8)) : Int) u4 h5) (.c h6 (.c h7 .n))))) (by kernel_rfl)
 ·injection h with h; subst h
  exact ⟨by intro e; simp [vint_Text_1_ex] at e, env.code (its := [b0, .sel [3] [0]]) (.c h2 .n) (by kernel_rfl)⟩
theorem vint_Text_1_ok (x0 : List (B8)) (x1 : Int) (x2 : Int) (x3 : B8) (o : B8) (h : vint_Text_1 x0 x1 x2 x3 = some o) : CodeOK prog (codeAt (bodyOf f87) [1, 1, 0, 1, 0]) (vint_Text_1_in x0 x1 x2 x3) (vint_Text_1_ex o) (vint_Text_1_st o) :=
 LoopOK.of_step (st := fun s => vint_Text_1_in x0 x1 s.1 s.2) (ex := vint_Text_1_ex) (stO := vint_Text_1_st) (fun s s2 hs => vint_Text_1_body x0 x1 s.1 s.2 (.inl s2) hs) (fun s r hs => vint_Text_1_body x0 x1 s.1 s.2 (.inr r) hs) _ o h
def vint_Text_R (a0 : List (B8)) (u : B8) : Slot := (.own 0 [])
def vint_Text_O (a0 : List (B8)) (u : B8) : List AObj := [.row (.int .u8) u true]
theorem vint_Text_ok (a0 : List (B8)) (u : B8) (h : vint_Text a0 = some u) : CallC prog 87 [(.v (.slice .str) a0)] [] (vint_Text_R a0 u) (vint_Text_O a0 u) := by
 unfold vint_Text at h
 obtain ⟨o8, h9, h⟩ := andThen_some h
 injection h with h; subst h
 exact env.fun func87 can87 (its := [.dive, .promote 3 (.int .u8), .sel [3, 6, 7, 8] [0], .part (vint_Text_1_ex o8) (vint_Text_1_st o8)]) (pos := [.sel [0]]) (.c (vint_Text_1_ok a0 (List.length a0 : Int) (0 : Int) ([] : List (UInt8)) o8 h9) .n) (by kernel_rfl)
theorem can88 : Callable prog 88 := ⟨_, func88, by kernel_rfl, by kernel_rfl⟩
def vint_Hash_1_in (x0 : List (B8)) (x1 : Int) (x2 : Int) (x3 : B8) : St := ⟨[(3, (.own 0 [])), (6, (.v (.slice (.arr 32 (.int .u8))) x0)), (7, (.v (.int .i64) x1)), (8, (.v (.int .i64) x2))], [.row (.int .u8) x3 true], 17, 0⟩
def vint_Hash_1_ex (o : B8) : Exit := (.exit 0)
def vint_Hash_1_st (o : B8) : St := ⟨[(3, (.own 0 []))], [.row (.int .u8) o true], 17, 0⟩
theorem vint_Hash_1_body (x0 : List (B8)) (x1 : Int) (x2 : Int) (x3 : B8) : ∀ r, vint_Hash_1_step x0 x1 x2 x3 = some r → (match r with | .inl s => CodeOK prog (codeAt (bodyOf f88) [1, 1, 0, 1, 0, 0]) (vint_Hash_1_in x0 x1 x2 x3) .normal (vint_Hash_1_in x0 x1 s.1 s.2) | .inr o => vint_Hash_1_ex o ≠ .normal ∧ CodeOK prog (codeAt (bodyOf f88) [1, 1, 0, 1, 0, 0]) (vint_Hash_1_in x0 x1 x2 x3) (vint_Hash_1_ex o) (vint_Hash_1_st o)) := by
 intro r h
 unfold vint_Hash_1_step at h
 rcases fork_some h with ⟨h2, h⟩ | ⟨h2, h⟩
 ·obtain ⟨h3, h⟩ := need_some h
  obtain ⟨h4, h⟩ := need_some h
  injection h with h; subst h
  exact env.code (its := [b1, b1, .sel [3, 6, 7, 8] [2]]) (.c h2 (.c h3 (.c h4 .n))) (by kernel_rfl)
 ·injection h with h; subst h
  exact ⟨by intro e; simp [vint_Hash_1_ex] at e, env.code (its := [b0, .sel [3] [0]]) (.c h2 .n) (by kernel_rfl)⟩
theorem vint_Hash_1_ok (x0 : List (B8)) (x1 : Int) (x2 : Int) (x3 : B8) (o : B8) (h : vint_Hash_1 x0 x1 x2 x3 = some o) : CodeOK prog (codeAt (bodyOf f88) [1, 1, 0, 1, 0]) (vint_Hash_1_in x0 x1 x2 x3) (vint_Hash_1_ex o) (vint_Hash_1_st o) :=
 LoopOK.of_step (st := fun s => vint_Hash_1_in x0 x1 s.1 s.2) (ex := vint_Hash_1_ex) (stO := vint_Hash_1_st) (fun s s2 hs => vint_Hash_1_body x0 x1 s.1 s.2 (.inl s2) hs) (fun s r hs => vint_Hash_1_body x0 x1 s.1 s.2 (.inr r) hs) _ o h
def vint_Hash_R (a0 : List (B8)) (u : B8) : Slot := (.own 0 [])
def vint_Hash_O (a0 : List (B8)) (u : B8) : List AObj := [.row (.int .u8) u true]
theorem vint_Hash_ok (a0 : List (B8)) (u : B8) (h : vint_Hash a0 = some u) : CallC prog 88 [(.v (.slice (.arr 32 (.int .u8))) a0)] [] (vint_Hash_R a0 u) (vint_Hash_O a0 u) := by
 unfold vint_Hash at h
 obtain ⟨o5, h6, h⟩ := andThen_some h
 injection h with h; subst h
 exact env.fun func88 can88 (its := [.dive, .promote 3 (.int .u8), .sel [3, 6, 7, 8] [0], .part (vint_Hash_1_ex o5) (vint_Hash_1_st o5)]) (pos := [.sel [0]]) (.c (vint_Hash_1_ok a0 (List.length a0 : Int) (0 : Int) ([] : List (UInt8)) o5 h6) .n) (by kernel_rfl)
theorem can111 : Callable prog 111 := ⟨_, func111, by kernel_rfl, by kernel_rfl⟩
def slices_Grow_Lbyte_byte_f4c0_R (a0 : Int) (u : B8) : Slot := (.own 0 [])
def slices_Grow_Lbyte_byte_f4c0_O (a0 : Int) (u : B8) : List AObj := [.row (.int .u8) u true]
theorem slices_Grow_Lbyte_byte_f4c0_ok (a0 : Int) (u : B8) (h : slices_Grow_Lbyte_byte_f4c0 a0 = some u) : CallC prog 111 [.nil, (.v (.int .i64) a0)] [] (slices_Grow_Lbyte_byte_f4c0_R a0 u) (slices_Grow_Lbyte_byte_f4c0_O a0 u) := by
 unfold slices_Grow_Lbyte_byte_f4c0 at h
 rcases fork_some h with ⟨h1, h⟩ | ⟨h1, h⟩
 ·cases h
 ·rcases fork_some h with ⟨h2, h⟩ | ⟨h2, h⟩
  ·obtain ⟨h3, h⟩ := need_some h
   obtain ⟨h4, h⟩ := need_some h
   obtain ⟨h5, h⟩ := need_some h
   obtain ⟨h6, h⟩ := need_some h
   injection h with h; subst h
   exact env.fun func111 can111 (its := [b0, b1, b1, b1]) (pos := [.sel [1]]) (.c h1 (.c h2 (.c h3 (.c h4 (.c h5 (.c h6 .n)))))) (by kernel_rfl)
  ·injection h with h; subst h
   exact env.fun func111 can111 (its := [b0, b0]) (pos := [.promote (.int .u8), .sel [0]]) (.c h1 (.c h2 .n)) (by kernel_rfl)
theorem can86 : Callable prog 86 := ⟨_, func86, by kernel_rfl, by kernel_rfl⟩
def slices_Concat_Lbyte_byte_1_in (x0 : List (B8)) (x1 : Int) (x2 : List (B8)) (x3 : Int) (x4 : Int) : St := ⟨[(0, (.v (.slice (.slice (.int .u8))) x0)), (3, (.v (.int .i64) x1)), (9, (.v (.slice (.slice (.int .u8))) x2)), (10, (.v (.int .i64) x3)), (11, (.v (.int .i64) x4))], [], 36, 0⟩
def slices_Concat_Lbyte_byte_1_ex (o : List (B8) × Int) : Exit := (.exit 0)
def slices_Concat_Lbyte_byte_1_st (o : List (B8) × Int) : St := ⟨[(0, (.v (.slice (.slice (.int .u8))) o.1)), (3, (.v (.int .i64) o.2))], [], 36, 0⟩
theorem slices_Concat_Lbyte_byte_1_body (x0 : List (B8)) (x1 : Int) (x2 : List (B8)) (x3 : Int) (x4 : Int) : ∀ r, slices_Concat_Lbyte_byte_1_step x0 x1 x2 x3 x4 = some r → (match r with | .inl s => CodeOK prog (codeAt (bodyOf f86) [1, 1, 0, 1, 0, 0]) (slices_Concat_Lbyte_byte_1_in x0 x1 x2 x3 x4) .normal (slices_Concat_Lbyte_byte_1_in x0 s.1 x2 x3 s.2) | .inr o => slices_Concat_Lbyte_byte_1_ex o ≠ .normal ∧ CodeOK prog (codeAt (bodyOf f86) [1, 1, 0, 1, 0, 0]) (slices_Concat_Lbyte_byte_1_in x0 x1 x2 x3 x4) (slices_Concat_Lbyte_byte_1_ex o) (slices_Concat_Lbyte_byte_1_st o)) := by
 intro r h
 unfold slices_Concat_Lbyte_byte_1_step at h
 rcases fork_some h with ⟨h2, h⟩ | ⟨h2, h⟩
 ·obtain ⟨h3, h⟩ := need_some h
  rcases fork_some h with ⟨h4, h⟩ | ⟨h4, h⟩
  ·cases h
  ·injection h with h; subst h
   exact env.code (its := [b1, b0, .sel [0, 3, 9, 10, 11] []]) (.c h2 (.c h3 (.c h4 .n))) (by kernel_rfl)
 ·injection h with h; subst h
  exact ⟨by intro e; simp [slices_Concat_Lbyte_byte_1_ex] at e, env.code (its := [b0, .sel [0, 3] []]) (.c h2 .n) (by kernel_rfl)⟩
theorem slices_Concat_Lbyte_byte_1_ok (x0 : List (B8)) (x1 : Int) (x2 : List (B8)) (x3 : Int) (x4 : Int) (o : List (B8) × Int) (h : slices_Concat_Lbyte_byte_1 x0 x1 x2 x3 x4 = some o) : CodeOK prog (codeAt (bodyOf f86) [1, 1, 0, 1, 0]) (slices_Concat_Lbyte_byte_1_in x0 x1 x2 x3 x4) (slices_Concat_Lbyte_byte_1_ex o) (slices_Concat_Lbyte_byte_1_st o) :=
 LoopOK.of_step (st := fun s => slices_Concat_Lbyte_byte_1_in x0 s.1 x2 x3 s.2) (ex := slices_Concat_Lbyte_byte_1_ex) (stO := slices_Concat_Lbyte_byte_1_st) (fun s s2 hs => slices_Concat_Lbyte_byte_1_body x0 s.1 x2 x3 s.2 (.inl s2) hs) (fun s r hs => slices_Concat_Lbyte_byte_1_body x0 s.1 x2 x3 s.2 (.inr r) hs) _ o h
def slices_Concat_Lbyte_byte_2_in (x0 : List (B8)) (x1 : Int) (x2 : Int) (x3 : B8) : St := ⟨[(6, (.own 0 [])), (25, (.v (.slice (.slice (.int .u8))) x0)), (26, (.v (.int .i64) x1)), (27, (.v (.int .i64) x2))], [.row (.int .u8) x3 true], 36, 0⟩
def slices_Concat_Lbyte_byte_2_ex (o : B8) : Exit := (.exit 2)
def slices_Concat_Lbyte_byte_2_st (o : B8) : St := ⟨[(6, (.own 0 []))], [.row (.int .u8) o true], 36, 0⟩
theorem slices_Concat_Lbyte_byte_2_body (x0 : List (B8)) (x1 : Int) (x2 : Int) (x3 : B8) : ∀ r, slices_Concat_Lbyte_byte_2_step x0 x1 x2 x3 = some r → (match r with | .inl s => CodeOK prog (codeAt (bodyOf f86) [1, 1, 1, 1, 0, 1, 0, 0]) (slices_Concat_Lbyte_byte_2_in x0 x1 x2 x3) .normal (slices_Concat_Lbyte_byte_2_in x0 x1 s.1 s.2) | .inr o => slices_Concat_Lbyte_byte_2_ex o ≠ .normal ∧ CodeOK prog (codeAt (bodyOf f86) [1, 1, 1, 1, 0, 1, 0, 0]) (slices_Concat_Lbyte_byte_2_in x0 x1 x2 x3) (slices_Concat_Lbyte_byte_2_ex o) (slices_Concat_Lbyte_byte_2_st o)) := by
 intro r h
 unfold slices_Concat_Lbyte_byte_2_step at h
 rcases fork_some h with ⟨h10, h⟩ | ⟨h10, h⟩
 ·obtain ⟨h11, h⟩ := need_some h
  obtain ⟨h12, h⟩ := need_some h
  injection h with h; subst h
  exact env.code (its := [b1, .dive, .sel [6, 25, 26, 27] [1]]) (.c h10 (.c h11 (.c h12 .n))) (by kernel_rfl)
 ·injection h with h; subst h
  exact ⟨by intro e; simp [slices_Concat_Lbyte_byte_2_ex] at e, env.code (its := [b0, .sel [6] [0]]) (.c h10 .n) (by kernel_rfl)⟩
theorem slices_Concat_Lbyte_byte_2_ok (x0 : List (B8)) (x1 : Int) (x2 : Int) (x3 : B8) (o : B8) (h : slices_Concat_Lbyte_byte_2 x0 x1 x2 x3 = some o) : CodeOK prog (codeAt (bodyOf f86) [1, 1, 1, 1, 0, 1, 0]) (slices_Concat_Lbyte_byte_2_in x0 x1 x2 x3) (slices_Concat_Lbyte_byte_2_ex o) (slices_Concat_Lbyte_byte_2_st o) :=
 LoopOK.of_step (st := fun s => slices_Concat_Lbyte_byte_2_in x0 x1 s.1 s.2) (ex := slices_Concat_Lbyte_byte_2_ex) (stO := slices_Concat_Lbyte_byte_2_st) (fun s s2 hs => slices_Concat_Lbyte_byte_2_body x0 x1 s.1 s.2 (.inl s2) hs) (fun s r hs => slices_Concat_Lbyte_byte_2_body x0 x1 s.1 s.2 (.inr r) hs) _ o h
def slices_Concat_Lbyte_byte_R (a0 : List (B8)) (u : B8) : Slot := (.own 0 [])
def slices_Concat_Lbyte_byte_O (a0 : List (B8)) (u : B8) : List AObj := [.row (.int .u8) u true]
theorem slices_Concat_Lbyte_byte_ok (a0 : List (B8)) (u : B8) (h : slices_Concat_Lbyte_byte a0 = some u) : CallC prog 86 [(.v (.slice (.slice (.int .u8))) a0)] [] (slices_Concat_Lbyte_byte_R a0 u) (slices_Concat_Lbyte_byte_O a0 u) := by
 unfold slices_Concat_Lbyte_byte at h
 obtain ⟨o5, h6, h⟩ := andThen_some h
 obtain ⟨u7, h8, h⟩ := andThen_some h
 obtain ⟨o13, h14, h⟩ := andThen_some h
 injection h with h; subst h
 exact env.fun func86 can86 (its := [.dive, .sel [0, 3, 9, 10, 11] [], .part (slices_Concat_Lbyte_byte_1_ex o5) (slices_Concat_Lbyte_byte_1_st o5), .call [none, none] [] [] true (slices_Grow_Lbyte_byte_f4c0_R o5.2 u7) (slices_Grow_Lbyte_byte_f4c0_O o5.2 u7), .dive, .sel [6, 25, 26, 27] [0], .part (slices_Concat_Lbyte_byte_2_ex o13) (slices_Concat_Lbyte_byte_2_st o13)]) (pos := [.sel [0]]) (.c (slices_Concat_Lbyte_byte_1_ok a0 (0 : Int) a0 (List.length a0 : Int) (0 : Int) o5 h6) (.c (slices_Grow_Lbyte_byte_f4c0_ok o5.2 u7 h8) (.c (slices_Concat_Lbyte_byte_2_ok o5.1 (List.length o5.1 : Int) (0 : Int) u7 o13 h14) .n))) (by kernel_rfl)
theorem can117 : Callable prog 117 := ⟨_, func117, by kernel_rfl, by kernel_rfl⟩
def sha_first_R  (u : List UInt32) : Slot := (.v (.arr 8 (.int .u32)) u)
def sha_first_O  (u : List UInt32) : List AObj := []
theorem sha_first_ok  (u : List UInt32) (h : sha_first  = some u) : CallC prog 117 [] [] (sha_first_R u) (sha_first_O u) := by
 unfold sha_first at h
 injection h with h; subst h
 exact env.fun func117 can117 (its := []) (pos := [.sel []]) .n (by kernel_rfl)
theorem can118 : Callable prog 118 := ⟨_, func118, by kernel_rfl, by kernel_rfl⟩
def sha_added_R  (u : List UInt32) : Slot := (.v (.arr 64 (.int .u32)) u)
def sha_added_O  (u : List UInt32) : List AObj := []
theorem sha_added_ok  (u : List UInt32) (h : sha_added  = some u) : CallC prog 118 [] [] (sha_added_R u) (sha_added_O u) := by
 unfold sha_added at h
 injection h with h; subst h
 exact env.fun func118 can118 (its := []) (pos := [.sel []]) .n (by kernel_rfl)
theorem can122 : Callable prog 122 := ⟨_, func122, by kernel_rfl, by kernel_rfl⟩
def sha_Blocks_R (a0 : Int) (u : Int) : Slot := (.v (.int .i64) u)
def sha_Blocks_O (a0 : Int) (u : Int) : List AObj := []
theorem sha_Blocks_ok (a0 : Int) (u : Int) (h : sha_Blocks a0 = some u) : CallC prog 122 [(.v (.int .i64) a0)] [] (sha_Blocks_R a0 u) (sha_Blocks_O a0 u) := by
 unfold sha_Blocks at h
 injection h with h; subst h
 exact env.fun func122 can122 (its := []) (pos := [.sel []]) (.c (of_decide_eq_true (p := ((64 : Int) ≠ 0)) (by kernel_rfl)) .n) (by kernel_rfl)
theorem can119 : Callable prog 119 := ⟨_, func119, by kernel_rfl, by kernel_rfl⟩
def sha_padded_1_in (x0 : UInt64) (x1 : Int) (x2 : B8) : St := ⟨[(3, (.own 0 [])), (4, (.v (.int .u64) x0)), (22, (.v (.int .i64) x1))], [.row (.int .u8) x2 true], 39, 0⟩
def sha_padded_1_ex (o : B8) : Exit := (.exit 0)
def sha_padded_1_st (o : B8) : St := ⟨[(3, (.own 0 []))], [.row (.int .u8) o true], 39, 0⟩
theorem sha_padded_1_body (x0 : UInt64) (x1 : Int) (x2 : B8) : ∀ r, sha_padded_1_step x0 x1 x2 = some r → (match r with | .inl s => CodeOK prog (codeAt (bodyOf f119) [1, 1, 1, 1, 1, 0, 1, 0, 0]) (sha_padded_1_in x0 x1 x2) .normal (sha_padded_1_in x0 s.1 s.2) | .inr o => sha_padded_1_ex o ≠ .normal ∧ CodeOK prog (codeAt (bodyOf f119) [1, 1, 1, 1, 1, 0, 1, 0, 0]) (sha_padded_1_in x0 x1 x2) (sha_padded_1_ex o) (sha_padded_1_st o)) := by
 intro r h
 unfold sha_padded_1_step at h
 rcases fork_some h with ⟨h6, h⟩ | ⟨h6, h⟩
 ·obtain ⟨h7, h⟩ := need_some h
  obtain ⟨h8, h⟩ := need_some h
  injection h with h; subst h
  exact env.code (its := [b1, .dive, .sel [3, 4, 22] [0]]) (.c h6 (.c h7 (.c h8 .n))) (by kernel_rfl)
 ·injection h with h; subst h
  exact ⟨by intro e; simp [sha_padded_1_ex] at e, env.code (its := [b0, .sel [3] [0]]) (.c h6 .n) (by kernel_rfl)⟩
theorem sha_padded_1_ok (x0 : UInt64) (x1 : Int) (x2 : B8) (o : B8) (h : sha_padded_1 x0 x1 x2 = some o) : CodeOK prog (codeAt (bodyOf f119) [1, 1, 1, 1, 1, 0, 1, 0]) (sha_padded_1_in x0 x1 x2) (sha_padded_1_ex o) (sha_padded_1_st o) :=
 LoopOK.of_step (st := fun s => sha_padded_1_in x0 s.1 s.2) (ex := sha_padded_1_ex) (stO := sha_padded_1_st) (fun s s2 hs => sha_padded_1_body x0 s.1 s.2 (.inl s2) hs) (fun s r hs => sha_padded_1_body x0 s.1 s.2 (.inr r) hs) _ o h
def sha_padded_R (a0 : B8) (u : B8) : Slot := (.own 0 [])
def sha_padded_O (a0 : B8) (u : B8) : List AObj := [.row (.int .u8) u true]
theorem sha_padded_ok (a0 : B8) (u : B8) (h : sha_padded a0 = some u) : CallC prog 119 [(.v (.slice (.int .u8)) a0)] [] (sha_padded_R a0 u) (sha_padded_O a0 u) := by
 unfold sha_padded at h
 obtain ⟨u1, h2, h⟩ := andThen_some h
 obtain ⟨h3, h⟩ := need_some h
 obtain ⟨h4, h⟩ := need_some h
 obtain ⟨o9, h10, h⟩ := andThen_some h
 injection h with h; subst h
 exact env.fun func119 can119 (its := [.call [none] [] [] true (sha_Blocks_R (List.length a0 : Int) u1) (sha_Blocks_O (List.length a0 : Int) u1), .dive, .sel [3, 4, 22] [0], .part (sha_padded_1_ex o9) (sha_padded_1_st o9)]) (pos := [.sel [0]]) (.c (sha_Blocks_ok (List.length a0 : Int) u1 h2) (.c h3 (.c h4 (.c (sha_padded_1_ok ((UInt64.ofNat (Int.toNat ((List.length a0 : Int) % 18446744073709551616))) * (8 : UInt64)) (0 : Int) (List.set (List.take (List.length (List.replicate (Int.toNat (w64 (u1 * (64 : Int)))) (0 : UInt8))) a0 ++ List.drop (List.length a0) (List.replicate (Int.toNat (w64 (u1 * (64 : Int)))) (0 : UInt8))) (Int.toNat (List.length a0 : Int)) (128 : UInt8)) o9 h10) .n)))) (by kernel_rfl)
theorem can125 : Callable prog 125 := ⟨_, func125, by kernel_rfl, by kernel_rfl⟩
def bits_RotateLeft32_R (a0 : UInt32) (a1 : Int) (u : UInt32) : Slot := (.v (.int .u32) u)
def bits_RotateLeft32_O (a0 : UInt32) (a1 : Int) (u : UInt32) : List AObj := []
theorem bits_RotateLeft32_ok (a0 : UInt32) (a1 : Int) (u : UInt32) (h : bits_RotateLeft32 a0 a1 = some u) : CallC prog 125 [(.v (.int .u32) a0), (.v (.int .i64) a1)] [] (bits_RotateLeft32_R a0 a1 u) (bits_RotateLeft32_O a0 a1 u) := by
 unfold bits_RotateLeft32 at h
 obtain ⟨h1, h⟩ := need_some h
 obtain ⟨h2, h⟩ := need_some h
 injection h with h; subst h
 exact env.fun func125 can125 (its := []) (pos := [.sel []]) (.c h1 (.c h2 .n)) (by kernel_rfl)
theorem can124 : Callable prog 124 := ⟨_, func124, by kernel_rfl, by kernel_rfl⟩
def sha_right_R (a0 : UInt32) (a1 : Int) (u : UInt32) : Slot := (.v (.int .u32) u)
def sha_right_O (a0 : UInt32) (a1 : Int) (u : UInt32) : List AObj := []
theorem sha_right_ok (a0 : UInt32) (a1 : Int) (u : UInt32) (h : sha_right a0 a1 = some u) : CallC prog 124 [(.v (.int .u32) a0), (.v (.int .i64) a1)] [] (sha_right_R a0 a1 u) (sha_right_O a0 a1 u) := by
 unfold sha_right at h
 obtain ⟨u1, h2, h⟩ := andThen_some h
 injection h with h; subst h
 exact env.fun func124 can124 (its := [.call [none, none] [] [] true (bits_RotateLeft32_R a0 (w64 (0 - a1)) u1) (bits_RotateLeft32_O a0 (w64 (0 - a1)) u1)]) (pos := [.sel []]) (.c (bits_RotateLeft32_ok a0 (w64 (0 - a1)) u1 h2) .n) (by kernel_rfl)
theorem can123 : Callable prog 123 := ⟨_, func123, by kernel_rfl, by kernel_rfl⟩
def sha_spread_1_in (x0 : B8) (x1 : Int) (x2 : List UInt32) (x3 : List UInt32) : St := ⟨[(0, (.v (.slice (.int .u8)) x0)), (2, (.ptr 0 [])), (3, (.ptr 1 [])), (8, (.v (.int .i64) x1))], [.box (.arr 64 (.int .u32)) (.v (.arr 64 (.int .u32)) x2) true, .box (.arr 64 (.int .u32)) (.v (.arr 64 (.int .u32)) x3) true], 89, 0⟩
def sha_spread_1_ex (o : List UInt32 × List UInt32) : Exit := (.exit 0)
def sha_spread_1_st (o : List UInt32 × List UInt32) : St := ⟨[(2, (.ptr 0 [])), (3, (.ptr 1 []))], [.box (.arr 64 (.int .u32)) (.v (.arr 64 (.int .u32)) o.1) true, .box (.arr 64 (.int .u32)) (.v (.arr 64 (.int .u32)) o.2) true], 89, 0⟩
theorem sha_spread_1_body (x0 : B8) (x1 : Int) (x2 : List UInt32) (x3 : List UInt32) : ∀ r, sha_spread_1_step x0 x1 x2 x3 = some r → (match r with | .inl s => CodeOK prog (codeAt (bodyOf f123) [1, 1, 0, 1, 0, 0]) (sha_spread_1_in x0 x1 x2 x3) .normal (sha_spread_1_in x0 s.1 x2 s.2) | .inr o => sha_spread_1_ex o ≠ .normal ∧ CodeOK prog (codeAt (bodyOf f123) [1, 1, 0, 1, 0, 0]) (sha_spread_1_in x0 x1 x2 x3) (sha_spread_1_ex o) (sha_spread_1_st o)) := by
 intro r h
 unfold sha_spread_1_step at h
 rcases fork_some h with ⟨h2, h⟩ | ⟨h2, h⟩
 ·obtain ⟨h3, h⟩ := need_some h
  obtain ⟨h4, h⟩ := need_some h
  obtain ⟨h5, h⟩ := need_some h
  obtain ⟨h6, h⟩ := need_some h
  obtain ⟨h7, h⟩ := need_some h
  injection h with h; subst h
  exact env.code (its := [b1, .pre p0, .sel [0, 2, 3, 8] [0, 1]]) (.c h2 (.c h3 (.c (of_decide_eq_true (p := (0 ≤ (24 : Int))) (by kernel_rfl)) (.c h4 (.c (of_decide_eq_true (p := (0 ≤ (16 : Int))) (by kernel_rfl)) (.c h5 (.c (of_decide_eq_true (p := (0 ≤ (8 : Int))) (by kernel_rfl)) (.c h6 (.c h7 .n))))))))) (by kernel_rfl)
 ·injection h with h; subst h
  exact ⟨by intro e; simp [sha_spread_1_ex] at e, env.code (its := [b0, .sel [2, 3] [0, 1]]) (.c h2 .n) (by kernel_rfl)⟩
theorem sha_spread_1_ok (x0 : B8) (x1 : Int) (x2 : List UInt32) (x3 : List UInt32) (o : List UInt32 × List UInt32) (h : sha_spread_1 x0 x1 x2 x3 = some o) : CodeOK prog (codeAt (bodyOf f123) [1, 1, 0, 1, 0]) (sha_spread_1_in x0 x1 x2 x3) (sha_spread_1_ex o) (sha_spread_1_st o) :=
 LoopOK.of_step (st := fun s => sha_spread_1_in x0 s.1 x2 s.2) (ex := sha_spread_1_ex) (stO := sha_spread_1_st) (fun s s2 hs => sha_spread_1_body x0 s.1 x2 s.2 (.inl s2) hs) (fun s r hs => sha_spread_1_body x0 s.1 x2 s.2 (.inr r) hs) _ o h
def sha_spread_2_in (x0 : Int) (x1 : List UInt32) (x2 : List UInt32) : St := ⟨[(2, (.ptr 0 [])), (3, (.ptr 1 [])), (5, (.v (.int .i64) x0))], [.box (.arr 64 (.int .u32)) (.v (.arr 64 (.int .u32)) x1) true, .box (.arr 64 (.int .u32)) (.v (.arr 64 (.int .u32)) x2) true], 89, 0⟩
def sha_spread_2_ex (o : List UInt32 × List UInt32) : Exit := (.exit 2)
def sha_spread_2_st (o : List UInt32 × List UInt32) : St := ⟨[(2, (.ptr 0 [])), (3, (.ptr 1 []))], [.box (.arr 64 (.int .u32)) (.v (.arr 64 (.int .u32)) o.1) true, .box (.arr 64 (.int .u32)) (.v (.arr 64 (.int .u32)) o.2) true], 89, 0⟩
theorem sha_spread_2_body (x0 : Int) (x1 : List UInt32) (x2 : List UInt32) : ∀ r, sha_spread_2_step x0 x1 x2 = some r → (match r with | .inl s => CodeOK prog (codeAt (bodyOf f123) [1, 1, 1, 0, 1, 0, 0]) (sha_spread_2_in x0 x1 x2) .normal (sha_spread_2_in s.1 x1 s.2) | .inr o => sha_spread_2_ex o ≠ .normal ∧ CodeOK prog (codeAt (bodyOf f123) [1, 1, 1, 0, 1, 0, 0]) (sha_spread_2_in x0 x1 x2) (sha_spread_2_ex o) (sha_spread_2_st o)) := by
 intro r h
 unfold sha_spread_2_step at h
 rcases fork_some h with ⟨h11, h⟩ | ⟨h11, h⟩
 ·obtain ⟨h12, h⟩ := need_some h
  obtain ⟨h13, h⟩ := need_some h
  obtain ⟨h14, h⟩ := need_some h
  obtain ⟨u15, h16, h⟩ := andThen_some h
  obtain ⟨u17, h18, h⟩ := andThen_some h
  obtain ⟨h19, h⟩ := need_some h
  obtain ⟨u20, h21, h⟩ := andThen_some h
  obtain ⟨u22, h23, h⟩ := andThen_some h
  obtain ⟨h24, h⟩ := need_some h
  injection h with h; subst h
  exact env.code (its := [b1, .pre p1, .pre p2, .asis, .call [none, none] [] [] true (sha_right_R (List.getD x2 (Int.toNat (w64 (x0 - (15 : Int)))) (0 : UInt32)) (7 : Int) u15) (sha_right_O (List.getD x2 (Int.toNat (w64 (x0 - (15 : Int)))) (0 : UInt32)) (7 : Int) u15), .asis, .call [none, none] [] [] true (sha_right_R (List.getD x2 (Int.toNat (w64 (x0 - (15 : Int)))) (0 : UInt32)) (18 : Int) u17) (sha_right_O (List.getD x2 (Int.toNat (w64 (x0 - (15 : Int)))) (0 : UInt32)) (18 : Int) u17), .asis, .call [none, none] [] [] true (sha_right_R (List.getD x2 (Int.toNat (w64 (x0 - (2 : Int)))) (0 : UInt32)) (17 : Int) u20) (sha_right_O (List.getD x2 (Int.toNat (w64 (x0 - (2 : Int)))) (0 : UInt32)) (17 : Int) u20), .asis, .call [none, none] [] [] true (sha_right_R (List.getD x2 (Int.toNat (w64 (x0 - (2 : Int)))) (0 : UInt32)) (19 : Int) u22) (sha_right_O (List.getD x2 (Int.toNat (w64 (x0 - (2 : Int)))) (0 : UInt32)) (19 : Int) u22), .sel [2, 3, 5] [0, 1]]) (.c h11 (.c h12 (.c h13 (.c h14 (.c rn (.c (sha_right_ok (List.getD x2 (Int.toNat (w64 (x0 - (15 : Int)))) (0 : UInt32)) (7 : Int) u15 h16) (.c rn (.c (sha_right_ok (List.getD x2 (Int.toNat (w64 (x0 - (15 : Int)))) (0 : UInt32)) (18 : Int) u17 h18) (.c (of_decide_eq_true (p := (0 ≤ (3 : Int))) (by kernel_rfl)) (.c h19 (.c rn (.c (sha_right_ok (List.getD x2 (Int.toNat (w64 (x0 - (2 : Int)))) (0 : UInt32)) (17 : Int) u20 h21) (.c rn (.c (sha_right_ok (List.getD x2 (Int.toNat (w64 (x0 - (2 : Int)))) (0 : UInt32)) (19 : Int) u22 h23) (.c (of_decide_eq_true (p := (0 ≤ (10 : Int))) (by kernel_rfl)) (.c h24 .n)))))))))))))))) (by kernel_rfl)
 ·injection h with h; subst h
  exact ⟨by intro e; simp [sha_spread_2_ex] at e, env.code (its := [b0, .sel [2, 3] [0, 1]]) (.c h11 .n) (by kernel_rfl)⟩
theorem sha_spread_2_ok (x0 : Int) (x1 : List UInt32) (x2 : List UInt32) (o : List UInt32 × List UInt32) (h : sha_spread_2 x0 x1 x2 = some o) : CodeOK prog (codeAt (bodyOf f123) [1, 1, 1, 0, 1, 0]) (sha_spread_2_in x0 x1 x2) (sha_spread_2_ex o) (sha_spread_2_st o) :=
 LoopOK.of_step (st := fun s => sha_spread_2_in s.1 x1 s.2) (ex := sha_spread_2_ex) (stO := sha_spread_2_st) (fun s s2 hs => sha_spread_2_body s.1 x1 s.2 (.inl s2) hs) (fun s r hs => sha_spread_2_body s.1 x1 s.2 (.inr r) hs) _ o h
def sha_spread_R (a0 : B8) (u : List UInt32) : Slot := (.v (.arr 64 (.int .u32)) u)
def sha_spread_O (a0 : B8) (u : List UInt32) : List AObj := []
theorem sha_spread_ok (a0 : B8) (u : List UInt32) (h : sha_spread a0 = some u) : CallC prog 123 [(.v (.slice (.int .u8)) a0)] [] (sha_spread_R a0 u) (sha_spread_O a0 u) := by
 unfold sha_spread at h
 obtain ⟨o8, h9, h⟩ := andThen_some h
 obtain ⟨o25, h26, h⟩ := andThen_some h
 injection h with h; subst h
 exact env.fun func123 can123 (its := [.dive, .sel [0, 2, 3, 8] [0, 1], .part (sha_spread_1_ex o8) (sha_spread_1_st o8), .dive, .sel [2, 3, 5] [0, 1], .part (sha_spread_2_ex o25) (sha_spread_2_st o25)]) (pos := [.sel []]) (.c (sha_spread_1_ok a0 (0 : Int) (List.replicate 64 (0 : UInt32)) (List.replicate 64 (0 : UInt32)) o8 h9) (.c (sha_spread_2_ok (16 : Int) o8.1 o8.2 o25 h26) .n)) (by kernel_rfl)
theorem can120 : Callable prog 120 := ⟨_, func120, by kernel_rfl, by kernel_rfl⟩
def sha_mix_655a_1_in (x0 : UInt32) (x1 : UInt32) (x2 : UInt32) (x3 : UInt32) (x4 : UInt32) (x5 : UInt32) (x6 : UInt32) (x7 : UInt32) (x8 : Int) (x9 : List UInt32) (x10 : List UInt32) (x11 : List UInt32) : St := ⟨[(0, (.ptr 0 [])), (1, (.ptr 1 [])), (6, (.ptr 2 [])), (7, (.v (.int .u32) x0)), (8, (.v (.int .u32) x1)), (9, (.v (.int .u32) x2)), (10, (.v (.int .u32) x3)), (11, (.v (.int .u32) x4)), (12, (.v (.int .u32) x5)), (13, (.v (.int .u32) x6)), (14, (.v (.int .u32) x7)), (56, (.v (.int .i64) x8))], [.box (.arr 8 (.int .u32)) (.v (.arr 8 (.int .u32)) x9) true, .box (.arr 64 (.int .u32)) (.v (.arr 64 (.int .u32)) x10) true, .box (.arr 64 (.int .u32)) (.v (.arr 64 (.int .u32)) x11) true], 146, 2⟩
def sha_mix_655a_1_ex (o : UInt32 × UInt32 × UInt32 × UInt32 × UInt32 × UInt32 × UInt32 × UInt32 × List UInt32 × List UInt32) : Exit := (.exit 0)
def sha_mix_655a_1_st (o : UInt32 × UInt32 × UInt32 × UInt32 × UInt32 × UInt32 × UInt32 × UInt32 × List UInt32 × List UInt32) : St := ⟨[(0, (.ptr 0 [])), (7, (.v (.int .u32) o.1)), (8, (.v (.int .u32) o.2.1)), (9, (.v (.int .u32) o.2.2.1)), (10, (.v (.int .u32) o.2.2.2.1)), (11, (.v (.int .u32) o.2.2.2.2.1)), (12, (.v (.int .u32) o.2.2.2.2.2.1)), (13, (.v (.int .u32) o.2.2.2.2.2.2.1)), (14, (.v (.int .u32) o.2.2.2.2.2.2.2.1))], [.box (.arr 8 (.int .u32)) (.v (.arr 8 (.int .u32)) o.2.2.2.2.2.2.2.2.1) true, .box (.arr 64 (.int .u32)) (.v (.arr 64 (.int .u32)) o.2.2.2.2.2.2.2.2.2) true], 146, 2⟩
theorem sha_mix_655a_1_body (x0 : UInt32) (x1 : UInt32) (x2 : UInt32) (x3 : UInt32) (x4 : UInt32) (x5 : UInt32) (x6 : UInt32) (x7 : UInt32) (x8 : Int) (x9 : List UInt32) (x10 : List UInt32) (x11 : List UInt32) : ∀ r, sha_mix_655a_1_step x0 x1 x2 x3 x4 x5 x6 x7 x8 x9 x10 x11 = some r → (match r with | .inl s => CodeOK prog (codeAt (bodyOf f120) [1, 1, 0, 1, 0, 0]) (sha_mix_655a_1_in x0 x1 x2 x3 x4 x5 x6 x7 x8 x9 x10 x11) .normal (sha_mix_655a_1_in s.1 s.2.1 s.2.2.1 s.2.2.2.1 s.2.2.2.2.1 s.2.2.2.2.2.1 s.2.2.2.2.2.2.1 s.2.2.2.2.2.2.2.1 s.2.2.2.2.2.2.2.2 x9 x10 x11) | .inr o => sha_mix_655a_1_ex o ≠ .normal ∧ CodeOK prog (codeAt (bodyOf f120) [1, 1, 0, 1, 0, 0]) (sha_mix_655a_1_in x0 x1 x2 x3 x4 x5 x6 x7 x8 x9 x10 x11) (sha_mix_655a_1_ex o) (sha_mix_655a_1_st o)) := by
 intro r h
 unfold sha_mix_655a_1_step at h
 rcases fork_some h with ⟨h4, h⟩ | ⟨h4, h⟩
 ·obtain ⟨u5, h6, h⟩ := andThen_some h
  obtain ⟨u7, h8, h⟩ := andThen_some h
  obtain ⟨u9, h10, h⟩ := andThen_some h
  obtain ⟨h11, h⟩ := need_some h
  obtain ⟨u12, h13, h⟩ := andThen_some h
  obtain ⟨u14, h15, h⟩ := andThen_some h
  obtain ⟨u16, h17, h⟩ := andThen_some h
  injection h with h; subst h
  exact env.code (its := [b1, .pre p25, .asis, .call [none, none] [] [] true (sha_right_R x4 (6 : Int) u5) (sha_right_O x4 (6 : Int) u5), .asis, .call [none, none] [] [] true (sha_right_R x4 (11 : Int) u7) (sha_right_O x4 (11 : Int) u7), .asis, .call [none, none] [] [] true (sha_right_R x4 (25 : Int) u9) (sha_right_O x4 (25 : Int) u9), .call [none, none] [] [] true (sha_right_R x0 (2 : Int) u12) (sha_right_O x0 (2 : Int) u12), .call [none, none] [] [] true (sha_right_R x0 (13 : Int) u14) (sha_right_O x0 (13 : Int) u14), .call [none, none] [] [] true (sha_right_R x0 (22 : Int) u16) (sha_right_O x0 (22 : Int) u16), .sel [0, 1, 6, 7, 8, 9, 10, 11, 12, 13, 14, 56] [0, 1, 2]]) (.c h4 (.c rn (.c (sha_right_ok x4 (6 : Int) u5 h6) (.c rn (.c (sha_right_ok x4 (11 : Int) u7 h8) (.c rn (.c (sha_right_ok x4 (25 : Int) u9 h10) (.c h11 (.c h11 (.c (sha_right_ok x0 (2 : Int) u12 h13) (.c (sha_right_ok x0 (13 : Int) u14 h15) (.c (sha_right_ok x0 (22 : Int) u16 h17) .n)))))))))))) (by kernel_rfl)
 ·injection h with h; subst h
  exact ⟨by intro e; simp [sha_mix_655a_1_ex] at e, env.code (its := [b0, .sel [0, 7, 8, 9, 10, 11, 12, 13, 14] [0, 1]]) (.c h4 .n) (by kernel_rfl)⟩
theorem sha_mix_655a_1_ok (x0 : UInt32) (x1 : UInt32) (x2 : UInt32) (x3 : UInt32) (x4 : UInt32) (x5 : UInt32) (x6 : UInt32) (x7 : UInt32) (x8 : Int) (x9 : List UInt32) (x10 : List UInt32) (x11 : List UInt32) (o : UInt32 × UInt32 × UInt32 × UInt32 × UInt32 × UInt32 × UInt32 × UInt32 × List UInt32 × List UInt32) (h : sha_mix_655a_1 x0 x1 x2 x3 x4 x5 x6 x7 x8 x9 x10 x11 = some o) : CodeOK prog (codeAt (bodyOf f120) [1, 1, 0, 1, 0]) (sha_mix_655a_1_in x0 x1 x2 x3 x4 x5 x6 x7 x8 x9 x10 x11) (sha_mix_655a_1_ex o) (sha_mix_655a_1_st o) :=
 LoopOK.of_step (st := fun s => sha_mix_655a_1_in s.1 s.2.1 s.2.2.1 s.2.2.2.1 s.2.2.2.2.1 s.2.2.2.2.2.1 s.2.2.2.2.2.2.1 s.2.2.2.2.2.2.2.1 s.2.2.2.2.2.2.2.2 x9 x10 x11) (ex := sha_mix_655a_1_ex) (stO := sha_mix_655a_1_st) (fun s s2 hs => sha_mix_655a_1_body s.1 s.2.1 s.2.2.1 s.2.2.2.1 s.2.2.2.2.1 s.2.2.2.2.2.1 s.2.2.2.2.2.2.1 s.2.2.2.2.2.2.2.1 s.2.2.2.2.2.2.2.2 x9 x10 x11 (.inl s2) hs) (fun s r hs => sha_mix_655a_1_body s.1 s.2.1 s.2.2.1 s.2.2.2.1 s.2.2.2.2.1 s.2.2.2.2.2.1 s.2.2.2.2.2.2.1 s.2.2.2.2.2.2.2.1 s.2.2.2.2.2.2.2.2 x9 x10 x11 (.inr r) hs) _ o h
def sha_mix_655a_2_in (x0 : List UInt32) (x1 : Int) (x2 : List UInt32) (x3 : List UInt32) : St := ⟨[(0, (.ptr 0 [])), (131, (.v (.arr 8 (.int .u32)) x0)), (132, (.v (.int .i64) x1))], [.box (.arr 8 (.int .u32)) (.v (.arr 8 (.int .u32)) x2) true, .box (.arr 64 (.int .u32)) (.v (.arr 64 (.int .u32)) x3) true], 146, 2⟩
def sha_mix_655a_2_ex (o : List UInt32 × List UInt32) : Exit := (.exit 2)
def sha_mix_655a_2_st (o : List UInt32 × List UInt32) : St := ⟨[], [.box (.arr 8 (.int .u32)) (.v (.arr 8 (.int .u32)) o.1) true, .box (.arr 64 (.int .u32)) (.v (.arr 64 (.int .u32)) o.2) true], 146, 2⟩
theorem sha_mix_655a_2_body (x0 : List UInt32) (x1 : Int) (x2 : List UInt32) (x3 : List UInt32) : ∀ r, sha_mix_655a_2_step x0 x1 x2 x3 = some r → (match r with | .inl s => CodeOK prog (codeAt (bodyOf f120) [1, 1, 1, 1, 0, 0]) (sha_mix_655a_2_in x0 x1 x2 x3) .normal (sha_mix_655a_2_in x0 s.1 s.2 x3) | .inr o => sha_mix_655a_2_ex o ≠ .normal ∧ CodeOK prog (codeAt (bodyOf f120) [1, 1, 1, 1, 0, 0]) (sha_mix_655a_2_in x0 x1 x2 x3) (sha_mix_655a_2_ex o) (sha_mix_655a_2_st o)) := by
 intro r h
 unfold sha_mix_655a_2_step at h
 rcases fork_some h with ⟨h21, h⟩ | ⟨h21, h⟩
 ·obtain ⟨h22, h⟩ := need_some h
  injection h with h; subst h
  exact env.code (its := [b1, .pre p26, .sel [0, 131, 132] [0, 1]]) (.c h21 (.c h22 (.c h22 (.c h22 .n)))) (by kernel_rfl)
 ·injection h with h; subst h
  exact ⟨by intro e; simp [sha_mix_655a_2_ex] at e, env.code (its := [b0, .sel [] [0, 1]]) (.c h21 .n) (by kernel_rfl)⟩
theorem sha_mix_655a_2_ok (x0 : List UInt32) (x1 : Int) (x2 : List UInt32) (x3 : List UInt32) (o : List UInt32 × List UInt32) (h : sha_mix_655a_2 x0 x1 x2 x3 = some o) : CodeOK prog (codeAt (bodyOf f120) [1, 1, 1, 1, 0]) (sha_mix_655a_2_in x0 x1 x2 x3) (sha_mix_655a_2_ex o) (sha_mix_655a_2_st o) :=
 LoopOK.of_step (st := fun s => sha_mix_655a_2_in x0 s.1 s.2 x3) (ex := sha_mix_655a_2_ex) (stO := sha_mix_655a_2_st) (fun s s2 hs => sha_mix_655a_2_body x0 s.1 s.2 x3 (.inl s2) hs) (fun s r hs => sha_mix_655a_2_body x0 s.1 s.2 x3 (.inr r) hs) _ o h
def sha_mix_655a_R (a0 : B8) (a1 : List UInt32) (a2 : List UInt32) (u : List UInt32 × List UInt32) : Slot := .tnil
def sha_mix_655a_O (a0 : B8) (a1 : List UInt32) (a2 : List UInt32) (u : List UInt32 × List UInt32) : List AObj := [.box (.arr 8 (.int .u32)) (.v (.arr 8 (.int .u32)) u.1) true, .box (.arr 64 (.int .u32)) (.v (.arr 64 (.int .u32)) u.2) true]
theorem sha_mix_655a_ok (a0 : B8) (a1 : List UInt32) (a2 : List UInt32) (u : List UInt32 × List UInt32) (h : sha_mix_655a a0 a1 a2 = some u) : CallC prog 120 [(.ptr 0 []), (.ptr 1 []), (.v (.slice (.int .u8)) a0)] [.box (.arr 8 (.int .u32)) (.v (.arr 8 (.int .u32)) a1) true, .box (.arr 64 (.int .u32)) (.v (.arr 64 (.int .u32)) a2) true] (sha_mix_655a_R a0 a1 a2 u) (sha_mix_655a_O a0 a1 a2 u) := by
 unfold sha_mix_655a at h
 obtain ⟨u1, h2, h⟩ := andThen_some h
 obtain ⟨o18, h19, h⟩ := andThen_some h
 obtain ⟨o23, h24, h⟩ := andThen_some h
 injection h with h; subst h
 exact env.fun func120 can120 (its := [.call [none] [] [] true (sha_spread_R a0 u1) (sha_spread_O a0 u1), .pre p27, .dive, .sel [0, 1, 6, 7, 8, 9, 10, 11, 12, 13, 14, 56] [0, 1, 2], .part (sha_mix_655a_1_ex o18) (sha_mix_655a_1_st o18), .dive, .sel [0, 131, 132] [0, 1], .part (sha_mix_655a_2_ex o23) (sha_mix_655a_2_st o23)]) (pos := [.sel [0, 1]]) (.c (sha_spread_ok a0 u1 h2) (.c (of_decide_eq_true (p := (0 ≤ (0 : Int) ∧ (0 : Int) < (8 : Int))) (by kernel_rfl)) (.c (of_decide_eq_true (p := (0 ≤ (1 : Int) ∧ (1 : Int) < (8 : Int))) (by kernel_rfl)) (.c (of_decide_eq_true (p := (0 ≤ (2 : Int) ∧ (2 : Int) < (8 : Int))) (by kernel_rfl)) (.c (of_decide_eq_true (p := (0 ≤ (3 : Int) ∧ (3 : Int) < (8 : Int))) (by kernel_rfl)) (.c (of_decide_eq_true (p := (0 ≤ (4 : Int) ∧ (4 : Int) < (8 : Int))) (by kernel_rfl)) (.c (of_decide_eq_true (p := (0 ≤ (5 : Int) ∧ (5 : Int) < (8 : Int))) (by kernel_rfl)) (.c (of_decide_eq_true (p := (0 ≤ (6 : Int) ∧ (6 : Int) < (8 : Int))) (by kernel_rfl)) (.c (of_decide_eq_true (p := (0 ≤ (7 : Int) ∧ (7 : Int) < (8 : Int))) (by kernel_rfl)) (.c (sha_mix_655a_1_ok (List.getD a1 (Int.toNat (0 : Int)) (0 : UInt32)) (List.getD a1 (Int.toNat (1 : Int)) (0 : UInt32)) (List.getD a1 (Int.toNat (2 : Int)) (0 : UInt32)) (List.getD a1 (Int.toNat (3 : Int)) (0 : UInt32)) (List.getD a1 (Int.toNat (4 : Int)) (0 : UInt32)) (List.getD a1 (Int.toNat (5 : Int)) (0 : UInt32)) (List.getD a1 (Int.toNat (6 : Int)) (0 : UInt32)) (List.getD a1 (Int.toNat (7 : Int)) (0 : UInt32)) (0 : Int) a1 a2 u1 o18 h19) (.c (sha_mix_655a_2_ok (List.set (List.set (List.set (List.set (List.set (List.set (List.set (List.set (List.replicate 8 (0 : UInt32)) 0 o18.1) 1 o18.2.1) 2 o18.2.2.1) 3 o18.2.2.2.1) 4 o18.2.2.2.2.1) 5 o18.2.2.2.2.2.1) 6 o18.2.2.2.2.2.2.1) 7 o18.2.2.2.2.2.2.2.1) (0 : Int) o18.2.2.2.2.2.2.2.2.1 o18.2.2.2.2.2.2.2.2.2 o23 h24) .n))))))))))) (by kernel_rfl)
theorem can112 : Callable prog 112 := ⟨_, func112, by kernel_rfl, by kernel_rfl⟩
def sha_Sum_1_in (x0 : B8) (x1 : B8) (x2 : List UInt32) (x3 : List UInt32) : St := ⟨[(2, (.ptr 0 [])), (3, (.ptr 1 [])), (4, (.ptr 2 [])), (5, (.v (.slice (.int .u8)) x0))], [.box (.arr 32 (.int .u8)) (.v (.arr 32 (.int .u8)) x1) true, .box (.arr 8 (.int .u32)) (.v (.arr 8 (.int .u32)) x2) true, .box (.arr 64 (.int .u32)) (.v (.arr 64 (.int .u32)) x3) true], 44, 0⟩
def sha_Sum_1_ex (o : B8 × List UInt32) : Exit := (.exit 0)
def sha_Sum_1_st (o : B8 × List UInt32) : St := ⟨[(2, (.ptr 0 [])), (3, (.ptr 1 []))], [.box (.arr 32 (.int .u8)) (.v (.arr 32 (.int .u8)) o.1) true, .box (.arr 8 (.int .u32)) (.v (.arr 8 (.int .u32)) o.2) true], 44, 0⟩
theorem sha_Sum_1_body (x0 : B8) (x1 : B8) (x2 : List UInt32) (x3 : List UInt32) : ∀ r, sha_Sum_1_step x0 x1 x2 x3 = some r → (match r with | .inl s => CodeOK prog (codeAt (bodyOf f112) [1, 1, 0, 1, 0, 0]) (sha_Sum_1_in x0 x1 x2 x3) .normal (sha_Sum_1_in s.1 x1 s.2.1 s.2.2) | .inr o => sha_Sum_1_ex o ≠ .normal ∧ CodeOK prog (codeAt (bodyOf f112) [1, 1, 0, 1, 0, 0]) (sha_Sum_1_in x0 x1 x2 x3) (sha_Sum_1_ex o) (sha_Sum_1_st o)) := by
 intro r h
 unfold sha_Sum_1_step at h
 rcases fork_some h with ⟨h8, h⟩ | ⟨h8, h⟩
 ·obtain ⟨h9, h⟩ := need_some h
  obtain ⟨u10, h11, h⟩ := andThen_some h
  obtain ⟨h12, h⟩ := need_some h
  injection h with h; subst h
  exact env.code (its := [b1, b0, .call [none, none, none] [1, 2] [] true (sha_mix_655a_R (cutL x0 (0 : Int) (64 : Int)) x2 x3 u10) (sha_mix_655a_O (cutL x0 (0 : Int) (64 : Int)) x2 x3 u10), b0, .sel [2, 3, 4, 5] [0, 1, 2]]) (.c h8 (.c h9 (.c (sha_mix_655a_ok (cutL x0 (0 : Int) (64 : Int)) x2 x3 u10 h11) (.c h12 .n)))) (by kernel_rfl)
 ·injection h with h; subst h
  exact ⟨by intro e; simp [sha_Sum_1_ex] at e, env.code (its := [b0, .sel [2, 3] [0, 1]]) (.c h8 .n) (by kernel_rfl)⟩
theorem sha_Sum_1_ok (x0 : B8) (x1 : B8) (x2 : List UInt32) (x3 : List UInt32) (o : B8 × List UInt32) (h : sha_Sum_1 x0 x1 x2 x3 = some o) : CodeOK prog (codeAt (bodyOf f112) [1, 1, 0, 1, 0]) (sha_Sum_1_in x0 x1 x2 x3) (sha_Sum_1_ex o) (sha_Sum_1_st o) :=
 LoopOK.of_step (st := fun s => sha_Sum_1_in s.1 x1 s.2.1 s.2.2) (ex := sha_Sum_1_ex) (stO := sha_Sum_1_st) (fun s s2 hs => sha_Sum_1_body s.1 x1 s.2.1 s.2.2 (.inl s2) hs) (fun s r hs => sha_Sum_1_body s.1 x1 s.2.1 s.2.2 (.inr r) hs) _ o h
def sha_Sum_2_in (x0 : Int) (x1 : UInt32) (x2 : List UInt32) (x3 : Int) (x4 : Int) (x5 : B8) (x6 : B8) : St := ⟨[(2, (.ptr 0 [])), (6, (.ptr 1 [])), (7, (.v (.int .i64) x0)), (8, (.v (.int .u32) x1)), (22, (.v (.arr 8 (.int .u32)) x2)), (23, (.v (.int .i64) x3)), (27, (.v (.int .i64) x4))], [.box (.arr 32 (.int .u8)) (.v (.arr 32 (.int .u8)) x5) true, .box (.arr 32 (.int .u8)) (.v (.arr 32 (.int .u8)) x6) true], 44, 0⟩
def sha_Sum_2_ex (o : List UInt32 × Int × B8 × B8) : Exit := (.exit 4)
def sha_Sum_2_st (o : List UInt32 × Int × B8 × B8) : St := ⟨[(2, (.ptr 0 [])), (6, (.ptr 1 [])), (22, (.v (.arr 8 (.int .u32)) o.1)), (23, (.v (.int .i64) o.2.1))], [.box (.arr 32 (.int .u8)) (.v (.arr 32 (.int .u8)) o.2.2.1) true, .box (.arr 32 (.int .u8)) (.v (.arr 32 (.int .u8)) o.2.2.2) true], 44, 0⟩
theorem sha_Sum_2_body (x0 : Int) (x1 : UInt32) (x2 : List UInt32) (x3 : Int) (x4 : Int) (x5 : B8) (x6 : B8) : ∀ r, sha_Sum_2_step x0 x1 x2 x3 x4 x5 x6 = some r → (match r with | .inl s => CodeOK prog (codeAt (bodyOf f112) [1, 1, 1, 1, 0, 1, 0, 0, 1, 1, 0, 0, 1, 1, 0, 0]) (sha_Sum_2_in x0 x1 x2 x3 x4 x5 x6) .normal (sha_Sum_2_in x0 x1 x2 x3 s.1 x5 s.2) | .inr o => sha_Sum_2_ex o ≠ .normal ∧ CodeOK prog (codeAt (bodyOf f112) [1, 1, 1, 1, 0, 1, 0, 0, 1, 1, 0, 0, 1, 1, 0, 0]) (sha_Sum_2_in x0 x1 x2 x3 x4 x5 x6) (sha_Sum_2_ex o) (sha_Sum_2_st o)) := by
 intro r h
 unfold sha_Sum_2_step at h
 rcases fork_some h with ⟨h19, h⟩ | ⟨h19, h⟩
 ·obtain ⟨h20, h⟩ := need_some h
  obtain ⟨h21, h⟩ := need_some h
  injection h with h; subst h
  exact env.code (its := [b1, .dive, .sel [2, 6, 7, 8, 22, 23, 27] [0, 1]]) (.c h19 (.c h20 (.c h21 .n))) (by kernel_rfl)
 ·injection h with h; subst h
  exact ⟨by intro e; simp [sha_Sum_2_ex] at e, env.code (its := [b0, .sel [2, 6, 22, 23] [0, 1]]) (.c h19 .n) (by kernel_rfl)⟩
theorem sha_Sum_2_ok (x0 : Int) (x1 : UInt32) (x2 : List UInt32) (x3 : Int) (x4 : Int) (x5 : B8) (x6 : B8) (o : List UInt32 × Int × B8 × B8) (h : sha_Sum_2 x0 x1 x2 x3 x4 x5 x6 = some o) : CodeOK prog (codeAt (bodyOf f112) [1, 1, 1, 1, 0, 1, 0, 0, 1, 1, 0, 0, 1, 1, 0]) (sha_Sum_2_in x0 x1 x2 x3 x4 x5 x6) (sha_Sum_2_ex o) (sha_Sum_2_st o) :=
 LoopOK.of_step (st := fun s => sha_Sum_2_in x0 x1 x2 x3 s.1 x5 s.2) (ex := sha_Sum_2_ex) (stO := sha_Sum_2_st) (fun s s2 hs => sha_Sum_2_body x0 x1 x2 x3 s.1 x5 s.2 (.inl s2) hs) (fun s r hs => sha_Sum_2_body x0 x1 x2 x3 s.1 x5 s.2 (.inr r) hs) _ o h
def sha_Sum_3_in (x0 : List UInt32) (x1 : Int) (x2 : B8) (x3 : B8) : St := ⟨[(2, (.ptr 0 [])), (6, (.ptr 1 [])), (22, (.v (.arr 8 (.int .u32)) x0)), (23, (.v (.int .i64) x1))], [.box (.arr 32 (.int .u8)) (.v (.arr 32 (.int .u8)) x2) true, .box (.arr 32 (.int .u8)) (.v (.arr 32 (.int .u8)) x3) true], 44, 0⟩
def sha_Sum_3_ex (o : B8 × B8) : Exit := (.exit 2)
def sha_Sum_3_st (o : B8 × B8) : St := ⟨[(2, (.ptr 0 [])), (6, (.ptr 1 []))], [.box (.arr 32 (.int .u8)) (.v (.arr 32 (.int .u8)) o.1) true, .box (.arr 32 (.int .u8)) (.v (.arr 32 (.int .u8)) o.2) true], 44, 0⟩
theorem sha_Sum_3_body (x0 : List UInt32) (x1 : Int) (x2 : B8) (x3 : B8) : ∀ r, sha_Sum_3_step x0 x1 x2 x3 = some r → (match r with | .inl s => CodeOK prog (codeAt (bodyOf f112) [1, 1, 1, 1, 0, 1, 0, 0]) (sha_Sum_3_in x0 x1 x2 x3) .normal (sha_Sum_3_in s.1 s.2.1 s.2.2.1 s.2.2.2) | .inr o => sha_Sum_3_ex o ≠ .normal ∧ CodeOK prog (codeAt (bodyOf f112) [1, 1, 1, 1, 0, 1, 0, 0]) (sha_Sum_3_in x0 x1 x2 x3) (sha_Sum_3_ex o) (sha_Sum_3_st o)) := by
 intro r h
 unfold sha_Sum_3_step at h
 rcases fork_some h with ⟨h16, h⟩ | ⟨h16, h⟩
 ·obtain ⟨h17, h⟩ := need_some h
  obtain ⟨o22, h23, h⟩ := andThen_some h
  injection h with h; subst h
  exact env.code (its := [b1, .dive, .dive, .sel [2, 6, 7, 8, 22, 23, 27] [0, 1], .part (sha_Sum_2_ex o22) (sha_Sum_2_st o22), .sel [2, 6, 22, 23] [0, 1]]) (.c h16 (.c h17 (.c (sha_Sum_2_ok x1 (List.getD x0 (Int.toNat x1) (0 : UInt32)) x0 x1 (0 : Int) x2 x3 o22 h23) .n))) (by kernel_rfl)
 ·injection h with h; subst h
  exact ⟨by intro e; simp [sha_Sum_3_ex] at e, env.code (its := [b0, .sel [2, 6] [0, 1]]) (.c h16 .n) (by kernel_rfl)⟩
theorem sha_Sum_3_ok (x0 : List UInt32) (x1 : Int) (x2 : B8) (x3 : B8) (o : B8 × B8) (h : sha_Sum_3 x0 x1 x2 x3 = some o) : CodeOK prog (codeAt (bodyOf f112) [1, 1, 1, 1, 0, 1, 0]) (sha_Sum_3_in x0 x1 x2 x3) (sha_Sum_3_ex o) (sha_Sum_3_st o) :=
 LoopOK.of_step (st := fun s => sha_Sum_3_in s.1 s.2.1 s.2.2.1 s.2.2.2) (ex := sha_Sum_3_ex) (stO := sha_Sum_3_st) (fun s s2 hs => sha_Sum_3_body s.1 s.2.1 s.2.2.1 s.2.2.2 (.inl s2) hs) (fun s r hs => sha_Sum_3_body s.1 s.2.1 s.2.2.1 s.2.2.2 (.inr r) hs) _ o h
def sha_Sum_R (a0 : B8) (u : B8) : Slot := (.v (.arr 32 (.int .u8)) u)
def sha_Sum_O (a0 : B8) (u : B8) : List AObj := []
theorem sha_Sum_ok (a0 : B8) (u : B8) (h : sha_Sum a0 = some u) : CallC prog 112 [(.v (.slice (.int .u8)) a0)] [] (sha_Sum_R a0 u) (sha_Sum_O a0 u) := by
 unfold sha_Sum at h
 obtain ⟨u1, h2, h⟩ := andThen_some h
 obtain ⟨u3, h4, h⟩ := andThen_some h
 obtain ⟨u5, h6, h⟩ := andThen_some h
 obtain ⟨o13, h14, h⟩ := andThen_some h
 obtain ⟨o24, h25, h⟩ := andThen_some h
 injection h with h; subst h
 exact env.fun func112 can112 (its := [.call [] [] [] true (sha_first_R u1) (sha_first_O u1), .call [] [] [] true (sha_added_R u3) (sha_added_O u3), .call [none] [] [] true (sha_padded_R a0 u5) (sha_padded_O a0 u5), .dive, .val 5 (.slice (.int .u8)), .sel [2, 3, 4, 5] [0, 1, 2], .part (sha_Sum_1_ex o13) (sha_Sum_1_st o13), .dive, .sel [2, 6, 22, 23] [0, 2], .part (sha_Sum_3_ex o24) (sha_Sum_3_st o24)]) (pos := [.sel []]) (.c (sha_first_ok u1 h2) (.c (sha_added_ok u3 h4) (.c (sha_padded_ok a0 u5 h6) (.c (sha_Sum_1_ok u5 Z32 u1 u3 o13 h14) (.c (sha_Sum_3_ok o13.2 (0 : Int) o13.1 Z32 o24 h25) .n))))) (by kernel_rfl)
theorem can89 : Callable prog 89 := ⟨_, func89, by kernel_rfl, by kernel_rfl⟩
def sha_Tagged_1_in (x0 : List (B8)) (x1 : Int) (x2 : Int) (x3 : B8) (x4 : B8) : St := ⟨[(4, (.ptr 0 [])), (5, (.own 1 [])), (10, (.v (.slice (.slice (.int .u8))) x0)), (11, (.v (.int .i64) x1)), (12, (.v (.int .i64) x2))], [.box (.arr 32 (.int .u8)) (.v (.arr 32 (.int .u8)) x3) true, .row (.int .u8) x4 true], 22, 0⟩
def sha_Tagged_1_ex (o : B8 × B8) : Exit := (.exit 0)
def sha_Tagged_1_st (o : B8 × B8) : St := ⟨[(4, (.ptr 0 [])), (5, (.own 1 []))], [.box (.arr 32 (.int .u8)) (.v (.arr 32 (.int .u8)) o.1) true, .row (.int .u8) o.2 true], 22, 0⟩
theorem sha_Tagged_1_body (x0 : List (B8)) (x1 : Int) (x2 : Int) (x3 : B8) (x4 : B8) : ∀ r, sha_Tagged_1_step x0 x1 x2 x3 x4 = some r → (match r with | .inl s => CodeOK prog (codeAt (bodyOf f89) [1, 1, 0, 1, 0, 0]) (sha_Tagged_1_in x0 x1 x2 x3 x4) .normal (sha_Tagged_1_in x0 x1 s.1 x3 s.2) | .inr o => sha_Tagged_1_ex o ≠ .normal ∧ CodeOK prog (codeAt (bodyOf f89) [1, 1, 0, 1, 0, 0]) (sha_Tagged_1_in x0 x1 x2 x3 x4) (sha_Tagged_1_ex o) (sha_Tagged_1_st o)) := by
 intro r h
 unfold sha_Tagged_1_step at h
 rcases fork_some h with ⟨h2, h⟩ | ⟨h2, h⟩
 ·obtain ⟨h3, h⟩ := need_some h
  obtain ⟨h4, h⟩ := need_some h
  injection h with h; subst h
  exact env.code (its := [b1, .dive, .sel [4, 5, 10, 11, 12] [0, 2]]) (.c h2 (.c h3 (.c h4 .n))) (by kernel_rfl)
 ·injection h with h; subst h
  exact ⟨by intro e; simp [sha_Tagged_1_ex] at e, env.code (its := [b0, .sel [4, 5] [0, 1]]) (.c h2 .n) (by kernel_rfl)⟩
theorem sha_Tagged_1_ok (x0 : List (B8)) (x1 : Int) (x2 : Int) (x3 : B8) (x4 : B8) (o : B8 × B8) (h : sha_Tagged_1 x0 x1 x2 x3 x4 = some o) : CodeOK prog (codeAt (bodyOf f89) [1, 1, 0, 1, 0]) (sha_Tagged_1_in x0 x1 x2 x3 x4) (sha_Tagged_1_ex o) (sha_Tagged_1_st o) :=
 LoopOK.of_step (st := fun s => sha_Tagged_1_in x0 x1 s.1 x3 s.2) (ex := sha_Tagged_1_ex) (stO := sha_Tagged_1_st) (fun s s2 hs => sha_Tagged_1_body x0 x1 s.1 x3 s.2 (.inl s2) hs) (fun s r hs => sha_Tagged_1_body x0 x1 s.1 x3 s.2 (.inr r) hs) _ o h
def sha_Tagged_R (a0 : UInt8) (a1 : List (B8)) (u : B8) : Slot := (.v (.arr 32 (.int .u8)) u)
def sha_Tagged_O (a0 : UInt8) (a1 : List (B8)) (u : B8) : List AObj := []
theorem sha_Tagged_ok (a0 : UInt8) (a1 : List (B8)) (u : B8) (h : sha_Tagged a0 a1 = some u) : CallC prog 89 [(.v (.int .u8) a0), (.v (.slice (.slice (.int .u8))) a1)] [] (sha_Tagged_R a0 a1 u) (sha_Tagged_O a0 a1 u) := by
 unfold sha_Tagged at h
 obtain ⟨o5, h6, h⟩ := andThen_some h
 obtain ⟨u7, h8, h⟩ := andThen_some h
 injection h with h; subst h
 exact env.fun func89 can89 (its := [.dive, .sel [4, 5, 10, 11, 12] [0, 1], .part (sha_Tagged_1_ex o5) (sha_Tagged_1_st o5), .call [none] [] [1] true (sha_Sum_R o5.2 u7) (sha_Sum_O o5.2 u7)]) (pos := [.sel []]) (.c (sha_Tagged_1_ok a1 (List.length a1 : Int) (0 : Int) Z32 ([a0] : List (UInt8)) o5 h6) (.c (sha_Sum_ok o5.2 u7 h8) .n)) (by kernel_rfl)
theorem can54 : Callable prog 54 := ⟨_, func54, by kernel_rfl, by kernel_rfl⟩
def vals_Hash_1_in (x0 : List (T484d)) (x1 : Int) (x2 : Int) (x3 : B8) (x4 : B8) : St := ⟨[(2, (.ptr 0 [])), (3, (.own 1 [])), (10, (.v (.slice Y484d) x0)), (11, (.v (.int .i64) x1)), (12, (.v (.int .i64) x2))], [.box (.arr 32 (.int .u8)) (.v (.arr 32 (.int .u8)) x3) true, .row (.int .u8) x4 true], 35, 0⟩
def vals_Hash_1_ex (o : B8 × B8) : Exit := (.exit 0)
def vals_Hash_1_st (o : B8 × B8) : St := ⟨[(2, (.ptr 0 [])), (3, (.own 1 []))], [.box (.arr 32 (.int .u8)) (.v (.arr 32 (.int .u8)) o.1) true, .row (.int .u8) o.2 true], 35, 0⟩
theorem vals_Hash_1_body (x0 : List (T484d)) (x1 : Int) (x2 : Int) (x3 : B8) (x4 : B8) : ∀ r, vals_Hash_1_step x0 x1 x2 x3 x4 = some r → (match r with | .inl s => CodeOK prog (codeAt (bodyOf f54) [1, 1, 0, 1, 0, 0]) (vals_Hash_1_in x0 x1 x2 x3 x4) .normal (vals_Hash_1_in x0 x1 s.1 x3 s.2) | .inr o => vals_Hash_1_ex o ≠ .normal ∧ CodeOK prog (codeAt (bodyOf f54) [1, 1, 0, 1, 0, 0]) (vals_Hash_1_in x0 x1 x2 x3 x4) (vals_Hash_1_ex o) (vals_Hash_1_st o)) := by
 intro r h
 unfold vals_Hash_1_step at h
 rcases fork_some h with ⟨h4, h⟩ | ⟨h4, h⟩
 ·obtain ⟨h5, h⟩ := need_some h
  obtain ⟨u6, h7, h⟩ := andThen_some h
  obtain ⟨u8, h9, h⟩ := andThen_some h
  obtain ⟨u10, h11, h⟩ := andThen_some h
  obtain ⟨u12, h13, h⟩ := andThen_some h
  injection h with h; subst h
  exact env.code (its := [b1, .pre p28, .call [none] [] [0] true (vint_Text_R ([(List.getD x0 (Int.toNat x2) Z484d).1] : List (B8)) u6) (vint_Text_O ([(List.getD x0 (Int.toNat x2) Z484d).1] : List (B8)) u6), .call [none] [] [0] true (vint_Put_R ([(List.getD x0 (Int.toNat x2) Z484d).2.1] : List (Int)) u8) (vint_Put_O ([(List.getD x0 (Int.toNat x2) Z484d).2.1] : List (Int)) u8), .call [none] [] [0] true (vint_Hash_R ([(List.getD x0 (Int.toNat x2) Z484d).2.2.1] : List (B8)) u10) (vint_Hash_O ([(List.getD x0 (Int.toNat x2) Z484d).2.2.1] : List (B8)) u10), .call [none] [] [0] true (slices_Concat_Lbyte_byte_R ([x4, u6, u8, u10] : List (B8)) u12) (slices_Concat_Lbyte_byte_O ([x4, u6, u8, u10] : List (B8)) u12), .sel [2, 3, 10, 11, 12] [0, 10]]) (.c h4 (.c h5 (.c (vint_Text_ok ([(List.getD x0 (Int.toNat x2) Z484d).1] : List (B8)) u6 h7) (.c (vint_Put_ok ([(List.getD x0 (Int.toNat x2) Z484d).2.1] : List (Int)) u8 h9) (.c (vint_Hash_ok ([(List.getD x0 (Int.toNat x2) Z484d).2.2.1] : List (B8)) u10 h11) (.c (slices_Concat_Lbyte_byte_ok ([x4, u6, u8, u10] : List (B8)) u12 h13) .n)))))) (by kernel_rfl)
 ·injection h with h; subst h
  exact ⟨by intro e; simp [vals_Hash_1_ex] at e, env.code (its := [b0, .sel [2, 3] [0, 1]]) (.c h4 .n) (by kernel_rfl)⟩
theorem vals_Hash_1_ok (x0 : List (T484d)) (x1 : Int) (x2 : Int) (x3 : B8) (x4 : B8) (o : B8 × B8) (h : vals_Hash_1 x0 x1 x2 x3 x4 = some o) : CodeOK prog (codeAt (bodyOf f54) [1, 1, 0, 1, 0]) (vals_Hash_1_in x0 x1 x2 x3 x4) (vals_Hash_1_ex o) (vals_Hash_1_st o) :=
 LoopOK.of_step (st := fun s => vals_Hash_1_in x0 x1 s.1 x3 s.2) (ex := vals_Hash_1_ex) (stO := vals_Hash_1_st) (fun s s2 hs => vals_Hash_1_body x0 x1 s.1 x3 s.2 (.inl s2) hs) (fun s r hs => vals_Hash_1_body x0 x1 s.1 x3 s.2 (.inr r) hs) _ o h
def vals_Hash_R (a0 : List (T484d)) (u : B8) : Slot := (.v (.arr 32 (.int .u8)) u)
def vals_Hash_O (a0 : List (T484d)) (u : B8) : List AObj := []
theorem vals_Hash_ok (a0 : List (T484d)) (u : B8) (h : vals_Hash a0 = some u) : CallC prog 54 [(.v (.slice Y484d) a0)] [] (vals_Hash_R a0 u) (vals_Hash_O a0 u) := by
 unfold vals_Hash at h
 obtain ⟨u1, h2, h⟩ := andThen_some h
 obtain ⟨o14, h15, h⟩ := andThen_some h
 obtain ⟨u16, h17, h⟩ := andThen_some h
 injection h with h; subst h
 exact env.fun func54 can54 (its := [.call [none] [] [1] true (vint_Put_R ([(List.length a0 : Int)] : List (Int)) u1) (vint_Put_O ([(List.length a0 : Int)] : List (Int)) u1), .dive, .sel [2, 3, 10, 11, 12] [0, 2], .part (vals_Hash_1_ex o14) (vals_Hash_1_st o14), .call [none, none] [] [2] true (sha_Tagged_R (86 : UInt8) ([o14.2] : List (B8)) u16) (sha_Tagged_O (86 : UInt8) ([o14.2] : List (B8)) u16)]) (pos := [.sel []]) (.c (vint_Put_ok ([(List.length a0 : Int)] : List (Int)) u1 h2) (.c (vals_Hash_1_ok a0 (List.length a0 : Int) (0 : Int) Z32 u1 o14 h15) (.c (sha_Tagged_ok (86 : UInt8) ([o14.2] : List (B8)) u16 h17) .n))) (by kernel_rfl)
theorem can55 : Callable prog 55 := ⟨_, func55, by kernel_rfl, by kernel_rfl⟩
def light_timely_R (a0 : Int) (u : Bool) : Slot := (.v .bool u)
def light_timely_O (a0 : Int) (u : Bool) : List AObj := []
theorem light_timely_ok (a0 : Int) (u : Bool) (h : light_timely a0 = some u) : CallC prog 55 [(.v (.int .i64) a0)] [] (light_timely_R a0 u) (light_timely_O a0 u) := by
 unfold light_timely at h
 rcases fork_some h with ⟨h1, h⟩ | ⟨h1, h⟩
 ·injection h with h; subst h
  exact env.fun func55 can55 (its := [b1, b1, b1]) (pos := [.sel []]) (.c h1 (.c h1 (.c h1 .n))) (by kernel_rfl)
 ·injection h with h; subst h
  exact env.fun func55 can55 (its := [b0, b0, b0]) (pos := [.sel []]) (.c h1 (.c h1 (.c h1 .n))) (by kernel_rfl)
theorem can56 : Callable prog 56 := ⟨_, func56, by kernel_rfl, by kernel_rfl⟩
def slices_Clone_LVal_Val_R (a0 : List (T484d)) (u : List (T484d)) : Slot := .own 0 []
def slices_Clone_LVal_Val_O (a0 : List (T484d)) (u : List (T484d)) : List AObj := [.row Y484d u true]
theorem slices_Clone_LVal_Val_ok (a0 : List (T484d)) (u : List (T484d)) (h : slices_Clone_LVal_Val a0 = some u) : CallC prog 56 [.v (.slice Y484d) a0] [] (slices_Clone_LVal_Val_R a0 u) (slices_Clone_LVal_Val_O a0 u) := by
 unfold slices_Clone_LVal_Val at h
 obtain ⟨h1, h⟩ := need_some h
 injection h with h; subst h
 rcases a0 with _ | ⟨x0, a0⟩
 ·exact env.funAny (r0 := codeAt (bodyOf f56) [0]) (r1 := codeAt (bodyOf f56) [1, 0, 0]) (x := codeAt (bodyOf f56) [1, 0, 1, 0]) (z := codeAt (bodyOf f56) [1, 1]) (t := 4) (r := (.own 0 [])) func56 can56 (i0 := [.sel [0] []]) (i1 := [.sel [0, 4] []]) (i2 := [.promote 2 Y484d, .sel [2] [0]]) (i3 := [.sel [2] [1]]) (pos := [.sel [0]]) (st1 := ⟨[(0, (.v (.slice Y484d) ([] : List (T484d))))], [], 8, 0⟩) (st2 := ⟨[(0, (.v (.slice Y484d) ([] : List (T484d)))), (4, .anyb)], [], 8, 0⟩) (st3 := ⟨[(2, (.own 0 []))], [.row Y484d ([] : List (T484d)) true], 8, 0⟩) (by kernel_rfl) (by kernel_rfl) (by kernel_rfl) (by kernel_rfl) (by kernel_rfl) (by kernel_rfl) (.c (show List.length ([] : List (T484d)) + List.length ([] : List (T484d)) ≤ 2147483648 from by first | decide | (simp at h1 ⊢; try omega)) .n) (by kernel_rfl) (by kernel_rfl) (by kernel_rfl)
 ·exact env.fun func56 can56 (its := [b0]) (pos := [.sel [1]]) (.c r0 (.c (show List.length ([] : List (T484d)) + List.length (x0 :: a0) ≤ 2147483648 from by first | decide | (simp at h1 ⊢; try omega)) .n)) (by kernel_rfl)
theorem can23 : Callable prog 23 := ⟨_, func23, by kernel_rfl, by kernel_rfl⟩
def light_New_R (a0 : Tf0bc) (a1 : List (T484d)) (a2 : Int) (u : (Int) ⊕ (Int × T65da)) : Slot := match u with | (.inl u) => (.tup .nilp (.tup (.v (.int .i64) u) .tnil)) | (.inr u) => (.tup (.ptr 0 []) (.tup (.v (.int .i64) u.1) .tnil))
def light_New_O (a0 : Tf0bc) (a1 : List (T484d)) (a2 : Int) (u : (Int) ⊕ (Int × T65da)) : List AObj := match u with | (.inl u) => [] | (.inr u) => [.box Y65da (.v Y65da u.2) true]
theorem light_New_ok (a0 : Tf0bc) (a1 : List (T484d)) (a2 : Int) (u : (Int) ⊕ (Int × T65da)) (h : light_New a0 a1 a2 = some u) : CallC prog 23 [(.v Yf0bc a0), (.v (.slice Y484d) a1), (.v (.int .i64) a2)] [] (light_New_R a0 a1 a2 u) (light_New_O a0 a1 a2 u) := by
 unfold light_New at h
 obtain ⟨u1, h2, h⟩ := andThen_some h
 rcases fork_some h with ⟨h3, h⟩ | ⟨h3, h⟩
 ·injection h with h; subst h
  exact env.fun func23 can23 (its := [.pre p29, .asis, .call [none] [] [] true (head_Right_R a0 u1) (head_Right_O a0 u1), b1, b1, b1, b1, b1, b1, b1, b1, b1, b1, b1, b1, b1, b1, b1]) (pos := [.sel []]) (.c rn (.c (head_Right_ok a0 u1 h2) (.c h3 (.c h3 (.c h3 (.c h3 (.c r1 (.c r1 (.c r1 (.c r1 (.c r1 (.c r1 (.c r1 (.c r1 (.c r1 (.c r1 (.c r1 .n))))))))))))))))) (by kernel_rfl)
 ·obtain ⟨u4, h5, h⟩ := andThen_some h
  rcases fork_some h with ⟨h6, h⟩ | ⟨h6, h⟩
  ·injection h with h; subst h
   exact env.fun func23 can23 (its := [.pre p29, .asis, .call [none] [] [] true (head_Right_R a0 u1) (head_Right_O a0 u1), b0, b0, .asis, .call [none] [] [] true (vals_Right_R a1 u4) (vals_Right_O a1 u4), b0, b0, b1, b1, b1, b1, b1, b1, b1, b1, b1, b1, b1]) (pos := [.sel []]) (.c rn (.c (head_Right_ok a0 u1 h2) (.c h3 (.c h3 (.c rn (.c (vals_Right_ok a1 u4 h5) (.c h3 (.c h3 (.c h6 (.c h6 (.c h6 (.c h6 (.c h6 (.c h6 (.c r1 (.c r1 (.c r1 (.c r1 (.c r1 .n))))))))))))))))))) (by kernel_rfl)
  ·obtain ⟨u7, h8, h⟩ := andThen_some h
   rcases fork_some h with ⟨h9, h⟩ | ⟨h9, h⟩
   ·injection h with h; subst h
    exact env.fun func23 can23 (its := [.pre p29, .asis, .call [none] [] [] true (head_Right_R a0 u1) (head_Right_O a0 u1), b0, b0, .asis, .call [none] [] [] true (vals_Right_R a1 u4) (vals_Right_O a1 u4), b0, b0, b0, b0, b0, b0, .asis, .call [none] [] [] true (vals_Hash_R a1 u7) (vals_Hash_O a1 u7), b0, b0, b1, b1, b1, b1, b1]) (pos := [.sel []]) (.c rn (.c (head_Right_ok a0 u1 h2) (.c h3 (.c h3 (.c rn (.c (vals_Right_ok a1 u4 h5) (.c h3 (.c h3 (.c h6 (.c h6 (.c h6 (.c h6 (.c rn (.c (vals_Hash_ok a1 u7 h8) (.c h6 (.c h6 (.c h9 (.c h9 (.c h9 (.c h9 (.c r1 .n))))))))))))))))))))) (by kernel_rfl)
   ·obtain ⟨u10, h11, h⟩ := andThen_some h
    rcases fork_some h with ⟨h12, h⟩ | ⟨h12, h⟩
    ·injection h with h; subst h
     exact env.fun func23 can23 (its := [.pre p29, .asis, .call [none] [] [] true (head_Right_R a0 u1) (head_Right_O a0 u1), b0, b0, .asis, .call [none] [] [] true (vals_Right_R a1 u4) (vals_Right_O a1 u4), b0, b0, b0, b0, b0, b0, .asis, .call [none] [] [] true (vals_Hash_R a1 u7) (vals_Hash_O a1 u7), b0, b0, b0, b0, .asis, .call [none] [] [] true (light_timely_R a2 u10) (light_timely_O a2 u10), b0, b0, b1]) (pos := [.sel []]) (.c rn (.c (head_Right_ok a0 u1 h2) (.c h3 (.c h3 (.c rn (.c (vals_Right_ok a1 u4 h5) (.c h3 (.c h3 (.c h6 (.c h6 (.c h6 (.c h6 (.c rn (.c (vals_Hash_ok a1 u7 h8) (.c h6 (.c h6 (.c h9 (.c h9 (.c rn (.c (light_timely_ok a2 u10 h11) (.c h9 (.c h9 (.c h12 .n))))))))))))))))))))))) (by kernel_rfl)
    ·obtain ⟨u13, h14, h⟩ := andThen_some h
     injection h with h; subst h
     exact env.fun func23 can23 (its := [.pre p29, .asis, .call [none] [] [] true (head_Right_R a0 u1) (head_Right_O a0 u1), b0, b0, .asis, .call [none] [] [] true (vals_Right_R a1 u4) (vals_Right_O a1 u4), b0, b0, b0, b0, b0, b0, .asis, .call [none] [] [] true (vals_Hash_R a1 u7) (vals_Hash_O a1 u7), b0, b0, b0, b0, .asis, .call [none] [] [] true (light_timely_R a2 u10) (light_timely_O a2 u10), b0, b0, b0, .pre p30, .call [none] [] [] true (slices_Clone_LVal_Val_R a1 u13) (slices_Clone_LVal_Val_O a1 u13)]) (pos := [.sel [3]]) (.c rn (.c (head_Right_ok a0 u1 h2) (.c h3 (.c h3 (.c rn (.c (vals_Right_ok a1 u4 h5) (.c h3 (.c h3 (.c h6 (.c h6 (.c h6 (.c h6 (.c rn (.c (vals_Hash_ok a1 u7 h8) (.c h6 (.c h6 (.c h9 (.c h9 (.c rn (.c (light_timely_ok a2 u10 h11) (.c h9 (.c h9 (.c h12 (.c (slices_Clone_LVal_Val_ok a1 u13 h14) .n)))))))))))))))))))))))) (by kernel_rfl)
theorem can59 : Callable prog 59 := ⟨_, func59, by kernel_rfl, by kernel_rfl⟩
def affiantref1_Sealed_R (a0 : B8) (a1 : Int) (a2 : B8) (u : T8266) : Slot := (.v Y8266 u)
def affiantref1_Sealed_O (a0 : B8) (a1 : Int) (a2 : B8) (u : T8266) : List AObj := []
theorem affiantref1_Sealed_ok (a0 : B8) (a1 : Int) (a2 : B8) (u : T8266) (h : affiantref1_Sealed a0 a1 a2 = some u) : CallC prog 59 [(.v (.arr 32 (.int .u8)) a0), (.v (.int .i64) a1), (.v (.slice (.int .u8)) a2)] [] (affiantref1_Sealed_R a0 a1 a2 u) (affiantref1_Sealed_O a0 a1 a2 u) := by
 unfold affiantref1_Sealed at h
 obtain ⟨u1, h2, h⟩ := andThen_some h
 obtain ⟨u3, h4, h⟩ := andThen_some h
 injection h with h; subst h
 exact env.fun func59 can59 (its := [.pre p31, .call [none] [] [] false (affiantref1_Keys_R a0 u1) (affiantref1_Keys_O a0 u1), .call [none, none, none, none] [] [0] false (affiantref1_By_R u1 a0 a1 a2 u3) (affiantref1_By_O u1 a0 a1 a2 u3)]) (pos := [.sel []]) (.c (affiantref1_Keys_ok a0 u1 h2) (.c (affiantref1_By_ok u1 a0 a1 a2 u3 h4) .n)) (by kernel_rfl)
end
end Go.Proofs.Ytcfaippbnmmelaa.lightTrust
