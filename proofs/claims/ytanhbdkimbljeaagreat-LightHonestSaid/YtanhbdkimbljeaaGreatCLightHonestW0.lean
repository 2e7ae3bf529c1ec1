/-
  The functions, walked through: each call comes to what the pure text says.
-/
import Derived.Test.YtanhbdkimbljeaaGreatProg
import Derived.Test.YtanhbdkimbljeaaGreatAxC
import Derived.Test.YtanhbdkimbljeaaGreatCLightHonestP
namespace Go.Proofs.YtanhbdkimbljeaaGreat.lightHonest
open Go.Ax Go.Ax.V Go.Proofs.Tryz
set_option maxRecDepth 100000
set_option linter.unusedVariables false
noncomputable section
abbrev Yb : Ty := (.slice (.int .u8))
abbrev Yh : Ty := (.arr 32 (.int .u8))
abbrev Y8 : Ty := (.arr 8 (.int .u32))
abbrev Y64 : Ty := (.arr 64 (.int .u32))
abbrev Ybb : Ty := (.slice Yb)
abbrev Y18c3 : Ty := (.fld .str (.fld .str .unit))
abbrev Z32 := (List.replicate 32 (0 : UInt8))
abbrev Z18c3 := (([] : B8), ([] : B8), ())
abbrev Z9c6e := (([] : List (B8)), ([] : List (B8)), ())
abbrev Z1a67 := ((0 : Int), (0 : Int), (0 : Int), (0 : Int), (0 : Int), ())
abbrev Y484d : Ty := (.fld .str (.fld (.int .i64) (.fld Yh .unit)))
abbrev Z484d := (([] : B8), (0 : Int), Z32, ())
abbrev Y9c6e : Ty := (.fld (.slice Yh) (.fld (.slice Yh) .unit))
abbrev Y011a : Ty := (.fld (.int .i64) (.fld .str (.fld .str (.fld (.int .i64) (.fld (.int .i64) .unit)))))
abbrev Z8266 := ((0 : Int), Z9c6e, ([] : List (B8)), ())
abbrev Y1a67 : Ty := (.fld (.int .i64) (.fld (.int .i64) (.fld (.int .i64) (.fld (.int .i64) (.fld (.int .i64) .unit)))))
abbrev Z8f72 := (([] : B8), Z8266, ())
abbrev Y8266 : Ty := (.fld (.int .i64) (.fld Y9c6e (.fld (.slice Yh) .unit)))
abbrev Yf0bc : Ty := (.fld (.int .i64) (.fld (.int .i64) (.fld Yh (.fld Yh (.fld Yh (.fld Yh .unit))))))
abbrev Zf0bc := ((0 : Int), (0 : Int), Z32, Z32, Z32, Z32, ())
abbrev Y8f72 : Ty := (.fld .str (.fld Y8266 .unit))
abbrev Y65da : Ty := (.fld (.slice Yf0bc) (.fld (.slice Y484d) (.fld (.int .i64) (.fld .bool .unit))))
abbrev Zedcc := (Zf0bc, ([] : List (T8f72)), ([] : List (T484d)), ([] : List (T484d)), ())
abbrev Yedcc : Ty := (.fld Yf0bc (.fld (.slice Y8f72) (.fld (.slice Y484d) (.fld (.slice Y484d) .unit))))
abbrev Y6488 : Ty := (.fld (.slice Yh) (.fld (.slice Ybb) (.fld (.slice .str) (.fld (.slice Y18c3) (.fld (.slice Y484d) (.fld (.slice Yedcc) (.fld (.slice (.slice Y18c3)) .unit)))))))
abbrev rg := List.range
abbrev s0 : List Po := [.sel []]
abbrev s1 : List Po := [.sel [0]]
abbrev b0 : It := .br false
abbrev b1 : It := .br true
theorem r0 : (false : Bool) = false := rfl
theorem r1 : (true : Bool) = true := rfl
theorem rn : ([] : List AObj) = [] := rfl
abbrev p0 : List (List Nat) := [[], [], [], [2], [1, 2, 3], [1, 2, 3, 4], [1, 2, 3, 4, 5], [1, 2, 3, 4, 5, 6], [], [], [9], [9, 10], [8, 9, 10, 11], [8, 9, 10, 11, 12], [8, 9, 10, 11, 12, 13], [8, 9, 10, 11, 12, 13, 14], [1, 2, 3, 4, 5, 6, 7, 8, 9, 10, 11, 12, 13, 14, 15], [], [], [18], [18, 19], [17, 18, 19, 20], [17, 18, 19, 20, 21], [17, 18, 19, 20, 21, 22], [17, 18, 19, 20, 21, 22, 23], [1, 2, 3, 4, 5, 6, 7, 8, 9, 10, 11, 12, 13, 14, 15, 16, 17, 18, 19, 20, 21, 22, 23, 24], [], [], [27], [27, 28], [26, 27, 28, 29], [26, 27, 28, 29, 30], [26, 27, 28, 29, 30, 31], [1, 2, 3, 4, 5, 6, 7, 8, 9, 10, 11, 12, 13, 14, 15, 16, 17, 18, 19, 20, 21, 22, 23, 24, 25, 26, 27, 28, 29, 30, 31, 32], (rg 34), (rg 35)]
abbrev p1 : List (List Nat) := [[], [0], [0, 1], [0, 1, 2], [], [4], [4, 5], [4, 5, 6], (rg 4), (rg 9)]
abbrev p2 : List (List Nat) := [[], [], [1], [1, 2], [1, 2, 3], [], [5], [], [5, 6, 7], [5, 6, 7, 8], [], [10], [5, 6, 7, 8, 9, 10, 11], [1, 2, 3, 4, 5, 6, 7, 8, 9, 10, 11, 12], [], [14], [14, 15], [14, 15, 16], [1, 2, 3, 4, 5, 6, 7, 8, 9, 10, 11, 12, 13, 14, 15, 16, 17], [], [5, 6, 7, 8, 19], [], [5, 6, 7, 8, 19, 20, 21], [5, 6, 7, 8, 19, 20, 21, 22], [], [24], [5, 6, 7, 8, 19, 20, 21, 22, 23, 24, 25], [1, 2, 3, 4, 5, 6, 7, 8, 9, 10, 11, 12, 13, 14, 15, 16, 17, 18, 19, 20, 21, 22, 23, 24, 25, 26], (rg 28), (rg 29)]
abbrev p3 : List (List Nat) := [[], [0], [0, 1], [], [3], (rg 5), (rg 6), [], [7], [0, 1, 2, 3, 4, 5, 7, 8], (rg 10), (rg 11)]
abbrev p4 : List (List Nat) := [[], [0], [], [0, 1, 2], [], (rg 5), [], [], [6, 7], [6, 7, 8], (rg 10), [], [11], [11, 12], (rg 14), (rg 15)]
abbrev p5 : List (List Nat) := [[], [], [1], [1, 2], [], [4], [4, 5], [1, 2, 3, 4, 5, 6], (rg 8), (rg 9)]
abbrev p6 : List (List Nat) := [[], [], [], [], [3], [1, 2, 3, 4], [], (rg 7), (rg 8)]
abbrev p7 : List (List Nat) := [[], [], [], [1, 2], [1, 2, 3], [], [], [1, 2, 3, 4, 5, 6], [1, 2, 3, 4, 5, 6, 7], [1, 2, 3, 4, 5, 6, 7, 8], (rg 10), (rg 11)]
abbrev p8 : List (List Nat) := [[], [], [0, 1], [0, 1, 2], [], [], [4, 5], (rg 7), [], [], (rg 10), (rg 11)]
abbrev p9 : List (List Nat) := [[], [], [0, 1], [0, 1, 2], (rg 4)]
abbrev p10 : List (List Nat) := [[], [], [1], [1, 2], [1, 2, 3], [], [5], [5, 6], [1, 2, 3, 4, 5, 6, 7], (rg 9), (rg 10), (rg 11)]
abbrev p11 : List (List Nat) := [[], [], [1], [1, 2], [1, 2, 3], [], [], [5, 6], [5, 6, 7], [5, 6, 7, 8], [5, 6, 7, 8, 9], [1, 2, 3, 4, 5, 6, 7, 8, 9, 10], (rg 12), (rg 13), (rg 14)]
abbrev p12 : List (List Nat) := [[], [0], [0, 1], [], [3], (rg 5), [], [6], (rg 8), (rg 9), [], (rg 11)]
abbrev p13 : List (List Nat) := [[], [0], [0, 1], [], [3], (rg 5), [0, 1, 2], (rg 7), (rg 8), (rg 9)]
abbrev p14 : List (List Nat) := [[], [], [1], [0, 1, 2], (rg 4), (rg 5), [], [6], [0, 1, 2, 3, 6, 7], (rg 6), (rg 10), (rg 11), (rg 12)]
abbrev p15 : List (List Nat) := [[], [], [1], [0, 1, 2], (rg 4), (rg 5), (rg 5), (rg 7), (rg 8), (rg 9), (rg 5), [0, 1, 2, 3, 4, 10], (rg 12), (rg 13)]
abbrev p16 : List (List Nat) := [[], [], [], [1, 2], (rg 4), [], [5], (rg 7), [], (rg 9), (rg 10)]
abbrev p17 : List (List Nat) := [[], [0], [0, 1], [], [3], (rg 5), (rg 6), (rg 7)]
abbrev p18 : List (List Nat) := [[], [0], [], [0, 1, 2], (rg 4), (rg 5)]
abbrev p19 : List (List Nat) := [[], [], [1], [1, 2], (rg 4), [], [5], (rg 7), (rg 8), [], [9], (rg 11), (rg 12)]
abbrev p20 : List (List Nat) := [[], [0], [], [], [], [2, 3, 4], [2, 3, 4, 5], (rg 7), (rg 8), (rg 9)]
abbrev p21 : List (List Nat) := [[], [0], [], [], [], [4], [2, 3, 4, 5], [2, 3, 4, 5, 6], [2, 3, 4, 5, 6, 7], (rg 9), (rg 10), (rg 11)]
abbrev p22 : List (List Nat) := [[], [], [0, 1], [], (rg 4), [], [], [5, 6], (rg 8), (rg 9), (rg 10), (rg 11)]
abbrev p23 : List (List Nat) := [[], [], [0, 1], [], [], [3, 4], (rg 6), [], [], [7, 8], (rg 10), (rg 11), (rg 12), (rg 13)]
abbrev p24 : List (List Nat) := [[], [0], [0, 1], [0, 1, 2], [], [], [5], (rg 7), (rg 8), (rg 9)]
abbrev p25 : List (List Nat) := [[], [0], [0, 1], [0, 1, 2], [], (rg 5), (rg 6)]
abbrev p26 : List (List Nat) := [[], [], [1], [1, 2], [1, 2, 3], [], [5], [1, 2, 3, 4, 5, 6], (rg 8), (rg 9), (rg 10)]
abbrev p27 : List (List Nat) := [[], [0], [0, 1], [0, 1, 2], [], [4], [4, 5], [4, 5, 6], [], [8], [], [10], [], [12], (rg 14), (rg 15), (rg 16), (rg 16), (rg 17), (rg 19)]
abbrev p28 : List (List Nat) := [[], [0], [], [2], [2, 3], [2, 3, 4], [], [2, 3, 4, 5, 6], [2, 3, 4, 5, 6, 7], [], [9], [9, 10], [9, 10, 11], [], [9, 10, 11, 12, 13], [9, 10, 11, 12, 13, 14], [], [], [17], [], [9, 10, 11, 12, 13, 14, 15, 16, 17, 18, 19], [2, 3, 4, 5, 6, 7, 8, 9, 10, 11, 12, 13, 14, 15, 16, 17, 18, 19, 20], [2, 3, 4, 5, 6, 7, 8, 9, 10, 11, 12, 13, 14, 15, 16, 17, 18, 19, 20, 21], (rg 23), (rg 24), (rg 25)]
abbrev p29 : List (List Nat) := [[], [0], [0, 1], [0, 1, 2], [], [4], (rg 6), (rg 7), (rg 8), [], [9], [9, 10], [9, 10, 11], [], [13], [9, 10, 11, 12, 13, 14], [9, 10, 11, 12, 13, 14, 15], [9, 10, 11, 12, 13, 14, 15, 16], [9, 10, 11, 12, 13, 14, 15, 16, 17], (rg 9), (rg 20), (rg 21), (rg 22), (rg 23)]
abbrev p30 : List (List Nat) := [[], [0], [0, 1], [], [3], (rg 5), (rg 5), [0, 1, 2, 3, 4, 6], (rg 8), (rg 9), (rg 10), (rg 11)]
abbrev p31 : List (List Nat) := [[], [], [], [2], [2, 3], [2, 3, 4], [1, 2, 3, 4, 5], [], [7], [1, 2, 3, 4, 5, 6, 7, 8], (rg 10), (rg 11), (rg 12)]
abbrev p32 : List (List Nat) := [[], [], [], [2], [2, 3], [2, 3, 4], [1, 2, 3, 4, 5], [], [7], [7, 8], [7, 8, 9], [7, 8, 9, 10], [1, 2, 3, 4, 5, 6, 7, 8, 9, 10, 11], (rg 13), (rg 14), (rg 15)]
abbrev p33 : List (List Nat) := [[], [0], [0, 1], [0, 1, 2], (rg 4), (rg 5), (rg 6), (rg 7), (rg 7), [0, 1, 2, 3, 4, 5, 6, 8], (rg 10), (rg 11), (rg 12), (rg 7), [0, 1, 2, 3, 4, 5, 6, 13], (rg 15), (rg 16), (rg 17)]
abbrev p34 : List (List Nat) := [[], [], [1], [], [1, 2, 3], [1, 2, 3, 4], [], [1, 2, 3, 4, 6], [1, 2, 3, 4, 5, 6, 7], (rg 9), [], (rg 11), [], [], [12], [12, 13, 14], [12, 13, 14, 15], (rg 17), [], [18], [18, 19], (rg 21), (rg 22)]
abbrev p35 : List (List Nat) := [[], [], [0], [0, 1, 2], (rg 4), [], (rg 6), [0], (rg 8), (rg 9)]
abbrev p36 : List (List Nat) := [[], [0], [0, 1], [0, 1, 2], [], [4], [4, 5], [4, 5, 6], [], [8], [8, 9], [8, 9, 10], [], [12], [12, 13], [12, 13, 14], [], [16], [16, 17], [16, 17, 18], [], [20], [20, 21], [20, 21, 22], [], [24], [24, 25], [24, 25, 26], [], [28], [28, 29], [28, 29, 30], (rg 4), [0, 1, 2, 3, 4, 5, 6, 7, 32], [0, 1, 2, 3, 4, 5, 6, 7, 8, 9, 10, 11, 32, 33], [0, 1, 2, 3, 4, 5, 6, 7, 8, 9, 10, 11, 12, 13, 14, 15, 32, 33, 34], [0, 1, 2, 3, 4, 5, 6, 7, 8, 9, 10, 11, 12, 13, 14, 15, 16, 17, 18, 19, 32, 33, 34, 35], [0, 1, 2, 3, 4, 5, 6, 7, 8, 9, 10, 11, 12, 13, 14, 15, 16, 17, 18, 19, 20, 21, 22, 23, 32, 33, 34, 35, 36], [0, 1, 2, 3, 4, 5, 6, 7, 8, 9, 10, 11, 12, 13, 14, 15, 16, 17, 18, 19, 20, 21, 22, 23, 24, 25, 26, 27, 32, 33, 34, 35, 36, 37], (rg 39)]
abbrev p37 : List (List Nat) := [[], [], [1], [1, 2], [1, 2, 3], [], [5], [5, 6], [1, 2, 3, 4, 5, 6, 7], [], [9], [9, 10], [1, 2, 3, 4, 5, 6, 7, 8, 9, 10, 11], (rg 13), (rg 14), (rg 15)]
abbrev p38 : List (List Nat) := [[], [0], [0, 1], [0, 1, 2], (rg 4), (rg 5), (rg 6), (rg 7), (rg 8), (rg 9), (rg 10), (rg 9), [0, 1, 2, 3, 4, 5, 6, 7, 8, 11], (rg 13), (rg 14), (rg 15), (rg 16), (rg 17), (rg 18), (rg 19)]
abbrev p39 : List (List Nat) := [[], [0], [], [2], [], (rg 5), (rg 6), (rg 7), (rg 8)]
abbrev p40 : List (List Nat) := [[], [0], [0, 1], [0, 1, 2], [], [4], [4, 5], [4, 5, 6], [4, 5, 6, 7], [4, 5, 6, 7, 8], (rg 10), (rg 11), (rg 12)]
abbrev p41 : List (List Nat) := [[], [0], [0, 1], [0, 1, 2], (rg 4), (rg 5), (rg 6), (rg 7), (rg 8), (rg 9), (rg 10), (rg 11), (rg 12), (rg 13), (rg 14), (rg 15), (rg 16), (rg 17), (rg 18), (rg 19), (rg 20), (rg 21), (rg 22), (rg 20), [0, 1, 2, 3, 4, 5, 6, 7, 8, 9, 10, 11, 12, 13, 14, 15, 16, 17, 18, 19, 23], [0, 1, 2, 3, 4, 5, 6, 7, 8, 9, 10, 11, 12, 13, 14, 15, 16, 17, 18, 19, 23, 24], (rg 26), (rg 27), (rg 28), (rg 29), (rg 30), (rg 31), (rg 29), [0, 1, 2, 3, 4, 5, 6, 7, 8, 9, 10, 11, 12, 13, 14, 15, 16, 17, 18, 19, 20, 21, 22, 23, 24, 25, 26, 27, 28, 32], [0, 1, 2, 3, 4, 5, 6, 7, 8, 9, 10, 11, 12, 13, 14, 15, 16, 17, 18, 19, 20, 21, 22, 23, 24, 25, 26, 27, 28, 32, 33], (rg 35), (rg 36), (rg 37)]
abbrev p42 : List (List Nat) := [[], [], [1], [1, 2], (rg 4), [], [5], [5, 6], [5, 6, 7], (rg 9), (rg 10)]
abbrev p43 : List (List Nat) := [[], [], [1], [0, 1, 2], (rg 4), (rg 5), [], [], [6, 7], [6, 7, 8], [6, 7, 8, 9], (rg 11)]
abbrev p44 : List (List Nat) := [[], [0], [], [2], (rg 4), (rg 5), [], [6], [], [8], [], [10], [], [12], [6, 7, 8, 9, 10, 11, 12, 13], (rg 15), (rg 16), (rg 17)]
abbrev p45 : List (List Nat) := [[], [], [1], [], [1, 2, 3], [], [], [6], [6, 7], [], [6, 7, 8, 9], [], [11], [], [11, 12, 13], [11, 12, 13, 14], [11, 12, 13, 14, 15], [], [17], [], [17, 18, 19], [17, 18, 19, 20], [0, 1, 2, 3, 4, 11, 12, 13, 14, 15, 16, 17, 18, 19, 20, 21], [0, 1, 2, 3, 4, 11, 12, 13, 14, 15, 16, 17, 18, 19, 20, 21, 22], (rg 24), (rg 25)]
abbrev p46 : List (List Nat) := [[], [], [0, 1], [0, 1, 2], [], [], [4, 5], (rg 7), (rg 8), (rg 9)]
abbrev p47 : List (List Nat) := [[], [], [1], [], [3], (rg 5), (rg 6), (rg 7), (rg 7), [], [0, 1, 2, 3, 4, 5, 6, 7, 9], (rg 11)]
abbrev p48 : List (List Nat) := [[], [0], [0, 1], [0, 1, 2], (rg 4), [0, 1], [0, 1, 5], (rg 7), (rg 8), (rg 9), (rg 10), (rg 11), (rg 10), [0, 1, 2, 3, 4, 5, 6, 7, 8, 9, 12], (rg 10), [0, 1, 2, 3, 4, 5, 6, 7, 8, 9, 14], (rg 16), (rg 17), (rg 18), (rg 19), (rg 20), (rg 21), (rg 22), (rg 23), (rg 24), (rg 25), (rg 26), (rg 23), [0, 1, 2, 3, 4, 5, 6, 7, 8, 9, 10, 11, 12, 13, 14, 15, 16, 17, 18, 19, 20, 21, 22, 27], (rg 23), [0, 1, 2, 3, 4, 5, 6, 7, 8, 9, 10, 11, 12, 13, 14, 15, 16, 17, 18, 19, 20, 21, 22, 29], (rg 31), (rg 32), (rg 33), (rg 34)]
abbrev p49 : List (List Nat) := [[], [], [1], [1, 2], [1, 2, 3], [1, 2, 3, 4], [], [6], [6, 7], [1, 2, 3, 4, 5, 6, 7, 8], (rg 10), (rg 11), (rg 12)]
abbrev p50 : List (List Nat) := [[], [0], [0, 1], [0, 1, 2], (rg 4), [], [5], [5, 6], [5, 6, 7], (rg 9), (rg 10), (rg 11), (rg 12), (rg 13)]
abbrev p51 : List (List Nat) := [[], [], [0, 1], [0, 1, 2], [], [], [4, 5], [4, 5, 6], (rg 8)]
abbrev p52 : List (List Nat) := [[], [0], [], [], [], (rg 5), (rg 6)]
abbrev p53 : List (List Nat) := [[], [0], [], [], [3], [], [5], [5, 6], [], [3, 4, 5, 6, 7, 8], (rg 10), (rg 11), (rg 12)]
abbrev p54 : List (List Nat) := [[], [0], [], [2], [], [4], (rg 6), (rg 7), (rg 8), (rg 9), (rg 10), (rg 11), (rg 12), (rg 9), [0, 1, 2, 3, 4, 5, 6, 7, 8, 13], (rg 9), [0, 1, 2, 3, 4, 5, 6, 7, 8, 15], (rg 17), (rg 18), (rg 19)]
abbrev p55 : List (List Nat) := [[], [0], [0, 1], [0, 1, 2], [], [4], [4, 5], [4, 5, 6], (rg 8), (rg 9), (rg 10), (rg 10), (rg 11), (rg 13)]
abbrev p56 : List (List Nat) := [[], [], [1], [1, 2], (rg 4), [], [], [6], [6, 7], (rg 9), (rg 10), (rg 11)]
abbrev p57 : List (List Nat) := [[], [], [1], [1, 2], [], (rg 5), (rg 6)]
abbrev p58 : List (List Nat) := [[], [], [1], [1, 2], [1, 2, 3], [], [1, 2, 3, 4, 5], [1, 2, 3, 4, 5, 6], (rg 8), (rg 9), (rg 10), (rg 11), (rg 12), (rg 11), [0, 1, 2, 3, 4, 5, 6, 7, 8, 9, 10, 13], [0, 1, 2, 3, 4, 5, 6, 7, 8, 9, 10, 13, 14], [0, 1, 2, 3, 4, 5, 6, 7, 8, 9, 10, 13, 14, 15], (rg 11), [0, 1, 2, 3, 4, 5, 6, 7, 8, 9, 10, 13, 14, 15, 16, 17], [0, 1, 2, 3, 4, 5, 6, 7, 8, 9, 10, 13, 14, 15, 16, 17, 18], [0, 1, 2, 3, 4, 5, 6, 7, 8, 9, 10, 13, 14, 15, 16, 17, 18, 19], (rg 21), (rg 22)]
abbrev p59 : List (List Nat) := [[], [0], [0, 1], [0, 1, 2], [0, 1, 2], [0, 1, 2, 4], [0, 1, 2, 4, 5], [0, 1, 2, 4, 5, 6], [0, 1, 2], [0, 1, 2, 4, 5, 6, 7, 8], [0, 1, 2, 4, 5, 6, 7, 8, 9], [0, 1, 2, 4, 5, 6, 7, 8, 9, 10], [0, 1, 2, 4, 5, 6, 7, 8, 9, 10, 11], (rg 13), (rg 14)]
def T : Tab := [(3, (.int .i64), 8), (4, .bool, 1), (5, (.int .u8), 1), (9, .str, 16), (22, (.slice (.int .i64)), 24), (23, (.slice Y1a67), 24), (27, Y011a, 56), (29, Y1a67, 40), (31, (.int .i64), 8), (35, Yh, 32), (37, Yf0bc, 144), (38, (.slice Y8f72), 24), (39, (.slice Y484d), 24), (41, Yedcc, 216), (42, (.slice Yh), 24), (43, (.slice Ybb), 24), (44, (.slice .str), 24), (45, (.slice Y18c3), 24), (46, (.slice Yedcc), 24), (47, (.slice (.slice Y18c3)), 24), (49, Y6488, 168), (50, .ptr, 8), (60, (.slice Yf0bc), 24), (69, Ybb, 24), (71, Y484d, 56), (76, Y18c3, 32), (87, Y9c6e, 48), (89, Y8266, 80), (91, Yb, 24), (93, Y8f72, 96), (98, Y65da, 64), (126, .cplx, 16), (134, (.int .u64), 8), (138, .flt, 8), (142, (.slice (.int .u32)), 24), (144, (.int .u32), 4), (145, Y8, 32), (146, (.int .u64), 8), (149, Y64, 256), (171, (.slice .bool), 24)]
theorem tab : TabOK prog T := tab_of_b (by kernel_rfl)
theorem bytes : bytesB T = true := by kernel_rfl
theorem mix : prog.follows .mixedOrders = true := by kernel_rfl
theorem eqs : J14 prog T [35, 37] = true := by kernel_rfl
theorem env : Env prog T [35, 37] := ⟨tab, eqs, mix⟩
theorem can26 : J01 prog 26 := ⟨_, func26, by kernel_rfl, by kernel_rfl⟩
def q1q_R  (u : List (B8)) : Slot := (.own 0 [])
def q1q_O  (u : List (B8)) : List AObj := [.row .str u true]
theorem q1q_ok  (u : List (B8)) (h : q1q  = some u) : CallC prog 26 [] [] (q1q_R u) (q1q_O u) := by
 unfold q1q at h
 injection h with h; subst h
 exact env.fun func26 can26 (its := []) (pos := s1) .n (by kernel_rfl)
theorem can23 : J01 prog 23 := ⟨_, func23, by kernel_rfl, by kernel_rfl⟩
def q1c_R (a0 : Int) (a1 : Int) (a2 : Int) (u : Int) : Slot := (.v (.int .i64) u)
def q1c_O (a0 : Int) (a1 : Int) (a2 : Int) (u : Int) : List AObj := []
theorem q1c_ok (a0 : Int) (a1 : Int) (a2 : Int) (u : Int) (h : q1c a0 a1 a2 = some u) : CallC prog 23 [(.v (.int .i64) a0), (.v (.int .i64) a1), (.v (.int .i64) a2)] [] (q1c_R a0 a1 a2 u) (q1c_O a0 a1 a2 u) := by
 unfold q1c at h
 obtain ⟨h1, h⟩ := need_some h
 rcases fork_some h with ⟨h2, h⟩ | ⟨h2, h⟩
 ·injection h with h; subst h
  exact env.fun func23 can23 (its := [b1]) (pos := s0) (.c h1 (.c h2 .n)) (by kernel_rfl)
 ·injection h with h; subst h
  exact env.fun func23 can23 (its := [b0]) (pos := s0) (.c h1 (.c h2 .n)) (by kernel_rfl)
theorem can19 : J01 prog 19 := ⟨_, func19, by kernel_rfl, by kernel_rfl⟩
def q28_1_in (x0 : List Int) (x1 : Int) (x2 : Int) (x3 : List (T484d)) (x4 : List (B8)) : St := ⟨[(0, (.v (.slice (.int .i64)) x0)), (3, (.own 0 [])), (7, (.own 1 [])), (8, (.v (.int .i64) x1)), (9, (.v (.int .i64) x2))], [.row Y484d x3 true, .row .str x4 true], 43, 0⟩
def q28_1_ex (o : List (T484d)) : Exit := (.exit 0)
def q28_1_st (o : List (T484d)) : St := ⟨[(3, (.own 0 []))], [.row Y484d o true], 43, 0⟩
theorem q28_1_body (x0 : List Int) (x1 : Int) (x2 : Int) (x3 : List (T484d)) (x4 : List (B8)) : ∀ r, q28_1_step x0 x1 x2 x3 x4 = some r → (match r with | .inl s => J03 prog (J0w (bodyOf f19) [1, 1, 0, 1, 0, 0]) (q28_1_in x0 x1 x2 x3 x4) .normal (q28_1_in x0 x1 s.1 s.2 x4) | .inr o => q28_1_ex o ≠ .normal ∧ J03 prog (J0w (bodyOf f19) [1, 1, 0, 1, 0, 0]) (q28_1_in x0 x1 x2 x3 x4) (q28_1_ex o) (q28_1_st o)) := by
 intro r h
 unfold q28_1_step at h
 rcases fork_some h with ⟨h4, h⟩ | ⟨h4, h⟩
 ·obtain ⟨h5, h⟩ := need_some h
  rcases fork_some h with ⟨h6, h⟩ | ⟨h6, h⟩
  ·rcases fork_some h with ⟨h7, h⟩ | ⟨h7, h⟩
   ·obtain ⟨h8, h⟩ := need_some h
    obtain ⟨u9, h10, h⟩ := andThen_some h
    obtain ⟨h11, h⟩ := need_some h
    injection h with h; subst h
    exact env.code (its := [b1, b1, b1, b1, b1, b1, b1, b1, .call [none, none, none] [] [] true (q1c_R (List.getD x0 (Int.toNat x2) (0 : Int)) (1 : Int) (9 : Int) u9) (q1c_O (List.getD x0 (Int.toNat x2) (0 : Int)) (1 : Int) (9 : Int) u9), .sel [0, 3, 7, 8, 9] [3, 1]]) (.c h4 (.c h5 (.c h6 (.c h6 (.c h6 (.c h6 (.c h6 (.c r1 (.c h7 (.c h8 (.c (q1c_ok (List.getD x0 (Int.toNat x2) (0 : Int)) (1 : Int) (9 : Int) u9 h10) (.c h11 .n)))))))))))) (by kernel_rfl)
   ·obtain ⟨h12, h⟩ := need_some h
    injection h with h; subst h
    exact env.code (its := [b1, b1, b1, b1, b1, b1, b1, b0, .sel [0, 3, 7, 8, 9] [3, 1]]) (.c h4 (.c h5 (.c h6 (.c h6 (.c h6 (.c h6 (.c h6 (.c r1 (.c h7 (.c h12 .n)))))))))) (by kernel_rfl)
  ·rcases fork_some h with ⟨h13, h⟩ | ⟨h13, h⟩
   ·obtain ⟨h14, h⟩ := need_some h
    obtain ⟨u15, h16, h⟩ := andThen_some h
    obtain ⟨h17, h⟩ := need_some h
    injection h with h; subst h
    exact env.code (its := [b1, b0, b0, b0, b0, b0, b1, b1, .call [none, none, none] [] [] true (q1c_R (List.getD x0 (Int.toNat x2) (0 : Int)) (1 : Int) (9 : Int) u15) (q1c_O (List.getD x0 (Int.toNat x2) (0 : Int)) (1 : Int) (9 : Int) u15), .sel [0, 3, 7, 8, 9] [3, 1]]) (.c h4 (.c h5 (.c h6 (.c h6 (.c h6 (.c h6 (.c h6 (.c h13 (.c h13 (.c h14 (.c (q1c_ok (List.getD x0 (Int.toNat x2) (0 : Int)) (1 : Int) (9 : Int) u15 h16) (.c h17 .n)))))))))))) (by kernel_rfl)
   ·injection h with h; subst h
    exact env.code (its := [b1, b0, b0, b0, b0, b0, b0, .sel [0, 3, 7, 8, 9] [0, 1]]) (.c h4 (.c h5 (.c h6 (.c h6 (.c h6 (.c h6 (.c h6 (.c h13 .n)))))))) (by kernel_rfl)
 ·injection h with h; subst h
  exact ⟨by intro e; simp [q28_1_ex] at e, env.code (its := [b0, .sel [3] [0]]) (.c h4 .n) (by kernel_rfl)⟩
theorem q28_1_ok (x0 : List Int) (x1 : Int) (x2 : Int) (x3 : List (T484d)) (x4 : List (B8)) (o : List (T484d)) (h : q28_1 x0 x1 x2 x3 x4 = some o) : J03 prog (J0w (bodyOf f19) [1, 1, 0, 1, 0]) (q28_1_in x0 x1 x2 x3 x4) (q28_1_ex o) (q28_1_st o) :=
 J06.of_step (st := fun s => q28_1_in x0 x1 s.1 s.2 x4) (ex := q28_1_ex) (stO := q28_1_st) (fun s s2 hs => q28_1_body x0 x1 s.1 s.2 x4 (.inl s2) hs) (fun s r hs => q28_1_body x0 x1 s.1 s.2 x4 (.inr r) hs) _ o h
def q28_R (a0 : List Int) (u : List (T484d)) : Slot := (.own 0 [])
def q28_O (a0 : List Int) (u : List (T484d)) : List AObj := [.row Y484d u true]
theorem q28_ok (a0 : List Int) (u : List (T484d)) (h : q28 a0 = some u) : CallC prog 19 [(.v (.slice (.int .i64)) a0)] [] (q28_R a0 u) (q28_O a0 u) := by
 unfold q28 at h
 obtain ⟨u1, h2, h⟩ := andThen_some h
 obtain ⟨o18, h19, h⟩ := andThen_some h
 injection h with h; subst h
 exact env.fun func19 can19 (its := [.call [] [] [] true (q1q_R u1) (q1q_O u1), .dive, .promote 3 Y484d, .sel [0, 3, 7, 8, 9] [1, 0], .part (q28_1_ex o18) (q28_1_st o18)]) (pos := s1) (.c (q1q_ok u1 h2) (.c (q28_1_ok a0 (List.length u1 : Int) (0 : Int) ([] : List (T484d)) u1 o18 h19) .n)) (by kernel_rfl)
theorem can20 : J01 prog 20 := ⟨_, func20, by kernel_rfl, by kernel_rfl⟩
def q22_R (a0 : Int) (u : B8) : Slot := (.v Yh u)
def q22_O (a0 : Int) (u : B8) : List AObj := []
theorem q22_ok (a0 : Int) (u : B8) (h : q22 a0 = some u) : CallC prog 20 [(.v (.int .i64) a0)] [] (q22_R a0 u) (q22_O a0 u) := by
 unfold q22 at h
 injection h with h; subst h
 exact env.fun func20 can20 (its := []) (pos := s0) .n (by kernel_rfl)
theorem can85 : J01 prog 85 := ⟨_, func85, by kernel_rfl, by kernel_rfl⟩
def q11_R  (u : List UInt32) : Slot := (.own 0 [])
def q11_O  (u : List UInt32) : List AObj := [.row (.int .u32) u true]
theorem q11_ok  (u : List UInt32) (h : q11  = some u) : CallC prog 85 [] [] (q11_R u) (q11_O u) := by
 unfold q11 at h
 injection h with h; subst h
 exact env.fun func85 can85 (its := []) (pos := s1) .n (by kernel_rfl)
theorem can97 : J01 prog 97 := ⟨_, func97, by kernel_rfl, by kernel_rfl⟩
def q24_R (a0 : UInt32) (a1 : UInt64) (u : UInt32) : Slot := (.v (.int .u32) u)
def q24_O (a0 : UInt32) (a1 : UInt64) (u : UInt32) : List AObj := []
theorem q24_ok (a0 : UInt32) (a1 : UInt64) (u : UInt32) (h : q24 a0 a1 = some u) : CallC prog 97 [(.v (.int .u32) a0), (.v (.int .u64) a1)] [] (q24_R a0 a1 u) (q24_O a0 a1 u) := by
 unfold q24 at h
 obtain ⟨h1, h⟩ := need_some h
 obtain ⟨h2, h⟩ := need_some h
 injection h with h; subst h
 exact env.fun func97 can97 (its := []) (pos := s0) (.c h1 (.c h2 .n)) (by kernel_rfl)
theorem can86 : J01 prog 86 := ⟨_, func86, by kernel_rfl, by kernel_rfl⟩
def q1s_1_in (x0 : B8) (x1 : List UInt32) (x2 : Int) (x3 : List UInt32) (x4 : List UInt32) (x5 : List UInt32) : St := ⟨[(1, (.v Yb x0)), (2, (.v (.slice (.int .u32)) x1)), (3, (.ptr 0 [])), (6, (.ptr 1 [])), (7, (.ptr 2 [])), (20, (.v (.int .i64) x2))], [.box Y8 (.v Y8 x3) true, .box Y8 (.v Y8 x4) true, .box Y64 (.v Y64 x5) true], 207, 0⟩
def q1s_1_ex (o : List UInt32 × List UInt32 × List UInt32 × List UInt32) : Exit := (.exit 0)
def q1s_1_st (o : List UInt32 × List UInt32 × List UInt32 × List UInt32) : St := ⟨[(2, (.v (.slice (.int .u32)) o.1)), (3, (.ptr 0 [])), (6, (.ptr 1 [])), (7, (.ptr 2 []))], [.box Y8 (.v Y8 o.2.1) true, .box Y8 (.v Y8 o.2.2.1) true, .box Y64 (.v Y64 o.2.2.2) true], 207, 0⟩
theorem q1s_1_body (x0 : B8) (x1 : List UInt32) (x2 : Int) (x3 : List UInt32) (x4 : List UInt32) (x5 : List UInt32) : ∀ r, q1s_1_step x0 x1 x2 x3 x4 x5 = some r → (match r with | .inl s => J03 prog (J0w (bodyOf f86) [1, 1, 0, 1, 0, 0]) (q1s_1_in x0 x1 x2 x3 x4 x5) .normal (q1s_1_in x0 x1 s.1 x3 x4 s.2) | .inr o => q1s_1_ex o ≠ .normal ∧ J03 prog (J0w (bodyOf f86) [1, 1, 0, 1, 0, 0]) (q1s_1_in x0 x1 x2 x3 x4 x5) (q1s_1_ex o) (q1s_1_st o)) := by
 intro r h
 unfold q1s_1_step at h
 rcases fork_some h with ⟨h2, h⟩ | ⟨h2, h⟩
 ·obtain ⟨h3, h⟩ := need_some h
  obtain ⟨h4, h⟩ := need_some h
  obtain ⟨h5, h⟩ := need_some h
  obtain ⟨h6, h⟩ := need_some h
  obtain ⟨h7, h⟩ := need_some h
  injection h with h; subst h
  exact env.code (its := [b1, .pre p0, .sel [1, 2, 3, 6, 7, 20] [0, 1, 2]]) (.c h2 (.c h3 (.c (of_decide_eq_true (p := (0 ≤ (24 : Int))) (by kernel_rfl)) (.c h4 (.c (of_decide_eq_true (p := (0 ≤ (16 : Int))) (by kernel_rfl)) (.c h5 (.c (of_decide_eq_true (p := (0 ≤ (8 : Int))) (by kernel_rfl)) (.c h6 (.c h7 .n))))))))) (by kernel_rfl)
 ·injection h with h; subst h
  exact ⟨by intro e; simp [q1s_1_ex] at e, env.code (its := [b0, .sel [2, 3, 6, 7] [0, 1, 2]]) (.c h2 .n) (by kernel_rfl)⟩
theorem q1s_1_ok (x0 : B8) (x1 : List UInt32) (x2 : Int) (x3 : List UInt32) (x4 : List UInt32) (x5 : List UInt32) (o : List UInt32 × List UInt32 × List UInt32 × List UInt32) (h : q1s_1 x0 x1 x2 x3 x4 x5 = some o) : J03 prog (J0w (bodyOf f86) [1, 1, 0, 1, 0]) (q1s_1_in x0 x1 x2 x3 x4 x5) (q1s_1_ex o) (q1s_1_st o) :=
 J06.of_step (st := fun s => q1s_1_in x0 x1 s.1 x3 x4 s.2) (ex := q1s_1_ex) (stO := q1s_1_st) (fun s s2 hs => q1s_1_body x0 x1 s.1 x3 x4 s.2 (.inl s2) hs) (fun s r hs => q1s_1_body x0 x1 s.1 x3 x4 s.2 (.inr r) hs) _ o h
def q1s_2_in (x0 : List UInt32) (x1 : Int) (x2 : List UInt32) (x3 : List UInt32) (x4 : List UInt32) : St := ⟨[(2, (.v (.slice (.int .u32)) x0)), (3, (.ptr 0 [])), (6, (.ptr 1 [])), (7, (.ptr 2 [])), (9, (.v (.int .i64) x1))], [.box Y8 (.v Y8 x2) true, .box Y8 (.v Y8 x3) true, .box Y64 (.v Y64 x4) true], 207, 0⟩
def q1s_2_ex (o : List UInt32 × List UInt32 × List UInt32 × List UInt32) : Exit := (.exit 2)
def q1s_2_st (o : List UInt32 × List UInt32 × List UInt32 × List UInt32) : St := ⟨[(2, (.v (.slice (.int .u32)) o.1)), (3, (.ptr 0 [])), (6, (.ptr 1 [])), (7, (.ptr 2 []))], [.box Y8 (.v Y8 o.2.1) true, .box Y8 (.v Y8 o.2.2.1) true, .box Y64 (.v Y64 o.2.2.2) true], 207, 0⟩
theorem q1s_2_body (x0 : List UInt32) (x1 : Int) (x2 : List UInt32) (x3 : List UInt32) (x4 : List UInt32) : ∀ r, q1s_2_step x0 x1 x2 x3 x4 = some r → (match r with | .inl s => J03 prog (J0w (bodyOf f86) [1, 1, 1, 0, 1, 0, 0]) (q1s_2_in x0 x1 x2 x3 x4) .normal (q1s_2_in x0 s.1 x2 x3 s.2) | .inr o => q1s_2_ex o ≠ .normal ∧ J03 prog (J0w (bodyOf f86) [1, 1, 1, 0, 1, 0, 0]) (q1s_2_in x0 x1 x2 x3 x4) (q1s_2_ex o) (q1s_2_st o)) := by
 intro r h
 unfold q1s_2_step at h
 rcases fork_some h with ⟨h11, h⟩ | ⟨h11, h⟩
 ·obtain ⟨h12, h⟩ := need_some h
  obtain ⟨h13, h⟩ := need_some h
  obtain ⟨h14, h⟩ := need_some h
  obtain ⟨u15, h16, h⟩ := andThen_some h
  obtain ⟨u17, h18, h⟩ := andThen_some h
  obtain ⟨h19, h⟩ := need_some h
  obtain ⟨u20, h21, h⟩ := andThen_some h
  obtain ⟨u22, h23, h⟩ := andThen_some h
  obtain ⟨h24, h⟩ := need_some h
  injection h with h; subst h
  exact env.code (its := [b1, .pre p1, .pre p2, .asis, .call [none, none] [] [] true (q24_R (List.getD x4 (Int.toNat (w64 (x1 - (15 : Int)))) (0 : UInt32)) (7 : UInt64) u15) (q24_O (List.getD x4 (Int.toNat (w64 (x1 - (15 : Int)))) (0 : UInt32)) (7 : UInt64) u15), .asis, .call [none, none] [] [] true (q24_R (List.getD x4 (Int.toNat (w64 (x1 - (15 : Int)))) (0 : UInt32)) (18 : UInt64) u17) (q24_O (List.getD x4 (Int.toNat (w64 (x1 - (15 : Int)))) (0 : UInt32)) (18 : UInt64) u17), .asis, .call [none, none] [] [] true (q24_R (List.getD x4 (Int.toNat (w64 (x1 - (2 : Int)))) (0 : UInt32)) (17 : UInt64) u20) (q24_O (List.getD x4 (Int.toNat (w64 (x1 - (2 : Int)))) (0 : UInt32)) (17 : UInt64) u20), .asis, .call [none, none] [] [] true (q24_R (List.getD x4 (Int.toNat (w64 (x1 - (2 : Int)))) (0 : UInt32)) (19 : UInt64) u22) (q24_O (List.getD x4 (Int.toNat (w64 (x1 - (2 : Int)))) (0 : UInt32)) (19 : UInt64) u22), .sel [2, 3, 6, 7, 9] [0, 1, 2]]) (.c h11 (.c h12 (.c h13 (.c h14 (.c rn (.c (q24_ok (List.getD x4 (Int.toNat (w64 (x1 - (15 : Int)))) (0 : UInt32)) (7 : UInt64) u15 h16) (.c rn (.c (q24_ok (List.getD x4 (Int.toNat (w64 (x1 - (15 : Int)))) (0 : UInt32)) (18 : UInt64) u17 h18) (.c (of_decide_eq_true (p := (0 ≤ (3 : Int))) (by kernel_rfl)) (.c h19 (.c rn (.c (q24_ok (List.getD x4 (Int.toNat (w64 (x1 - (2 : Int)))) (0 : UInt32)) (17 : UInt64) u20 h21) (.c rn (.c (q24_ok (List.getD x4 (Int.toNat (w64 (x1 - (2 : Int)))) (0 : UInt32)) (19 : UInt64) u22 h23) (.c (of_decide_eq_true (p := (0 ≤ (10 : Int))) (by kernel_rfl)) (.c h24 .n)))))))))))))))) (by kernel_rfl)
 ·injection h with h; subst h
  exact ⟨by intro e; simp [q1s_2_ex] at e, env.code (its := [b0, .sel [2, 3, 6, 7] [0, 1, 2]]) (.c h11 .n) (by kernel_rfl)⟩
theorem q1s_2_ok (x0 : List UInt32) (x1 : Int) (x2 : List UInt32) (x3 : List UInt32) (x4 : List UInt32) (o : List UInt32 × List UInt32 × List UInt32 × List UInt32) (h : q1s_2 x0 x1 x2 x3 x4 = some o) : J03 prog (J0w (bodyOf f86) [1, 1, 1, 0, 1, 0]) (q1s_2_in x0 x1 x2 x3 x4) (q1s_2_ex o) (q1s_2_st o) :=
 J06.of_step (st := fun s => q1s_2_in x0 s.1 x2 x3 s.2) (ex := q1s_2_ex) (stO := q1s_2_st) (fun s s2 hs => q1s_2_body x0 s.1 x2 x3 s.2 (.inl s2) hs) (fun s r hs => q1s_2_body x0 s.1 x2 x3 s.2 (.inr r) hs) _ o h
def q1s_3_in (x0 : List UInt32) (x1 : Int) (x2 : List UInt32) (x3 : List UInt32) (x4 : List UInt32) (x5 : List UInt32) : St := ⟨[(2, (.v (.slice (.int .u32)) x0)), (3, (.ptr 0 [])), (6, (.ptr 1 [])), (7, (.ptr 2 [])), (12, (.ptr 3 [])), (101, (.v (.int .i64) x1))], [.box Y8 (.v Y8 x2) true, .box Y8 (.v Y8 x3) true, .box Y64 (.v Y64 x4) true, .box Y8 (.v Y8 x5) true], 207, 0⟩
def q1s_3_ex (o : List UInt32 × List UInt32 × List UInt32) : Exit := (.exit 4)
def q1s_3_st (o : List UInt32 × List UInt32 × List UInt32) : St := ⟨[(3, (.ptr 0 [])), (6, (.ptr 1 [])), (12, (.ptr 2 []))], [.box Y8 (.v Y8 o.1) true, .box Y8 (.v Y8 o.2.1) true, .box Y8 (.v Y8 o.2.2) true], 207, 0⟩
theorem q1s_3_body (x0 : List UInt32) (x1 : Int) (x2 : List UInt32) (x3 : List UInt32) (x4 : List UInt32) (x5 : List UInt32) : ∀ r, q1s_3_step x0 x1 x2 x3 x4 x5 = some r → (match r with | .inl s => J03 prog (J0w (bodyOf f86) [1, 1, 1, 1, 1, 0, 1, 0, 0]) (q1s_3_in x0 x1 x2 x3 x4 x5) .normal (q1s_3_in x0 s.1 x2 x3 x4 s.2) | .inr o => q1s_3_ex o ≠ .normal ∧ J03 prog (J0w (bodyOf f86) [1, 1, 1, 1, 1, 0, 1, 0, 0]) (q1s_3_in x0 x1 x2 x3 x4 x5) (q1s_3_ex o) (q1s_3_st o)) := by
 intro r h
 unfold q1s_3_step at h
 rcases fork_some h with ⟨h28, h⟩ | ⟨h28, h⟩
 ·obtain ⟨u29, h30, h⟩ := andThen_some h
  obtain ⟨u31, h32, h⟩ := andThen_some h
  obtain ⟨u33, h34, h⟩ := andThen_some h
  obtain ⟨h35, h⟩ := need_some h
  obtain ⟨h36, h⟩ := need_some h
  obtain ⟨u37, h38, h⟩ := andThen_some h
  obtain ⟨u39, h40, h⟩ := andThen_some h
  obtain ⟨u41, h42, h⟩ := andThen_some h
  injection h with h; subst h
  exact env.code (its := [b1, .pre p3, .asis, .call [none, none] [] [] true (q24_R (List.getD x5 (Int.toNat (4 : Int)) (0 : UInt32)) (6 : UInt64) u29) (q24_O (List.getD x5 (Int.toNat (4 : Int)) (0 : UInt32)) (6 : UInt64) u29), .asis, .call [none, none] [] [] true (q24_R (List.getD x5 (Int.toNat (4 : Int)) (0 : UInt32)) (11 : UInt64) u31) (q24_O (List.getD x5 (Int.toNat (4 : Int)) (0 : UInt32)) (11 : UInt64) u31), .asis, .call [none, none] [] [] true (q24_R (List.getD x5 (Int.toNat (4 : Int)) (0 : UInt32)) (25 : UInt64) u33) (q24_O (List.getD x5 (Int.toNat (4 : Int)) (0 : UInt32)) (25 : UInt64) u33), .pre p4, .pre p3, .asis, .call [none, none] [] [] true (q24_R (List.getD x5 (Int.toNat (0 : Int)) (0 : UInt32)) (2 : UInt64) u37) (q24_O (List.getD x5 (Int.toNat (0 : Int)) (0 : UInt32)) (2 : UInt64) u37), .asis, .call [none, none] [] [] true (q24_R (List.getD x5 (Int.toNat (0 : Int)) (0 : UInt32)) (13 : UInt64) u39) (q24_O (List.getD x5 (Int.toNat (0 : Int)) (0 : UInt32)) (13 : UInt64) u39), .asis, .call [none, none] [] [] true (q24_R (List.getD x5 (Int.toNat (0 : Int)) (0 : UInt32)) (22 : UInt64) u41) (q24_O (List.getD x5 (Int.toNat (0 : Int)) (0 : UInt32)) (22 : UInt64) u41), .sel [2, 3, 6, 7, 12, 101] [0, 1, 2, 3]]) (.c h28 (.c (of_decide_eq_true (p := (0 ≤ (4 : Int) ∧ (4 : Int) < (8 : Int))) (by kernel_rfl)) (.c rn (.c (q24_ok (List.getD x5 (Int.toNat (4 : Int)) (0 : UInt32)) (6 : UInt64) u29 h30) (.c (of_decide_eq_true (p := (0 ≤ (4 : Int) ∧ (4 : Int) < (8 : Int))) (by kernel_rfl)) (.c rn (.c (q24_ok (List.getD x5 (Int.toNat (4 : Int)) (0 : UInt32)) (11 : UInt64) u31 h32) (.c (of_decide_eq_true (p := (0 ≤ (4 : Int) ∧ (4 : Int) < (8 : Int))) (by kernel_rfl)) (.c rn (.c (q24_ok (List.getD x5 (Int.toNat (4 : Int)) (0 : UInt32)) (25 : UInt64) u33 h34) (.c (of_decide_eq_true (p := (0 ≤ (4 : Int) ∧ (4 : Int) < (8 : Int))) (by kernel_rfl)) (.c (of_decide_eq_true (p := (0 ≤ (5 : Int) ∧ (5 : Int) < (8 : Int))) (by kernel_rfl)) (.c (of_decide_eq_true (p := (0 ≤ (4 : Int) ∧ (4 : Int) < (8 : Int))) (by kernel_rfl)) (.c (of_decide_eq_true (p := (0 ≤ (6 : Int) ∧ (6 : Int) < (8 : Int))) (by kernel_rfl)) (.c (of_decide_eq_true (p := (0 ≤ (7 : Int) ∧ (7 : Int) < (8 : Int))) (by kernel_rfl)) (.c h35 (.c h36 (.c (of_decide_eq_true (p := (0 ≤ (0 : Int) ∧ (0 : Int) < (8 : Int))) (by kernel_rfl)) (.c rn (.c (q24_ok (List.getD x5 (Int.toNat (0 : Int)) (0 : UInt32)) (2 : UInt64) u37 h38) (.c (of_decide_eq_true (p := (0 ≤ (0 : Int) ∧ (0 : Int) < (8 : Int))) (by kernel_rfl)) (.c rn (.c (q24_ok (List.getD x5 (Int.toNat (0 : Int)) (0 : UInt32)) (13 : UInt64) u39 h40) (.c (of_decide_eq_true (p := (0 ≤ (0 : Int) ∧ (0 : Int) < (8 : Int))) (by kernel_rfl)) (.c rn (.c (q24_ok (List.getD x5 (Int.toNat (0 : Int)) (0 : UInt32)) (22 : UInt64) u41 h42) (.c (of_decide_eq_true (p := (0 ≤ (0 : Int) ∧ (0 : Int) < (8 : Int))) (by kernel_rfl)) (.c (of_decide_eq_true (p := (0 ≤ (1 : Int) ∧ (1 : Int) < (8 : Int))) (by kernel_rfl)) (.c (of_decide_eq_true (p := (0 ≤ (0 : Int) ∧ (0 : Int) < (8 : Int))) (by kernel_rfl)) (.c (of_decide_eq_true (p := (0 ≤ (2 : Int) ∧ (2 : Int) < (8 : Int))) (by kernel_rfl)) (.c (of_decide_eq_true (p := (0 ≤ (1 : Int) ∧ (1 : Int) < (8 : Int))) (by kernel_rfl)) (.c (of_decide_eq_true (p := (0 ≤ (2 : Int) ∧ (2 : Int) < (8 : Int))) (by kernel_rfl)) (.c (of_decide_eq_true (p := (0 ≤ (0 : Int) ∧ (0 : Int) < (8 : Int))) (by kernel_rfl)) (.c (of_decide_eq_true (p := (0 ≤ (1 : Int) ∧ (1 : Int) < (8 : Int))) (by kernel_rfl)) (.c (of_decide_eq_true (p := (0 ≤ (2 : Int) ∧ (2 : Int) < (8 : Int))) (by kernel_rfl)) (.c (of_decide_eq_true (p := (0 ≤ (3 : Int) ∧ (3 : Int) < (8 : Int))) (by kernel_rfl)) (.c (of_decide_eq_true (p := (0 ≤ (4 : Int) ∧ (4 : Int) < (8 : Int))) (by kernel_rfl)) (.c (of_decide_eq_true (p := (0 ≤ (5 : Int) ∧ (5 : Int) < (8 : Int))) (by kernel_rfl)) (.c (of_decide_eq_true (p := (0 ≤ (6 : Int) ∧ (6 : Int) < (8 : Int))) (by kernel_rfl)) .n))))))))))))))))))))))))))))))))))))))) (by kernel_rfl)
 ·injection h with h; subst h
  exact ⟨by intro e; simp [q1s_3_ex] at e, env.code (its := [b0, .sel [3, 6, 12] [0, 1, 3]]) (.c h28 .n) (by kernel_rfl)⟩
theorem q1s_3_ok (x0 : List UInt32) (x1 : Int) (x2 : List UInt32) (x3 : List UInt32) (x4 : List UInt32) (x5 : List UInt32) (o : List UInt32 × List UInt32 × List UInt32) (h : q1s_3 x0 x1 x2 x3 x4 x5 = some o) : J03 prog (J0w (bodyOf f86) [1, 1, 1, 1, 1, 0, 1, 0]) (q1s_3_in x0 x1 x2 x3 x4 x5) (q1s_3_ex o) (q1s_3_st o) :=
 J06.of_step (st := fun s => q1s_3_in x0 s.1 x2 x3 x4 s.2) (ex := q1s_3_ex) (stO := q1s_3_st) (fun s s2 hs => q1s_3_body x0 s.1 x2 x3 x4 s.2 (.inl s2) hs) (fun s r hs => q1s_3_body x0 s.1 x2 x3 x4 s.2 (.inr r) hs) _ o h
def q1s_4_in (x0 : Int) (x1 : List UInt32) (x2 : List UInt32) (x3 : List UInt32) : St := ⟨[(3, (.ptr 0 [])), (6, (.ptr 1 [])), (12, (.ptr 2 [])), (193, (.v (.int .i64) x0))], [.box Y8 (.v Y8 x1) true, .box Y8 (.v Y8 x2) true, .box Y8 (.v Y8 x3) true], 207, 0⟩
def q1s_4_ex (o : List UInt32 × List UInt32) : Exit := (.exit 6)
def q1s_4_st (o : List UInt32 × List UInt32) : St := ⟨[(3, (.ptr 0 [])), (6, (.ptr 1 []))], [.box Y8 (.v Y8 o.1) true, .box Y8 (.v Y8 o.2) true], 207, 0⟩
theorem q1s_4_body (x0 : Int) (x1 : List UInt32) (x2 : List UInt32) (x3 : List UInt32) : ∀ r, q1s_4_step x0 x1 x2 x3 = some r → (match r with | .inl s => J03 prog (J0w (bodyOf f86) [1, 1, 1, 1, 1, 1, 0, 1, 0, 0]) (q1s_4_in x0 x1 x2 x3) .normal (q1s_4_in s.1 s.2 x2 x3) | .inr o => q1s_4_ex o ≠ .normal ∧ J03 prog (J0w (bodyOf f86) [1, 1, 1, 1, 1, 1, 0, 1, 0, 0]) (q1s_4_in x0 x1 x2 x3) (q1s_4_ex o) (q1s_4_st o)) := by
 intro r h
 unfold q1s_4_step at h
 rcases fork_some h with ⟨h46, h⟩ | ⟨h46, h⟩
 ·obtain ⟨h47, h⟩ := need_some h
  injection h with h; subst h
  exact env.code (its := [b1, .pre p5, .sel [3, 6, 12, 193] [0, 1, 2]]) (.c h46 (.c h47 (.c h47 (.c h47 .n)))) (by kernel_rfl)
 ·injection h with h; subst h
  exact ⟨by intro e; simp [q1s_4_ex] at e, env.code (its := [b0, .sel [3, 6] [0, 1]]) (.c h46 .n) (by kernel_rfl)⟩
theorem q1s_4_ok (x0 : Int) (x1 : List UInt32) (x2 : List UInt32) (x3 : List UInt32) (o : List UInt32 × List UInt32) (h : q1s_4 x0 x1 x2 x3 = some o) : J03 prog (J0w (bodyOf f86) [1, 1, 1, 1, 1, 1, 0, 1, 0]) (q1s_4_in x0 x1 x2 x3) (q1s_4_ex o) (q1s_4_st o) :=
 J06.of_step (st := fun s => q1s_4_in s.1 s.2 x2 x3) (ex := q1s_4_ex) (stO := q1s_4_st) (fun s s2 hs => q1s_4_body s.1 s.2 x2 x3 (.inl s2) hs) (fun s r hs => q1s_4_body s.1 s.2 x2 x3 (.inr r) hs) _ o h
def q1s_R (a0 : List UInt32) (a1 : B8) (a2 : List UInt32) (u : List UInt32) : Slot := (.v Y8 u)
def q1s_O (a0 : List UInt32) (a1 : B8) (a2 : List UInt32) (u : List UInt32) : List AObj := []
theorem q1s_ok (a0 : List UInt32) (a1 : B8) (a2 : List UInt32) (u : List UInt32) (h : q1s a0 a1 a2 = some u) : CallC prog 86 [(.v Y8 a0), (.v Yb a1), (.v (.slice (.int .u32)) a2)] [] (q1s_R a0 a1 a2 u) (q1s_O a0 a1 a2 u) := by
 unfold q1s at h
 obtain ⟨o8, h9, h⟩ := andThen_some h
 obtain ⟨o25, h26, h⟩ := andThen_some h
 obtain ⟨o43, h44, h⟩ := andThen_some h
 obtain ⟨o48, h49, h⟩ := andThen_some h
 injection h with h; subst h
 exact env.fun func86 can86 (its := [.dive, .sel [1, 2, 3, 6, 7, 20] [0, 1, 2], .part (q1s_1_ex o8) (q1s_1_st o8), .dive, .sel [2, 3, 6, 7, 9] [0, 1, 2], .part (q1s_2_ex o25) (q1s_2_st o25), .dive, .sel [2, 3, 6, 7, 12, 101] [0, 1, 2, 3], .part (q1s_3_ex o43) (q1s_3_st o43), .dive, .sel [3, 6, 12, 193] [0, 1, 2], .part (q1s_4_ex o48) (q1s_4_st o48)]) (pos := s0) (.c (q1s_1_ok a1 a2 (0 : Int) a0 (List.replicate 8 (0 : UInt32)) (List.replicate 64 (0 : UInt32)) o8 h9) (.c (q1s_2_ok o8.1 (16 : Int) o8.2.1 o8.2.2.1 o8.2.2.2 o25 h26) (.c (q1s_3_ok o25.1 (0 : Int) o25.2.1 o25.2.2.1 o25.2.2.2 o25.2.1 o43 h44) (.c (q1s_4_ok (0 : Int) o43.1 o43.2.1 o43.2.2 o48 h49) .n)))) (by kernel_rfl)
theorem can73 : J01 prog 73 := ⟨_, func73, by kernel_rfl, by kernel_rfl⟩
def q25_1_in (x0 : B8) (x1 : B8) (x2 : List UInt32) (x3 : List UInt32) (x4 : B8) : St := ⟨[(0, (.v Yb x0)), (2, (.ptr 0 [])), (3, (.own 1 [])), (4, (.ptr 2 [])), (5, (.own 3 []))], [.box Yh (.v Yh x1) true, .row (.int .u32) x2 true, .box Y8 (.v Y8 x3) true, .row (.int .u8) x4 true], 88, 0⟩
def q25_1_ex (o : B8 × B8 × List UInt32 × List UInt32 × B8) : Exit := (.exit 0)
def q25_1_st (o : B8 × B8 × List UInt32 × List UInt32 × B8) : St := ⟨[(0, (.v Yb o.1)), (2, (.ptr 0 [])), (3, (.own 1 [])), (4, (.ptr 2 [])), (5, (.own 3 []))], [.box Yh (.v Yh o.2.1) true, .row (.int .u32) o.2.2.1 true, .box Y8 (.v Y8 o.2.2.2.1) true, .row (.int .u8) o.2.2.2.2 true], 88, 0⟩
theorem q25_1_body (x0 : B8) (x1 : B8) (x2 : List UInt32) (x3 : List UInt32) (x4 : B8) : ∀ r, q25_1_step x0 x1 x2 x3 x4 = some r → (match r with | .inl s => J03 prog (J0w (bodyOf f73) [1, 1, 1, 1, 0, 0, 0]) (q25_1_in x0 x1 x2 x3 x4) .normal (q25_1_in x0 x1 x2 x3 s) | .inr o => q25_1_ex o ≠ .normal ∧ J03 prog (J0w (bodyOf f73) [1, 1, 1, 1, 0, 0, 0]) (q25_1_in x0 x1 x2 x3 x4) (q25_1_ex o) (q25_1_st o)) := by
 intro r h
 unfold q25_1_step at h
 rcases fork_some h with ⟨h6, h⟩ | ⟨h6, h⟩
 ·obtain ⟨h7, h⟩ := need_some h
  injection h with h; subst h
  exact env.code (its := [b1, .dive, .sel [0, 2, 3, 4, 5] [0, 1, 2, 5]]) (.c (of_decide_eq_true (p := ((64 : Int) ≠ 0)) (by kernel_rfl)) (.c h6 (.c h7 .n))) (by kernel_rfl)
 ·injection h with h; subst h
  exact ⟨by intro e; simp [q25_1_ex] at e, env.code (its := [b0, .sel [0, 2, 3, 4, 5] [0, 1, 2, 3]]) (.c (of_decide_eq_true (p := ((64 : Int) ≠ 0)) (by kernel_rfl)) (.c h6 .n)) (by kernel_rfl)⟩
theorem q25_1_ok (x0 : B8) (x1 : B8) (x2 : List UInt32) (x3 : List UInt32) (x4 : B8) (o : B8 × B8 × List UInt32 × List UInt32 × B8) (h : q25_1 x0 x1 x2 x3 x4 = some o) : J03 prog (J0w (bodyOf f73) [1, 1, 1, 1, 0, 0]) (q25_1_in x0 x1 x2 x3 x4) (q25_1_ex o) (q25_1_st o) :=
 J06.of_step (st := fun s => q25_1_in x0 x1 x2 x3 s) (ex := q25_1_ex) (stO := q25_1_st) (fun s s2 hs => q25_1_body x0 x1 x2 x3 s (.inl s2) hs) (fun s r hs => q25_1_body x0 x1 x2 x3 s (.inr r) hs) _ o h
def q25_2_in (x0 : B8) (x1 : Int) (x2 : B8) (x3 : List UInt32) (x4 : List UInt32) (x5 : B8) : St := ⟨[(0, (.v Yb x0)), (2, (.ptr 0 [])), (3, (.own 1 [])), (4, (.ptr 2 [])), (5, (.own 3 [])), (6, (.v (.int .i64) x1))], [.box Yh (.v Yh x2) true, .row (.int .u32) x3 true, .box Y8 (.v Y8 x4) true, .row (.int .u8) x5 true], 88, 0⟩
def q25_2_ex (o : B8 × List UInt32 × List UInt32 × B8) : Exit := (.exit 2)
def q25_2_st (o : B8 × List UInt32 × List UInt32 × B8) : St := ⟨[(2, (.ptr 0 [])), (3, (.own 1 [])), (4, (.ptr 2 [])), (5, (.own 3 []))], [.box Yh (.v Yh o.1) true, .row (.int .u32) o.2.1 true, .box Y8 (.v Y8 o.2.2.1) true, .row (.int .u8) o.2.2.2 true], 88, 0⟩
theorem q25_2_body (x0 : B8) (x1 : Int) (x2 : B8) (x3 : List UInt32) (x4 : List UInt32) (x5 : B8) : ∀ r, q25_2_step x0 x1 x2 x3 x4 x5 = some r → (match r with | .inl s => J03 prog (J0w (bodyOf f73) [1, 1, 1, 1, 1, 0, 1, 0, 0]) (q25_2_in x0 x1 x2 x3 x4 x5) .normal (q25_2_in x0 s.1 x2 x3 x4 s.2) | .inr o => q25_2_ex o ≠ .normal ∧ J03 prog (J0w (bodyOf f73) [1, 1, 1, 1, 1, 0, 1, 0, 0]) (q25_2_in x0 x1 x2 x3 x4 x5) (q25_2_ex o) (q25_2_st o)) := by
 intro r h
 unfold q25_2_step at h
 rcases fork_some h with ⟨h11, h⟩ | ⟨h11, h⟩
 ·obtain ⟨h12, h⟩ := need_some h
  obtain ⟨h13, h⟩ := need_some h
  injection h with h; subst h
  exact env.code (its := [b1, .dive, .sel [0, 2, 3, 4, 5, 6] [0, 1, 2, 5]]) (.c h11 (.c h12 (.c h13 .n))) (by kernel_rfl)
 ·injection h with h; subst h
  exact ⟨by intro e; simp [q25_2_ex] at e, env.code (its := [b0, .sel [2, 3, 4, 5] [0, 1, 2, 3]]) (.c h11 .n) (by kernel_rfl)⟩
theorem q25_2_ok (x0 : B8) (x1 : Int) (x2 : B8) (x3 : List UInt32) (x4 : List UInt32) (x5 : B8) (o : B8 × List UInt32 × List UInt32 × B8) (h : q25_2 x0 x1 x2 x3 x4 x5 = some o) : J03 prog (J0w (bodyOf f73) [1, 1, 1, 1, 1, 0, 1, 0]) (q25_2_in x0 x1 x2 x3 x4 x5) (q25_2_ex o) (q25_2_st o) :=
 J06.of_step (st := fun s => q25_2_in x0 s.1 x2 x3 x4 s.2) (ex := q25_2_ex) (stO := q25_2_st) (fun s s2 hs => q25_2_body x0 s.1 x2 x3 x4 s.2 (.inl s2) hs) (fun s r hs => q25_2_body x0 s.1 x2 x3 x4 s.2 (.inr r) hs) _ o h
def q25_3_in (x0 : B8) (x1 : Int) (x2 : B8) (x3 : List UInt32) (x4 : List UInt32) : St := ⟨[(2, (.ptr 0 [])), (3, (.own 1 [])), (4, (.ptr 2 [])), (5, (.v Yb x0)), (7, (.v (.int .i64) x1))], [.box Yh (.v Yh x2) true, .row (.int .u32) x3 true, .box Y8 (.v Y8 x4) true], 88, 0⟩
def q25_3_ex (o : B8 × List UInt32) : Exit := (.exit 4)
def q25_3_st (o : B8 × List UInt32) : St := ⟨[(2, (.ptr 0 [])), (4, (.ptr 1 []))], [.box Yh (.v Yh o.1) true, .box Y8 (.v Y8 o.2) true], 88, 0⟩
theorem q25_3_body (x0 : B8) (x1 : Int) (x2 : B8) (x3 : List UInt32) (x4 : List UInt32) : ∀ r, q25_3_step x0 x1 x2 x3 x4 = some r → (match r with | .inl s => J03 prog (J0w (bodyOf f73) [1, 1, 1, 1, 1, 1, 0, 1, 0, 0]) (q25_3_in x0 x1 x2 x3 x4) .normal (q25_3_in x0 s.1 x2 x3 s.2) | .inr o => q25_3_ex o ≠ .normal ∧ J03 prog (J0w (bodyOf f73) [1, 1, 1, 1, 1, 1, 0, 1, 0, 0]) (q25_3_in x0 x1 x2 x3 x4) (q25_3_ex o) (q25_3_st o)) := by
 intro r h
 unfold q25_3_step at h
 rcases fork_some h with ⟨h17, h⟩ | ⟨h17, h⟩
 ·obtain ⟨h18, h⟩ := need_some h
  obtain ⟨u19, h20, h⟩ := andThen_some h
  injection h with h; subst h
  exact env.code (its := [b1, .pre p6, b0, .asis, .call [none, none, none] [] [0] true (q1s_R x4 (cutL x0 x1 (w64 (x1 + (64 : Int)))) x3 u19) (q1s_O x4 (cutL x0 x1 (w64 (x1 + (64 : Int)))) x3 u19), .sel [2, 3, 4, 5, 7] [0, 1, 2]]) (.c h17 (.c h18 (.c (rfl : ([.row (.int .u32) x3 true] : List AObj) = [.row (.int .u32) x3 true]) (.c (q1s_ok x4 (cutL x0 x1 (w64 (x1 + (64 : Int)))) x3 u19 h20) .n)))) (by kernel_rfl)
 ·injection h with h; subst h
  exact ⟨by intro e; simp [q25_3_ex] at e, env.code (its := [b0, .sel [2, 4] [0, 2]]) (.c h17 .n) (by kernel_rfl)⟩
theorem q25_3_ok (x0 : B8) (x1 : Int) (x2 : B8) (x3 : List UInt32) (x4 : List UInt32) (o : B8 × List UInt32) (h : q25_3 x0 x1 x2 x3 x4 = some o) : J03 prog (J0w (bodyOf f73) [1, 1, 1, 1, 1, 1, 0, 1, 0]) (q25_3_in x0 x1 x2 x3 x4) (q25_3_ex o) (q25_3_st o) :=
 J06.of_step (st := fun s => q25_3_in x0 s.1 x2 x3 s.2) (ex := q25_3_ex) (stO := q25_3_st) (fun s s2 hs => q25_3_body x0 s.1 x2 x3 s.2 (.inl s2) hs) (fun s r hs => q25_3_body x0 s.1 x2 x3 s.2 (.inr r) hs) _ o h
def q25_4_in (x0 : List UInt32) (x1 : Int) (x2 : B8) (x3 : B8) : St := ⟨[(2, (.ptr 0 [])), (8, (.ptr 1 [])), (55, (.v Y8 x0)), (56, (.v (.int .i64) x1))], [.box Yh (.v Yh x2) true, .box Yh (.v Yh x3) true], 88, 0⟩
def q25_4_ex (o : B8 × B8) : Exit := (.exit 6)
def q25_4_st (o : B8 × B8) : St := ⟨[(2, (.ptr 0 [])), (8, (.ptr 1 []))], [.box Yh (.v Yh o.1) true, .box Yh (.v Yh o.2) true], 88, 0⟩
theorem q25_4_body (x0 : List UInt32) (x1 : Int) (x2 : B8) (x3 : B8) : ∀ r, q25_4_step x0 x1 x2 x3 = some r → (match r with | .inl s => J03 prog (J0w (bodyOf f73) [1, 1, 1, 1, 1, 1, 1, 1, 0, 1, 0, 0]) (q25_4_in x0 x1 x2 x3) .normal (q25_4_in x0 s.1 x2 s.2) | .inr o => q25_4_ex o ≠ .normal ∧ J03 prog (J0w (bodyOf f73) [1, 1, 1, 1, 1, 1, 1, 1, 0, 1, 0, 0]) (q25_4_in x0 x1 x2 x3) (q25_4_ex o) (q25_4_st o)) := by
 intro r h
 unfold q25_4_step at h
 rcases fork_some h with ⟨h24, h⟩ | ⟨h24, h⟩
 ·obtain ⟨h25, h⟩ := need_some h
  obtain ⟨h26, h⟩ := need_some h
  obtain ⟨h27, h⟩ := need_some h
  obtain ⟨h28, h⟩ := need_some h
  obtain ⟨h29, h⟩ := need_some h
  injection h with h; subst h
  exact env.code (its := [b1, .dive, .sel [2, 8, 55, 56] [0, 1]]) (.c h24 (.c h25 (.c (of_decide_eq_true (p := (0 ≤ (24 : Int))) (by kernel_rfl)) (.c (of_decide_eq_true (p := (0 ≤ (16 : Int))) (by kernel_rfl)) (.c (of_decide_eq_true (p := (0 ≤ (8 : Int))) (by kernel_rfl)) (.c h26 (.c h27 (.c h28 (.c h29 .n))))))))) (by kernel_rfl)
 ·injection h with h; subst h
  exact ⟨by intro e; simp [q25_4_ex] at e, env.code (its := [b0, .sel [2, 8] [0, 1]]) (.c h24 .n) (by kernel_rfl)⟩
theorem q25_4_ok (x0 : List UInt32) (x1 : Int) (x2 : B8) (x3 : B8) (o : B8 × B8) (h : q25_4 x0 x1 x2 x3 = some o) : J03 prog (J0w (bodyOf f73) [1, 1, 1, 1, 1, 1, 1, 1, 0, 1, 0]) (q25_4_in x0 x1 x2 x3) (q25_4_ex o) (q25_4_st o) :=
 J06.of_step (st := fun s => q25_4_in x0 s.1 x2 s.2) (ex := q25_4_ex) (stO := q25_4_st) (fun s s2 hs => q25_4_body x0 s.1 x2 s.2 (.inl s2) hs) (fun s r hs => q25_4_body x0 s.1 x2 s.2 (.inr r) hs) _ o h
def q25_R (a0 : B8) (u : B8) : Slot := (.v Yh u)
def q25_O (a0 : B8) (u : B8) : List AObj := []
theorem q25_ok (a0 : B8) (u : B8) (h : q25 a0 = some u) : CallC prog 73 [(.v Yb a0)] [] (q25_R a0 u) (q25_O a0 u) := by
 unfold q25 at h
 obtain ⟨u1, h2, h⟩ := andThen_some h
 obtain ⟨h3, h⟩ := need_some h
 obtain ⟨h4, h⟩ := need_some h
 obtain ⟨o8, h9, h⟩ := andThen_some h
 obtain ⟨o14, h15, h⟩ := andThen_some h
 obtain ⟨o21, h22, h⟩ := andThen_some h
 obtain ⟨o30, h31, h⟩ := andThen_some h
 injection h with h; subst h
 exact env.fun func73 can73 (its := [.call [] [] [] true (q11_R u1) (q11_O u1), .dive, .sel [0, 2, 3, 4, 5] [0, 1, 2, 6], .part (q25_1_ex o8) (q25_1_st o8), .dive, .sel [0, 2, 3, 4, 5, 6] [0, 1, 2, 3], .part (q25_2_ex o14) (q25_2_st o14), .dive, .val 5 Yb, .sel [2, 3, 4, 5, 7] [0, 1, 2], .part (q25_3_ex o21) (q25_3_st o21), .dive, .sel [2, 8, 55, 56] [0, 2], .part (q25_4_ex o30) (q25_4_st o30)]) (pos := s0) (.c (q11_ok u1 h2) (.c h3 (.c h4 (.c (q25_1_ok a0 Z32 u1 (List.set (List.set (List.set (List.set (List.set (List.set (List.set (List.set (List.replicate 8 (0 : UInt32)) 0 (1779033703 : UInt32)) 1 (3144134277 : UInt32)) 2 (1013904242 : UInt32)) 3 (2773480762 : UInt32)) 4 (1359893119 : UInt32)) 5 (2600822924 : UInt32)) 6 (528734635 : UInt32)) 7 (1541459225 : UInt32)) ((([] : List (UInt8)) ++ a0) ++ ([(128 : UInt8)] : List (UInt8))) o8 h9) (.c (q25_2_ok o8.1 (7 : Int) o8.2.1 o8.2.2.1 o8.2.2.2.1 o8.2.2.2.2 o14 h15) (.c (q25_3_ok o14.2.2.2 (0 : Int) o14.1 o14.2.1 o14.2.2.1 o21 h22) (.c (q25_4_ok o21.2 (0 : Int) o21.1 Z32 o30 h31) .n))))))) (by kernel_rfl)
theorem can48 : J01 prog 48 := ⟨_, func48, by kernel_rfl, by kernel_rfl⟩
def q1e_1_in (x0 : List (B8)) (x1 : Int) (x2 : Int) (x3 : B8) (x4 : B8) : St := ⟨[(4, (.ptr 0 [])), (5, (.own 1 [])), (10, (.v Ybb x0)), (11, (.v (.int .i64) x1)), (12, (.v (.int .i64) x2))], [.box Yh (.v Yh x3) true, .row (.int .u8) x4 true], 22, 0⟩
def q1e_1_ex (o : B8 × B8) : Exit := (.exit 0)
def q1e_1_st (o : B8 × B8) : St := ⟨[(4, (.ptr 0 [])), (5, (.own 1 []))], [.box Yh (.v Yh o.1) true, .row (.int .u8) o.2 true], 22, 0⟩
theorem q1e_1_body (x0 : List (B8)) (x1 : Int) (x2 : Int) (x3 : B8) (x4 : B8) : ∀ r, q1e_1_step x0 x1 x2 x3 x4 = some r → (match r with | .inl s => J03 prog (J0w (bodyOf f48) [1, 1, 0, 1, 0, 0]) (q1e_1_in x0 x1 x2 x3 x4) .normal (q1e_1_in x0 x1 s.1 x3 s.2) | .inr o => q1e_1_ex o ≠ .normal ∧ J03 prog (J0w (bodyOf f48) [1, 1, 0, 1, 0, 0]) (q1e_1_in x0 x1 x2 x3 x4) (q1e_1_ex o) (q1e_1_st o)) := by
 intro r h
 unfold q1e_1_step at h
 rcases fork_some h with ⟨h2, h⟩ | ⟨h2, h⟩
 ·obtain ⟨h3, h⟩ := need_some h
  obtain ⟨h4, h⟩ := need_some h
  injection h with h; subst h
  exact env.code (its := [b1, .dive, .sel [4, 5, 10, 11, 12] [0, 2]]) (.c h2 (.c h3 (.c h4 .n))) (by kernel_rfl)
 ·injection h with h; subst h
  exact ⟨by intro e; simp [q1e_1_ex] at e, env.code (its := [b0, .sel [4, 5] [0, 1]]) (.c h2 .n) (by kernel_rfl)⟩
theorem q1e_1_ok (x0 : List (B8)) (x1 : Int) (x2 : Int) (x3 : B8) (x4 : B8) (o : B8 × B8) (h : q1e_1 x0 x1 x2 x3 x4 = some o) : J03 prog (J0w (bodyOf f48) [1, 1, 0, 1, 0]) (q1e_1_in x0 x1 x2 x3 x4) (q1e_1_ex o) (q1e_1_st o) :=
 J06.of_step (st := fun s => q1e_1_in x0 x1 s.1 x3 s.2) (ex := q1e_1_ex) (stO := q1e_1_st) (fun s s2 hs => q1e_1_body x0 x1 s.1 x3 s.2 (.inl s2) hs) (fun s r hs => q1e_1_body x0 x1 s.1 x3 s.2 (.inr r) hs) _ o h
def q1e_R (a0 : UInt8) (a1 : List (B8)) (u : B8) : Slot := (.v Yh u)
def q1e_O (a0 : UInt8) (a1 : List (B8)) (u : B8) : List AObj := []
theorem q1e_ok (a0 : UInt8) (a1 : List (B8)) (u : B8) (h : q1e a0 a1 = some u) : CallC prog 48 [(.v (.int .u8) a0), (.v Ybb a1)] [] (q1e_R a0 a1 u) (q1e_O a0 a1 u) := by
 unfold q1e at h
 obtain ⟨o5, h6, h⟩ := andThen_some h
 obtain ⟨u7, h8, h⟩ := andThen_some h
 injection h with h; subst h
 exact env.fun func48 can48 (its := [.dive, .sel [4, 5, 10, 11, 12] [0, 1], .part (q1e_1_ex o5) (q1e_1_st o5), .call [none] [] [1] true (q25_R o5.2 u7) (q25_O o5.2 u7)]) (pos := s0) (.c (q1e_1_ok a1 (List.length a1 : Int) (0 : Int) Z32 ([a0] : List (UInt8)) o5 h6) (.c (q25_ok o5.2 u7 h8) .n)) (by kernel_rfl)
theorem can61 : J01 prog 61 := ⟨_, func61, by kernel_rfl, by kernel_rfl⟩
def q1d_R (a0 : B8) (a1 : Int) (u : B8) : Slot := (.v Yh u)
def q1d_O (a0 : B8) (a1 : Int) (u : B8) : List AObj := []
theorem q1d_ok (a0 : B8) (a1 : Int) (u : B8) (h : q1d a0 a1 = some u) : CallC prog 61 [(.v Yh a0), (.v (.int .i64) a1)] [] (q1d_R a0 a1 u) (q1d_O a0 a1 u) := by
 unfold q1d at h
 obtain ⟨u1, h2, h⟩ := andThen_some h
 injection h with h; subst h
 exact env.fun func61 can61 (its := [b1, .call [none, none] [] [3] true (q1e_R (114 : UInt8) ([a0, ([(UInt8.ofNat (Int.toNat (a1 % 256)))] : List (UInt8))] : List (B8)) u1) (q1e_O (114 : UInt8) ([a0, ([(UInt8.ofNat (Int.toNat (a1 % 256)))] : List (UInt8))] : List (B8)) u1)]) (pos := s0) (.c (q1e_ok (114 : UInt8) ([a0, ([(UInt8.ofNat (Int.toNat (a1 % 256)))] : List (UInt8))] : List (B8)) u1 h2) .n) (by kernel_rfl)
theorem can77 : J01 prog 77 := ⟨_, func77, by kernel_rfl, by kernel_rfl⟩
def q1j_R (a0 : B8) (a1 : Int) (a2 : Int) (u : B8) : Slot := (.v Yh u)
def q1j_O (a0 : B8) (a1 : Int) (a2 : Int) (u : B8) : List AObj := []
theorem q1j_ok (a0 : B8) (a1 : Int) (a2 : Int) (u : B8) (h : q1j a0 a1 a2 = some u) : CallC prog 77 [(.v Yh a0), (.v (.int .i64) a1), (.v (.int .i64) a2)] [] (q1j_R a0 a1 a2 u) (q1j_O a0 a1 a2 u) := by
 unfold q1j at h
 obtain ⟨u1, h2, h⟩ := andThen_some h
 injection h with h; subst h
 exact env.fun func77 can77 (its := [b1, .call [none, none] [] [3] true (q1e_R (115 : UInt8) ([a0, ([(UInt8.ofNat (Int.toNat (a1 % 256))), (UInt8.ofNat (Int.toNat (a2 % 256)))] : List (UInt8))] : List (B8)) u1) (q1e_O (115 : UInt8) ([a0, ([(UInt8.ofNat (Int.toNat (a1 % 256))), (UInt8.ofNat (Int.toNat (a2 % 256)))] : List (UInt8))] : List (B8)) u1)]) (pos := s0) (.c (q1e_ok (115 : UInt8) ([a0, ([(UInt8.ofNat (Int.toNat (a1 % 256))), (UInt8.ofNat (Int.toNat (a2 % 256)))] : List (UInt8))] : List (B8)) u1 h2) .n) (by kernel_rfl)
theorem can78 : J01 prog 78 := ⟨_, func78, by kernel_rfl, by kernel_rfl⟩
def q1a_R (a0 : B8) (u : B8) : Slot := (.v Yh u)
def q1a_O (a0 : B8) (u : B8) : List AObj := []
theorem q1a_ok (a0 : B8) (u : B8) (h : q1a a0 = some u) : CallC prog 78 [(.v Yh a0)] [] (q1a_R a0 u) (q1a_O a0 u) := by
 unfold q1a at h
 obtain ⟨u1, h2, h⟩ := andThen_some h
 injection h with h; subst h
 exact env.fun func78 can78 (its := [b1, .call [none, none] [] [2] true (q1e_R (112 : UInt8) ([a0] : List (B8)) u1) (q1e_O (112 : UInt8) ([a0] : List (B8)) u1)]) (pos := s0) (.c (q1e_ok (112 : UInt8) ([a0] : List (B8)) u1 h2) .n) (by kernel_rfl)
theorem can84 : J01 prog 84 := ⟨_, func84, by kernel_rfl, by kernel_rfl⟩
def q2c_1_in (x0 : List (B8)) (x1 : Int) (x2 : Int) (x3 : B8) (x4 : B8) : St := ⟨[(2, (.ptr 0 [])), (3, (.own 1 [])), (6, (.v (.slice Yh) x0)), (7, (.v (.int .i64) x1)), (8, (.v (.int .i64) x2))], [.box Yh (.v Yh x3) true, .row (.int .u8) x4 true], 19, 0⟩
def q2c_1_ex (o : B8 × B8) : Exit := (.exit 0)
def q2c_1_st (o : B8 × B8) : St := ⟨[(2, (.ptr 0 [])), (3, (.own 1 []))], [.box Yh (.v Yh o.1) true, .row (.int .u8) o.2 true], 19, 0⟩
theorem q2c_1_body (x0 : List (B8)) (x1 : Int) (x2 : Int) (x3 : B8) (x4 : B8) : ∀ r, q2c_1_step x0 x1 x2 x3 x4 = some r → (match r with | .inl s => J03 prog (J0w (bodyOf f84) [1, 1, 0, 1, 0, 0]) (q2c_1_in x0 x1 x2 x3 x4) .normal (q2c_1_in x0 x1 s.1 x3 s.2) | .inr o => q2c_1_ex o ≠ .normal ∧ J03 prog (J0w (bodyOf f84) [1, 1, 0, 1, 0, 0]) (q2c_1_in x0 x1 x2 x3 x4) (q2c_1_ex o) (q2c_1_st o)) := by
 intro r h
 unfold q2c_1_step at h
 rcases fork_some h with ⟨h2, h⟩ | ⟨h2, h⟩
 ·obtain ⟨h3, h⟩ := need_some h
  obtain ⟨h4, h⟩ := need_some h
  injection h with h; subst h
  exact env.code (its := [b1, b1, .sel [2, 3, 6, 7, 8] [0, 3]]) (.c h2 (.c h3 (.c h4 .n))) (by kernel_rfl)
 ·injection h with h; subst h
  exact ⟨by intro e; simp [q2c_1_ex] at e, env.code (its := [b0, .sel [2, 3] [0, 1]]) (.c h2 .n) (by kernel_rfl)⟩
theorem q2c_1_ok (x0 : List (B8)) (x1 : Int) (x2 : Int) (x3 : B8) (x4 : B8) (o : B8 × B8) (h : q2c_1 x0 x1 x2 x3 x4 = some o) : J03 prog (J0w (bodyOf f84) [1, 1, 0, 1, 0]) (q2c_1_in x0 x1 x2 x3 x4) (q2c_1_ex o) (q2c_1_st o) :=
 J06.of_step (st := fun s => q2c_1_in x0 x1 s.1 x3 s.2) (ex := q2c_1_ex) (stO := q2c_1_st) (fun s s2 hs => q2c_1_body x0 x1 s.1 x3 s.2 (.inl s2) hs) (fun s r hs => q2c_1_body x0 x1 s.1 x3 s.2 (.inr r) hs) _ o h
def q2c_R (a0 : List (B8)) (u : B8) : Slot := (.v Yh u)
def q2c_O (a0 : List (B8)) (u : B8) : List AObj := []
theorem q2c_ok (a0 : List (B8)) (u : B8) (h : q2c a0 = some u) : CallC prog 84 [(.v (.slice Yh) a0)] [] (q2c_R a0 u) (q2c_O a0 u) := by
 unfold q2c at h
 obtain ⟨o5, h6, h⟩ := andThen_some h
 obtain ⟨u7, h8, h⟩ := andThen_some h
 injection h with h; subst h
 exact env.fun func84 can84 (its := [.dive, .promote 3 (.int .u8), .sel [2, 3, 6, 7, 8] [0, 1], .part (q2c_1_ex o5) (q2c_1_st o5), .call [none, none] [] [2] true (q1e_R (107 : UInt8) ([o5.2] : List (B8)) u7) (q1e_O (107 : UInt8) ([o5.2] : List (B8)) u7)]) (pos := s0) (.c (q2c_1_ok a0 (List.length a0 : Int) (0 : Int) Z32 ([] : List (UInt8)) o5 h6) (.c (q1e_ok (107 : UInt8) ([o5.2] : List (B8)) u7 h8) .n)) (by kernel_rfl)
theorem can72 : J01 prog 72 := ⟨_, func72, by kernel_rfl, by kernel_rfl⟩
def q29_1_in (x0 : Int) (x1 : B8) (x2 : B8) (x3 : List (B8)) : St := ⟨[(1, (.ptr 0 [])), (2, (.ptr 1 [])), (3, (.own 2 [])), (5, (.v (.int .i64) x0))], [.box Yh (.v Yh x1) true, .box Yh (.v Yh x2) true, .row Yh x3 true], 22, 0⟩
def q29_1_ex (o : B8 × List (B8)) : Exit := (.exit 0)
def q29_1_st (o : B8 × List (B8)) : St := ⟨[(2, (.ptr 0 [])), (3, (.own 1 []))], [.box Yh (.v Yh o.1) true, .row Yh o.2 true], 22, 0⟩
theorem q29_1_body (x0 : Int) (x1 : B8) (x2 : B8) (x3 : List (B8)) : ∀ r, q29_1_step x0 x1 x2 x3 = some r → (match r with | .inl s => J03 prog (J0w (bodyOf f72) [1, 1, 0, 1, 0, 0]) (q29_1_in x0 x1 x2 x3) .normal (q29_1_in s.1 x1 x2 s.2) | .inr o => q29_1_ex o ≠ .normal ∧ J03 prog (J0w (bodyOf f72) [1, 1, 0, 1, 0, 0]) (q29_1_in x0 x1 x2 x3) (q29_1_ex o) (q29_1_st o)) := by
 intro r h
 unfold q29_1_step at h
 rcases fork_some h with ⟨h2, h⟩ | ⟨h2, h⟩
 ·obtain ⟨u3, h4, h⟩ := andThen_some h
  obtain ⟨u5, h6, h⟩ := andThen_some h
  obtain ⟨u7, h8, h⟩ := andThen_some h
  obtain ⟨u9, h10, h⟩ := andThen_some h
  obtain ⟨h11, h⟩ := need_some h
  injection h with h; subst h
  exact env.code (its := [b1, .pre p7, .asis, .call [none, none, none] [] [] true (q1j_R x1 x0 (0 : Int) u3) (q1j_O x1 x0 (0 : Int) u3), .asis, .call [none] [] [] true (q1a_R u3 u5) (q1a_O u3 u5), .asis, .call [none, none, none] [] [] true (q1j_R x1 x0 (1 : Int) u7) (q1j_O x1 x0 (1 : Int) u7), .asis, .call [none] [] [] true (q1a_R u7 u9) (q1a_O u7 u9), .sel [1, 2, 3, 5] [0, 1, 4]]) (.c h2 (.c rn (.c (q1j_ok x1 x0 (0 : Int) u3 h4) (.c rn (.c (q1a_ok u3 u5 h6) (.c rn (.c (q1j_ok x1 x0 (1 : Int) u7 h8) (.c rn (.c (q1a_ok u7 u9 h10) (.c h11 .n)))))))))) (by kernel_rfl)
 ·injection h with h; subst h
  exact ⟨by intro e; simp [q29_1_ex] at e, env.code (its := [b0, .sel [2, 3] [1, 2]]) (.c h2 .n) (by kernel_rfl)⟩
theorem q29_1_ok (x0 : Int) (x1 : B8) (x2 : B8) (x3 : List (B8)) (o : B8 × List (B8)) (h : q29_1 x0 x1 x2 x3 = some o) : J03 prog (J0w (bodyOf f72) [1, 1, 0, 1, 0]) (q29_1_in x0 x1 x2 x3) (q29_1_ex o) (q29_1_st o) :=
 J06.of_step (st := fun s => q29_1_in s.1 x1 x2 s.2) (ex := q29_1_ex) (stO := q29_1_st) (fun s s2 hs => q29_1_body s.1 x1 x2 s.2 (.inl s2) hs) (fun s r hs => q29_1_body s.1 x1 x2 s.2 (.inr r) hs) _ o h
def q29_R (a0 : B8) (u : B8) : Slot := (.v Yh u)
def q29_O (a0 : B8) (u : B8) : List AObj := []
theorem q29_ok (a0 : B8) (u : B8) (h : q29 a0 = some u) : CallC prog 72 [(.v Yh a0)] [] (q29_R a0 u) (q29_O a0 u) := by
 unfold q29 at h
 obtain ⟨o12, h13, h⟩ := andThen_some h
 obtain ⟨u14, h15, h⟩ := andThen_some h
 injection h with h; subst h
 exact env.fun func72 can72 (its := [.dive, .promote 3 Yh, .sel [1, 2, 3, 5] [0, 1, 2], .part (q29_1_ex o12) (q29_1_st o12), .call [none] [] [1] true (q2c_R o12.2 u14) (q2c_O o12.2 u14)]) (pos := s0) (.c (q29_1_ok (0 : Int) a0 Z32 ([] : List (B8)) o12 h13) (.c (q2c_ok o12.2 u14 h15) .n)) (by kernel_rfl)
theorem can47 : J01 prog 47 := ⟨_, func47, by kernel_rfl, by kernel_rfl⟩
def q23_1_in (x0 : Int) (x1 : B8) (x2 : List (B8)) : St := ⟨[(1, (.ptr 0 [])), (3, (.own 1 [])), (4, (.v (.int .i64) x0))], [.box Yh (.v Yh x1) true, .row Yb x2 true], 19, 0⟩
def q23_1_ex (o : List (B8)) : Exit := (.exit 0)
def q23_1_st (o : List (B8)) : St := ⟨[(3, (.own 0 []))], [.row Yb o true], 19, 0⟩
theorem q23_1_body (x0 : Int) (x1 : B8) (x2 : List (B8)) : ∀ r, q23_1_step x0 x1 x2 = some r → (match r with | .inl s => J03 prog (J0w (bodyOf f47) [1, 1, 0, 1, 0, 0]) (q23_1_in x0 x1 x2) .normal (q23_1_in s.1 x1 s.2) | .inr o => q23_1_ex o ≠ .normal ∧ J03 prog (J0w (bodyOf f47) [1, 1, 0, 1, 0, 0]) (q23_1_in x0 x1 x2) (q23_1_ex o) (q23_1_st o)) := by
 intro r h
 unfold q23_1_step at h
 rcases fork_some h with ⟨h2, h⟩ | ⟨h2, h⟩
 ·obtain ⟨u3, h4, h⟩ := andThen_some h
  obtain ⟨u5, h6, h⟩ := andThen_some h
  obtain ⟨h7, h⟩ := need_some h
  injection h with h; subst h
  exact env.code (its := [b1, .call [none, none] [] [] true (q1d_R x1 x0 u3) (q1d_O x1 x0 u3), .call [none] [] [] true (q29_R u3 u5) (q29_O u3 u5), b1, .sel [1, 3, 4] [0, 4]]) (.c h2 (.c (q1d_ok x1 x0 u3 h4) (.c (q29_ok u3 u5 h6) (.c h7 .n)))) (by kernel_rfl)
 ·injection h with h; subst h
  exact ⟨by intro e; simp [q23_1_ex] at e, env.code (its := [b0, .sel [3] [1]]) (.c h2 .n) (by kernel_rfl)⟩
theorem q23_1_ok (x0 : Int) (x1 : B8) (x2 : List (B8)) (o : List (B8)) (h : q23_1 x0 x1 x2 = some o) : J03 prog (J0w (bodyOf f47) [1, 1, 0, 1, 0]) (q23_1_in x0 x1 x2) (q23_1_ex o) (q23_1_st o) :=
 J06.of_step (st := fun s => q23_1_in s.1 x1 s.2) (ex := q23_1_ex) (stO := q23_1_st) (fun s s2 hs => q23_1_body s.1 x1 s.2 (.inl s2) hs) (fun s r hs => q23_1_body s.1 x1 s.2 (.inr r) hs) _ o h
def q23_R (a0 : B8) (u : List (B8)) : Slot := (.own 0 [])
def q23_O (a0 : B8) (u : List (B8)) : List AObj := [.row Yb u true]
theorem q23_ok (a0 : B8) (u : List (B8)) (h : q23 a0 = some u) : CallC prog 47 [(.v Yh a0)] [] (q23_R a0 u) (q23_O a0 u) := by
 unfold q23 at h
 obtain ⟨o8, h9, h⟩ := andThen_some h
 injection h with h; subst h
 exact env.fun func47 can47 (its := [.dive, .promote 3 Yb, .sel [1, 3, 4] [0, 1], .part (q23_1_ex o8) (q23_1_st o8)]) (pos := s1) (.c (q23_1_ok (1 : Int) a0 ([] : List (B8)) o8 h9) .n) (by kernel_rfl)
theorem can49 : J01 prog 49 := ⟨_, func49, by kernel_rfl, by kernel_rfl⟩
def q1u_1_in (x0 : Int) (x1 : Int) : St := ⟨[(0, (.v (.int .i64) x0)), (3, (.v (.int .i64) x1))], [], 11, 0⟩
def q1u_1_ex (o : Int) : Exit := (.exit 0)
def q1u_1_st (o : Int) : St := ⟨[(3, (.v (.int .i64) o))], [], 11, 0⟩
theorem q1u_1_body (x0 : Int) (x1 : Int) : ∀ r, q1u_1_step x0 x1 = some r → (match r with | .inl s => J03 prog (J0w (bodyOf f49) [1, 1, 0, 0, 0]) (q1u_1_in x0 x1) .normal (q1u_1_in x0 s) | .inr o => q1u_1_ex o ≠ .normal ∧ J03 prog (J0w (bodyOf f49) [1, 1, 0, 0, 0]) (q1u_1_in x0 x1) (q1u_1_ex o) (q1u_1_st o)) := by
 intro r h
 unfold q1u_1_step at h
 rcases fork_some h with ⟨h2, h⟩ | ⟨h2, h⟩
 ·injection h with h; subst h
  exact env.code (its := [b1, .dive, .sel [0, 3] []]) (.c h2 .n) (by kernel_rfl)
 ·injection h with h; subst h
  exact ⟨by intro e; simp [q1u_1_ex] at e, env.code (its := [b0, .sel [3] []]) (.c h2 .n) (by kernel_rfl)⟩
theorem q1u_1_ok (x0 : Int) (x1 : Int) (o : Int) (h : q1u_1 x0 x1 = some o) : J03 prog (J0w (bodyOf f49) [1, 1, 0, 0]) (q1u_1_in x0 x1) (q1u_1_ex o) (q1u_1_st o) :=
 J06.of_step (st := fun s => q1u_1_in x0 s) (ex := q1u_1_ex) (stO := q1u_1_st) (fun s s2 hs => q1u_1_body x0 s (.inl s2) hs) (fun s r hs => q1u_1_body x0 s (.inr r) hs) _ o h
def q1u_R (a0 : Int) (u : Int) : Slot := (.v (.int .i64) u)
def q1u_O (a0 : Int) (u : Int) : List AObj := []
theorem q1u_ok (a0 : Int) (u : Int) (h : q1u a0 = some u) : CallC prog 49 [(.v (.int .i64) a0)] [] (q1u_R a0 u) (q1u_O a0 u) := by
 unfold q1u at h
 obtain ⟨o3, h4, h⟩ := andThen_some h
 injection h with h; subst h
 exact env.fun func49 can49 (its := [.dive, .sel [0, 3] [], .part (q1u_1_ex o3) (q1u_1_st o3)]) (pos := s0) (.c (q1u_1_ok a0 (1 : Int) o3 h4) .n) (by kernel_rfl)
theorem can22 : J01 prog 22 := ⟨_, func22, by kernel_rfl, by kernel_rfl⟩
def q21_R (a0 : List (B8)) (u : B8) : Slot := (.v Yh u)
def q21_O (a0 : List (B8)) (u : B8) : List AObj := []
theorem q1g_ok : ∀ (k : Nat) (a0 : List (B8)) (u : B8) (h : q1g k a0 = some u), CallC prog 22 [(.v Ybb a0)] [] (q21_R a0 u) (q21_O a0 u)
 | 0, a0, u, h => by cases h
 | k + 1, a0, u, h => by
  unfold q1g at h
  rcases fork_some h with ⟨h1, h⟩ | ⟨h1, h⟩
  ·obtain ⟨u2, h3, h⟩ := andThen_some h
   injection h with h; subst h
   exact env.fun func22 can22 (its := [b1, .call [none, (some Yb)] [] [] true (q1e_R (2 : UInt8) ([] : List (B8)) u2) (q1e_O (2 : UInt8) ([] : List (B8)) u2)]) (pos := s0) (.c h1 (.c (q1e_ok (2 : UInt8) ([] : List (B8)) u2 h3) .n)) (by kernel_rfl)
  ·rcases fork_some h with ⟨h4, h⟩ | ⟨h4, h⟩
   ·obtain ⟨h5, h⟩ := need_some h
    obtain ⟨u6, h7, h⟩ := andThen_some h
    injection h with h; subst h
    exact env.fun func22 can22 (its := [b0, b1, .call [none, none] [] [1] true (q1e_R (0 : UInt8) ([(List.getD a0 (Int.toNat (0 : Int)) ([] : B8))] : List (B8)) u6) (q1e_O (0 : UInt8) ([(List.getD a0 (Int.toNat (0 : Int)) ([] : B8))] : List (B8)) u6)]) (pos := s0) (.c h1 (.c h4 (.c h5 (.c (q1e_ok (0 : UInt8) ([(List.getD a0 (Int.toNat (0 : Int)) ([] : B8))] : List (B8)) u6 h7) .n)))) (by kernel_rfl)
   ·obtain ⟨u8, h9, h⟩ := andThen_some h
    obtain ⟨h10, h⟩ := need_some h
    obtain ⟨u11, h12, h⟩ := andThen_some h
    obtain ⟨h13, h⟩ := need_some h
    obtain ⟨u14, h15, h⟩ := andThen_some h
    obtain ⟨u16, h17, h⟩ := andThen_some h
    injection h with h; subst h
    exact env.fun func22 can22 (its := [b0, b0, .call [none] [] [] true (q1u_R (List.length a0 : Int) u8) (q1u_O (List.length a0 : Int) u8), .pre p8, b0, .asis, .call [none] [] [] true (q21_R (cutL a0 (0 : Int) u8) u11) (q21_O (cutL a0 (0 : Int) u8) u11), b0, .asis, .call [none] [] [] true (q21_R (cutL a0 u8 (List.length a0 : Int)) u14) (q21_O (cutL a0 u8 (List.length a0 : Int)) u14), .pre p9, b1, b1, .asis, .call [none, none] [] [0] true (q1e_R (1 : UInt8) ([u11, u14] : List (B8)) u16) (q1e_O (1 : UInt8) ([u11, u14] : List (B8)) u16)]) (pos := s0) (.c h1 (.c h4 (.c (q1u_ok (List.length a0 : Int) u8 h9) (.c h10 (.c rn (.c (q1g_ok k (cutL a0 (0 : Int) u8) u11 h12) (.c h13 (.c rn (.c (q1g_ok k (cutL a0 u8 (List.length a0 : Int)) u14 h15) (.c (rfl : ([.row Yb ([u11, u14] : List (B8)) true] : List AObj) = [.row Yb ([u11, u14] : List (B8)) true]) (.c (q1e_ok (1 : UInt8) ([u11, u14] : List (B8)) u16 h17) .n))))))))))) (by kernel_rfl)
theorem q21_ok (a0 : List (B8)) (u : B8) (h : q21 a0 = some u) : CallC prog 22 [(.v Ybb a0)] [] (q21_R a0 u) (q21_O a0 u) := q1g_ok 64 a0 u h
theorem can21 : J01 prog 21 := ⟨_, func21, by kernel_rfl, by kernel_rfl⟩
def qi_1_in (x0 : Int) (x1 : Int) (x2 : List (T484d)) (x3 : List (B8)) (x4 : Unit) (x5 : List (List (B8))) (x6 : List (B8)) : St := ⟨[(1, (.own 1 [])), (5, (.ptr 2 [])), (12, (.own 0 [])), (13, (.v (.int .i64) x0)), (14, (.v (.int .i64) x1))], [.row Y484d x2 true, .row Yh x3 true, .box Y6488 (.node (.own 1 []) (.node (.own 3 []) (.node (.own 4 []) (.node .nil (.node (.own 0 []) (.node .nil (.node .nil (.v .unit x4)))))))) true, .row Ybb x5 true, .row .str x6 true], 46, 2⟩
def qi_1_ex (o : (List (T484d)) × List (B8) × Unit × List (List (B8)) × List (B8)) : Exit := (.exit 0)
def qi_1_st (o : (List (T484d)) × List (B8) × Unit × List (List (B8)) × List (B8)) : St := ⟨[(5, (.ptr 2 []))], [.row Y484d o.1 true, .row Yh o.2.1 true, .box Y6488 (.node (.own 1 []) (.node (.own 3 []) (.node (.own 4 []) (.node .nil (.node (.own 0 []) (.node .nil (.node .nil (.v .unit o.2.2.1)))))))) true, .row Ybb o.2.2.2.1 true, .row .str o.2.2.2.2 true], 46, 2⟩
theorem qi_1_body (x0 : Int) (x1 : Int) (x2 : List (T484d)) (x3 : List (B8)) (x4 : Unit) (x5 : List (List (B8))) (x6 : List (B8)) : ∀ r, qi_1_step x0 x1 x2 x3 x4 x5 x6 = some r → (match r with | .inl s => J03 prog (J0w (bodyOf f21) [1, 1, 0, 1, 0, 0]) (qi_1_in x0 x1 x2 x3 x4 x5 x6) .normal (qi_1_in x0 s.1 x2 x3 x4 s.2.1 s.2.2) | .inr o => qi_1_ex o ≠ .normal ∧ J03 prog (J0w (bodyOf f21) [1, 1, 0, 1, 0, 0]) (qi_1_in x0 x1 x2 x3 x4 x5 x6) (qi_1_ex o) (qi_1_st o)) := by
 intro r h
 unfold qi_1_step at h
 rcases fork_some h with ⟨h2, h⟩ | ⟨h2, h⟩
 ·obtain ⟨h3, h⟩ := need_some h
  obtain ⟨h4, h⟩ := need_some h
  obtain ⟨h5, h⟩ := need_some h
  obtain ⟨u6, h7, h⟩ := andThen_some h
  obtain ⟨h8, h⟩ := need_some h
  injection h with h; subst h
  exact env.code (its := [b1, .pre p10, .pre p11, .call [none] [] [] false (q23_R (List.getD x3 (Int.toNat x1) Z32) u6) (q23_O (List.getD x3 (Int.toNat x1) Z32) u6), .sel [1, 5, 12, 13, 14] [0, 1, 2, 10, 7]]) (.c h2 (.c h3 (.c h4 (.c h5 (.c (q23_ok (List.getD x3 (Int.toNat x1) Z32) u6 h7) (.c h8 .n)))))) (by kernel_rfl)
 ·injection h with h; subst h
  exact ⟨by intro e; simp [qi_1_ex] at e, env.code (its := [b0, .sel [5] [0, 1, 2, 3, 4]]) (.c h2 .n) (by kernel_rfl)⟩
theorem qi_1_ok (x0 : Int) (x1 : Int) (x2 : List (T484d)) (x3 : List (B8)) (x4 : Unit) (x5 : List (List (B8))) (x6 : List (B8)) (o : (List (T484d)) × List (B8) × Unit × List (List (B8)) × List (B8)) (h : qi_1 x0 x1 x2 x3 x4 x5 x6 = some o) : J03 prog (J0w (bodyOf f21) [1, 1, 0, 1, 0]) (qi_1_in x0 x1 x2 x3 x4 x5 x6) (qi_1_ex o) (qi_1_st o) :=
 J06.of_step (st := fun s => qi_1_in x0 s.1 x2 x3 x4 s.2.1 s.2.2) (ex := qi_1_ex) (stO := qi_1_st) (fun s s2 hs => qi_1_body x0 s.1 x2 x3 x4 s.2.1 s.2.2 (.inl s2) hs) (fun s r hs => qi_1_body x0 s.1 x2 x3 x4 s.2.1 s.2.2 (.inr r) hs) _ o h
def qi_R (a0 : List (T484d)) (a1 : List (B8)) (u : (List (T484d)) × List (B8) × Unit × List (List (B8)) × List (B8)) : Slot := (.ptr 2 [])
def qi_O (a0 : List (T484d)) (a1 : List (B8)) (u : (List (T484d)) × List (B8) × Unit × List (List (B8)) × List (B8)) : List AObj := [.row Y484d u.1 true, .row Yh u.2.1 true, .box Y6488 (.node (.own 1 []) (.node (.own 3 []) (.node (.own 4 []) (.node .nil (.node (.own 0 []) (.node .nil (.node .nil (.v .unit u.2.2.1)))))))) true, .row Ybb u.2.2.2.1 true, .row .str u.2.2.2.2 true]
theorem qi_ok (a0 : List (T484d)) (a1 : List (B8)) (u : (List (T484d)) × List (B8) × Unit × List (List (B8)) × List (B8)) (h : qi a0 a1 = some u) : CallC prog 21 [(.own 0 []), (.own 1 [])] [.row Y484d a0 true, .row Yh a1 true] (qi_R a0 a1 u) (qi_O a0 a1 u) := by
 unfold qi at h
 obtain ⟨o9, h10, h⟩ := andThen_some h
 injection h with h; subst h
 exact env.fun func21 can21 (its := [.asis, .dive, .J4w 2 [.fld 1], .J4w 2 [.fld 2], .sel [1, 5, 12, 13, 14] [0, 1, 2, 3, 4], .part (qi_1_ex o9) (qi_1_st o9)]) (pos := [.sel [0, 1, 2, 3, 4]]) (.c (qi_1_ok (List.length a0 : Int) (0 : Int) a0 a1 (()) ([] : List (List (B8))) ([] : List (B8)) o9 h10) .n) (by kernel_rfl)
theorem can4 : J01 prog 4 := ⟨_, func4, by kernel_rfl, by kernel_rfl⟩
def q1r_1_in (x0 : Int) (x1 : Int) (x2 : List (T484d)) (x3 : List (B8)) : St := ⟨[(3, (.own 0 [])), (4, (.own 1 [])), (11, (.v (.int .i64) x0)), (12, (.v (.int .i64) x1))], [.row Y484d x2 true, .row Yh x3 true], 43, 0⟩
def q1r_1_ex (o : (List (T484d)) × List (B8)) : Exit := (.exit 0)
def q1r_1_st (o : (List (T484d)) × List (B8)) : St := ⟨[(3, (.own 0 [])), (4, (.own 1 []))], [.row Y484d o.1 true, .row Yh o.2 true], 43, 0⟩
theorem q1r_1_body (x0 : Int) (x1 : Int) (x2 : List (T484d)) (x3 : List (B8)) : ∀ r, q1r_1_step x0 x1 x2 x3 = some r → (match r with | .inl s => J03 prog (J0w (bodyOf f4) [1, 1, 1, 0, 1, 0, 0]) (q1r_1_in x0 x1 x2 x3) .normal (q1r_1_in x0 s.1 x2 s.2) | .inr o => q1r_1_ex o ≠ .normal ∧ J03 prog (J0w (bodyOf f4) [1, 1, 1, 0, 1, 0, 0]) (q1r_1_in x0 x1 x2 x3) (q1r_1_ex o) (q1r_1_st o)) := by
 intro r h
 unfold q1r_1_step at h
 rcases fork_some h with ⟨h4, h⟩ | ⟨h4, h⟩
 ·obtain ⟨u5, h6, h⟩ := andThen_some h
  obtain ⟨h7, h⟩ := need_some h
  injection h with h; subst h
  exact env.code (its := [b1, .call [none] [] [] true (q22_R x1 u5) (q22_O x1 u5), .sel [3, 4, 11, 12] [0, 3]]) (.c h4 (.c (q22_ok x1 u5 h6) (.c h7 .n))) (by kernel_rfl)
 ·injection h with h; subst h
  exact ⟨by intro e; simp [q1r_1_ex] at e, env.code (its := [b0, .sel [3, 4] [0, 1]]) (.c h4 .n) (by kernel_rfl)⟩
theorem q1r_1_ok (x0 : Int) (x1 : Int) (x2 : List (T484d)) (x3 : List (B8)) (o : (List (T484d)) × List (B8)) (h : q1r_1 x0 x1 x2 x3 = some o) : J03 prog (J0w (bodyOf f4) [1, 1, 1, 0, 1, 0]) (q1r_1_in x0 x1 x2 x3) (q1r_1_ex o) (q1r_1_st o) :=
 J06.of_step (st := fun s => q1r_1_in x0 s.1 x2 s.2) (ex := q1r_1_ex) (stO := q1r_1_st) (fun s s2 hs => q1r_1_body x0 s.1 x2 s.2 (.inl s2) hs) (fun s r hs => q1r_1_body x0 s.1 x2 s.2 (.inr r) hs) _ o h
def q1r_2_in (x0 : Int) (x1 : Int) (x2 : List (T484d)) (x3 : Unit) (x4 : List (B8)) (x5 : List (List (B8))) (x6 : List (B8)) : St := ⟨[(3, (.own 0 [])), (6, (.ptr 1 [])), (25, (.v (.int .i64) x0)), (26, (.v (.int .i64) x1))], [.row Y484d x2 true, .box Y6488 (.node (.own 2 []) (.node (.own 3 []) (.node (.own 4 []) (.node .nil (.node (.own 0 []) (.node .nil (.node .nil (.v .unit x3)))))))) true, .row Yh x4 true, .row Ybb x5 true, .row .str x6 true], 43, 0⟩
def q1r_2_ex (o : Unit × List (B8) × List (List (B8)) × List (B8) × List (T484d)) : Exit := (.exit 2)
def q1r_2_st (o : Unit × List (B8) × List (List (B8)) × List (B8) × List (T484d)) : St := ⟨[(6, (.ptr 0 []))], [.box Y6488 (.node (.own 1 []) (.node (.own 2 []) (.node (.own 3 []) (.node .nil (.node (.own 4 []) (.node .nil (.node .nil (.v .unit o.1)))))))) true, .row Yh o.2.1 true, .row Ybb o.2.2.1 true, .row .str o.2.2.2.1 true, .row Y484d o.2.2.2.2 true], 43, 0⟩
theorem q1r_2_body (x0 : Int) (x1 : Int) (x2 : List (T484d)) (x3 : Unit) (x4 : List (B8)) (x5 : List (List (B8))) (x6 : List (B8)) : ∀ r, q1r_2_step x0 x1 x2 x3 x4 x5 x6 = some r → (match r with | .inl s => J03 prog (J0w (bodyOf f4) [1, 1, 1, 1, 1, 0, 1, 0, 0]) (q1r_2_in x0 x1 x2 x3 x4 x5 x6) .normal (q1r_2_in x0 s.1 s.2 x3 x4 x5 x6) | .inr o => q1r_2_ex o ≠ .normal ∧ J03 prog (J0w (bodyOf f4) [1, 1, 1, 1, 1, 0, 1, 0, 0]) (q1r_2_in x0 x1 x2 x3 x4 x5 x6) (q1r_2_ex o) (q1r_2_st o)) := by
 intro r h
 unfold q1r_2_step at h
 rcases fork_some h with ⟨h13, h⟩ | ⟨h13, h⟩
 ·obtain ⟨h14, h⟩ := need_some h
  obtain ⟨u15, h16, h⟩ := andThen_some h
  obtain ⟨h17, h⟩ := need_some h
  injection h with h; subst h
  exact env.code (its := [b1, .call [none] [] [] true (q21_R (List.getD x5 (Int.toNat x1) ([] : List (B8))) u15) (q21_O (List.getD x5 (Int.toNat x1) ([] : List (B8))) u15), .sel [3, 6, 25, 26] [0, 1, 2, 3, 4]]) (.c h13 (.c h14 (.c (q21_ok (List.getD x5 (Int.toNat x1) ([] : List (B8))) u15 h16) (.c h17 .n)))) (by kernel_rfl)
 ·injection h with h; subst h
  exact ⟨by intro e; simp [q1r_2_ex] at e, env.code (its := [b0, .sel [6] [1, 2, 3, 4, 0]]) (.c h13 .n) (by kernel_rfl)⟩
theorem q1r_2_ok (x0 : Int) (x1 : Int) (x2 : List (T484d)) (x3 : Unit) (x4 : List (B8)) (x5 : List (List (B8))) (x6 : List (B8)) (o : Unit × List (B8) × List (List (B8)) × List (B8) × List (T484d)) (h : q1r_2 x0 x1 x2 x3 x4 x5 x6 = some o) : J03 prog (J0w (bodyOf f4) [1, 1, 1, 1, 1, 0, 1, 0]) (q1r_2_in x0 x1 x2 x3 x4 x5 x6) (q1r_2_ex o) (q1r_2_st o) :=
 J06.of_step (st := fun s => q1r_2_in x0 s.1 s.2 x3 x4 x5 x6) (ex := q1r_2_ex) (stO := q1r_2_st) (fun s s2 hs => q1r_2_body x0 s.1 s.2 x3 x4 x5 x6 (.inl s2) hs) (fun s r hs => q1r_2_body x0 s.1 s.2 x3 x4 x5 x6 (.inr r) hs) _ o h
def q1r_R (a0 : List Int) (u : Unit × List (B8) × List (List (B8)) × List (B8) × List (T484d)) : Slot := (.ptr 0 [])
def q1r_O (a0 : List Int) (u : Unit × List (B8) × List (List (B8)) × List (B8) × List (T484d)) : List AObj := [.box Y6488 (.node (.own 1 []) (.node (.own 2 []) (.node (.own 3 []) (.node .nil (.node (.own 4 []) (.node .nil (.node .nil (.v .unit u.1)))))))) true, .row Yh u.2.1 true, .row Ybb u.2.2.1 true, .row .str u.2.2.2.1 true, .row Y484d u.2.2.2.2 true]
theorem q1r_ok (a0 : List Int) (u : Unit × List (B8) × List (List (B8)) × List (B8) × List (T484d)) (h : q1r a0 = some u) : CallC prog 4 [(.v (.slice (.int .i64)) a0)] [] (q1r_R a0 u) (q1r_O a0 u) := by
 unfold q1r at h
 obtain ⟨u1, h2, h⟩ := andThen_some h
 obtain ⟨o8, h9, h⟩ := andThen_some h
 obtain ⟨u10, h11, h⟩ := andThen_some h
 obtain ⟨o18, h19, h⟩ := andThen_some h
 injection h with h; subst h
 exact env.fun func4 can4 (its := [.call [none] [] [] true (q28_R a0 u1) (q28_O a0 u1), .dive, .promote 4 Yh, .sel [3, 4, 11, 12] [0, 1], .part (q1r_1_ex o8) (q1r_1_st o8), .call [none, none] [0, 1] [] false (qi_R o8.1 o8.2 u10) (qi_O o8.1 o8.2 u10), .dive, .sel [3, 6, 25, 26] [0, 2, 1, 3, 4], .part (q1r_2_ex o18) (q1r_2_st o18)]) (pos := [.sel [0, 1, 2, 3, 4]]) (.c (q28_ok a0 u1 h2) (.c (q1r_1_ok (List.length u1 : Int) (0 : Int) u1 ([] : List (B8)) o8 h9) (.c (qi_ok o8.1 o8.2 u10 h11) (.c (q1r_2_ok (List.length u10.1 : Int) (0 : Int) u10.1 u10.2.2.1 u10.2.1 u10.2.2.2.1 u10.2.2.2.2 o18 h19) .n)))) (by kernel_rfl)
theorem can50 : J01 prog 50 := ⟨_, func50, by kernel_rfl, by kernel_rfl⟩
def q1x_R  (u : List (B8)) : Slot := (.own 0 [])
def q1x_O  (u : List (B8)) : List AObj := [.row .str u true]
theorem q1x_ok  (u : List (B8)) (h : q1x  = some u) : CallC prog 50 [] [] (q1x_R u) (q1x_O u) := by
 unfold q1x at h
 injection h with h; subst h
 exact env.fun func50 can50 (its := []) (pos := s1) .n (by kernel_rfl)
theorem can24 : J01 prog 24 := ⟨_, func24, by kernel_rfl, by kernel_rfl⟩
def q2a_R (a0 : Int) (u : B8) : Slot := (.v .str u)
def q2a_O (a0 : Int) (u : B8) : List AObj := []
theorem q2a_ok (a0 : Int) (u : B8) (h : q2a a0 = some u) : CallC prog 24 [(.v (.int .i64) a0)] [] (q2a_R a0 u) (q2a_O a0 u) := by
 unfold q2a at h
 obtain ⟨u1, h2, h⟩ := andThen_some h
 obtain ⟨u3, h4, h⟩ := andThen_some h
 obtain ⟨u5, h6, h⟩ := andThen_some h
 obtain ⟨h7, h⟩ := need_some h
 injection h with h; subst h
 exact env.fun func24 can24 (its := [.call [] [] [] true (q1x_R u1) (q1x_O u1), .call [] [] [] true (q1x_R u3) (q1x_O u3), .call [none, none, none] [] [] true (q1c_R a0 (0 : Int) (w64 ((List.length u3 : Int) - (1 : Int))) u5) (q1c_O a0 (0 : Int) (w64 ((List.length u3 : Int) - (1 : Int))) u5)]) (pos := s0) (.c (q1x_ok u1 h2) (.c (q1x_ok u3 h4) (.c (q1c_ok a0 (0 : Int) (w64 ((List.length u3 : Int) - (1 : Int))) u5 h6) (.c h7 .n)))) (by kernel_rfl)
theorem can25 : J01 prog 25 := ⟨_, func25, by kernel_rfl, by kernel_rfl⟩
def q1v_R (a0 : Int) (u : B8) : Slot := (.v .str u)
def q1v_O (a0 : Int) (u : B8) : List AObj := []
theorem q1v_ok (a0 : Int) (u : B8) (h : q1v a0 = some u) : CallC prog 25 [(.v (.int .i64) a0)] [] (q1v_R a0 u) (q1v_O a0 u) := by
 unfold q1v at h
 obtain ⟨u1, h2, h⟩ := andThen_some h
 obtain ⟨h3, h⟩ := need_some h
 injection h with h; subst h
 exact env.fun func25 can25 (its := [.call [none, none, none] [] [] true (q1c_R a0 (0 : Int) (4 : Int) u1) (q1c_O a0 (0 : Int) (4 : Int) u1)]) (pos := s0) (.c (q1c_ok a0 (0 : Int) (4 : Int) u1 h2) (.c h3 .n)) (by kernel_rfl)
theorem can5 : J01 prog 5 := ⟨_, func5, by kernel_rfl, by kernel_rfl⟩
def q1o_R (a0 : T1a67) (u : T011a) : Slot := (.v Y011a u)
def q1o_O (a0 : T1a67) (u : T011a) : List AObj := []
theorem q1o_ok (a0 : T1a67) (u : T011a) (h : q1o a0 = some u) : CallC prog 5 [(.v Y1a67 a0)] [] (q1o_R a0 u) (q1o_O a0 u) := by
 unfold q1o at h
 obtain ⟨u1, h2, h⟩ := andThen_some h
 obtain ⟨u3, h4, h⟩ := andThen_some h
 obtain ⟨u5, h6, h⟩ := andThen_some h
 rcases fork_some h with ⟨h7, h⟩ | ⟨h7, h⟩
 ·obtain ⟨u8, h9, h⟩ := andThen_some h
  obtain ⟨u10, h11, h⟩ := andThen_some h
  injection h with h; subst h
  exact env.fun func5 can5 (its := [.pre p12, .asis, .call [none, none, none] [] [] true (q1c_R a0.1 (1 : Int) (6 : Int) u1) (q1c_O a0.1 (1 : Int) (6 : Int) u1), .asis, .call [none, none, none] [] [] true (q1c_R a0.2.2.2.1 (0 : Int) (60 : Int) u3) (q1c_O a0.2.2.2.1 (0 : Int) (60 : Int) u3), .asis, .call [none, none, none] [] [] true (q1c_R a0.2.2.2.2.1 (1 : Int) (60 : Int) u5) (q1c_O a0.2.2.2.2.1 (1 : Int) (60 : Int) u5), b1, .pre p13, .asis, .call [none] [] [] true (q2a_R a0.2.1 u8) (q2a_O a0.2.1 u8), .asis, .call [none] [] [] true (q1v_R a0.2.2.1 u10) (q1v_O a0.2.2.1 u10)]) (pos := s0) (.c rn (.c (q1c_ok a0.1 (1 : Int) (6 : Int) u1 h2) (.c rn (.c (q1c_ok a0.2.2.2.1 (0 : Int) (60 : Int) u3 h4) (.c rn (.c (q1c_ok a0.2.2.2.2.1 (1 : Int) (60 : Int) u5 h6) (.c h7 (.c rn (.c (q2a_ok a0.2.1 u8 h9) (.c rn (.c (q1v_ok a0.2.2.1 u10 h11) .n))))))))))) (by kernel_rfl)
 ·rcases fork_some h with ⟨h12, h⟩ | ⟨h12, h⟩
  ·obtain ⟨u13, h14, h⟩ := andThen_some h
   injection h with h; subst h
   exact env.fun func5 can5 (its := [.pre p12, .asis, .call [none, none, none] [] [] true (q1c_R a0.1 (1 : Int) (6 : Int) u1) (q1c_O a0.1 (1 : Int) (6 : Int) u1), .asis, .call [none, none, none] [] [] true (q1c_R a0.2.2.2.1 (0 : Int) (60 : Int) u3) (q1c_O a0.2.2.2.1 (0 : Int) (60 : Int) u3), .asis, .call [none, none, none] [] [] true (q1c_R a0.2.2.2.2.1 (1 : Int) (60 : Int) u5) (q1c_O a0.2.2.2.2.1 (1 : Int) (60 : Int) u5), b0, b1, .call [none] [] [] true (q2a_R a0.2.1 u13) (q2a_O a0.2.1 u13)]) (pos := s0) (.c rn (.c (q1c_ok a0.1 (1 : Int) (6 : Int) u1 h2) (.c rn (.c (q1c_ok a0.2.2.2.1 (0 : Int) (60 : Int) u3 h4) (.c rn (.c (q1c_ok a0.2.2.2.2.1 (1 : Int) (60 : Int) u5 h6) (.c h7 (.c h12 (.c (q2a_ok a0.2.1 u13 h14) .n))))))))) (by kernel_rfl)
  ·rcases fork_some h with ⟨h15, h⟩ | ⟨h15, h⟩
   ·obtain ⟨u16, h17, h⟩ := andThen_some h
    obtain ⟨u18, h19, h⟩ := andThen_some h
    obtain ⟨h20, h⟩ := need_some h
    obtain ⟨u21, h22, h⟩ := andThen_some h
    injection h with h; subst h
    exact env.fun func5 can5 (its := [.pre p12, .asis, .call [none, none, none] [] [] true (q1c_R a0.1 (1 : Int) (6 : Int) u1) (q1c_O a0.1 (1 : Int) (6 : Int) u1), .asis, .call [none, none, none] [] [] true (q1c_R a0.2.2.2.1 (0 : Int) (60 : Int) u3) (q1c_O a0.2.2.2.1 (0 : Int) (60 : Int) u3), .asis, .call [none, none, none] [] [] true (q1c_R a0.2.2.2.2.1 (1 : Int) (60 : Int) u5) (q1c_O a0.2.2.2.2.1 (1 : Int) (60 : Int) u5), b0, b0, b1, .pre p14, .call [] [] [] true (q1q_R u16) (q1q_O u16), .asis, .call [none, none, none] [] [] true (q1c_R a0.2.1 (0 : Int) (3 : Int) u18) (q1c_O a0.2.1 (0 : Int) (3 : Int) u18), .asis, .call [none, none, none] [] [] true (q1c_R a0.2.2.2.1 (0 : Int) (9 : Int) u21) (q1c_O a0.2.2.2.1 (0 : Int) (9 : Int) u21)]) (pos := s0) (.c rn (.c (q1c_ok a0.1 (1 : Int) (6 : Int) u1 h2) (.c rn (.c (q1c_ok a0.2.2.2.1 (0 : Int) (60 : Int) u3 h4) (.c rn (.c (q1c_ok a0.2.2.2.2.1 (1 : Int) (60 : Int) u5 h6) (.c h7 (.c h12 (.c h15 (.c (q1q_ok u16 h17) (.c rn (.c (q1c_ok a0.2.1 (0 : Int) (3 : Int) u18 h19) (.c h20 (.c rn (.c (q1c_ok a0.2.2.2.1 (0 : Int) (9 : Int) u21 h22) .n))))))))))))))) (by kernel_rfl)
   ·obtain ⟨u23, h24, h⟩ := andThen_some h
    obtain ⟨h25, h⟩ := need_some h
    injection h with h; subst h
    exact env.fun func5 can5 (its := [.pre p12, .asis, .call [none, none, none] [] [] true (q1c_R a0.1 (1 : Int) (6 : Int) u1) (q1c_O a0.1 (1 : Int) (6 : Int) u1), .asis, .call [none, none, none] [] [] true (q1c_R a0.2.2.2.1 (0 : Int) (60 : Int) u3) (q1c_O a0.2.2.2.1 (0 : Int) (60 : Int) u3), .asis, .call [none, none, none] [] [] true (q1c_R a0.2.2.2.2.1 (1 : Int) (60 : Int) u5) (q1c_O a0.2.2.2.2.1 (1 : Int) (60 : Int) u5), b0, b0, b0, .call [none, none, none] [] [] true (q1c_R a0.2.1 (0 : Int) (2 : Int) u23) (q1c_O a0.2.1 (0 : Int) (2 : Int) u23)]) (pos := s0) (.c rn (.c (q1c_ok a0.1 (1 : Int) (6 : Int) u1 h2) (.c rn (.c (q1c_ok a0.2.2.2.1 (0 : Int) (60 : Int) u3 h4) (.c rn (.c (q1c_ok a0.2.2.2.2.1 (1 : Int) (60 : Int) u5 h6) (.c h7 (.c h12 (.c h15 (.c (q1c_ok a0.2.1 (0 : Int) (2 : Int) u23 h24) (.c h25 .n))))))))))) (by kernel_rfl)
theorem can27 : J01 prog 27 := ⟨_, func27, by kernel_rfl, by kernel_rfl⟩
def q12_R (a0 : T18c3) (u : Bool) : Slot := (.v .bool u)
def q12_O (a0 : T18c3) (u : Bool) : List AObj := []
theorem q12_ok (a0 : T18c3) (u : Bool) (h : q12 a0 = some u) : CallC prog 27 [(.v Y18c3 a0)] [] (q12_R a0 u) (q12_O a0 u) := by
 unfold q12 at h
 rcases fork_some h with ⟨h1, h⟩ | ⟨h1, h⟩
 ·rcases fork_some h with ⟨h2, h⟩ | ⟨h2, h⟩
  ·injection h with h; subst h
   exact env.fun func27 can27 (its := [b1, b1, b1, b1, b1, b1, b1, b1, b1, b1]) (pos := s0) (.c h1 (.c h1 (.c h1 (.c h1 (.c h1 (.c h2 (.c h2 (.c h2 (.c h2 (.c h2 .n)))))))))) (by kernel_rfl)
  ·injection h with h; subst h
   exact env.fun func27 can27 (its := [b1, b1, b1, b1, b1, b0, b0, b0, b0, b0]) (pos := s0) (.c h1 (.c h1 (.c h1 (.c h1 (.c h1 (.c h2 (.c h2 (.c h2 (.c h2 (.c h2 .n)))))))))) (by kernel_rfl)
 ·injection h with h; subst h
  exact env.fun func27 can27 (its := [b0, b0, b0, b0, b0, b0, b0, b0, b0, b0]) (pos := s0) (.c h1 (.c h1 (.c h1 (.c h1 (.c h1 (.c r0 (.c r0 (.c r0 (.c r0 (.c r0 .n)))))))))) (by kernel_rfl)
theorem can28 : J01 prog 28 := ⟨_, func28, by kernel_rfl, by kernel_rfl⟩
def q17_R (a0 : B8) (u : Bool) : Slot := (.v .bool u)
def q17_O (a0 : B8) (u : Bool) : List AObj := []
theorem q17_ok (a0 : B8) (u : Bool) (h : q17 a0 = some u) : CallC prog 28 [(.v .str a0)] [] (q17_R a0 u) (q17_O a0 u) := by
 unfold q17 at h
 rcases fork_some h with ⟨h1, h⟩ | ⟨h1, h⟩
 ·obtain ⟨h2, h⟩ := need_some h
  injection h with h; subst h
  exact env.fun func28 can28 (its := [b1, b1, b0, b1, b1]) (pos := s0) (.c h1 (.c h1 (.c h2 (.c h1 (.c h1 .n))))) (by kernel_rfl)
 ·injection h with h; subst h
  exact env.fun func28 can28 (its := [b0, b0, b0, b0]) (pos := s0) (.c h1 (.c h1 (.c h1 (.c h1 .n)))) (by kernel_rfl)
theorem can51 : J01 prog 51 := ⟨_, func51, by kernel_rfl, by kernel_rfl⟩
def q1l_1_in (x0 : List (T18c3)) (x1 : B8) (x2 : Int) : St := ⟨[(0, (.v (.slice Y18c3) x0)), (1, (.v .str x1)), (5, (.v (.int .i64) x2))], [], 22, 0⟩
def q1l_1_ex (o : Int) : Exit := (.exit 0)
def q1l_1_st (o : Int) : St := ⟨[(5, (.v (.int .i64) o))], [], 22, 0⟩
theorem q1l_1_body (x0 : List (T18c3)) (x1 : B8) (x2 : Int) : ∀ r, q1l_1_step x0 x1 x2 = some r → (match r with | .inl s => J03 prog (J0w (bodyOf f51) [1, 1, 0, 0, 0]) (q1l_1_in x0 x1 x2) .normal (q1l_1_in x0 x1 s) | .inr o => q1l_1_ex o ≠ .normal ∧ J03 prog (J0w (bodyOf f51) [1, 1, 0, 0, 0]) (q1l_1_in x0 x1 x2) (q1l_1_ex o) (q1l_1_st o)) := by
 intro r h
 unfold q1l_1_step at h
 rcases fork_some h with ⟨h2, h⟩ | ⟨h2, h⟩
 ·obtain ⟨h3, h⟩ := need_some h
  rcases fork_some h with ⟨h4, h⟩ | ⟨h4, h⟩
  ·injection h with h; subst h
   exact env.code (its := [b1, b1, b1, b1, b1, b1, b1, b1, b1, .dive, .sel [0, 1, 5] []]) (.c h2 (.c h2 (.c h2 (.c h3 (.c h2 (.c h2 (.c h2 (.c h2 (.c h2 (.c h4 .n)))))))))) (by kernel_rfl)
  ·injection h with h; subst h
   exact ⟨by intro e; simp [q1l_1_ex] at e, env.code (its := [b1, b1, b1, b1, b1, b1, b1, b1, b0, .sel [5] []]) (.c h2 (.c h2 (.c h2 (.c h3 (.c h2 (.c h2 (.c h2 (.c h2 (.c h2 (.c h4 .n)))))))))) (by kernel_rfl)⟩
 ·injection h with h; subst h
  exact ⟨by intro e; simp [q1l_1_ex] at e, env.code (its := [b0, b0, b0, b0, b0, b0, b0, b0, b0, .sel [5] []]) (.c h2 (.c h2 (.c h2 (.c h2 (.c h2 (.c h2 (.c h2 (.c h2 (.c r0 .n))))))))) (by kernel_rfl)⟩
theorem q1l_1_ok (x0 : List (T18c3)) (x1 : B8) (x2 : Int) (o : Int) (h : q1l_1 x0 x1 x2 = some o) : J03 prog (J0w (bodyOf f51) [1, 1, 0, 0]) (q1l_1_in x0 x1 x2) (q1l_1_ex o) (q1l_1_st o) :=
 J06.of_step (st := fun s => q1l_1_in x0 x1 s) (ex := q1l_1_ex) (stO := q1l_1_st) (fun s s2 hs => q1l_1_body x0 x1 s (.inl s2) hs) (fun s r hs => q1l_1_body x0 x1 s (.inr r) hs) _ o h
def q1l_R (a0 : List (T18c3)) (a1 : B8) (u : Int) : Slot := (.v (.int .i64) u)
def q1l_O (a0 : List (T18c3)) (a1 : B8) (u : Int) : List AObj := []
theorem q1l_ok (a0 : List (T18c3)) (a1 : B8) (u : Int) (h : q1l a0 a1 = some u) : CallC prog 51 [(.v (.slice Y18c3) a0), (.v .str a1)] [] (q1l_R a0 a1 u) (q1l_O a0 a1 u) := by
 unfold q1l at h
 obtain ⟨o5, h6, h⟩ := andThen_some h
 injection h with h; subst h
 exact env.fun func51 can51 (its := [.dive, .sel [0, 1, 5] [], .part (q1l_1_ex o5) (q1l_1_st o5)]) (pos := s0) (.c (q1l_1_ok a0 a1 (0 : Int) o5 h6) .n) (by kernel_rfl)
theorem can29 : J01 prog 29 := ⟨_, func29, by kernel_rfl, by kernel_rfl⟩
def q2d_R (a0 : List (T18c3)) (a1 : T18c3) (u : List (T18c3)) : Slot := (.own 0 [])
def q2d_O (a0 : List (T18c3)) (a1 : T18c3) (u : List (T18c3)) : List AObj := [.row Y18c3 u true]
theorem q2d_ok (a0 : List (T18c3)) (a1 : T18c3) (u : List (T18c3)) (h : q2d a0 a1 = some u) : CallC prog 29 [(.v (.slice Y18c3) a0), (.v Y18c3 a1)] [] (q2d_R a0 a1 u) (q2d_O a0 a1 u) := by
 unfold q2d at h
 obtain ⟨u1, h2, h⟩ := andThen_some h
 obtain ⟨h3, h⟩ := need_some h
 rcases fork_some h with ⟨h4, h⟩ | ⟨h4, h⟩
 ·obtain ⟨h5, h⟩ := need_some h
  rcases fork_some h with ⟨h6, h⟩ | ⟨h6, h⟩
  ·obtain ⟨h7, h⟩ := need_some h
   obtain ⟨h8, h⟩ := need_some h
   obtain ⟨h9, h⟩ := need_some h
   obtain ⟨h10, h⟩ := need_some h
   obtain ⟨h11, h⟩ := need_some h
   injection h with h; subst h
   exact env.fun func29 can29 (its := [.call [none, none] [] [] true (q1l_R a0 a1.1 u1) (q1l_O a0 a1.1 u1), b0, .pre p15, b1, b1, b1, b1, b1, b1, b1, b1, b1, b1, b0, .pre p16, b0]) (pos := [.sel [5]]) (.c (q1l_ok a0 a1.1 u1 h2) (.c h3 (.c h4 (.c h4 (.c h4 (.c h5 (.c h4 (.c h4 (.c h4 (.c h4 (.c h4 (.c h4 (.c h6 (.c h7 (.c h8 (.c h9 (.c h10 (.c h11 .n)))))))))))))))))) (by kernel_rfl)
  ·obtain ⟨h12, h⟩ := need_some h
   obtain ⟨h13, h⟩ := need_some h
   obtain ⟨h14, h⟩ := need_some h
   obtain ⟨h15, h⟩ := need_some h
   injection h with h; subst h
   exact env.fun func29 can29 (its := [.call [none, none] [] [] true (q1l_R a0 a1.1 u1) (q1l_O a0 a1.1 u1), b0, .pre p15, b1, b1, b1, b1, b1, b1, b1, b1, b1, b0, .pre p16, b0]) (pos := [.sel [5]]) (.c (q1l_ok a0 a1.1 u1 h2) (.c h3 (.c h4 (.c h4 (.c h4 (.c h5 (.c h4 (.c h4 (.c h4 (.c h4 (.c h4 (.c h4 (.c h6 (.c h12 (.c h13 (.c h14 (.c h15 .n))))))))))))))))) (by kernel_rfl)
 ·obtain ⟨h16, h⟩ := need_some h
  obtain ⟨h17, h⟩ := need_some h
  obtain ⟨h18, h⟩ := need_some h
  obtain ⟨h19, h⟩ := need_some h
  injection h with h; subst h
  exact env.fun func29 can29 (its := [.call [none, none] [] [] true (q1l_R a0 a1.1 u1) (q1l_O a0 a1.1 u1), b0, .pre p15, b0, b0, b0, b0, b0, b0, b0, b0, b0, b0, .pre p16, b0]) (pos := [.sel [5]]) (.c (q1l_ok a0 a1.1 u1 h2) (.c h3 (.c h4 (.c h4 (.c h4 (.c h4 (.c h4 (.c h4 (.c h4 (.c h4 (.c h4 (.c r0 (.c h16 (.c h17 (.c h18 (.c h19 .n)))))))))))))))) (by kernel_rfl)
theorem can30 : J01 prog 30 := ⟨_, func30, by kernel_rfl, by kernel_rfl⟩
def q2b_1_in (x0 : B8) (x1 : List (T18c3)) (x2 : Int) (x3 : Int) (x4 : List (T18c3)) : St := ⟨[(1, (.v .str x0)), (5, (.own 0 [])), (8, (.v (.slice Y18c3) x1)), (9, (.v (.int .i64) x2)), (10, (.v (.int .i64) x3))], [.row Y18c3 x4 true], 24, 0⟩
def q2b_1_ex (o : List (T18c3)) : Exit := (.exit 0)
def q2b_1_st (o : List (T18c3)) : St := ⟨[(5, (.own 0 []))], [.row Y18c3 o true], 24, 0⟩
theorem q2b_1_body (x0 : B8) (x1 : List (T18c3)) (x2 : Int) (x3 : Int) (x4 : List (T18c3)) : ∀ r, q2b_1_step x0 x1 x2 x3 x4 = some r → (match r with | .inl s => J03 prog (J0w (bodyOf f30) [1, 1, 0, 1, 0, 0]) (q2b_1_in x0 x1 x2 x3 x4) .normal (q2b_1_in x0 x1 x2 s.1 s.2) | .inr o => q2b_1_ex o ≠ .normal ∧ J03 prog (J0w (bodyOf f30) [1, 1, 0, 1, 0, 0]) (q2b_1_in x0 x1 x2 x3 x4) (q2b_1_ex o) (q2b_1_st o)) := by
 intro r h
 unfold q2b_1_step at h
 rcases fork_some h with ⟨h2, h⟩ | ⟨h2, h⟩
 ·obtain ⟨h3, h⟩ := need_some h
  rcases fork_some h with ⟨h4, h⟩ | ⟨h4, h⟩
  ·obtain ⟨h5, h⟩ := need_some h
   injection h with h; subst h
   exact env.code (its := [b1, b1, .sel [1, 5, 8, 9, 10] [3]]) (.c h2 (.c h3 (.c h4 (.c h5 .n)))) (by kernel_rfl)
  ·injection h with h; subst h
   exact env.code (its := [b1, b0, .sel [1, 5, 8, 9, 10] [0]]) (.c h2 (.c h3 (.c h4 .n))) (by kernel_rfl)
 ·injection h with h; subst h
  exact ⟨by intro e; simp [q2b_1_ex] at e, env.code (its := [b0, .sel [5] [0]]) (.c h2 .n) (by kernel_rfl)⟩
theorem q2b_1_ok (x0 : B8) (x1 : List (T18c3)) (x2 : Int) (x3 : Int) (x4 : List (T18c3)) (o : List (T18c3)) (h : q2b_1 x0 x1 x2 x3 x4 = some o) : J03 prog (J0w (bodyOf f30) [1, 1, 0, 1, 0]) (q2b_1_in x0 x1 x2 x3 x4) (q2b_1_ex o) (q2b_1_st o) :=
 J06.of_step (st := fun s => q2b_1_in x0 x1 x2 s.1 s.2) (ex := q2b_1_ex) (stO := q2b_1_st) (fun s s2 hs => q2b_1_body x0 x1 x2 s.1 s.2 (.inl s2) hs) (fun s r hs => q2b_1_body x0 x1 x2 s.1 s.2 (.inr r) hs) _ o h
def q2b_R (a0 : List (T18c3)) (a1 : B8) (u : List (T18c3)) : Slot := (.own 0 [])
def q2b_O (a0 : List (T18c3)) (a1 : B8) (u : List (T18c3)) : List AObj := [.row Y18c3 u true]
theorem q2b_ok (a0 : List (T18c3)) (a1 : B8) (u : List (T18c3)) (h : q2b a0 a1 = some u) : CallC prog 30 [(.v (.slice Y18c3) a0), (.v .str a1)] [] (q2b_R a0 a1 u) (q2b_O a0 a1 u) := by
 unfold q2b at h
 obtain ⟨o6, h7, h⟩ := andThen_some h
 injection h with h; subst h
 exact env.fun func30 can30 (its := [.dive, .promote 5 Y18c3, .sel [1, 5, 8, 9, 10] [0], .part (q2b_1_ex o6) (q2b_1_st o6)]) (pos := s1) (.c (q2b_1_ok a1 a0 (List.length a0 : Int) (0 : Int) ([] : List (T18c3)) o6 h7) .n) (by kernel_rfl)
theorem can74 : J01 prog 74 := ⟨_, func74, by kernel_rfl, by kernel_rfl⟩
def q18_1_in (x0 : B8) (x1 : Int) (x2 : Int) : St := ⟨[(0, (.v .str x0)), (4, (.v (.int .i64) x1)), (5, (.v (.int .i64) x2))], [], 46, 0⟩
def q18_1_ex (o : (Int × Int) ⊕ (Unit)) : Exit := match o with | (.inl o) => .ret | (.inr o) => (.exit 0)
def q18_1_st (o : (Int × Int) ⊕ (Unit)) : St := match o with | (.inl o) => ⟨[(2, (.v (.int .i64) o.1)), (3, (.v (.int .i64) o.2))], [], 46, 0⟩ | (.inr o) => ⟨[], [], 46, 0⟩
theorem q18_1_body (x0 : B8) (x1 : Int) (x2 : Int) : ∀ r, q18_1_step x0 x1 x2 = some r → (match r with | .inl s => J03 prog (J0w (bodyOf f74) [1, 1, 0, 1, 0, 0]) (q18_1_in x0 x1 x2) .normal (q18_1_in x0 s.1 s.2) | .inr o => q18_1_ex o ≠ .normal ∧ J03 prog (J0w (bodyOf f74) [1, 1, 0, 1, 0, 0]) (q18_1_in x0 x1 x2) (q18_1_ex o) (q18_1_st o)) := by
 intro r h
 unfold q18_1_step at h
 rcases fork_some h with ⟨h2, h⟩ | ⟨h2, h⟩
 ·rcases fork_some h with ⟨h3, h⟩ | ⟨h3, h⟩
  ·obtain ⟨h4, h⟩ := need_some h
   obtain ⟨h5, h⟩ := need_some h
   rcases fork_some h with ⟨h6, h⟩ | ⟨h6, h⟩
   ·rcases fork_some h with ⟨h7, h⟩ | ⟨h7, h⟩
    ·rcases fork_some h with ⟨h8, h⟩ | ⟨h8, h⟩
     ·injection h with h; subst h
      exact ⟨by intro e; simp [q18_1_ex] at e, env.code (its := [b1, b1, b1, b1, b1, b1, b1, b1, b1, b1, b1, b1, b1, b1, .sel [2, 3] []]) (.c h2 (.c h2 (.c h2 (.c h3 (.c h4 (.c h5 (.c h4 (.c h6 (.c h7 (.c h7 (.c h7 (.c h4 (.c h7 (.c h7 (.c h8 (.c h8 (.c h8 (.c r1 .n)))))))))))))))))) (by kernel_rfl)⟩
     ·rcases fork_some h with ⟨h9, h⟩ | ⟨h9, h⟩
      ·injection h with h; subst h
       exact ⟨by intro e; simp [q18_1_ex] at e, env.code (its := [b1, b1, b1, b1, b1, b1, b1, b1, b1, b1, b0, b0, b0, b1, .sel [2, 3] []]) (.c h2 (.c h2 (.c h2 (.c h3 (.c h4 (.c h5 (.c h4 (.c h6 (.c h7 (.c h7 (.c h7 (.c h4 (.c h7 (.c h7 (.c h8 (.c h8 (.c h8 (.c h9 .n)))))))))))))))))) (by kernel_rfl)⟩
      ·injection h with h; subst h
       exact ⟨by intro e; simp [q18_1_ex] at e, env.code (its := [b1, b1, b1, b1, b1, b1, b1, b1, b1, b1, b0, b0, b0, b0, .sel [2, 3] []]) (.c h2 (.c h2 (.c h2 (.c h3 (.c h4 (.c h5 (.c h4 (.c h6 (.c h7 (.c h7 (.c h7 (.c h4 (.c h7 (.c h7 (.c h8 (.c h8 (.c h8 (.c h9 .n)))))))))))))))))) (by kernel_rfl)⟩
    ·rcases fork_some h with ⟨h10, h⟩ | ⟨h10, h⟩
     ·injection h with h; subst h
      exact ⟨by intro e; simp [q18_1_ex] at e, env.code (its := [b1, b1, b1, b1, b1, b0, b0, b0, b0, b0, b0, b0, b0, b1, .sel [2, 3] []]) (.c h2 (.c h2 (.c h2 (.c h3 (.c h4 (.c h5 (.c h4 (.c h6 (.c h7 (.c h7 (.c h7 (.c h7 (.c h7 (.c r0 (.c r0 (.c r0 (.c h10 .n))))))))))))))))) (by kernel_rfl)⟩
     ·injection h with h; subst h
      exact ⟨by intro e; simp [q18_1_ex] at e, env.code (its := [b1, b1, b1, b1, b1, b0, b0, b0, b0, b0, b0, b0, b0, b0, .sel [2, 3] []]) (.c h2 (.c h2 (.c h2 (.c h3 (.c h4 (.c h5 (.c h4 (.c h6 (.c h7 (.c h7 (.c h7 (.c h7 (.c h7 (.c r0 (.c r0 (.c r0 (.c h10 .n))))))))))))))))) (by kernel_rfl)⟩
   ·injection h with h; subst h
    exact env.code (its := [b1, b1, b1, b1, b0, .sel [0, 4, 5] []]) (.c h2 (.c h2 (.c h2 (.c h3 (.c h4 (.c h5 (.c h4 (.c h6 .n)))))))) (by kernel_rfl)
  ·injection h with h; subst h
   exact ⟨by intro e; simp [q18_1_ex] at e, env.code (its := [b1, b1, b1, b0, .sel [] []]) (.c h2 (.c h2 (.c h2 (.c h3 .n)))) (by kernel_rfl)⟩
 ·injection h with h; subst h
  exact ⟨by intro e; simp [q18_1_ex] at e, env.code (its := [b0, b0, b0, b0, .sel [] []]) (.c h2 (.c h2 (.c h2 (.c r0 .n)))) (by kernel_rfl)⟩
theorem q18_1_ok (x0 : B8) (x1 : Int) (x2 : Int) (o : (Int × Int) ⊕ (Unit)) (h : q18_1 x0 x1 x2 = some o) : J03 prog (J0w (bodyOf f74) [1, 1, 0, 1, 0]) (q18_1_in x0 x1 x2) (q18_1_ex o) (q18_1_st o) :=
 J06.of_step (st := fun s => q18_1_in x0 s.1 s.2) (ex := q18_1_ex) (stO := q18_1_st) (fun s s2 hs => q18_1_body x0 s.1 s.2 (.inl s2) hs) (fun s r hs => q18_1_body x0 s.1 s.2 (.inr r) hs) _ o h
def q18_R (a0 : B8) (u : Int × Int) : Slot := (.tup (.v (.int .i64) u.1) (.tup (.v (.int .i64) u.2) .tnil))
def q18_O (a0 : B8) (u : Int × Int) : List AObj := []
theorem q18_ok (a0 : B8) (u : Int × Int) (h : q18 a0 = some u) : CallC prog 74 [(.v .str a0)] [] (q18_R a0 u) (q18_O a0 u) := by
 unfold q18 at h
 obtain ⟨o11, h12, h⟩ := andThen_some h
 rcases o11 with o13 | o14
 ·injection h with h; subst h
  exact env.fun func74 can74 (its := [.dive, .sel [0, 4, 5] [], .part (q18_1_ex (.inl o13)) (q18_1_st (.inl o13))]) (pos := s0) (.c (q18_1_ok a0 (0 : Int) (0 : Int) (.inl o13) h12) .n) (by kernel_rfl)
 ·injection h with h; subst h
  exact env.fun func74 can74 (its := [.dive, .sel [0, 4, 5] [], .part (q18_1_ex (.inr o14)) (q18_1_st (.inr o14))]) (pos := s0) (.c (q18_1_ok a0 (0 : Int) (0 : Int) (.inr o14) h12) .n) (by kernel_rfl)
theorem can52 : J01 prog 52 := ⟨_, func52, by kernel_rfl, by kernel_rfl⟩
def qr_R (a0 : B8) (u : Int × Int × Bool) : Slot := (.tup (.v (.int .i64) u.1) (.tup (.v (.int .i64) u.2.1) (.tup (.v .bool u.2.2) .tnil)))
def qr_O (a0 : B8) (u : Int × Int × Bool) : List AObj := []
theorem qr_ok (a0 : B8) (u : Int × Int × Bool) (h : qr a0 = some u) : CallC prog 52 [(.v .str a0)] [] (qr_R a0 u) (qr_O a0 u) := by
 unfold qr at h
 obtain ⟨u1, h2, h⟩ := andThen_some h
 rcases fork_some h with ⟨h3, h⟩ | ⟨h3, h⟩
 ·injection h with h; subst h
  exact env.fun func52 can52 (its := [.call [none] [] [] true (q18_R a0 u1) (q18_O a0 u1), b1]) (pos := s0) (.c (q18_ok a0 u1 h2) (.c h3 .n)) (by kernel_rfl)
 ·obtain ⟨h4, h⟩ := need_some h
  obtain ⟨u5, h6, h⟩ := andThen_some h
  rcases fork_some h with ⟨h7, h⟩ | ⟨h7, h⟩
  ·injection h with h; subst h
   exact env.fun func52 can52 (its := [.call [none] [] [] true (q18_R a0 u1) (q18_O a0 u1), b0, b0, .call [none] [] [] true (q18_R (cutL a0 u1.2 (List.length a0 : Int)) u5) (q18_O (cutL a0 u1.2 (List.length a0 : Int)) u5), b1, b1, b1, b1, b1, b1, b1, b1, b1, b1, b1, b1, b1, b1]) (pos := s0) (.c (q18_ok a0 u1 h2) (.c h3 (.c h4 (.c (q18_ok (cutL a0 u1.2 (List.length a0 : Int)) u5 h6) (.c h7 (.c h7 (.c h7 (.c h7 (.c h7 (.c h7 (.c h7 (.c r1 (.c r1 (.c r1 (.c r1 (.c r1 (.c r1 (.c r1 .n)))))))))))))))))) (by kernel_rfl)
  ·rcases fork_some h with ⟨h8, h⟩ | ⟨h8, h⟩
   ·injection h with h; subst h
    exact env.fun func52 can52 (its := [.call [none] [] [] true (q18_R a0 u1) (q18_O a0 u1), b0, b0, .call [none] [] [] true (q18_R (cutL a0 u1.2 (List.length a0 : Int)) u5) (q18_O (cutL a0 u1.2 (List.length a0 : Int)) u5), b0, b0, b0, b0, b0, b0, b0, b1, b1, b1, b1, b1, b1, b1]) (pos := s0) (.c (q18_ok a0 u1 h2) (.c h3 (.c h4 (.c (q18_ok (cutL a0 u1.2 (List.length a0 : Int)) u5 h6) (.c h7 (.c h7 (.c h7 (.c h7 (.c h7 (.c h7 (.c h7 (.c h8 (.c h8 (.c h8 (.c r1 (.c r1 (.c r1 (.c r1 .n)))))))))))))))))) (by kernel_rfl)
   ·rcases fork_some h with ⟨h9, h⟩ | ⟨h9, h⟩
    ·injection h with h; subst h
     exact env.fun func52 can52 (its := [.call [none] [] [] true (q18_R a0 u1) (q18_O a0 u1), b0, b0, .call [none] [] [] true (q18_R (cutL a0 u1.2 (List.length a0 : Int)) u5) (q18_O (cutL a0 u1.2 (List.length a0 : Int)) u5), b0, b0, b0, b0, b0, b0, b0, b0, b0, b0, b1, b1, b1, b1]) (pos := s0) (.c (q18_ok a0 u1 h2) (.c h3 (.c h4 (.c (q18_ok (cutL a0 u1.2 (List.length a0 : Int)) u5 h6) (.c h7 (.c h7 (.c h7 (.c h7 (.c h7 (.c h7 (.c h7 (.c h8 (.c h8 (.c h8 (.c h9 (.c h9 (.c h9 (.c r1 .n)))))))))))))))))) (by kernel_rfl)
    ·rcases fork_some h with ⟨h10, h⟩ | ⟨h10, h⟩
     ·injection h with h; subst h
      exact env.fun func52 can52 (its := [.call [none] [] [] true (q18_R a0 u1) (q18_O a0 u1), b0, b0, .call [none] [] [] true (q18_R (cutL a0 u1.2 (List.length a0 : Int)) u5) (q18_O (cutL a0 u1.2 (List.length a0 : Int)) u5), b0, b0, b0, b0, b0, b0, b0, b0, b0, b0, b0, b0, b0, b1]) (pos := s0) (.c (q18_ok a0 u1 h2) (.c h3 (.c h4 (.c (q18_ok (cutL a0 u1.2 (List.length a0 : Int)) u5 h6) (.c h7 (.c h7 (.c h7 (.c h7 (.c h7 (.c h7 (.c h7 (.c h8 (.c h8 (.c h8 (.c h9 (.c h9 (.c h9 (.c h10 .n)))))))))))))))))) (by kernel_rfl)
     ·injection h with h; subst h
      exact env.fun func52 can52 (its := [.call [none] [] [] true (q18_R a0 u1) (q18_O a0 u1), b0, b0, .call [none] [] [] true (q18_R (cutL a0 u1.2 (List.length a0 : Int)) u5) (q18_O (cutL a0 u1.2 (List.length a0 : Int)) u5), b0, b0, b0, b0, b0, b0, b0, b0, b0, b0, b0, b0, b0, b0]) (pos := s0) (.c (q18_ok a0 u1 h2) (.c h3 (.c h4 (.c (q18_ok (cutL a0 u1.2 (List.length a0 : Int)) u5 h6) (.c h7 (.c h7 (.c h7 (.c h7 (.c h7 (.c h7 (.c h7 (.c h8 (.c h8 (.c h8 (.c h9 (.c h9 (.c h9 (.c h10 .n)))))))))))))))))) (by kernel_rfl)
theorem can58 : J01 prog 58 := ⟨_, func58, by kernel_rfl, by kernel_rfl⟩
def q27_R (a0 : Int) (u : B8) : Slot := (.own 0 [])
def q27_O (a0 : Int) (u : B8) : List AObj := [.row (.int .u8) u true]
theorem q1p_ok : ∀ (k : Nat) (a0 : Int) (u : B8) (h : q1p k a0 = some u), CallC prog 58 [(.v (.int .i64) a0)] [] (q27_R a0 u) (q27_O a0 u)
 | 0, a0, u, h => by cases h
 | k + 1, a0, u, h => by
  unfold q1p at h
  rcases fork_some h with ⟨h1, h⟩ | ⟨h1, h⟩
  ·injection h with h; subst h
   exact env.fun func58 can58 (its := [b1, b1, b1, b1]) (pos := [.promote (.int .u8), .sel [0]]) (.c h1 (.c h1 (.c h1 (.c r1 .n)))) (by kernel_rfl)
  ·rcases fork_some h with ⟨h2, h⟩ | ⟨h2, h⟩
   ·injection h with h; subst h
    exact env.fun func58 can58 (its := [b0, b0, b0, b1]) (pos := [.promote (.int .u8), .sel [0]]) (.c h1 (.c h1 (.c h1 (.c h2 .n)))) (by kernel_rfl)
   ·rcases fork_some h with ⟨h3, h⟩ | ⟨h3, h⟩
    ·injection h with h; subst h
     exact env.fun func58 can58 (its := [b0, b0, b0, b0, b1]) (pos := s1) (.c h1 (.c h1 (.c h1 (.c h2 (.c h3 .n))))) (by kernel_rfl)
    ·obtain ⟨u4, h5, h⟩ := andThen_some h
     obtain ⟨h6, h⟩ := need_some h
     injection h with h; subst h
     exact env.fun func58 can58 (its := [b0, b0, b0, b0, b0, .call [none] [] [] true (q27_R (ishr a0 (Int.toNat (7 : Int))) u4) (q27_O (ishr a0 (Int.toNat (7 : Int))) u4)]) (pos := [.sel [2]]) (.c h1 (.c h1 (.c h1 (.c h2 (.c h3 (.c (of_decide_eq_true (p := (0 ≤ (7 : Int))) (by kernel_rfl)) (.c (q1p_ok k (ishr a0 (Int.toNat (7 : Int))) u4 h5) (.c h6 .n)))))))) (by kernel_rfl)
theorem q27_ok (a0 : Int) (u : B8) (h : q27 a0 = some u) : CallC prog 58 [(.v (.int .i64) a0)] [] (q27_R a0 u) (q27_O a0 u) := q1p_ok 64 a0 u h
theorem can53 : J01 prog 53 := ⟨_, func53, by kernel_rfl, by kernel_rfl⟩
def q19_R (a0 : Int) (a1 : Int) (u : B8) : Slot := (.v .str u)
def q19_O (a0 : Int) (a1 : Int) (u : B8) : List AObj := []
theorem q19_ok (a0 : Int) (a1 : Int) (u : B8) (h : q19 a0 a1 = some u) : CallC prog 53 [(.v (.int .i64) a0), (.v (.int .i64) a1)] [] (q19_R a0 a1 u) (q19_O a0 a1 u) := by
 unfold q19 at h
 obtain ⟨u1, h2, h⟩ := andThen_some h
 obtain ⟨u3, h4, h⟩ := andThen_some h
 obtain ⟨h5, h⟩ := need_some h
 injection h with h; subst h
 exact env.fun func53 can53 (its := [.call [none] [] [] true (q27_R a0 u1) (q27_O a0 u1), .call [none] [] [] true (q27_R a1 u3) (q27_O a1 u3)]) (pos := s0) (.c (q27_ok a0 u1 h2) (.c (q27_ok a1 u3 h4) (.c h5 .n))) (by kernel_rfl)
theorem can54 : J01 prog 54 := ⟨_, func54, by kernel_rfl, by kernel_rfl⟩
def q16_1_in (x0 : Int) (x1 : List (T18c3)) (x2 : Int) (x3 : Int) : St := ⟨[(4, (.v (.int .i64) x0)), (10, (.v (.slice Y18c3) x1)), (11, (.v (.int .i64) x2)), (12, (.v (.int .i64) x3))], [], 38, 0⟩
def q16_1_ex (o : (Int × Bool) ⊕ (Int)) : Exit := match o with | (.inl o) => .ret | (.inr o) => (.exit 0)
def q16_1_st (o : (Int × Bool) ⊕ (Int)) : St := match o with | (.inl o) => ⟨[(2, (.v (.int .i64) o.1)), (3, (.v .bool o.2))], [], 38, 0⟩ | (.inr o) => ⟨[(4, (.v (.int .i64) o))], [], 38, 0⟩
theorem q16_1_body (x0 : Int) (x1 : List (T18c3)) (x2 : Int) (x3 : Int) : ∀ r, q16_1_step x0 x1 x2 x3 = some r → (match r with | .inl s => J03 prog (J0w (bodyOf f54) [1, 1, 0, 1, 0, 0]) (q16_1_in x0 x1 x2 x3) .normal (q16_1_in s.1 x1 x2 s.2) | .inr o => q16_1_ex o ≠ .normal ∧ J03 prog (J0w (bodyOf f54) [1, 1, 0, 1, 0, 0]) (q16_1_in x0 x1 x2 x3) (q16_1_ex o) (q16_1_st o)) := by
 intro r h
 unfold q16_1_step at h
 rcases fork_some h with ⟨h2, h⟩ | ⟨h2, h⟩
 ·obtain ⟨h3, h⟩ := need_some h
  obtain ⟨u4, h5, h⟩ := andThen_some h
  rcases fork_some h with ⟨h6, h⟩ | ⟨h6, h⟩
  ·injection h with h; subst h
   exact env.code (its := [b1, .call [none] [] [] true (q17_R ((List.getD x1 (Int.toNat x3) Z18c3).1) u4) (q17_O ((List.getD x1 (Int.toNat x3) Z18c3).1) u4), b1, .sel [4, 10, 11, 12] []]) (.c h2 (.c h3 (.c (q17_ok ((List.getD x1 (Int.toNat x3) Z18c3).1) u4 h5) (.c h6 .n)))) (by kernel_rfl)
  ·obtain ⟨u7, h8, h⟩ := andThen_some h
   rcases fork_some h with ⟨h9, h⟩ | ⟨h9, h⟩
   ·injection h with h; subst h
    exact ⟨by intro e; simp [q16_1_ex] at e, env.code (its := [b1, .call [none] [] [] true (q17_R ((List.getD x1 (Int.toNat x3) Z18c3).1) u4) (q17_O ((List.getD x1 (Int.toNat x3) Z18c3).1) u4), b0, .call [none] [] [] true (qr_R ((List.getD x1 (Int.toNat x3) Z18c3).2.1) u7) (qr_O ((List.getD x1 (Int.toNat x3) Z18c3).2.1) u7), b1, .sel [2, 3] []]) (.c h2 (.c h3 (.c (q17_ok ((List.getD x1 (Int.toNat x3) Z18c3).1) u4 h5) (.c h6 (.c (qr_ok ((List.getD x1 (Int.toNat x3) Z18c3).2.1) u7 h8) (.c h9 .n)))))) (by kernel_rfl)⟩
   ·injection h with h; subst h
    exact env.code (its := [b1, .call [none] [] [] true (q17_R ((List.getD x1 (Int.toNat x3) Z18c3).1) u4) (q17_O ((List.getD x1 (Int.toNat x3) Z18c3).1) u4), b0, .call [none] [] [] true (qr_R ((List.getD x1 (Int.toNat x3) Z18c3).2.1) u7) (qr_O ((List.getD x1 (Int.toNat x3) Z18c3).2.1) u7), b0, .sel [4, 10, 11, 12] []]) (.c h2 (.c h3 (.c (q17_ok ((List.getD x1 (Int.toNat x3) Z18c3).1) u4 h5) (.c h6 (.c (qr_ok ((List.getD x1 (Int.toNat x3) Z18c3).2.1) u7 h8) (.c h9 .n)))))) (by kernel_rfl)
 ·injection h with h; subst h
  exact ⟨by intro e; simp [q16_1_ex] at e, env.code (its := [b0, .sel [4] []]) (.c h2 .n) (by kernel_rfl)⟩
theorem q16_1_ok (x0 : Int) (x1 : List (T18c3)) (x2 : Int) (x3 : Int) (o : (Int × Bool) ⊕ (Int)) (h : q16_1 x0 x1 x2 x3 = some o) : J03 prog (J0w (bodyOf f54) [1, 1, 0, 1, 0]) (q16_1_in x0 x1 x2 x3) (q16_1_ex o) (q16_1_st o) :=
 J06.of_step (st := fun s => q16_1_in s.1 x1 x2 s.2) (ex := q16_1_ex) (stO := q16_1_st) (fun s s2 hs => q16_1_body s.1 x1 x2 s.2 (.inl s2) hs) (fun s r hs => q16_1_body s.1 x1 x2 s.2 (.inr r) hs) _ o h
def q16_R (a0 : List (T18c3)) (u : Int × Bool) : Slot := (.tup (.v (.int .i64) u.1) (.tup (.v .bool u.2) .tnil))
def q16_O (a0 : List (T18c3)) (u : Int × Bool) : List AObj := []
theorem q16_ok (a0 : List (T18c3)) (u : Int × Bool) (h : q16 a0 = some u) : CallC prog 54 [(.v (.slice Y18c3) a0)] [] (q16_R a0 u) (q16_O a0 u) := by
 unfold q16 at h
 obtain ⟨o10, h11, h⟩ := andThen_some h
 rcases o10 with o12 | o13
 ·injection h with h; subst h
  exact env.fun func54 can54 (its := [.dive, .sel [4, 10, 11, 12] [], .part (q16_1_ex (.inl o12)) (q16_1_st (.inl o12))]) (pos := s0) (.c (q16_1_ok (0 : Int) a0 (List.length a0 : Int) (0 : Int) (.inl o12) h11) .n) (by kernel_rfl)
 ·rcases fork_some h with ⟨h14, h⟩ | ⟨h14, h⟩
  ·injection h with h; subst h
   exact env.fun func54 can54 (its := [.dive, .sel [4, 10, 11, 12] [], .part (q16_1_ex (.inr o13)) (q16_1_st (.inr o13)), b1]) (pos := s0) (.c (q16_1_ok (0 : Int) a0 (List.length a0 : Int) (0 : Int) (.inr o13) h11) (.c h14 .n)) (by kernel_rfl)
  ·injection h with h; subst h
   exact env.fun func54 can54 (its := [.dive, .sel [4, 10, 11, 12] [], .part (q16_1_ex (.inr o13)) (q16_1_st (.inr o13)), b0]) (pos := s0) (.c (q16_1_ok (0 : Int) a0 (List.length a0 : Int) (0 : Int) (.inr o13) h11) (.c h14 .n)) (by kernel_rfl)
theorem can31 : J01 prog 31 := ⟨_, func31, by kernel_rfl, by kernel_rfl⟩
def q1b_R (a0 : List (T18c3)) (a1 : Int) (a2 : B8) (a3 : Int) (a4 : Int) (u : (List (T18c3)) × Int) : Slot := (.tup (.v (.slice Y18c3) u.1) (.tup (.v (.int .i64) u.2) .tnil))
def q1b_O (a0 : List (T18c3)) (a1 : Int) (a2 : B8) (a3 : Int) (a4 : Int) (u : (List (T18c3)) × Int) : List AObj := []
theorem q1b_ok (a0 : List (T18c3)) (a1 : Int) (a2 : B8) (a3 : Int) (a4 : Int) (u : (List (T18c3)) × Int) (h : q1b a0 a1 a2 a3 a4 = some u) : CallC prog 31 [(.v (.slice Y18c3) a0), (.v (.int .i64) a1), (.v .str a2), (.v (.int .i64) a3), (.v (.int .i64) a4)] [] (q1b_R a0 a1 a2 a3 a4 u) (q1b_O a0 a1 a2 a3 a4 u) := by
 unfold q1b at h
 obtain ⟨h1, h⟩ := need_some h
 rcases fork_some h with ⟨h2, h⟩ | ⟨h2, h⟩
 ·injection h with h; subst h
  exact env.fun func31 can31 (its := [b1, b1, b1, b1, b1, b1, b1, b1, b1, b1, b1, b1, b1, b1, b1, b1, b1]) (pos := s0) (.c h1 (.c h2 (.c h2 (.c h2 (.c h2 (.c r1 (.c r1 (.c r1 (.c r1 (.c r1 (.c r1 (.c r1 (.c r1 (.c r1 (.c r1 (.c r1 (.c r1 (.c r1 .n)))))))))))))))))) (by kernel_rfl)
 ·rcases fork_some h with ⟨h3, h⟩ | ⟨h3, h⟩
  ·injection h with h; subst h
   exact env.fun func31 can31 (its := [b0, b0, b0, b0, b1, b1, b1, b1, b1, b1, b1, b1, b1, b1, b1, b1, b1]) (pos := s0) (.c h1 (.c h2 (.c h2 (.c h2 (.c h2 (.c h3 (.c h3 (.c h3 (.c r1 (.c r1 (.c r1 (.c r1 (.c r1 (.c r1 (.c r1 (.c r1 (.c r1 (.c r1 .n)))))))))))))))))) (by kernel_rfl)
  ·rcases fork_some h with ⟨h4, h⟩ | ⟨h4, h⟩
   ·injection h with h; subst h
    exact env.fun func31 can31 (its := [b0, b0, b0, b0, b0, b0, b0, b1, b1, b1, b1, b1, b1, b1, b1, b1, b1]) (pos := s0) (.c h1 (.c h2 (.c h2 (.c h2 (.c h2 (.c h3 (.c h3 (.c h3 (.c h4 (.c h4 (.c h4 (.c r1 (.c r1 (.c r1 (.c r1 (.c r1 (.c r1 (.c r1 .n)))))))))))))))))) (by kernel_rfl)
   ·rcases fork_some h with ⟨h5, h⟩ | ⟨h5, h⟩
    ·injection h with h; subst h
     exact env.fun func31 can31 (its := [b0, b0, b0, b0, b0, b0, b0, b0, b0, b0, b1, b1, b1, b1, b1, b1, b1]) (pos := s0) (.c h1 (.c h2 (.c h2 (.c h2 (.c h2 (.c h3 (.c h3 (.c h3 (.c h4 (.c h4 (.c h4 (.c h5 (.c h5 (.c h5 (.c r1 (.c r1 (.c r1 (.c r1 .n)))))))))))))))))) (by kernel_rfl)
    ·rcases fork_some h with ⟨h6, h⟩ | ⟨h6, h⟩
     ·injection h with h; subst h
      exact env.fun func31 can31 (its := [b0, b0, b0, b0, b0, b0, b0, b0, b0, b0, b0, b0, b0, b1, b1, b1, b1]) (pos := s0) (.c h1 (.c h2 (.c h2 (.c h2 (.c h2 (.c h3 (.c h3 (.c h3 (.c h4 (.c h4 (.c h4 (.c h5 (.c h5 (.c h5 (.c h6 (.c h6 (.c h6 (.c r1 .n)))))))))))))))))) (by kernel_rfl)
     ·rcases fork_some h with ⟨h7, h⟩ | ⟨h7, h⟩
      ·injection h with h; subst h
       exact env.fun func31 can31 (its := [b0, b0, b0, b0, b0, b0, b0, b0, b0, b0, b0, b0, b0, b0, b0, b0, b1]) (pos := s0) (.c h1 (.c h2 (.c h2 (.c h2 (.c h2 (.c h3 (.c h3 (.c h3 (.c h4 (.c h4 (.c h4 (.c h5 (.c h5 (.c h5 (.c h6 (.c h6 (.c h6 (.c h7 .n)))))))))))))))))) (by kernel_rfl)
      ·obtain ⟨u8, h9, h⟩ := andThen_some h
       rcases fork_some h with ⟨h10, h⟩ | ⟨h10, h⟩
       ·obtain ⟨h11, h⟩ := need_some h
        rcases fork_some h with ⟨h12, h⟩ | ⟨h12, h⟩
        ·obtain ⟨u13, h14, h⟩ := andThen_some h
         rcases fork_some h with ⟨h15, h⟩ | ⟨h15, h⟩
         ·injection h with h; subst h
          exact env.fun func31 can31 (its := [b0, b0, b0, b0, b0, b0, b0, b0, b0, b0, b0, b0, b0, b0, b0, b0, b0, .call [none, none] [] [] true (q1l_R a0 (([115, 47] : B8) ++ a2) u8) (q1l_O a0 (([115, 47] : B8) ++ a2) u8), b1, b1, b1, b1, b1, b1, b1, b1, b1, .call [none] [] [] true (qr_R ((List.getD a0 (Int.toNat u8) Z18c3).2.1) u13) (qr_O ((List.getD a0 (Int.toNat u8) Z18c3).2.1) u13), b1]) (pos := s0) (.c h1 (.c h2 (.c h2 (.c h2 (.c h2 (.c h3 (.c h3 (.c h3 (.c h4 (.c h4 (.c h4 (.c h5 (.c h5 (.c h5 (.c h6 (.c h6 (.c h6 (.c h7 (.c (q1l_ok a0 (([115, 47] : B8) ++ a2) u8 h9) (.c h10 (.c h10 (.c h10 (.c h11 (.c h10 (.c h10 (.c h10 (.c h10 (.c h10 (.c h12 (.c h11 (.c (qr_ok ((List.getD a0 (Int.toNat u8) Z18c3).2.1) u13 h14) (.c h15 .n)))))))))))))))))))))))))))))))) (by kernel_rfl)
         ·rcases fork_some h with ⟨h16, h⟩ | ⟨h16, h⟩
          ·obtain ⟨u17, h18, h⟩ := andThen_some h
           obtain ⟨u19, h20, h⟩ := andThen_some h
           rcases fork_some h with ⟨h21, h⟩ | ⟨h21, h⟩
           ·injection h with h; subst h
            exact env.fun func31 can31 (its := [b0, b0, b0, b0, b0, b0, b0, b0, b0, b0, b0, b0, b0, b0, b0, b0, b0, .call [none, none] [] [] true (q1l_R a0 (([115, 47] : B8) ++ a2) u8) (q1l_O a0 (([115, 47] : B8) ++ a2) u8), b1, b1, b1, b1, b1, b1, b1, b1, b1, .call [none] [] [] true (qr_R ((List.getD a0 (Int.toNat u8) Z18c3).2.1) u13) (qr_O ((List.getD a0 (Int.toNat u8) Z18c3).2.1) u13), b0, b1, .call [none, none] [] [] true (q19_R (w64 (u13.1 + a3)) u13.2.1 u17) (q19_O (w64 (u13.1 + a3)) u13.2.1 u17), .call [none, none] [] [] true (q2d_R a0 ((([115, 47] : B8) ++ a2), u17, ()) u19) (q2d_O a0 ((([115, 47] : B8) ++ a2), u17, ()) u19), b1]) (pos := s0) (.c h1 (.c h2 (.c h2 (.c h2 (.c h2 (.c h3 (.c h3 (.c h3 (.c h4 (.c h4 (.c h4 (.c h5 (.c h5 (.c h5 (.c h6 (.c h6 (.c h6 (.c h7 (.c (q1l_ok a0 (([115, 47] : B8) ++ a2) u8 h9) (.c h10 (.c h10 (.c h10 (.c h11 (.c h10 (.c h10 (.c h10 (.c h10 (.c h10 (.c h12 (.c h11 (.c (qr_ok ((List.getD a0 (Int.toNat u8) Z18c3).2.1) u13 h14) (.c h15 (.c h16 (.c (q19_ok (w64 (u13.1 + a3)) u13.2.1 u17 h18) (.c (q2d_ok a0 ((([115, 47] : B8) ++ a2), u17, ()) u19 h20) (.c h21 .n)))))))))))))))))))))))))))))))))))) (by kernel_rfl)
           ·obtain ⟨u22, h23, h⟩ := andThen_some h
            rcases fork_some h with ⟨h24, h⟩ | ⟨h24, h⟩
            ·injection h with h; subst h
             exact env.fun func31 can31 (its := [b0, b0, b0, b0, b0, b0, b0, b0, b0, b0, b0, b0, b0, b0, b0, b0, b0, .call [none, none] [] [] true (q1l_R a0 (([115, 47] : B8) ++ a2) u8) (q1l_O a0 (([115, 47] : B8) ++ a2) u8), b1, b1, b1, b1, b1, b1, b1, b1, b1, .call [none] [] [] true (qr_R ((List.getD a0 (Int.toNat u8) Z18c3).2.1) u13) (qr_O ((List.getD a0 (Int.toNat u8) Z18c3).2.1) u13), b0, b1, .call [none, none] [] [] true (q19_R (w64 (u13.1 + a3)) u13.2.1 u17) (q19_O (w64 (u13.1 + a3)) u13.2.1 u17), .call [none, none] [] [] true (q2d_R a0 ((([115, 47] : B8) ++ a2), u17, ()) u19) (q2d_O a0 ((([115, 47] : B8) ++ a2), u17, ()) u19), b0, .call [none] [] [0] true (q16_R u19 u22) (q16_O u19 u22), b1]) (pos := s0) (.c h1 (.c h2 (.c h2 (.c h2 (.c h2 (.c h3 (.c h3 (.c h3 (.c h4 (.c h4 (.c h4 (.c h5 (.c h5 (.c h5 (.c h6 (.c h6 (.c h6 (.c h7 (.c (q1l_ok a0 (([115, 47] : B8) ++ a2) u8 h9) (.c h10 (.c h10 (.c h10 (.c h11 (.c h10 (.c h10 (.c h10 (.c h10 (.c h10 (.c h12 (.c h11 (.c (qr_ok ((List.getD a0 (Int.toNat u8) Z18c3).2.1) u13 h14) (.c h15 (.c h16 (.c (q19_ok (w64 (u13.1 + a3)) u13.2.1 u17 h18) (.c (q2d_ok a0 ((([115, 47] : B8) ++ a2), u17, ()) u19 h20) (.c h21 (.c (q16_ok u19 u22 h23) (.c h24 .n)))))))))))))))))))))))))))))))))))))) (by kernel_rfl)
            ·injection h with h; subst h
             exact env.fun func31 can31 (its := [b0, b0, b0, b0, b0, b0, b0, b0, b0, b0, b0, b0, b0, b0, b0, b0, b0, .call [none, none] [] [] true (q1l_R a0 (([115, 47] : B8) ++ a2) u8) (q1l_O a0 (([115, 47] : B8) ++ a2) u8), b1, b1, b1, b1, b1, b1, b1, b1, b1, .call [none] [] [] true (qr_R ((List.getD a0 (Int.toNat u8) Z18c3).2.1) u13) (qr_O ((List.getD a0 (Int.toNat u8) Z18c3).2.1) u13), b0, b1, .call [none, none] [] [] true (q19_R (w64 (u13.1 + a3)) u13.2.1 u17) (q19_O (w64 (u13.1 + a3)) u13.2.1 u17), .call [none, none] [] [] true (q2d_R a0 ((([115, 47] : B8) ++ a2), u17, ()) u19) (q2d_O a0 ((([115, 47] : B8) ++ a2), u17, ()) u19), b0, .call [none] [] [0] true (q16_R u19 u22) (q16_O u19 u22), b0]) (pos := [.vals (.slice Y18c3) [(.int .i64)], .sel []]) (.c h1 (.c h2 (.c h2 (.c h2 (.c h2 (.c h3 (.c h3 (.c h3 (.c h4 (.c h4 (.c h4 (.c h5 (.c h5 (.c h5 (.c h6 (.c h6 (.c h6 (.c h7 (.c (q1l_ok a0 (([115, 47] : B8) ++ a2) u8 h9) (.c h10 (.c h10 (.c h10 (.c h11 (.c h10 (.c h10 (.c h10 (.c h10 (.c h10 (.c h12 (.c h11 (.c (qr_ok ((List.getD a0 (Int.toNat u8) Z18c3).2.1) u13 h14) (.c h15 (.c h16 (.c (q19_ok (w64 (u13.1 + a3)) u13.2.1 u17 h18) (.c (q2d_ok a0 ((([115, 47] : B8) ++ a2), u17, ()) u19 h20) (.c h21 (.c (q16_ok u19 u22 h23) (.c h24 .n)))))))))))))))))))))))))))))))))))))) (by kernel_rfl)
          ·rcases fork_some h with ⟨h25, h⟩ | ⟨h25, h⟩
           ·rcases fork_some h with ⟨h26, h⟩ | ⟨h26, h⟩
            ·injection h with h; subst h
             exact env.fun func31 can31 (its := [b0, b0, b0, b0, b0, b0, b0, b0, b0, b0, b0, b0, b0, b0, b0, b0, b0, .call [none, none] [] [] true (q1l_R a0 (([115, 47] : B8) ++ a2) u8) (q1l_O a0 (([115, 47] : B8) ++ a2) u8), b1, b1, b1, b1, b1, b1, b1, b1, b1, .call [none] [] [] true (qr_R ((List.getD a0 (Int.toNat u8) Z18c3).2.1) u13) (qr_O ((List.getD a0 (Int.toNat u8) Z18c3).2.1) u13), b0, b0, b1, b1]) (pos := s0) (.c h1 (.c h2 (.c h2 (.c h2 (.c h2 (.c h3 (.c h3 (.c h3 (.c h4 (.c h4 (.c h4 (.c h5 (.c h5 (.c h5 (.c h6 (.c h6 (.c h6 (.c h7 (.c (q1l_ok a0 (([115, 47] : B8) ++ a2) u8 h9) (.c h10 (.c h10 (.c h10 (.c h11 (.c h10 (.c h10 (.c h10 (.c h10 (.c h10 (.c h12 (.c h11 (.c (qr_ok ((List.getD a0 (Int.toNat u8) Z18c3).2.1) u13 h14) (.c h15 (.c h16 (.c h25 (.c h26 .n))))))))))))))))))))))))))))))))))) (by kernel_rfl)
            ·obtain ⟨u27, h28, h⟩ := andThen_some h
             obtain ⟨u29, h30, h⟩ := andThen_some h
             rcases fork_some h with ⟨h31, h⟩ | ⟨h31, h⟩
             ·injection h with h; subst h
              exact env.fun func31 can31 (its := [b0, b0, b0, b0, b0, b0, b0, b0, b0, b0, b0, b0, b0, b0, b0, b0, b0, .call [none, none] [] [] true (q1l_R a0 (([115, 47] : B8) ++ a2) u8) (q1l_O a0 (([115, 47] : B8) ++ a2) u8), b1, b1, b1, b1, b1, b1, b1, b1, b1, .call [none] [] [] true (qr_R ((List.getD a0 (Int.toNat u8) Z18c3).2.1) u13) (qr_O ((List.getD a0 (Int.toNat u8) Z18c3).2.1) u13), b0, b0, b1, b0, .call [none, none] [] [] true (q19_R u13.1 (w64 (u13.2.1 + a3)) u27) (q19_O u13.1 (w64 (u13.2.1 + a3)) u27), .call [none, none] [] [] true (q2d_R a0 ((([115, 47] : B8) ++ a2), u27, ()) u29) (q2d_O a0 ((([115, 47] : B8) ++ a2), u27, ()) u29), b1]) (pos := s0) (.c h1 (.c h2 (.c h2 (.c h2 (.c h2 (.c h3 (.c h3 (.c h3 (.c h4 (.c h4 (.c h4 (.c h5 (.c h5 (.c h5 (.c h6 (.c h6 (.c h6 (.c h7 (.c (q1l_ok a0 (([115, 47] : B8) ++ a2) u8 h9) (.c h10 (.c h10 (.c h10 (.c h11 (.c h10 (.c h10 (.c h10 (.c h10 (.c h10 (.c h12 (.c h11 (.c (qr_ok ((List.getD a0 (Int.toNat u8) Z18c3).2.1) u13 h14) (.c h15 (.c h16 (.c h25 (.c h26 (.c (q19_ok u13.1 (w64 (u13.2.1 + a3)) u27 h28) (.c (q2d_ok a0 ((([115, 47] : B8) ++ a2), u27, ()) u29 h30) (.c h31 .n)))))))))))))))))))))))))))))))))))))) (by kernel_rfl)
             ·obtain ⟨u32, h33, h⟩ := andThen_some h
              rcases fork_some h with ⟨h34, h⟩ | ⟨h34, h⟩
              ·injection h with h; subst h
               exact env.fun func31 can31 (its := [b0, b0, b0, b0, b0, b0, b0, b0, b0, b0, b0, b0, b0, b0, b0, b0, b0, .call [none, none] [] [] true (q1l_R a0 (([115, 47] : B8) ++ a2) u8) (q1l_O a0 (([115, 47] : B8) ++ a2) u8), b1, b1, b1, b1, b1, b1, b1, b1, b1, .call [none] [] [] true (qr_R ((List.getD a0 (Int.toNat u8) Z18c3).2.1) u13) (qr_O ((List.getD a0 (Int.toNat u8) Z18c3).2.1) u13), b0, b0, b1, b0, .call [none, none] [] [] true (q19_R u13.1 (w64 (u13.2.1 + a3)) u27) (q19_O u13.1 (w64 (u13.2.1 + a3)) u27), .call [none, none] [] [] true (q2d_R a0 ((([115, 47] : B8) ++ a2), u27, ()) u29) (q2d_O a0 ((([115, 47] : B8) ++ a2), u27, ()) u29), b0, .call [none] [] [0] true (q16_R u29 u32) (q16_O u29 u32), b1]) (pos := s0) (.c h1 (.c h2 (.c h2 (.c h2 (.c h2 (.c h3 (.c h3 (.c h3 (.c h4 (.c h4 (.c h4 (.c h5 (.c h5 (.c h5 (.c h6 (.c h6 (.c h6 (.c h7 (.c (q1l_ok a0 (([115, 47] : B8) ++ a2) u8 h9) (.c h10 (.c h10 (.c h10 (.c h11 (.c h10 (.c h10 (.c h10 (.c h10 (.c h10 (.c h12 (.c h11 (.c (qr_ok ((List.getD a0 (Int.toNat u8) Z18c3).2.1) u13 h14) (.c h15 (.c h16 (.c h25 (.c h26 (.c (q19_ok u13.1 (w64 (u13.2.1 + a3)) u27 h28) (.c (q2d_ok a0 ((([115, 47] : B8) ++ a2), u27, ()) u29 h30) (.c h31 (.c (q16_ok u29 u32 h33) (.c h34 .n)))))))))))))))))))))))))))))))))))))))) (by kernel_rfl)
              ·injection h with h; subst h
               exact env.fun func31 can31 (its := [b0, b0, b0, b0, b0, b0, b0, b0, b0, b0, b0, b0, b0, b0, b0, b0, b0, .call [none, none] [] [] true (q1l_R a0 (([115, 47] : B8) ++ a2) u8) (q1l_O a0 (([115, 47] : B8) ++ a2) u8), b1, b1, b1, b1, b1, b1, b1, b1, b1, .call [none] [] [] true (qr_R ((List.getD a0 (Int.toNat u8) Z18c3).2.1) u13) (qr_O ((List.getD a0 (Int.toNat u8) Z18c3).2.1) u13), b0, b0, b1, b0, .call [none, none] [] [] true (q19_R u13.1 (w64 (u13.2.1 + a3)) u27) (q19_O u13.1 (w64 (u13.2.1 + a3)) u27), .call [none, none] [] [] true (q2d_R a0 ((([115, 47] : B8) ++ a2), u27, ()) u29) (q2d_O a0 ((([115, 47] : B8) ++ a2), u27, ()) u29), b0, .call [none] [] [0] true (q16_R u29 u32) (q16_O u29 u32), b0]) (pos := [.vals (.slice Y18c3) [(.int .i64)], .sel []]) (.c h1 (.c h2 (.c h2 (.c h2 (.c h2 (.c h3 (.c h3 (.c h3 (.c h4 (.c h4 (.c h4 (.c h5 (.c h5 (.c h5 (.c h6 (.c h6 (.c h6 (.c h7 (.c (q1l_ok a0 (([115, 47] : B8) ++ a2) u8 h9) (.c h10 (.c h10 (.c h10 (.c h11 (.c h10 (.c h10 (.c h10 (.c h10 (.c h10 (.c h12 (.c h11 (.c (qr_ok ((List.getD a0 (Int.toNat u8) Z18c3).2.1) u13 h14) (.c h15 (.c h16 (.c h25 (.c h26 (.c (q19_ok u13.1 (w64 (u13.2.1 + a3)) u27 h28) (.c (q2d_ok a0 ((([115, 47] : B8) ++ a2), u27, ()) u29 h30) (.c h31 (.c (q16_ok u29 u32 h33) (.c h34 .n)))))))))))))))))))))))))))))))))))))))) (by kernel_rfl)
           ·rcases fork_some h with ⟨h35, h⟩ | ⟨h35, h⟩
            ·rcases fork_some h with ⟨h36, h⟩ | ⟨h36, h⟩
             ·injection h with h; subst h
              exact env.fun func31 can31 (its := [b0, b0, b0, b0, b0, b0, b0, b0, b0, b0, b0, b0, b0, b0, b0, b0, b0, .call [none, none] [] [] true (q1l_R a0 (([115, 47] : B8) ++ a2) u8) (q1l_O a0 (([115, 47] : B8) ++ a2) u8), b1, b1, b1, b1, b1, b1, b1, b1, b1, .call [none] [] [] true (qr_R ((List.getD a0 (Int.toNat u8) Z18c3).2.1) u13) (qr_O ((List.getD a0 (Int.toNat u8) Z18c3).2.1) u13), b0, b0, b0, b1, b1]) (pos := s0) (.c h1 (.c h2 (.c h2 (.c h2 (.c h2 (.c h3 (.c h3 (.c h3 (.c h4 (.c h4 (.c h4 (.c h5 (.c h5 (.c h5 (.c h6 (.c h6 (.c h6 (.c h7 (.c (q1l_ok a0 (([115, 47] : B8) ++ a2) u8 h9) (.c h10 (.c h10 (.c h10 (.c h11 (.c h10 (.c h10 (.c h10 (.c h10 (.c h10 (.c h12 (.c h11 (.c (qr_ok ((List.getD a0 (Int.toNat u8) Z18c3).2.1) u13 h14) (.c h15 (.c h16 (.c h25 (.c h35 (.c h36 .n)))))))))))))))))))))))))))))))))))) (by kernel_rfl)
             ·rcases fork_some h with ⟨h37, h⟩ | ⟨h37, h⟩
              ·injection h with h; subst h
               exact env.fun func31 can31 (its := [b0, b0, b0, b0, b0, b0, b0, b0, b0, b0, b0, b0, b0, b0, b0, b0, b0, .call [none, none] [] [] true (q1l_R a0 (([115, 47] : B8) ++ a2) u8) (q1l_O a0 (([115, 47] : B8) ++ a2) u8), b1, b1, b1, b1, b1, b1, b1, b1, b1, .call [none] [] [] true (qr_R ((List.getD a0 (Int.toNat u8) Z18c3).2.1) u13) (qr_O ((List.getD a0 (Int.toNat u8) Z18c3).2.1) u13), b0, b0, b0, b1, b0, b1, b1, b1, b1, b1, b1, b1, b1]) (pos := s0) (.c h1 (.c h2 (.c h2 (.c h2 (.c h2 (.c h3 (.c h3 (.c h3 (.c h4 (.c h4 (.c h4 (.c h5 (.c h5 (.c h5 (.c h6 (.c h6 (.c h6 (.c h7 (.c (q1l_ok a0 (([115, 47] : B8) ++ a2) u8 h9) (.c h10 (.c h10 (.c h10 (.c h11 (.c h10 (.c h10 (.c h10 (.c h10 (.c h10 (.c h12 (.c h11 (.c (qr_ok ((List.getD a0 (Int.toNat u8) Z18c3).2.1) u13 h14) (.c h15 (.c h16 (.c h25 (.c h35 (.c h36 (.c h37 (.c h37 (.c h37 (.c r1 (.c r1 (.c r1 (.c r1 (.c r1 .n)))))))))))))))))))))))))))))))))))))))))))) (by kernel_rfl)
              ·rcases fork_some h with ⟨h38, h⟩ | ⟨h38, h⟩
               ·injection h with h; subst h
                exact env.fun func31 can31 (its := [b0, b0, b0, b0, b0, b0, b0, b0, b0, b0, b0, b0, b0, b0, b0, b0, b0, .call [none, none] [] [] true (q1l_R a0 (([115, 47] : B8) ++ a2) u8) (q1l_O a0 (([115, 47] : B8) ++ a2) u8), b1, b1, b1, b1, b1, b1, b1, b1, b1, .call [none] [] [] true (qr_R ((List.getD a0 (Int.toNat u8) Z18c3).2.1) u13) (qr_O ((List.getD a0 (Int.toNat u8) Z18c3).2.1) u13), b0, b0, b0, b1, b0, b0, b0, b0, b1, b1, b1, b1, b1]) (pos := s0) (.c h1 (.c h2 (.c h2 (.c h2 (.c h2 (.c h3 (.c h3 (.c h3 (.c h4 (.c h4 (.c h4 (.c h5 (.c h5 (.c h5 (.c h6 (.c h6 (.c h6 (.c h7 (.c (q1l_ok a0 (([115, 47] : B8) ++ a2) u8 h9) (.c h10 (.c h10 (.c h10 (.c h11 (.c h10 (.c h10 (.c h10 (.c h10 (.c h10 (.c h12 (.c h11 (.c (qr_ok ((List.getD a0 (Int.toNat u8) Z18c3).2.1) u13 h14) (.c h15 (.c h16 (.c h25 (.c h35 (.c h36 (.c h37 (.c h37 (.c h37 (.c h38 (.c h38 (.c h38 (.c h38 (.c r1 .n)))))))))))))))))))))))))))))))))))))))))))) (by kernel_rfl)
               ·rcases fork_some h with ⟨h39, h⟩ | ⟨h39, h⟩
                ·injection h with h; subst h
                 exact env.fun func31 can31 (its := [b0, b0, b0, b0, b0, b0, b0, b0, b0, b0, b0, b0, b0, b0, b0, b0, b0, .call [none, none] [] [] true (q1l_R a0 (([115, 47] : B8) ++ a2) u8) (q1l_O a0 (([115, 47] : B8) ++ a2) u8), b1, b1, b1, b1, b1, b1, b1, b1, b1, .call [none] [] [] true (qr_R ((List.getD a0 (Int.toNat u8) Z18c3).2.1) u13) (qr_O ((List.getD a0 (Int.toNat u8) Z18c3).2.1) u13), b0, b0, b0, b1, b0, b0, b0, b0, b0, b0, b0, b0, b1]) (pos := s0) (.c h1 (.c h2 (.c h2 (.c h2 (.c h2 (.c h3 (.c h3 (.c h3 (.c h4 (.c h4 (.c h4 (.c h5 (.c h5 (.c h5 (.c h6 (.c h6 (.c h6 (.c h7 (.c (q1l_ok a0 (([115, 47] : B8) ++ a2) u8 h9) (.c h10 (.c h10 (.c h10 (.c h11 (.c h10 (.c h10 (.c h10 (.c h10 (.c h10 (.c h12 (.c h11 (.c (qr_ok ((List.getD a0 (Int.toNat u8) Z18c3).2.1) u13 h14) (.c h15 (.c h16 (.c h25 (.c h35 (.c h36 (.c h37 (.c h37 (.c h37 (.c h38 (.c h38 (.c h38 (.c h38 (.c h39 .n)))))))))))))))))))))))))))))))))))))))))))) (by kernel_rfl)
                ·obtain ⟨h40, h⟩ := need_some h
                 obtain ⟨u41, h42, h⟩ := andThen_some h
                 obtain ⟨u43, h44, h⟩ := andThen_some h
                 rcases fork_some h with ⟨h45, h⟩ | ⟨h45, h⟩
                 ·injection h with h; subst h
                  exact env.fun func31 can31 (its := [b0, b0, b0, b0, b0, b0, b0, b0, b0, b0, b0, b0, b0, b0, b0, b0, b0, .call [none, none] [] [] true (q1l_R a0 (([115, 47] : B8) ++ a2) u8) (q1l_O a0 (([115, 47] : B8) ++ a2) u8), b1, b1, b1, b1, b1, b1, b1, b1, b1, .call [none] [] [] true (qr_R ((List.getD a0 (Int.toNat u8) Z18c3).2.1) u13) (qr_O ((List.getD a0 (Int.toNat u8) Z18c3).2.1) u13), b0, b0, b0, b1, b0, b0, b0, b0, b0, b0, b0, b0, b0, .call [none, none] [] [] true (q19_R (w64 (Int.tdiv (w64 (u13.1 * (w64 (a4 - a3)))) a4)) u13.2.1 u41) (q19_O (w64 (Int.tdiv (w64 (u13.1 * (w64 (a4 - a3)))) a4)) u13.2.1 u41), .call [none, none] [] [] true (q2d_R a0 ((([115, 47] : B8) ++ a2), u41, ()) u43) (q2d_O a0 ((([115, 47] : B8) ++ a2), u41, ()) u43), b1]) (pos := s0) (.c h1 (.c h2 (.c h2 (.c h2 (.c h2 (.c h3 (.c h3 (.c h3 (.c h4 (.c h4 (.c h4 (.c h5 (.c h5 (.c h5 (.c h6 (.c h6 (.c h6 (.c h7 (.c (q1l_ok a0 (([115, 47] : B8) ++ a2) u8 h9) (.c h10 (.c h10 (.c h10 (.c h11 (.c h10 (.c h10 (.c h10 (.c h10 (.c h10 (.c h12 (.c h11 (.c (qr_ok ((List.getD a0 (Int.toNat u8) Z18c3).2.1) u13 h14) (.c h15 (.c h16 (.c h25 (.c h35 (.c h36 (.c h37 (.c h37 (.c h37 (.c h38 (.c h38 (.c h38 (.c h38 (.c h39 (.c h40 (.c (q19_ok (w64 (Int.tdiv (w64 (u13.1 * (w64 (a4 - a3)))) a4)) u13.2.1 u41 h42) (.c (q2d_ok a0 ((([115, 47] : B8) ++ a2), u41, ()) u43 h44) (.c h45 .n)))))))))))))))))))))))))))))))))))))))))))))))) (by kernel_rfl)
                 ·obtain ⟨u46, h47, h⟩ := andThen_some h
                  rcases fork_some h with ⟨h48, h⟩ | ⟨h48, h⟩
                  ·injection h with h; subst h
                   exact env.fun func31 can31 (its := [b0, b0, b0, b0, b0, b0, b0, b0, b0, b0, b0, b0, b0, b0, b0, b0, b0, .call [none, none] [] [] true (q1l_R a0 (([115, 47] : B8) ++ a2) u8) (q1l_O a0 (([115, 47] : B8) ++ a2) u8), b1, b1, b1, b1, b1, b1, b1, b1, b1, .call [none] [] [] true (qr_R ((List.getD a0 (Int.toNat u8) Z18c3).2.1) u13) (qr_O ((List.getD a0 (Int.toNat u8) Z18c3).2.1) u13), b0, b0, b0, b1, b0, b0, b0, b0, b0, b0, b0, b0, b0, .call [none, none] [] [] true (q19_R (w64 (Int.tdiv (w64 (u13.1 * (w64 (a4 - a3)))) a4)) u13.2.1 u41) (q19_O (w64 (Int.tdiv (w64 (u13.1 * (w64 (a4 - a3)))) a4)) u13.2.1 u41), .call [none, none] [] [] true (q2d_R a0 ((([115, 47] : B8) ++ a2), u41, ()) u43) (q2d_O a0 ((([115, 47] : B8) ++ a2), u41, ()) u43), b0, .call [none] [] [0] true (q16_R u43 u46) (q16_O u43 u46), b1]) (pos := s0) (.c h1 (.c h2 (.c h2 (.c h2 (.c h2 (.c h3 (.c h3 (.c h3 (.c h4 (.c h4 (.c h4 (.c h5 (.c h5 (.c h5 (.c h6 (.c h6 (.c h6 (.c h7 (.c (q1l_ok a0 (([115, 47] : B8) ++ a2) u8 h9) (.c h10 (.c h10 (.c h10 (.c h11 (.c h10 (.c h10 (.c h10 (.c h10 (.c h10 (.c h12 (.c h11 (.c (qr_ok ((List.getD a0 (Int.toNat u8) Z18c3).2.1) u13 h14) (.c h15 (.c h16 (.c h25 (.c h35 (.c h36 (.c h37 (.c h37 (.c h37 (.c h38 (.c h38 (.c h38 (.c h38 (.c h39 (.c h40 (.c (q19_ok (w64 (Int.tdiv (w64 (u13.1 * (w64 (a4 - a3)))) a4)) u13.2.1 u41 h42) (.c (q2d_ok a0 ((([115, 47] : B8) ++ a2), u41, ()) u43 h44) (.c h45 (.c (q16_ok u43 u46 h47) (.c h48 .n)))))))))))))))))))))))))))))))))))))))))))))))))) (by kernel_rfl)
                  ·injection h with h; subst h
                   exact env.fun func31 can31 (its := [b0, b0, b0, b0, b0, b0, b0, b0, b0, b0, b0, b0, b0, b0, b0, b0, b0, .call [none, none] [] [] true (q1l_R a0 (([115, 47] : B8) ++ a2) u8) (q1l_O a0 (([115, 47] : B8) ++ a2) u8), b1, b1, b1, b1, b1, b1, b1, b1, b1, .call [none] [] [] true (qr_R ((List.getD a0 (Int.toNat u8) Z18c3).2.1) u13) (qr_O ((List.getD a0 (Int.toNat u8) Z18c3).2.1) u13), b0, b0, b0, b1, b0, b0, b0, b0, b0, b0, b0, b0, b0, .call [none, none] [] [] true (q19_R (w64 (Int.tdiv (w64 (u13.1 * (w64 (a4 - a3)))) a4)) u13.2.1 u41) (q19_O (w64 (Int.tdiv (w64 (u13.1 * (w64 (a4 - a3)))) a4)) u13.2.1 u41), .call [none, none] [] [] true (q2d_R a0 ((([115, 47] : B8) ++ a2), u41, ()) u43) (q2d_O a0 ((([115, 47] : B8) ++ a2), u41, ()) u43), b0, .call [none] [] [0] true (q16_R u43 u46) (q16_O u43 u46), b0]) (pos := [.vals (.slice Y18c3) [(.int .i64)], .sel []]) (.c h1 (.c h2 (.c h2 (.c h2 (.c h2 (.c h3 (.c h3 (.c h3 (.c h4 (.c h4 (.c h4 (.c h5 (.c h5 (.c h5 (.c h6 (.c h6 (.c h6 (.c h7 (.c (q1l_ok a0 (([115, 47] : B8) ++ a2) u8 h9) (.c h10 (.c h10 (.c h10 (.c h11 (.c h10 (.c h10 (.c h10 (.c h10 (.c h10 (.c h12 (.c h11 (.c (qr_ok ((List.getD a0 (Int.toNat u8) Z18c3).2.1) u13 h14) (.c h15 (.c h16 (.c h25 (.c h35 (.c h36 (.c h37 (.c h37 (.c h37 (.c h38 (.c h38 (.c h38 (.c h38 (.c h39 (.c h40 (.c (q19_ok (w64 (Int.tdiv (w64 (u13.1 * (w64 (a4 - a3)))) a4)) u13.2.1 u41 h42) (.c (q2d_ok a0 ((([115, 47] : B8) ++ a2), u41, ()) u43 h44) (.c h45 (.c (q16_ok u43 u46 h47) (.c h48 .n)))))))))))))))))))))))))))))))))))))))))))))))))) (by kernel_rfl)
            ·obtain ⟨u49, h50, h⟩ := andThen_some h
             obtain ⟨u51, h52, h⟩ := andThen_some h
             rcases fork_some h with ⟨h53, h⟩ | ⟨h53, h⟩
             ·injection h with h; subst h
              exact env.fun func31 can31 (its := [b0, b0, b0, b0, b0, b0, b0, b0, b0, b0, b0, b0, b0, b0, b0, b0, b0, .call [none, none] [] [] true (q1l_R a0 (([115, 47] : B8) ++ a2) u8) (q1l_O a0 (([115, 47] : B8) ++ a2) u8), b1, b1, b1, b1, b1, b1, b1, b1, b1, .call [none] [] [] true (qr_R ((List.getD a0 (Int.toNat u8) Z18c3).2.1) u13) (qr_O ((List.getD a0 (Int.toNat u8) Z18c3).2.1) u13), b0, b0, b0, b0, .call [none, none] [] [] true (q19_R u13.1 u13.2.1 u49) (q19_O u13.1 u13.2.1 u49), .call [none, none] [] [] true (q2d_R a0 ((([115, 47] : B8) ++ a2), u49, ()) u51) (q2d_O a0 ((([115, 47] : B8) ++ a2), u49, ()) u51), b1]) (pos := s0) (.c h1 (.c h2 (.c h2 (.c h2 (.c h2 (.c h3 (.c h3 (.c h3 (.c h4 (.c h4 (.c h4 (.c h5 (.c h5 (.c h5 (.c h6 (.c h6 (.c h6 (.c h7 (.c (q1l_ok a0 (([115, 47] : B8) ++ a2) u8 h9) (.c h10 (.c h10 (.c h10 (.c h11 (.c h10 (.c h10 (.c h10 (.c h10 (.c h10 (.c h12 (.c h11 (.c (qr_ok ((List.getD a0 (Int.toNat u8) Z18c3).2.1) u13 h14) (.c h15 (.c h16 (.c h25 (.c h35 (.c (q19_ok u13.1 u13.2.1 u49 h50) (.c (q2d_ok a0 ((([115, 47] : B8) ++ a2), u49, ()) u51 h52) (.c h53 .n)))))))))))))))))))))))))))))))))))))) (by kernel_rfl)
             ·obtain ⟨u54, h55, h⟩ := andThen_some h
              rcases fork_some h with ⟨h56, h⟩ | ⟨h56, h⟩
              ·injection h with h; subst h
               exact env.fun func31 can31 (its := [b0, b0, b0, b0, b0, b0, b0, b0, b0, b0, b0, b0, b0, b0, b0, b0, b0, .call [none, none] [] [] true (q1l_R a0 (([115, 47] : B8) ++ a2) u8) (q1l_O a0 (([115, 47] : B8) ++ a2) u8), b1, b1, b1, b1, b1, b1, b1, b1, b1, .call [none] [] [] true (qr_R ((List.getD a0 (Int.toNat u8) Z18c3).2.1) u13) (qr_O ((List.getD a0 (Int.toNat u8) Z18c3).2.1) u13), b0, b0, b0, b0, .call [none, none] [] [] true (q19_R u13.1 u13.2.1 u49) (q19_O u13.1 u13.2.1 u49), .call [none, none] [] [] true (q2d_R a0 ((([115, 47] : B8) ++ a2), u49, ()) u51) (q2d_O a0 ((([115, 47] : B8) ++ a2), u49, ()) u51), b0, .call [none] [] [0] true (q16_R u51 u54) (q16_O u51 u54), b1]) (pos := s0) (.c h1 (.c h2 (.c h2 (.c h2 (.c h2 (.c h3 (.c h3 (.c h3 (.c h4 (.c h4 (.c h4 (.c h5 (.c h5 (.c h5 (.c h6 (.c h6 (.c h6 (.c h7 (.c (q1l_ok a0 (([115, 47] : B8) ++ a2) u8 h9) (.c h10 (.c h10 (.c h10 (.c h11 (.c h10 (.c h10 (.c h10 (.c h10 (.c h10 (.c h12 (.c h11 (.c (qr_ok ((List.getD a0 (Int.toNat u8) Z18c3).2.1) u13 h14) (.c h15 (.c h16 (.c h25 (.c h35 (.c (q19_ok u13.1 u13.2.1 u49 h50) (.c (q2d_ok a0 ((([115, 47] : B8) ++ a2), u49, ()) u51 h52) (.c h53 (.c (q16_ok u51 u54 h55) (.c h56 .n)))))))))))))))))))))))))))))))))))))))) (by kernel_rfl)
              ·injection h with h; subst h
               exact env.fun func31 can31 (its := [b0, b0, b0, b0, b0, b0, b0, b0, b0, b0, b0, b0, b0, b0, b0, b0, b0, .call [none, none] [] [] true (q1l_R a0 (([115, 47] : B8) ++ a2) u8) (q1l_O a0 (([115, 47] : B8) ++ a2) u8), b1, b1, b1, b1, b1, b1, b1, b1, b1, .call [none] [] [] true (qr_R ((List.getD a0 (Int.toNat u8) Z18c3).2.1) u13) (qr_O ((List.getD a0 (Int.toNat u8) Z18c3).2.1) u13), b0, b0, b0, b0, .call [none, none] [] [] true (q19_R u13.1 u13.2.1 u49) (q19_O u13.1 u13.2.1 u49), .call [none, none] [] [] true (q2d_R a0 ((([115, 47] : B8) ++ a2), u49, ()) u51) (q2d_O a0 ((([115, 47] : B8) ++ a2), u49, ()) u51), b0, .call [none] [] [0] true (q16_R u51 u54) (q16_O u51 u54), b0]) (pos := [.vals (.slice Y18c3) [(.int .i64)], .sel []]) (.c h1 (.c h2 (.c h2 (.c h2 (.c h2 (.c h3 (.c h3 (.c h3 (.c h4 (.c h4 (.c h4 (.c h5 (.c h5 (.c h5 (.c h6 (.c h6 (.c h6 (.c h7 (.c (q1l_ok a0 (([115, 47] : B8) ++ a2) u8 h9) (.c h10 (.c h10 (.c h10 (.c h11 (.c h10 (.c h10 (.c h10 (.c h10 (.c h10 (.c h12 (.c h11 (.c (qr_ok ((List.getD a0 (Int.toNat u8) Z18c3).2.1) u13 h14) (.c h15 (.c h16 (.c h25 (.c h35 (.c (q19_ok u13.1 u13.2.1 u49 h50) (.c (q2d_ok a0 ((([115, 47] : B8) ++ a2), u49, ()) u51 h52) (.c h53 (.c (q16_ok u51 u54 h55) (.c h56 .n)))))))))))))))))))))))))))))))))))))))) (by kernel_rfl)
        ·rcases fork_some h with ⟨h57, h⟩ | ⟨h57, h⟩
         ·obtain ⟨u58, h59, h⟩ := andThen_some h
          obtain ⟨u60, h61, h⟩ := andThen_some h
          rcases fork_some h with ⟨h62, h⟩ | ⟨h62, h⟩
          ·injection h with h; subst h
           exact env.fun func31 can31 (its := [b0, b0, b0, b0, b0, b0, b0, b0, b0, b0, b0, b0, b0, b0, b0, b0, b0, .call [none, none] [] [] true (q1l_R a0 (([115, 47] : B8) ++ a2) u8) (q1l_O a0 (([115, 47] : B8) ++ a2) u8), b1, b1, b1, b1, b1, b1, b1, b1, b0, b1, .call [none, none] [] [] true (q19_R (w64 ((0 : Int) + a3)) (0 : Int) u58) (q19_O (w64 ((0 : Int) + a3)) (0 : Int) u58), .call [none, none] [] [] true (q2d_R a0 ((([115, 47] : B8) ++ a2), u58, ()) u60) (q2d_O a0 ((([115, 47] : B8) ++ a2), u58, ()) u60), b1]) (pos := s0) (.c h1 (.c h2 (.c h2 (.c h2 (.c h2 (.c h3 (.c h3 (.c h3 (.c h4 (.c h4 (.c h4 (.c h5 (.c h5 (.c h5 (.c h6 (.c h6 (.c h6 (.c h7 (.c (q1l_ok a0 (([115, 47] : B8) ++ a2) u8 h9) (.c h10 (.c h10 (.c h10 (.c h11 (.c h10 (.c h10 (.c h10 (.c h10 (.c h10 (.c h12 (.c h57 (.c (q19_ok (w64 ((0 : Int) + a3)) (0 : Int) u58 h59) (.c (q2d_ok a0 ((([115, 47] : B8) ++ a2), u58, ()) u60 h61) (.c h62 .n))))))))))))))))))))))))))))))))) (by kernel_rfl)
          ·obtain ⟨u63, h64, h⟩ := andThen_some h
           rcases fork_some h with ⟨h65, h⟩ | ⟨h65, h⟩
           ·injection h with h; subst h
            exact env.fun func31 can31 (its := [b0, b0, b0, b0, b0, b0, b0, b0, b0, b0, b0, b0, b0, b0, b0, b0, b0, .call [none, none] [] [] true (q1l_R a0 (([115, 47] : B8) ++ a2) u8) (q1l_O a0 (([115, 47] : B8) ++ a2) u8), b1, b1, b1, b1, b1, b1, b1, b1, b0, b1, .call [none, none] [] [] true (q19_R (w64 ((0 : Int) + a3)) (0 : Int) u58) (q19_O (w64 ((0 : Int) + a3)) (0 : Int) u58), .call [none, none] [] [] true (q2d_R a0 ((([115, 47] : B8) ++ a2), u58, ()) u60) (q2d_O a0 ((([115, 47] : B8) ++ a2), u58, ()) u60), b0, .call [none] [] [0] true (q16_R u60 u63) (q16_O u60 u63), b1]) (pos := s0) (.c h1 (.c h2 (.c h2 (.c h2 (.c h2 (.c h3 (.c h3 (.c h3 (.c h4 (.c h4 (.c h4 (.c h5 (.c h5 (.c h5 (.c h6 (.c h6 (.c h6 (.c h7 (.c (q1l_ok a0 (([115, 47] : B8) ++ a2) u8 h9) (.c h10 (.c h10 (.c h10 (.c h11 (.c h10 (.c h10 (.c h10 (.c h10 (.c h10 (.c h12 (.c h57 (.c (q19_ok (w64 ((0 : Int) + a3)) (0 : Int) u58 h59) (.c (q2d_ok a0 ((([115, 47] : B8) ++ a2), u58, ()) u60 h61) (.c h62 (.c (q16_ok u60 u63 h64) (.c h65 .n))))))))))))))))))))))))))))))))))) (by kernel_rfl)
           ·injection h with h; subst h
            exact env.fun func31 can31 (its := [b0, b0, b0, b0, b0, b0, b0, b0, b0, b0, b0, b0, b0, b0, b0, b0, b0, .call [none, none] [] [] true (q1l_R a0 (([115, 47] : B8) ++ a2) u8) (q1l_O a0 (([115, 47] : B8) ++ a2) u8), b1, b1, b1, b1, b1, b1, b1, b1, b0, b1, .call [none, none] [] [] true (q19_R (w64 ((0 : Int) + a3)) (0 : Int) u58) (q19_O (w64 ((0 : Int) + a3)) (0 : Int) u58), .call [none, none] [] [] true (q2d_R a0 ((([115, 47] : B8) ++ a2), u58, ()) u60) (q2d_O a0 ((([115, 47] : B8) ++ a2), u58, ()) u60), b0, .call [none] [] [0] true (q16_R u60 u63) (q16_O u60 u63), b0]) (pos := [.vals (.slice Y18c3) [(.int .i64)], .sel []]) (.c h1 (.c h2 (.c h2 (.c h2 (.c h2 (.c h3 (.c h3 (.c h3 (.c h4 (.c h4 (.c h4 (.c h5 (.c h5 (.c h5 (.c h6 (.c h6 (.c h6 (.c h7 (.c (q1l_ok a0 (([115, 47] : B8) ++ a2) u8 h9) (.c h10 (.c h10 (.c h10 (.c h11 (.c h10 (.c h10 (.c h10 (.c h10 (.c h10 (.c h12 (.c h57 (.c (q19_ok (w64 ((0 : Int) + a3)) (0 : Int) u58 h59) (.c (q2d_ok a0 ((([115, 47] : B8) ++ a2), u58, ()) u60 h61) (.c h62 (.c (q16_ok u60 u63 h64) (.c h65 .n))))))))))))))))))))))))))))))))))) (by kernel_rfl)
         ·rcases fork_some h with ⟨h66, h⟩ | ⟨h66, h⟩
          ·rcases fork_some h with ⟨h67, h⟩ | ⟨h67, h⟩
           ·injection h with h; subst h
            exact env.fun func31 can31 (its := [b0, b0, b0, b0, b0, b0, b0, b0, b0, b0, b0, b0, b0, b0, b0, b0, b0, .call [none, none] [] [] true (q1l_R a0 (([115, 47] : B8) ++ a2) u8) (q1l_O a0 (([115, 47] : B8) ++ a2) u8), b1, b1, b1, b1, b1, b1, b1, b1, b0, b0, b1, b1]) (pos := s0) (.c h1 (.c h2 (.c h2 (.c h2 (.c h2 (.c h3 (.c h3 (.c h3 (.c h4 (.c h4 (.c h4 (.c h5 (.c h5 (.c h5 (.c h6 (.c h6 (.c h6 (.c h7 (.c (q1l_ok a0 (([115, 47] : B8) ++ a2) u8 h9) (.c h10 (.c h10 (.c h10 (.c h11 (.c h10 (.c h10 (.c h10 (.c h10 (.c h10 (.c h12 (.c h57 (.c h66 (.c h67 .n)))))))))))))))))))))))))))))))) (by kernel_rfl)
           ·obtain ⟨u68, h69, h⟩ := andThen_some h
            obtain ⟨u70, h71, h⟩ := andThen_some h
            rcases fork_some h with ⟨h72, h⟩ | ⟨h72, h⟩
            ·injection h with h; subst h
             exact env.fun func31 can31 (its := [b0, b0, b0, b0, b0, b0, b0, b0, b0, b0, b0, b0, b0, b0, b0, b0, b0, .call [none, none] [] [] true (q1l_R a0 (([115, 47] : B8) ++ a2) u8) (q1l_O a0 (([115, 47] : B8) ++ a2) u8), b1, b1, b1, b1, b1, b1, b1, b1, b0, b0, b1, b0, .call [none, none] [] [] true (q19_R (0 : Int) (w64 ((0 : Int) + a3)) u68) (q19_O (0 : Int) (w64 ((0 : Int) + a3)) u68), .call [none, none] [] [] true (q2d_R a0 ((([115, 47] : B8) ++ a2), u68, ()) u70) (q2d_O a0 ((([115, 47] : B8) ++ a2), u68, ()) u70), b1]) (pos := s0) (.c h1 (.c h2 (.c h2 (.c h2 (.c h2 (.c h3 (.c h3 (.c h3 (.c h4 (.c h4 (.c h4 (.c h5 (.c h5 (.c h5 (.c h6 (.c h6 (.c h6 (.c h7 (.c (q1l_ok a0 (([115, 47] : B8) ++ a2) u8 h9) (.c h10 (.c h10 (.c h10 (.c h11 (.c h10 (.c h10 (.c h10 (.c h10 (.c h10 (.c h12 (.c h57 (.c h66 (.c h67 (.c (q19_ok (0 : Int) (w64 ((0 : Int) + a3)) u68 h69) (.c (q2d_ok a0 ((([115, 47] : B8) ++ a2), u68, ()) u70 h71) (.c h72 .n))))))))))))))))))))))))))))))))))) (by kernel_rfl)
            ·obtain ⟨u73, h74, h⟩ := andThen_some h
             rcases fork_some h with ⟨h75, h⟩ | ⟨h75, h⟩
             ·injection h with h; subst h
              exact env.fun func31 can31 (its := [b0, b0, b0, b0, b0, b0, b0, b0, b0, b0, b0, b0, b0, b0, b0, b0, b0, .call [none, none] [] [] true (q1l_R a0 (([115, 47] : B8) ++ a2) u8) (q1l_O a0 (([115, 47] : B8) ++ a2) u8), b1, b1, b1, b1, b1, b1, b1, b1, b0, b0, b1, b0, .call [none, none] [] [] true (q19_R (0 : Int) (w64 ((0 : Int) + a3)) u68) (q19_O (0 : Int) (w64 ((0 : Int) + a3)) u68), .call [none, none] [] [] true (q2d_R a0 ((([115, 47] : B8) ++ a2), u68, ()) u70) (q2d_O a0 ((([115, 47] : B8) ++ a2), u68, ()) u70), b0, .call [none] [] [0] true (q16_R u70 u73) (q16_O u70 u73), b1]) (pos := s0) (.c h1 (.c h2 (.c h2 (.c h2 (.c h2 (.c h3 (.c h3 (.c h3 (.c h4 (.c h4 (.c h4 (.c h5 (.c h5 (.c h5 (.c h6 (.c h6 (.c h6 (.c h7 (.c (q1l_ok a0 (([115, 47] : B8) ++ a2) u8 h9) (.c h10 (.c h10 (.c h10 (.c h11 (.c h10 (.c h10 (.c h10 (.c h10 (.c h10 (.c h12 (.c h57 (.c h66 (.c h67 (.c (q19_ok (0 : Int) (w64 ((0 : Int) + a3)) u68 h69) (.c (q2d_ok a0 ((([115, 47] : B8) ++ a2), u68, ()) u70 h71) (.c h72 (.c (q16_ok u70 u73 h74) (.c h75 .n))))))))))))))))))))))))))))))))))))) (by kernel_rfl)
             ·injection h with h; subst h
              exact env.fun func31 can31 (its := [b0, b0, b0, b0, b0, b0, b0, b0, b0, b0, b0, b0, b0, b0, b0, b0, b0, .call [none, none] [] [] true (q1l_R a0 (([115, 47] : B8) ++ a2) u8) (q1l_O a0 (([115, 47] : B8) ++ a2) u8), b1, b1, b1, b1, b1, b1, b1, b1, b0, b0, b1, b0, .call [none, none] [] [] true (q19_R (0 : Int) (w64 ((0 : Int) + a3)) u68) (q19_O (0 : Int) (w64 ((0 : Int) + a3)) u68), .call [none, none] [] [] true (q2d_R a0 ((([115, 47] : B8) ++ a2), u68, ()) u70) (q2d_O a0 ((([115, 47] : B8) ++ a2), u68, ()) u70), b0, .call [none] [] [0] true (q16_R u70 u73) (q16_O u70 u73), b0]) (pos := [.vals (.slice Y18c3) [(.int .i64)], .sel []]) (.c h1 (.c h2 (.c h2 (.c h2 (.c h2 (.c h3 (.c h3 (.c h3 (.c h4 (.c h4 (.c h4 (.c h5 (.c h5 (.c h5 (.c h6 (.c h6 (.c h6 (.c h7 (.c (q1l_ok a0 (([115, 47] : B8) ++ a2) u8 h9) (.c h10 (.c h10 (.c h10 (.c h11 (.c h10 (.c h10 (.c h10 (.c h10 (.c h10 (.c h12 (.c h57 (.c h66 (.c h67 (.c (q19_ok (0 : Int) (w64 ((0 : Int) + a3)) u68 h69) (.c (q2d_ok a0 ((([115, 47] : B8) ++ a2), u68, ()) u70 h71) (.c h72 (.c (q16_ok u70 u73 h74) (.c h75 .n))))))))))))))))))))))))))))))))))))) (by kernel_rfl)
          ·rcases fork_some h with ⟨h76, h⟩ | ⟨h76, h⟩
           ·rcases fork_some h with ⟨h77, h⟩ | ⟨h77, h⟩
            ·injection h with h; subst h
             exact env.fun func31 can31 (its := [b0, b0, b0, b0, b0, b0, b0, b0, b0, b0, b0, b0, b0, b0, b0, b0, b0, .call [none, none] [] [] true (q1l_R a0 (([115, 47] : B8) ++ a2) u8) (q1l_O a0 (([115, 47] : B8) ++ a2) u8), b1, b1, b1, b1, b1, b1, b1, b1, b0, b0, b0, b1, b1]) (pos := s0) (.c h1 (.c h2 (.c h2 (.c h2 (.c h2 (.c h3 (.c h3 (.c h3 (.c h4 (.c h4 (.c h4 (.c h5 (.c h5 (.c h5 (.c h6 (.c h6 (.c h6 (.c h7 (.c (q1l_ok a0 (([115, 47] : B8) ++ a2) u8 h9) (.c h10 (.c h10 (.c h10 (.c h11 (.c h10 (.c h10 (.c h10 (.c h10 (.c h10 (.c h12 (.c h57 (.c h66 (.c h76 (.c h77 .n))))))))))))))))))))))))))))))))) (by kernel_rfl)
            ·rcases fork_some h with ⟨h78, h⟩ | ⟨h78, h⟩
             ·injection h with h; subst h
              exact env.fun func31 can31 (its := [b0, b0, b0, b0, b0, b0, b0, b0, b0, b0, b0, b0, b0, b0, b0, b0, b0, .call [none, none] [] [] true (q1l_R a0 (([115, 47] : B8) ++ a2) u8) (q1l_O a0 (([115, 47] : B8) ++ a2) u8), b1, b1, b1, b1, b1, b1, b1, b1, b0, b0, b0, b1, b0, b1, b1, b1, b1, b1, b1, b1, b1]) (pos := s0) (.c h1 (.c h2 (.c h2 (.c h2 (.c h2 (.c h3 (.c h3 (.c h3 (.c h4 (.c h4 (.c h4 (.c h5 (.c h5 (.c h5 (.c h6 (.c h6 (.c h6 (.c h7 (.c (q1l_ok a0 (([115, 47] : B8) ++ a2) u8 h9) (.c h10 (.c h10 (.c h10 (.c h11 (.c h10 (.c h10 (.c h10 (.c h10 (.c h10 (.c h12 (.c h57 (.c h66 (.c h76 (.c h77 (.c h78 (.c h78 (.c h78 (.c r1 (.c r1 (.c r1 (.c r1 (.c r1 .n))))))))))))))))))))))))))))))))))))))))) (by kernel_rfl)
             ·rcases fork_some h with ⟨h79, h⟩ | ⟨h79, h⟩
              ·injection h with h; subst h
               exact env.fun func31 can31 (its := [b0, b0, b0, b0, b0, b0, b0, b0, b0, b0, b0, b0, b0, b0, b0, b0, b0, .call [none, none] [] [] true (q1l_R a0 (([115, 47] : B8) ++ a2) u8) (q1l_O a0 (([115, 47] : B8) ++ a2) u8), b1, b1, b1, b1, b1, b1, b1, b1, b0, b0, b0, b1, b0, b0, b0, b0, b1, b1, b1, b1, b1]) (pos := s0) (.c h1 (.c h2 (.c h2 (.c h2 (.c h2 (.c h3 (.c h3 (.c h3 (.c h4 (.c h4 (.c h4 (.c h5 (.c h5 (.c h5 (.c h6 (.c h6 (.c h6 (.c h7 (.c (q1l_ok a0 (([115, 47] : B8) ++ a2) u8 h9) (.c h10 (.c h10 (.c h10 (.c h11 (.c h10 (.c h10 (.c h10 (.c h10 (.c h10 (.c h12 (.c h57 (.c h66 (.c h76 (.c h77 (.c h78 (.c h78 (.c h78 (.c h79 (.c h79 (.c h79 (.c h79 (.c r1 .n))))))))))))))))))))))))))))))))))))))))) (by kernel_rfl)
              ·rcases fork_some h with ⟨h80, h⟩ | ⟨h80, h⟩
               ·injection h with h; subst h
                exact env.fun func31 can31 (its := [b0, b0, b0, b0, b0, b0, b0, b0, b0, b0, b0, b0, b0, b0, b0, b0, b0, .call [none, none] [] [] true (q1l_R a0 (([115, 47] : B8) ++ a2) u8) (q1l_O a0 (([115, 47] : B8) ++ a2) u8), b1, b1, b1, b1, b1, b1, b1, b1, b0, b0, b0, b1, b0, b0, b0, b0, b0, b0, b0, b0, b1]) (pos := s0) (.c h1 (.c h2 (.c h2 (.c h2 (.c h2 (.c h3 (.c h3 (.c h3 (.c h4 (.c h4 (.c h4 (.c h5 (.c h5 (.c h5 (.c h6 (.c h6 (.c h6 (.c h7 (.c (q1l_ok a0 (([115, 47] : B8) ++ a2) u8 h9) (.c h10 (.c h10 (.c h10 (.c h11 (.c h10 (.c h10 (.c h10 (.c h10 (.c h10 (.c h12 (.c h57 (.c h66 (.c h76 (.c h77 (.c h78 (.c h78 (.c h78 (.c h79 (.c h79 (.c h79 (.c h79 (.c h80 .n))))))))))))))))))))))))))))))))))))))))) (by kernel_rfl)
               ·obtain ⟨h81, h⟩ := need_some h
                obtain ⟨u82, h83, h⟩ := andThen_some h
                obtain ⟨u84, h85, h⟩ := andThen_some h
                rcases fork_some h with ⟨h86, h⟩ | ⟨h86, h⟩
                ·injection h with h; subst h
                 exact env.fun func31 can31 (its := [b0, b0, b0, b0, b0, b0, b0, b0, b0, b0, b0, b0, b0, b0, b0, b0, b0, .call [none, none] [] [] true (q1l_R a0 (([115, 47] : B8) ++ a2) u8) (q1l_O a0 (([115, 47] : B8) ++ a2) u8), b1, b1, b1, b1, b1, b1, b1, b1, b0, b0, b0, b1, b0, b0, b0, b0, b0, b0, b0, b0, b0, .call [none, none] [] [] true (q19_R (w64 (Int.tdiv (w64 ((0 : Int) * (w64 (a4 - a3)))) a4)) (0 : Int) u82) (q19_O (w64 (Int.tdiv (w64 ((0 : Int) * (w64 (a4 - a3)))) a4)) (0 : Int) u82), .call [none, none] [] [] true (q2d_R a0 ((([115, 47] : B8) ++ a2), u82, ()) u84) (q2d_O a0 ((([115, 47] : B8) ++ a2), u82, ()) u84), b1]) (pos := s0) (.c h1 (.c h2 (.c h2 (.c h2 (.c h2 (.c h3 (.c h3 (.c h3 (.c h4 (.c h4 (.c h4 (.c h5 (.c h5 (.c h5 (.c h6 (.c h6 (.c h6 (.c h7 (.c (q1l_ok a0 (([115, 47] : B8) ++ a2) u8 h9) (.c h10 (.c h10 (.c h10 (.c h11 (.c h10 (.c h10 (.c h10 (.c h10 (.c h10 (.c h12 (.c h57 (.c h66 (.c h76 (.c h77 (.c h78 (.c h78 (.c h78 (.c h79 (.c h79 (.c h79 (.c h79 (.c h80 (.c h81 (.c (q19_ok (w64 (Int.tdiv (w64 ((0 : Int) * (w64 (a4 - a3)))) a4)) (0 : Int) u82 h83) (.c (q2d_ok a0 ((([115, 47] : B8) ++ a2), u82, ()) u84 h85) (.c h86 .n))))))))))))))))))))))))))))))))))))))))))))) (by kernel_rfl)
                ·obtain ⟨u87, h88, h⟩ := andThen_some h
                 rcases fork_some h with ⟨h89, h⟩ | ⟨h89, h⟩
                 ·injection h with h; subst h
                  exact env.fun func31 can31 (its := [b0, b0, b0, b0, b0, b0, b0, b0, b0, b0, b0, b0, b0, b0, b0, b0, b0, .call [none, none] [] [] true (q1l_R a0 (([115, 47] : B8) ++ a2) u8) (q1l_O a0 (([115, 47] : B8) ++ a2) u8), b1, b1, b1, b1, b1, b1, b1, b1, b0, b0, b0, b1, b0, b0, b0, b0, b0, b0, b0, b0, b0, .call [none, none] [] [] true (q19_R (w64 (Int.tdiv (w64 ((0 : Int) * (w64 (a4 - a3)))) a4)) (0 : Int) u82) (q19_O (w64 (Int.tdiv (w64 ((0 : Int) * (w64 (a4 - a3)))) a4)) (0 : Int) u82), .call [none, none] [] [] true (q2d_R a0 ((([115, 47] : B8) ++ a2), u82, ()) u84) (q2d_O a0 ((([115, 47] : B8) ++ a2), u82, ()) u84), b0, .call [none] [] [0] true (q16_R u84 u87) (q16_O u84 u87), b1]) (pos := s0) (.c h1 (.c h2 (.c h2 (.c h2 (.c h2 (.c h3 (.c h3 (.c h3 (.c h4 (.c h4 (.c h4 (.c h5 (.c h5 (.c h5 (.c h6 (.c h6 (.c h6 (.c h7 (.c (q1l_ok a0 (([115, 47] : B8) ++ a2) u8 h9) (.c h10 (.c h10 (.c h10 (.c h11 (.c h10 (.c h10 (.c h10 (.c h10 (.c h10 (.c h12 (.c h57 (.c h66 (.c h76 (.c h77 (.c h78 (.c h78 (.c h78 (.c h79 (.c h79 (.c h79 (.c h79 (.c h80 (.c h81 (.c (q19_ok (w64 (Int.tdiv (w64 ((0 : Int) * (w64 (a4 - a3)))) a4)) (0 : Int) u82 h83) (.c (q2d_ok a0 ((([115, 47] : B8) ++ a2), u82, ()) u84 h85) (.c h86 (.c (q16_ok u84 u87 h88) (.c h89 .n))))))))))))))))))))))))))))))))))))))))))))))) (by kernel_rfl)
                 ·injection h with h; subst h
                  exact env.fun func31 can31 (its := [b0, b0, b0, b0, b0, b0, b0, b0, b0, b0, b0, b0, b0, b0, b0, b0, b0, .call [none, none] [] [] true (q1l_R a0 (([115, 47] : B8) ++ a2) u8) (q1l_O a0 (([115, 47] : B8) ++ a2) u8), b1, b1, b1, b1, b1, b1, b1, b1, b0, b0, b0, b1, b0, b0, b0, b0, b0, b0, b0, b0, b0, .call [none, none] [] [] true (q19_R (w64 (Int.tdiv (w64 ((0 : Int) * (w64 (a4 - a3)))) a4)) (0 : Int) u82) (q19_O (w64 (Int.tdiv (w64 ((0 : Int) * (w64 (a4 - a3)))) a4)) (0 : Int) u82), .call [none, none] [] [] true (q2d_R a0 ((([115, 47] : B8) ++ a2), u82, ()) u84) (q2d_O a0 ((([115, 47] : B8) ++ a2), u82, ()) u84), b0, .call [none] [] [0] true (q16_R u84 u87) (q16_O u84 u87), b0]) (pos := [.vals (.slice Y18c3) [(.int .i64)], .sel []]) (.c h1 (.c h2 (.c h2 (.c h2 (.c h2 (.c h3 (.c h3 (.c h3 (.c h4 (.c h4 (.c h4 (.c h5 (.c h5 (.c h5 (.c h6 (.c h6 (.c h6 (.c h7 (.c (q1l_ok a0 (([115, 47] : B8) ++ a2) u8 h9) (.c h10 (.c h10 (.c h10 (.c h11 (.c h10 (.c h10 (.c h10 (.c h10 (.c h10 (.c h12 (.c h57 (.c h66 (.c h76 (.c h77 (.c h78 (.c h78 (.c h78 (.c h79 (.c h79 (.c h79 (.c h79 (.c h80 (.c h81 (.c (q19_ok (w64 (Int.tdiv (w64 ((0 : Int) * (w64 (a4 - a3)))) a4)) (0 : Int) u82 h83) (.c (q2d_ok a0 ((([115, 47] : B8) ++ a2), u82, ()) u84 h85) (.c h86 (.c (q16_ok u84 u87 h88) (.c h89 .n))))))))))))))))))))))))))))))))))))))))))))))) (by kernel_rfl)
           ·obtain ⟨u90, h91, h⟩ := andThen_some h
            obtain ⟨u92, h93, h⟩ := andThen_some h
            rcases fork_some h with ⟨h94, h⟩ | ⟨h94, h⟩
            ·injection h with h; subst h
             exact env.fun func31 can31 (its := [b0, b0, b0, b0, b0, b0, b0, b0, b0, b0, b0, b0, b0, b0, b0, b0, b0, .call [none, none] [] [] true (q1l_R a0 (([115, 47] : B8) ++ a2) u8) (q1l_O a0 (([115, 47] : B8) ++ a2) u8), b1, b1, b1, b1, b1, b1, b1, b1, b0, b0, b0, b0, .call [none, none] [] [] true (q19_R (0 : Int) (0 : Int) u90) (q19_O (0 : Int) (0 : Int) u90), .call [none, none] [] [] true (q2d_R a0 ((([115, 47] : B8) ++ a2), u90, ()) u92) (q2d_O a0 ((([115, 47] : B8) ++ a2), u90, ()) u92), b1]) (pos := s0) (.c h1 (.c h2 (.c h2 (.c h2 (.c h2 (.c h3 (.c h3 (.c h3 (.c h4 (.c h4 (.c h4 (.c h5 (.c h5 (.c h5 (.c h6 (.c h6 (.c h6 (.c h7 (.c (q1l_ok a0 (([115, 47] : B8) ++ a2) u8 h9) (.c h10 (.c h10 (.c h10 (.c h11 (.c h10 (.c h10 (.c h10 (.c h10 (.c h10 (.c h12 (.c h57 (.c h66 (.c h76 (.c (q19_ok (0 : Int) (0 : Int) u90 h91) (.c (q2d_ok a0 ((([115, 47] : B8) ++ a2), u90, ()) u92 h93) (.c h94 .n))))))))))))))))))))))))))))))))))) (by kernel_rfl)
            ·obtain ⟨u95, h96, h⟩ := andThen_some h
             rcases fork_some h with ⟨h97, h⟩ | ⟨h97, h⟩
             ·injection h with h; subst h
              exact env.fun func31 can31 (its := [b0, b0, b0, b0, b0, b0, b0, b0, b0, b0, b0, b0, b0, b0, b0, b0, b0, .call [none, none] [] [] true (q1l_R a0 (([115, 47] : B8) ++ a2) u8) (q1l_O a0 (([115, 47] : B8) ++ a2) u8), b1, b1, b1, b1, b1, b1, b1, b1, b0, b0, b0, b0, .call [none, none] [] [] true (q19_R (0 : Int) (0 : Int) u90) (q19_O (0 : Int) (0 : Int) u90), .call [none, none] [] [] true (q2d_R a0 ((([115, 47] : B8) ++ a2), u90, ()) u92) (q2d_O a0 ((([115, 47] : B8) ++ a2), u90, ()) u92), b0, .call [none] [] [0] true (q16_R u92 u95) (q16_O u92 u95), b1]) (pos := s0) (.c h1 (.c h2 (.c h2 (.c h2 (.c h2 (.c h3 (.c h3 (.c h3 (.c h4 (.c h4 (.c h4 (.c h5 (.c h5 (.c h5 (.c h6 (.c h6 (.c h6 (.c h7 (.c (q1l_ok a0 (([115, 47] : B8) ++ a2) u8 h9) (.c h10 (.c h10 (.c h10 (.c h11 (.c h10 (.c h10 (.c h10 (.c h10 (.c h10 (.c h12 (.c h57 (.c h66 (.c h76 (.c (q19_ok (0 : Int) (0 : Int) u90 h91) (.c (q2d_ok a0 ((([115, 47] : B8) ++ a2), u90, ()) u92 h93) (.c h94 (.c (q16_ok u92 u95 h96) (.c h97 .n))))))))))))))))))))))))))))))))))))) (by kernel_rfl)
             ·injection h with h; subst h
              exact env.fun func31 can31 (its := [b0, b0, b0, b0, b0, b0, b0, b0, b0, b0, b0, b0, b0, b0, b0, b0, b0, .call [none, none] [] [] true (q1l_R a0 (([115, 47] : B8) ++ a2) u8) (q1l_O a0 (([115, 47] : B8) ++ a2) u8), b1, b1, b1, b1, b1, b1, b1, b1, b0, b0, b0, b0, .call [none, none] [] [] true (q19_R (0 : Int) (0 : Int) u90) (q19_O (0 : Int) (0 : Int) u90), .call [none, none] [] [] true (q2d_R a0 ((([115, 47] : B8) ++ a2), u90, ()) u92) (q2d_O a0 ((([115, 47] : B8) ++ a2), u90, ()) u92), b0, .call [none] [] [0] true (q16_R u92 u95) (q16_O u92 u95), b0]) (pos := [.vals (.slice Y18c3) [(.int .i64)], .sel []]) (.c h1 (.c h2 (.c h2 (.c h2 (.c h2 (.c h3 (.c h3 (.c h3 (.c h4 (.c h4 (.c h4 (.c h5 (.c h5 (.c h5 (.c h6 (.c h6 (.c h6 (.c h7 (.c (q1l_ok a0 (([115, 47] : B8) ++ a2) u8 h9) (.c h10 (.c h10 (.c h10 (.c h11 (.c h10 (.c h10 (.c h10 (.c h10 (.c h10 (.c h12 (.c h57 (.c h66 (.c h76 (.c (q19_ok (0 : Int) (0 : Int) u90 h91) (.c (q2d_ok a0 ((([115, 47] : B8) ++ a2), u90, ()) u92 h93) (.c h94 (.c (q16_ok u92 u95 h96) (.c h97 .n))))))))))))))))))))))))))))))))))))) (by kernel_rfl)
       ·rcases fork_some h with ⟨h98, h⟩ | ⟨h98, h⟩
        ·obtain ⟨u99, h100, h⟩ := andThen_some h
         obtain ⟨u101, h102, h⟩ := andThen_some h
         rcases fork_some h with ⟨h103, h⟩ | ⟨h103, h⟩
         ·injection h with h; subst h
          exact env.fun func31 can31 (its := [b0, b0, b0, b0, b0, b0, b0, b0, b0, b0, b0, b0, b0, b0, b0, b0, b0, .call [none, none] [] [] true (q1l_R a0 (([115, 47] : B8) ++ a2) u8) (q1l_O a0 (([115, 47] : B8) ++ a2) u8), b0, b0, b0, b0, b0, b0, b0, b0, b0, b1, .call [none, none] [] [] true (q19_R (w64 ((0 : Int) + a3)) (0 : Int) u99) (q19_O (w64 ((0 : Int) + a3)) (0 : Int) u99), .call [none, none] [] [] true (q2d_R a0 ((([115, 47] : B8) ++ a2), u99, ()) u101) (q2d_O a0 ((([115, 47] : B8) ++ a2), u99, ()) u101), b1]) (pos := s0) (.c h1 (.c h2 (.c h2 (.c h2 (.c h2 (.c h3 (.c h3 (.c h3 (.c h4 (.c h4 (.c h4 (.c h5 (.c h5 (.c h5 (.c h6 (.c h6 (.c h6 (.c h7 (.c (q1l_ok a0 (([115, 47] : B8) ++ a2) u8 h9) (.c h10 (.c h10 (.c h10 (.c h10 (.c h10 (.c h10 (.c h10 (.c h10 (.c r0 (.c h98 (.c (q19_ok (w64 ((0 : Int) + a3)) (0 : Int) u99 h100) (.c (q2d_ok a0 ((([115, 47] : B8) ++ a2), u99, ()) u101 h102) (.c h103 .n)))))))))))))))))))))))))))))))) (by kernel_rfl)
         ·obtain ⟨u104, h105, h⟩ := andThen_some h
          rcases fork_some h with ⟨h106, h⟩ | ⟨h106, h⟩
          ·injection h with h; subst h
           exact env.fun func31 can31 (its := [b0, b0, b0, b0, b0, b0, b0, b0, b0, b0, b0, b0, b0, b0, b0, b0, b0, .call [none, none] [] [] true (q1l_R a0 (([115, 47] : B8) ++ a2) u8) (q1l_O a0 (([115, 47] : B8) ++ a2) u8), b0, b0, b0, b0, b0, b0, b0, b0, b0, b1, .call [none, none] [] [] true (q19_R (w64 ((0 : Int) + a3)) (0 : Int) u99) (q19_O (w64 ((0 : Int) + a3)) (0 : Int) u99), .call [none, none] [] [] true (q2d_R a0 ((([115, 47] : B8) ++ a2), u99, ()) u101) (q2d_O a0 ((([115, 47] : B8) ++ a2), u99, ()) u101), b0, .call [none] [] [0] true (q16_R u101 u104) (q16_O u101 u104), b1]) (pos := s0) (.c h1 (.c h2 (.c h2 (.c h2 (.c h2 (.c h3 (.c h3 (.c h3 (.c h4 (.c h4 (.c h4 (.c h5 (.c h5 (.c h5 (.c h6 (.c h6 (.c h6 (.c h7 (.c (q1l_ok a0 (([115, 47] : B8) ++ a2) u8 h9) (.c h10 (.c h10 (.c h10 (.c h10 (.c h10 (.c h10 (.c h10 (.c h10 (.c r0 (.c h98 (.c (q19_ok (w64 ((0 : Int) + a3)) (0 : Int) u99 h100) (.c (q2d_ok a0 ((([115, 47] : B8) ++ a2), u99, ()) u101 h102) (.c h103 (.c (q16_ok u101 u104 h105) (.c h106 .n)))))))))))))))))))))))))))))))))) (by kernel_rfl)
          ·injection h with h; subst h
           exact env.fun func31 can31 (its := [b0, b0, b0, b0, b0, b0, b0, b0, b0, b0, b0, b0, b0, b0, b0, b0, b0, .call [none, none] [] [] true (q1l_R a0 (([115, 47] : B8) ++ a2) u8) (q1l_O a0 (([115, 47] : B8) ++ a2) u8), b0, b0, b0, b0, b0, b0, b0, b0, b0, b1, .call [none, none] [] [] true (q19_R (w64 ((0 : Int) + a3)) (0 : Int) u99) (q19_O (w64 ((0 : Int) + a3)) (0 : Int) u99), .call [none, none] [] [] true (q2d_R a0 ((([115, 47] : B8) ++ a2), u99, ()) u101) (q2d_O a0 ((([115, 47] : B8) ++ a2), u99, ()) u101), b0, .call [none] [] [0] true (q16_R u101 u104) (q16_O u101 u104), b0]) (pos := [.vals (.slice Y18c3) [(.int .i64)], .sel []]) (.c h1 (.c h2 (.c h2 (.c h2 (.c h2 (.c h3 (.c h3 (.c h3 (.c h4 (.c h4 (.c h4 (.c h5 (.c h5 (.c h5 (.c h6 (.c h6 (.c h6 (.c h7 (.c (q1l_ok a0 (([115, 47] : B8) ++ a2) u8 h9) (.c h10 (.c h10 (.c h10 (.c h10 (.c h10 (.c h10 (.c h10 (.c h10 (.c r0 (.c h98 (.c (q19_ok (w64 ((0 : Int) + a3)) (0 : Int) u99 h100) (.c (q2d_ok a0 ((([115, 47] : B8) ++ a2), u99, ()) u101 h102) (.c h103 (.c (q16_ok u101 u104 h105) (.c h106 .n)))))))))))))))))))))))))))))))))) (by kernel_rfl)
        ·rcases fork_some h with ⟨h107, h⟩ | ⟨h107, h⟩
         ·injection h with h; subst h
          exact env.fun func31 can31 (its := [b0, b0, b0, b0, b0, b0, b0, b0, b0, b0, b0, b0, b0, b0, b0, b0, b0, .call [none, none] [] [] true (q1l_R a0 (([115, 47] : B8) ++ a2) u8) (q1l_O a0 (([115, 47] : B8) ++ a2) u8), b0, b0, b0, b0, b0, b0, b0, b0, b0, b0, b1, b1]) (pos := s0) (.c h1 (.c h2 (.c h2 (.c h2 (.c h2 (.c h3 (.c h3 (.c h3 (.c h4 (.c h4 (.c h4 (.c h5 (.c h5 (.c h5 (.c h6 (.c h6 (.c h6 (.c h7 (.c (q1l_ok a0 (([115, 47] : B8) ++ a2) u8 h9) (.c h10 (.c h10 (.c h10 (.c h10 (.c h10 (.c h10 (.c h10 (.c h10 (.c r0 (.c h98 (.c h107 (.c r1 .n))))))))))))))))))))))))))))))) (by kernel_rfl)
         ·rcases fork_some h with ⟨h108, h⟩ | ⟨h108, h⟩
          ·injection h with h; subst h
           exact env.fun func31 can31 (its := [b0, b0, b0, b0, b0, b0, b0, b0, b0, b0, b0, b0, b0, b0, b0, b0, b0, .call [none, none] [] [] true (q1l_R a0 (([115, 47] : B8) ++ a2) u8) (q1l_O a0 (([115, 47] : B8) ++ a2) u8), b0, b0, b0, b0, b0, b0, b0, b0, b0, b0, b0, b1, b1]) (pos := s0) (.c h1 (.c h2 (.c h2 (.c h2 (.c h2 (.c h3 (.c h3 (.c h3 (.c h4 (.c h4 (.c h4 (.c h5 (.c h5 (.c h5 (.c h6 (.c h6 (.c h6 (.c h7 (.c (q1l_ok a0 (([115, 47] : B8) ++ a2) u8 h9) (.c h10 (.c h10 (.c h10 (.c h10 (.c h10 (.c h10 (.c h10 (.c h10 (.c r0 (.c h98 (.c h107 (.c h108 (.c r1 .n)))))))))))))))))))))))))))))))) (by kernel_rfl)
          ·obtain ⟨u109, h110, h⟩ := andThen_some h
           obtain ⟨u111, h112, h⟩ := andThen_some h
           rcases fork_some h with ⟨h113, h⟩ | ⟨h113, h⟩
           ·injection h with h; subst h
            exact env.fun func31 can31 (its := [b0, b0, b0, b0, b0, b0, b0, b0, b0, b0, b0, b0, b0, b0, b0, b0, b0, .call [none, none] [] [] true (q1l_R a0 (([115, 47] : B8) ++ a2) u8) (q1l_O a0 (([115, 47] : B8) ++ a2) u8), b0, b0, b0, b0, b0, b0, b0, b0, b0, b0, b0, b0, .call [none, none] [] [] true (q19_R (0 : Int) (0 : Int) u109) (q19_O (0 : Int) (0 : Int) u109), .call [none, none] [] [] true (q2d_R a0 ((([115, 47] : B8) ++ a2), u109, ()) u111) (q2d_O a0 ((([115, 47] : B8) ++ a2), u109, ()) u111), b1]) (pos := s0) (.c h1 (.c h2 (.c h2 (.c h2 (.c h2 (.c h3 (.c h3 (.c h3 (.c h4 (.c h4 (.c h4 (.c h5 (.c h5 (.c h5 (.c h6 (.c h6 (.c h6 (.c h7 (.c (q1l_ok a0 (([115, 47] : B8) ++ a2) u8 h9) (.c h10 (.c h10 (.c h10 (.c h10 (.c h10 (.c h10 (.c h10 (.c h10 (.c r0 (.c h98 (.c h107 (.c h108 (.c (q19_ok (0 : Int) (0 : Int) u109 h110) (.c (q2d_ok a0 ((([115, 47] : B8) ++ a2), u109, ()) u111 h112) (.c h113 .n)))))))))))))))))))))))))))))))))) (by kernel_rfl)
           ·obtain ⟨u114, h115, h⟩ := andThen_some h
            rcases fork_some h with ⟨h116, h⟩ | ⟨h116, h⟩
            ·injection h with h; subst h
             exact env.fun func31 can31 (its := [b0, b0, b0, b0, b0, b0, b0, b0, b0, b0, b0, b0, b0, b0, b0, b0, b0, .call [none, none] [] [] true (q1l_R a0 (([115, 47] : B8) ++ a2) u8) (q1l_O a0 (([115, 47] : B8) ++ a2) u8), b0, b0, b0, b0, b0, b0, b0, b0, b0, b0, b0, b0, .call [none, none] [] [] true (q19_R (0 : Int) (0 : Int) u109) (q19_O (0 : Int) (0 : Int) u109), .call [none, none] [] [] true (q2d_R a0 ((([115, 47] : B8) ++ a2), u109, ()) u111) (q2d_O a0 ((([115, 47] : B8) ++ a2), u109, ()) u111), b0, .call [none] [] [0] true (q16_R u111 u114) (q16_O u111 u114), b1]) (pos := s0) (.c h1 (.c h2 (.c h2 (.c h2 (.c h2 (.c h3 (.c h3 (.c h3 (.c h4 (.c h4 (.c h4 (.c h5 (.c h5 (.c h5 (.c h6 (.c h6 (.c h6 (.c h7 (.c (q1l_ok a0 (([115, 47] : B8) ++ a2) u8 h9) (.c h10 (.c h10 (.c h10 (.c h10 (.c h10 (.c h10 (.c h10 (.c h10 (.c r0 (.c h98 (.c h107 (.c h108 (.c (q19_ok (0 : Int) (0 : Int) u109 h110) (.c (q2d_ok a0 ((([115, 47] : B8) ++ a2), u109, ()) u111 h112) (.c h113 (.c (q16_ok u111 u114 h115) (.c h116 .n)))))))))))))))))))))))))))))))))))) (by kernel_rfl)
            ·injection h with h; subst h
             exact env.fun func31 can31 (its := [b0, b0, b0, b0, b0, b0, b0, b0, b0, b0, b0, b0, b0, b0, b0, b0, b0, .call [none, none] [] [] true (q1l_R a0 (([115, 47] : B8) ++ a2) u8) (q1l_O a0 (([115, 47] : B8) ++ a2) u8), b0, b0, b0, b0, b0, b0, b0, b0, b0, b0, b0, b0, .call [none, none] [] [] true (q19_R (0 : Int) (0 : Int) u109) (q19_O (0 : Int) (0 : Int) u109), .call [none, none] [] [] true (q2d_R a0 ((([115, 47] : B8) ++ a2), u109, ()) u111) (q2d_O a0 ((([115, 47] : B8) ++ a2), u109, ()) u111), b0, .call [none] [] [0] true (q16_R u111 u114) (q16_O u111 u114), b0]) (pos := [.vals (.slice Y18c3) [(.int .i64)], .sel []]) (.c h1 (.c h2 (.c h2 (.c h2 (.c h2 (.c h3 (.c h3 (.c h3 (.c h4 (.c h4 (.c h4 (.c h5 (.c h5 (.c h5 (.c h6 (.c h6 (.c h6 (.c h7 (.c (q1l_ok a0 (([115, 47] : B8) ++ a2) u8 h9) (.c h10 (.c h10 (.c h10 (.c h10 (.c h10 (.c h10 (.c h10 (.c h10 (.c r0 (.c h98 (.c h107 (.c h108 (.c (q19_ok (0 : Int) (0 : Int) u109 h110) (.c (q2d_ok a0 ((([115, 47] : B8) ++ a2), u109, ()) u111 h112) (.c h113 (.c (q16_ok u111 u114 h115) (.c h116 .n)))))))))))))))))))))))))))))))))))) (by kernel_rfl)
theorem can59 : J01 prog 59 := ⟨_, func59, by kernel_rfl, by kernel_rfl⟩
def q1z_R (a0 : B8) (u : B8) : Slot := (.own 0 [])
def q1z_O (a0 : B8) (u : B8) : List AObj := [.row (.int .u8) u true]
theorem q1z_ok (a0 : B8) (u : B8) (h : q1z a0 = some u) : CallC prog 59 [(.v .str a0)] [] (q1z_R a0 u) (q1z_O a0 u) := by
 unfold q1z at h
 obtain ⟨u1, h2, h⟩ := andThen_some h
 obtain ⟨h3, h⟩ := need_some h
 injection h with h; subst h
 exact env.fun func59 can59 (its := [.call [none] [] [] true (q27_R (List.length a0 : Int) u1) (q27_O (List.length a0 : Int) u1)]) (pos := [.sel [1]]) (.c (q27_ok (List.length a0 : Int) u1 h2) (.c h3 .n)) (by kernel_rfl)
theorem can75 : J01 prog 75 := ⟨_, func75, by kernel_rfl, by kernel_rfl⟩
def q1w_R (a0 : T18c3) (u : B8) : Slot := (.own 0 [])
def q1w_O (a0 : T18c3) (u : B8) : List AObj := [.row (.int .u8) u true]
theorem q1w_ok (a0 : T18c3) (u : B8) (h : q1w a0 = some u) : CallC prog 75 [(.v Y18c3 a0)] [] (q1w_R a0 u) (q1w_O a0 u) := by
 unfold q1w at h
 obtain ⟨u1, h2, h⟩ := andThen_some h
 obtain ⟨u3, h4, h⟩ := andThen_some h
 obtain ⟨h5, h⟩ := need_some h
 injection h with h; subst h
 exact env.fun func75 can75 (its := [.pre p17, .call [none] [] [] true (q1z_R a0.1 u1) (q1z_O a0.1 u1), .call [none] [] [] true (q1z_R a0.2.1 u3) (q1z_O a0.2.1 u3)]) (pos := [.sel [3]]) (.c (q1z_ok a0.1 u1 h2) (.c (q1z_ok a0.2.1 u3 h4) (.c h5 .n))) (by kernel_rfl)
theorem can56 : J01 prog 56 := ⟨_, func56, by kernel_rfl, by kernel_rfl⟩
def q1h_1_in (x0 : List (T18c3)) (x1 : Int) (x2 : Int) (x3 : List (B8)) : St := ⟨[(3, (.own 0 [])), (6, (.v (.slice Y18c3) x0)), (7, (.v (.int .i64) x1)), (8, (.v (.int .i64) x2))], [.row Yb x3 true], 19, 0⟩
def q1h_1_ex (o : List (B8)) : Exit := (.exit 0)
def q1h_1_st (o : List (B8)) : St := ⟨[(3, (.own 0 []))], [.row Yb o true], 19, 0⟩
theorem q1h_1_body (x0 : List (T18c3)) (x1 : Int) (x2 : Int) (x3 : List (B8)) : ∀ r, q1h_1_step x0 x1 x2 x3 = some r → (match r with | .inl s => J03 prog (J0w (bodyOf f56) [1, 1, 0, 1, 0, 0]) (q1h_1_in x0 x1 x2 x3) .normal (q1h_1_in x0 x1 s.1 s.2) | .inr o => q1h_1_ex o ≠ .normal ∧ J03 prog (J0w (bodyOf f56) [1, 1, 0, 1, 0, 0]) (q1h_1_in x0 x1 x2 x3) (q1h_1_ex o) (q1h_1_st o)) := by
 intro r h
 unfold q1h_1_step at h
 rcases fork_some h with ⟨h2, h⟩ | ⟨h2, h⟩
 ·obtain ⟨h3, h⟩ := need_some h
  obtain ⟨u4, h5, h⟩ := andThen_some h
  obtain ⟨h6, h⟩ := need_some h
  injection h with h; subst h
  exact env.code (its := [b1, .call [none] [] [] true (q1w_R (List.getD x0 (Int.toNat x2) Z18c3) u4) (q1w_O (List.getD x0 (Int.toNat x2) Z18c3) u4), .sel [3, 6, 7, 8] [4]]) (.c h2 (.c h3 (.c (q1w_ok (List.getD x0 (Int.toNat x2) Z18c3) u4 h5) (.c h6 .n)))) (by kernel_rfl)
 ·injection h with h; subst h
  exact ⟨by intro e; simp [q1h_1_ex] at e, env.code (its := [b0, .sel [3] [0]]) (.c h2 .n) (by kernel_rfl)⟩
theorem q1h_1_ok (x0 : List (T18c3)) (x1 : Int) (x2 : Int) (x3 : List (B8)) (o : List (B8)) (h : q1h_1 x0 x1 x2 x3 = some o) : J03 prog (J0w (bodyOf f56) [1, 1, 0, 1, 0]) (q1h_1_in x0 x1 x2 x3) (q1h_1_ex o) (q1h_1_st o) :=
 J06.of_step (st := fun s => q1h_1_in x0 x1 s.1 s.2) (ex := q1h_1_ex) (stO := q1h_1_st) (fun s s2 hs => q1h_1_body x0 x1 s.1 s.2 (.inl s2) hs) (fun s r hs => q1h_1_body x0 x1 s.1 s.2 (.inr r) hs) _ o h
def q1h_R (a0 : List (T18c3)) (u : List (B8)) : Slot := (.own 0 [])
def q1h_O (a0 : List (T18c3)) (u : List (B8)) : List AObj := [.row Yb u true]
theorem q1h_ok (a0 : List (T18c3)) (u : List (B8)) (h : q1h a0 = some u) : CallC prog 56 [(.v (.slice Y18c3) a0)] [] (q1h_R a0 u) (q1h_O a0 u) := by
 unfold q1h at h
 obtain ⟨o7, h8, h⟩ := andThen_some h
 injection h with h; subst h
 exact env.fun func56 can56 (its := [.dive, .promote 3 Yb, .sel [3, 6, 7, 8] [0], .part (q1h_1_ex o7) (q1h_1_st o7)]) (pos := s1) (.c (q1h_1_ok a0 (List.length a0 : Int) (0 : Int) ([] : List (B8)) o7 h8) .n) (by kernel_rfl)
theorem can55 : J01 prog 55 := ⟨_, func55, by kernel_rfl, by kernel_rfl⟩
def q1m_R (a0 : Int) (a1 : B8) (u : B8) : Slot := (.v Yh u)
def q1m_O (a0 : Int) (a1 : B8) (u : B8) : List AObj := []
theorem q1m_ok (a0 : Int) (a1 : B8) (u : B8) (h : q1m a0 a1 = some u) : CallC prog 55 [(.v (.int .i64) a0), (.v Yh a1)] [] (q1m_R a0 a1 u) (q1m_O a0 a1 u) := by
 unfold q1m at h
 obtain ⟨u1, h2, h⟩ := andThen_some h
 obtain ⟨u3, h4, h⟩ := andThen_some h
 injection h with h; subst h
 exact env.fun func55 can55 (its := [.pre p18, .call [none] [] [] true (q27_R a0 u1) (q27_O a0 u1), b1, .asis, .call [none, none] [] [0] true (q1e_R (83 : UInt8) ([u1, a1] : List (B8)) u3) (q1e_O (83 : UInt8) ([u1, a1] : List (B8)) u3)]) (pos := s0) (.c (q27_ok a0 u1 h2) (.c (rfl : ([.row Yb ([u1, a1] : List (B8)) true] : List AObj) = [.row Yb ([u1, a1] : List (B8)) true]) (.c (q1e_ok (83 : UInt8) ([u1, a1] : List (B8)) u3 h4) .n))) (by kernel_rfl)
theorem can32 : J01 prog 32 := ⟨_, func32, by kernel_rfl, by kernel_rfl⟩
def qz_R (a0 : List (T18c3)) (u : B8) : Slot := (.v Yh u)
def qz_O (a0 : List (T18c3)) (u : B8) : List AObj := []
theorem qz_ok (a0 : List (T18c3)) (u : B8) (h : qz a0 = some u) : CallC prog 32 [(.v (.slice Y18c3) a0)] [] (qz_R a0 u) (qz_O a0 u) := by
 unfold qz at h
 obtain ⟨u1, h2, h⟩ := andThen_some h
 obtain ⟨u3, h4, h⟩ := andThen_some h
 obtain ⟨u5, h6, h⟩ := andThen_some h
 injection h with h; subst h
 exact env.fun func32 can32 (its := [.call [none] [] [] false (q1h_R a0 u1) (q1h_O a0 u1), .call [none] [] [1] true (q21_R u1 u3) (q21_O u1 u3), .call [none, none] [] [] true (q1m_R (List.length a0 : Int) u3 u5) (q1m_O (List.length a0 : Int) u3 u5)]) (pos := s0) (.c (q1h_ok a0 u1 h2) (.c (q21_ok u1 u3 h4) (.c (q1m_ok (List.length a0 : Int) u3 u5 h6) .n))) (by kernel_rfl)
theorem can34 : J01 prog 34 := ⟨_, func34, by kernel_rfl, by kernel_rfl⟩
def q15_1_in (x0 : List (T484d)) (x1 : Int) (x2 : Int) (x3 : B8) (x4 : B8) : St := ⟨[(2, (.ptr 0 [])), (3, (.own 1 [])), (9, (.v (.slice Y484d) x0)), (10, (.v (.int .i64) x1)), (11, (.v (.int .i64) x2))], [.box Yh (.v Yh x3) true, .row (.int .u8) x4 true], 31, 0⟩
def q15_1_ex (o : B8 × B8) : Exit := (.exit 0)
def q15_1_st (o : B8 × B8) : St := ⟨[(2, (.ptr 0 [])), (3, (.own 1 []))], [.box Yh (.v Yh o.1) true, .row (.int .u8) o.2 true], 31, 0⟩
theorem q15_1_body (x0 : List (T484d)) (x1 : Int) (x2 : Int) (x3 : B8) (x4 : B8) : ∀ r, q15_1_step x0 x1 x2 x3 x4 = some r → (match r with | .inl s => J03 prog (J0w (bodyOf f34) [1, 1, 0, 1, 0, 0]) (q15_1_in x0 x1 x2 x3 x4) .normal (q15_1_in x0 x1 s.1 x3 s.2) | .inr o => q15_1_ex o ≠ .normal ∧ J03 prog (J0w (bodyOf f34) [1, 1, 0, 1, 0, 0]) (q15_1_in x0 x1 x2 x3 x4) (q15_1_ex o) (q15_1_st o)) := by
 intro r h
 unfold q15_1_step at h
 rcases fork_some h with ⟨h4, h⟩ | ⟨h4, h⟩
 ·obtain ⟨h5, h⟩ := need_some h
  obtain ⟨u6, h7, h⟩ := andThen_some h
  obtain ⟨h8, h⟩ := need_some h
  obtain ⟨u9, h10, h⟩ := andThen_some h
  obtain ⟨h11, h⟩ := need_some h
  obtain ⟨h12, h⟩ := need_some h
  injection h with h; subst h
  exact env.code (its := [b1, .pre p19, .call [none] [] [] true (q1z_R ((List.getD x0 (Int.toNat x2) Z484d).1) u6) (q1z_O ((List.getD x0 (Int.toNat x2) Z484d).1) u6), .call [none] [] [] true (q27_R ((List.getD x0 (Int.toNat x2) Z484d).2.1) u9) (q27_O ((List.getD x0 (Int.toNat x2) Z484d).2.1) u9), b1, .sel [2, 3, 9, 10, 11] [0, 7]]) (.c h4 (.c h5 (.c (q1z_ok ((List.getD x0 (Int.toNat x2) Z484d).1) u6 h7) (.c h8 (.c (q27_ok ((List.getD x0 (Int.toNat x2) Z484d).2.1) u9 h10) (.c h11 (.c h12 .n))))))) (by kernel_rfl)
 ·injection h with h; subst h
  exact ⟨by intro e; simp [q15_1_ex] at e, env.code (its := [b0, .sel [2, 3] [0, 1]]) (.c h4 .n) (by kernel_rfl)⟩
theorem q15_1_ok (x0 : List (T484d)) (x1 : Int) (x2 : Int) (x3 : B8) (x4 : B8) (o : B8 × B8) (h : q15_1 x0 x1 x2 x3 x4 = some o) : J03 prog (J0w (bodyOf f34) [1, 1, 0, 1, 0]) (q15_1_in x0 x1 x2 x3 x4) (q15_1_ex o) (q15_1_st o) :=
 J06.of_step (st := fun s => q15_1_in x0 x1 s.1 x3 s.2) (ex := q15_1_ex) (stO := q15_1_st) (fun s s2 hs => q15_1_body x0 x1 s.1 x3 s.2 (.inl s2) hs) (fun s r hs => q15_1_body x0 x1 s.1 x3 s.2 (.inr r) hs) _ o h
def q15_R (a0 : List (T484d)) (u : B8) : Slot := (.v Yh u)
def q15_O (a0 : List (T484d)) (u : B8) : List AObj := []
theorem q15_ok (a0 : List (T484d)) (u : B8) (h : q15 a0 = some u) : CallC prog 34 [(.v (.slice Y484d) a0)] [] (q15_R a0 u) (q15_O a0 u) := by
 unfold q15 at h
 obtain ⟨u1, h2, h⟩ := andThen_some h
 obtain ⟨o13, h14, h⟩ := andThen_some h
 obtain ⟨u15, h16, h⟩ := andThen_some h
 injection h with h; subst h
 exact env.fun func34 can34 (its := [.call [none] [] [] true (q27_R (List.length a0 : Int) u1) (q27_O (List.length a0 : Int) u1), .dive, .sel [2, 3, 9, 10, 11] [0, 1], .part (q15_1_ex o13) (q15_1_st o13), .call [none, none] [] [2] true (q1e_R (86 : UInt8) ([o13.2] : List (B8)) u15) (q1e_O (86 : UInt8) ([o13.2] : List (B8)) u15)]) (pos := s0) (.c (q27_ok (List.length a0 : Int) u1 h2) (.c (q15_1_ok a0 (List.length a0 : Int) (0 : Int) Z32 u1 o13 h14) (.c (q1e_ok (86 : UInt8) ([o13.2] : List (B8)) u15 h16) .n))) (by kernel_rfl)
theorem can57 : J01 prog 57 := ⟨_, func57, by kernel_rfl, by kernel_rfl⟩
def qp_1_in (x0 : Int) (x1 : Int) (x2 : B8) (x3 : List (B8)) : St := ⟨[(3, (.own 0 [])), (21, (.own 1 [])), (22, (.v (.int .i64) x0)), (23, (.v (.int .i64) x1))], [.row (.int .u8) x2 true, .row Yh x3 true], 32, 0⟩
def qp_1_ex (o : B8) : Exit := (.exit 0)
def qp_1_st (o : B8) : St := ⟨[(3, (.own 0 []))], [.row (.int .u8) o true], 32, 0⟩
theorem qp_1_body (x0 : Int) (x1 : Int) (x2 : B8) (x3 : List (B8)) : ∀ r, qp_1_step x0 x1 x2 x3 = some r → (match r with | .inl s => J03 prog (J0w (bodyOf f57) [1, 1, 0, 1, 0, 0]) (qp_1_in x0 x1 x2 x3) .normal (qp_1_in x0 s.1 s.2 x3) | .inr o => qp_1_ex o ≠ .normal ∧ J03 prog (J0w (bodyOf f57) [1, 1, 0, 1, 0, 0]) (qp_1_in x0 x1 x2 x3) (qp_1_ex o) (qp_1_st o)) := by
 intro r h
 unfold qp_1_step at h
 rcases fork_some h with ⟨h7, h⟩ | ⟨h7, h⟩
 ·obtain ⟨h8, h⟩ := need_some h
  obtain ⟨h9, h⟩ := need_some h
  injection h with h; subst h
  exact env.code (its := [b1, b1, .sel [3, 21, 22, 23] [3, 1]]) (.c h7 (.c h8 (.c h9 .n))) (by kernel_rfl)
 ·injection h with h; subst h
  exact ⟨by intro e; simp [qp_1_ex] at e, env.code (its := [b0, .sel [3] [0]]) (.c h7 .n) (by kernel_rfl)⟩
theorem qp_1_ok (x0 : Int) (x1 : Int) (x2 : B8) (x3 : List (B8)) (o : B8) (h : qp_1 x0 x1 x2 x3 = some o) : J03 prog (J0w (bodyOf f57) [1, 1, 0, 1, 0]) (qp_1_in x0 x1 x2 x3) (qp_1_ex o) (qp_1_st o) :=
 J06.of_step (st := fun s => qp_1_in x0 s.1 s.2 x3) (ex := qp_1_ex) (stO := qp_1_st) (fun s s2 hs => qp_1_body x0 s.1 s.2 x3 (.inl s2) hs) (fun s r hs => qp_1_body x0 s.1 s.2 x3 (.inr r) hs) _ o h
def qp_R (a0 : Tf0bc) (u : B8) : Slot := (.own 0 [])
def qp_O (a0 : Tf0bc) (u : B8) : List AObj := [.row (.int .u8) u true]
theorem qp_ok (a0 : Tf0bc) (u : B8) (h : qp a0 = some u) : CallC prog 57 [(.v Yf0bc a0)] [] (qp_R a0 u) (qp_O a0 u) := by
 unfold qp at h
 obtain ⟨u1, h2, h⟩ := andThen_some h
 obtain ⟨u3, h4, h⟩ := andThen_some h
 obtain ⟨h5, h⟩ := need_some h
 obtain ⟨o10, h11, h⟩ := andThen_some h
 injection h with h; subst h
 exact env.fun func57 can57 (its := [.pre p17, .call [none] [] [] true (q27_R a0.1 u1) (q27_O a0.1 u1), .call [none] [] [] true (q27_R a0.2.1 u3) (q27_O a0.2.1 u3), .dive, .sel [3, 21, 22, 23] [3, 4], .part (qp_1_ex o10) (qp_1_st o10)]) (pos := s1) (.c (q27_ok a0.1 u1 h2) (.c (q27_ok a0.2.1 u3 h4) (.c h5 (.c (qp_1_ok (List.length ([a0.2.2.1, a0.2.2.2.1, a0.2.2.2.2.1, a0.2.2.2.2.2.1] : List (B8)) : Int) (0 : Int) (u1 ++ u3) ([a0.2.2.1, a0.2.2.2.1, a0.2.2.2.2.1, a0.2.2.2.2.2.1] : List (B8)) o10 h11) .n)))) (by kernel_rfl)
theorem can33 : J01 prog 33 := ⟨_, func33, by kernel_rfl, by kernel_rfl⟩
def qv_R (a0 : Tf0bc) (u : B8) : Slot := (.v Yh u)
def qv_O (a0 : Tf0bc) (u : B8) : List AObj := []
theorem qv_ok (a0 : Tf0bc) (u : B8) (h : qv a0 = some u) : CallC prog 33 [(.v Yf0bc a0)] [] (qv_R a0 u) (qv_O a0 u) := by
 unfold qv at h
 obtain ⟨u1, h2, h⟩ := andThen_some h
 obtain ⟨u3, h4, h⟩ := andThen_some h
 injection h with h; subst h
 exact env.fun func33 can33 (its := [.call [none] [] [] true (qp_R a0 u1) (qp_O a0 u1), .call [none, none] [] [3] true (q1e_R (72 : UInt8) ([u1] : List (B8)) u3) (q1e_O (72 : UInt8) ([u1] : List (B8)) u3)]) (pos := s0) (.c (qp_ok a0 u1 h2) (.c (q1e_ok (72 : UInt8) ([u1] : List (B8)) u3 h4) .n)) (by kernel_rfl)
theorem can76 : J01 prog 76 := ⟨_, func76, by kernel_rfl, by kernel_rfl⟩
def q26_R (a0 : B8) (a1 : Int) (u : Int) : Slot := (.v (.int .i64) u)
def q26_O (a0 : B8) (a1 : Int) (u : Int) : List AObj := []
theorem q26_ok (a0 : B8) (a1 : Int) (u : Int) (h : q26 a0 a1 = some u) : CallC prog 76 [(.v Yb a0), (.v (.int .i64) a1)] [] (q26_R a0 a1 u) (q26_O a0 a1 u) := by
 unfold q26 at h
 obtain ⟨u1, h2, h⟩ := andThen_some h
 obtain ⟨h3, h⟩ := need_some h
 obtain ⟨h4, h⟩ := need_some h
 injection h with h; subst h
 exact env.fun func76 can76 (its := [.call [none, none] [] [0] true (q1e_R (109 : UInt8) ([a0] : List (B8)) u1) (q1e_O (109 : UInt8) ([a0] : List (B8)) u1)]) (pos := s0) (.c (q1e_ok (109 : UInt8) ([a0] : List (B8)) u1 h2) (.c (of_decide_eq_true (p := ((8 : Int) ≠ 0)) (by kernel_rfl)) (.c h3 (.c (of_decide_eq_true (p := ((8 : Int) ≠ 0)) (by kernel_rfl)) (.c h4 .n))))) (by kernel_rfl)
theorem can60 : J01 prog 60 := ⟨_, func60, by kernel_rfl, by kernel_rfl⟩
def q20_1_in (x0 : B8) (x1 : Int) (x2 : B8) (x3 : Unit) (x4 : Unit) (x5 : List (B8)) (x6 : List (B8)) : St := ⟨[(1, (.v Yb x0)), (2, (.ptr 0 [])), (4, (.ptr 1 [])), (5, (.ptr 2 [])), (8, (.v (.int .i64) x1))], [.box Yh (.v Yh x2) true, .box Y9c6e (.node .nil (.node .nil (.v .unit x3))) true, .box Y9c6e (.node (.own 3 []) (.node (.own 4 []) (.v .unit x4))) true, .row Yh x5 true, .row Yh x6 true], 36, 0⟩
def q20_1_ex (o : Unit × Unit × List (B8) × List (B8)) : Exit := (.exit 0)
def q20_1_st (o : Unit × Unit × List (B8) × List (B8)) : St := ⟨[(4, (.ptr 0 [])), (5, (.ptr 1 []))], [.box Y9c6e (.node .nil (.node .nil (.v .unit o.1))) true, .box Y9c6e (.node (.own 2 []) (.node (.own 3 []) (.v .unit o.2.1))) true, .row Yh o.2.2.1 true, .row Yh o.2.2.2 true], 36, 0⟩
theorem q20_1_body (x0 : B8) (x1 : Int) (x2 : B8) (x3 : Unit) (x4 : Unit) (x5 : List (B8)) (x6 : List (B8)) : ∀ r, q20_1_step x0 x1 x2 x3 x4 x5 x6 = some r → (match r with | .inl s => J03 prog (J0w (bodyOf f60) [1, 1, 0, 1, 0, 0]) (q20_1_in x0 x1 x2 x3 x4 x5 x6) .normal (q20_1_in x0 s.1 x2 x3 x4 s.2.1 s.2.2) | .inr o => q20_1_ex o ≠ .normal ∧ J03 prog (J0w (bodyOf f60) [1, 1, 0, 1, 0, 0]) (q20_1_in x0 x1 x2 x3 x4 x5 x6) (q20_1_ex o) (q20_1_st o)) := by
 intro r h
 unfold q20_1_step at h
 rcases fork_some h with ⟨h2, h⟩ | ⟨h2, h⟩
 ·obtain ⟨u3, h4, h⟩ := andThen_some h
  obtain ⟨u5, h6, h⟩ := andThen_some h
  obtain ⟨h7, h⟩ := need_some h
  obtain ⟨u8, h9, h⟩ := andThen_some h
  obtain ⟨u10, h11, h⟩ := andThen_some h
  obtain ⟨h12, h⟩ := need_some h
  injection h with h; subst h
  exact env.code (its := [b1, .call [none, none] [] [] true (q26_R x0 x1 u3) (q26_O x0 x1 u3), .pre p20, .asis, .call [none, none, none] [] [] true (q1j_R x2 x1 u3 u5) (q1j_O x2 x1 u3 u5), .pre p21, .asis, .call [none, none, none] [] [] true (q1j_R x2 x1 (w64 ((1 : Int) - u3)) u8) (q1j_O x2 x1 (w64 ((1 : Int) - u3)) u8), .asis, .call [none] [] [] true (q1a_R u8 u10) (q1a_O u8 u10), .sel [1, 2, 4, 5, 8] [0, 1, 2, 6, 8]]) (.c h2 (.c (q26_ok x0 x1 u3 h4) (.c rn (.c (q1j_ok x2 x1 u3 u5 h6) (.c h7 (.c rn (.c (q1j_ok x2 x1 (w64 ((1 : Int) - u3)) u8 h9) (.c rn (.c (q1a_ok u8 u10 h11) (.c h12 .n)))))))))) (by kernel_rfl)
 ·injection h with h; subst h
  exact ⟨by intro e; simp [q20_1_ex] at e, env.code (its := [b0, .sel [4, 5] [1, 2, 3, 4]]) (.c h2 .n) (by kernel_rfl)⟩
theorem q20_1_ok (x0 : B8) (x1 : Int) (x2 : B8) (x3 : Unit) (x4 : Unit) (x5 : List (B8)) (x6 : List (B8)) (o : Unit × Unit × List (B8) × List (B8)) (h : q20_1 x0 x1 x2 x3 x4 x5 x6 = some o) : J03 prog (J0w (bodyOf f60) [1, 1, 0, 1, 0]) (q20_1_in x0 x1 x2 x3 x4 x5 x6) (q20_1_ex o) (q20_1_st o) :=
 J06.of_step (st := fun s => q20_1_in x0 s.1 x2 x3 x4 s.2.1 s.2.2) (ex := q20_1_ex) (stO := q20_1_st) (fun s s2 hs => q20_1_body x0 s.1 x2 x3 x4 s.2.1 s.2.2 (.inl s2) hs) (fun s r hs => q20_1_body x0 s.1 x2 x3 x4 s.2.1 s.2.2 (.inr r) hs) _ o h
def q20_R (a0 : B8) (a1 : B8) (u : T9c6e) : Slot := (.v Y9c6e u)
def q20_O (a0 : B8) (a1 : B8) (u : T9c6e) : List AObj := []
theorem q20_ok (a0 : B8) (a1 : B8) (u : T9c6e) (h : q20 a0 a1 = some u) : CallC prog 60 [(.v Yh a0), (.v Yb a1)] [] (q20_R a0 a1 u) (q20_O a0 a1 u) := by
 unfold q20 at h
 obtain ⟨o13, h14, h⟩ := andThen_some h
 injection h with h; subst h
 exact env.fun func60 can60 (its := [.dive, .J4w 2 [.fld 0], .J4w 2 [.fld 1], .sel [1, 2, 4, 5, 8] [0, 1, 2, 3, 4], .part (q20_1_ex o13) (q20_1_st o13)]) (pos := s0) (.c (q20_1_ok a1 (0 : Int) a0 (()) (()) ([] : List (B8)) ([] : List (B8)) o13 h14) .n) (by kernel_rfl)
theorem can62 : J01 prog 62 := ⟨_, func62, by kernel_rfl, by kernel_rfl⟩
def q1y_R (a0 : List (B8)) (a1 : Int) (u : List (B8)) : Slot := (.own 0 [])
def q1y_O (a0 : List (B8)) (a1 : Int) (u : List (B8)) : List AObj := [.row Yh u true]
theorem q1k_ok : ∀ (k : Nat) (a0 : List (B8)) (a1 : Int) (u : List (B8)) (h : q1k k a0 a1 = some u), CallC prog 62 [(.v Ybb a0), (.v (.int .i64) a1)] [] (q1y_R a0 a1 u) (q1y_O a0 a1 u)
 | 0, a0, a1, u, h => by cases h
 | k + 1, a0, a1, u, h => by
  unfold q1k at h
  rcases fork_some h with ⟨h1, h⟩ | ⟨h1, h⟩
  ·injection h with h; subst h
   exact env.fun func62 can62 (its := [b1, b1, b1, b1, b1, b1, b1, b1, b1, b1]) (pos := [.promote Yh, .sel [0]]) (.c h1 (.c h1 (.c h1 (.c h1 (.c h1 (.c r1 (.c r1 (.c r1 (.c r1 (.c r1 .n)))))))))) (by kernel_rfl)
  ·rcases fork_some h with ⟨h2, h⟩ | ⟨h2, h⟩
   ·injection h with h; subst h
    exact env.fun func62 can62 (its := [b0, b0, b0, b0, b0, b1, b1, b1, b1, b1]) (pos := [.promote Yh, .sel [0]]) (.c h1 (.c h1 (.c h1 (.c h1 (.c h1 (.c h2 (.c h2 (.c h2 (.c h2 (.c r1 .n)))))))))) (by kernel_rfl)
   ·rcases fork_some h with ⟨h3, h⟩ | ⟨h3, h⟩
    ·injection h with h; subst h
     exact env.fun func62 can62 (its := [b0, b0, b0, b0, b0, b0, b0, b0, b0, b1]) (pos := [.promote Yh, .sel [0]]) (.c h1 (.c h1 (.c h1 (.c h1 (.c h1 (.c h2 (.c h2 (.c h2 (.c h2 (.c h3 .n)))))))))) (by kernel_rfl)
    ·obtain ⟨u4, h5, h⟩ := andThen_some h
     rcases fork_some h with ⟨h6, h⟩ | ⟨h6, h⟩
     ·obtain ⟨h7, h⟩ := need_some h
      obtain ⟨u8, h9, h⟩ := andThen_some h
      obtain ⟨h10, h⟩ := need_some h
      obtain ⟨u11, h12, h⟩ := andThen_some h
      obtain ⟨h13, h⟩ := need_some h
      injection h with h; subst h
      exact env.fun func62 can62 (its := [b0, b0, b0, b0, b0, b0, b0, b0, b0, b0, .call [none] [] [] true (q1u_R (List.length a0 : Int) u4) (q1u_O (List.length a0 : Int) u4), b1, .pre p22, b0, .call [none, none] [] [] true (q1y_R (cutL a0 (0 : Int) u4) a1 u8) (q1y_O (cutL a0 (0 : Int) u4) a1 u8), b0, .asis, .call [none] [] [] true (q21_R (cutL a0 u4 (List.length a0 : Int)) u11) (q21_O (cutL a0 u4 (List.length a0 : Int)) u11)]) (pos := [.sel [2]]) (.c h1 (.c h1 (.c h1 (.c h1 (.c h1 (.c h2 (.c h2 (.c h2 (.c h2 (.c h3 (.c (q1u_ok (List.length a0 : Int) u4 h5) (.c h6 (.c h7 (.c (q1k_ok k (cutL a0 (0 : Int) u4) a1 u8 h9) (.c h10 (.c rn (.c (q21_ok (cutL a0 u4 (List.length a0 : Int)) u11 h12) (.c h13 .n)))))))))))))))))) (by kernel_rfl)
     ·obtain ⟨h14, h⟩ := need_some h
      obtain ⟨u15, h16, h⟩ := andThen_some h
      obtain ⟨h17, h⟩ := need_some h
      obtain ⟨u18, h19, h⟩ := andThen_some h
      obtain ⟨h20, h⟩ := need_some h
      injection h with h; subst h
      exact env.fun func62 can62 (its := [b0, b0, b0, b0, b0, b0, b0, b0, b0, b0, .call [none] [] [] true (q1u_R (List.length a0 : Int) u4) (q1u_O (List.length a0 : Int) u4), b0, .pre p23, b0, .call [none, none] [] [] true (q1y_R (cutL a0 u4 (List.length a0 : Int)) (w64 (a1 - u4)) u15) (q1y_O (cutL a0 u4 (List.length a0 : Int)) (w64 (a1 - u4)) u15), b0, .asis, .call [none] [] [] true (q21_R (cutL a0 (0 : Int) u4) u18) (q21_O (cutL a0 (0 : Int) u4) u18)]) (pos := [.sel [2]]) (.c h1 (.c h1 (.c h1 (.c h1 (.c h1 (.c h2 (.c h2 (.c h2 (.c h2 (.c h3 (.c (q1u_ok (List.length a0 : Int) u4 h5) (.c h6 (.c h14 (.c (q1k_ok k (cutL a0 u4 (List.length a0 : Int)) (w64 (a1 - u4)) u15 h16) (.c h17 (.c rn (.c (q21_ok (cutL a0 (0 : Int) u4) u18 h19) (.c h20 .n)))))))))))))))))) (by kernel_rfl)
theorem q1y_ok (a0 : List (B8)) (a1 : Int) (u : List (B8)) (h : q1y a0 a1 = some u) : CallC prog 62 [(.v Ybb a0), (.v (.int .i64) a1)] [] (q1y_R a0 a1 u) (q1y_O a0 a1 u) := q1k_ok 64 a0 a1 u h
theorem can35 : J01 prog 35 := ⟨_, func35, by kernel_rfl, by kernel_rfl⟩
def q2e_R (a0 : List (B8)) (a1 : B8) (a2 : Int) (a3 : B8) (u : T8266) : Slot := (.v Y8266 u)
def q2e_O (a0 : List (B8)) (a1 : B8) (a2 : Int) (a3 : B8) (u : T8266) : List AObj := []
theorem q2e_ok (a0 : List (B8)) (a1 : B8) (a2 : Int) (a3 : B8) (u : T8266) (h : q2e a0 a1 a2 a3 = some u) : CallC prog 35 [(.v Ybb a0), (.v Yh a1), (.v (.int .i64) a2), (.v Yb a3)] [] (q2e_R a0 a1 a2 a3 u) (q2e_O a0 a1 a2 a3 u) := by
 unfold q2e at h
 obtain ⟨u1, h2, h⟩ := andThen_some h
 obtain ⟨u3, h4, h⟩ := andThen_some h
 obtain ⟨u5, h6, h⟩ := andThen_some h
 injection h with h; subst h
 exact env.fun func35 can35 (its := [.call [none, none] [] [] true (q1d_R a1 a2 u1) (q1d_O a1 a2 u1), .call [none, none] [] [] false (q20_R u1 a3 u3) (q20_O u1 a3 u3), .call [none, none] [] [] true (q1y_R a0 (w64 (a2 - (1 : Int))) u5) (q1y_O a0 (w64 (a2 - (1 : Int))) u5)]) (pos := s0) (.c (q1d_ok a1 a2 u1 h2) (.c (q20_ok u1 a3 u3 h4) (.c (q1y_ok a0 (w64 (a2 - (1 : Int))) u5 h6) .n))) (by kernel_rfl)
theorem can6 : J01 prog 6 := ⟨_, func6, by kernel_rfl, by kernel_rfl⟩
def qh_1_in (x0 : List (T484d)) (x1 : Int) (x2 : Int) (x3 : List (T18c3)) (x4 : List (T484d)) (x5 : List (Tedcc)) (x6 : List (List (T18c3))) (x7 : Unit) (x8 : List (B8)) (x9 : List (List (B8))) (x10 : List (B8)) (x11 : T011a) : St := ⟨[(0, (.ptr 0 [])), (3, (.ptr 4 [])), (96, (.v (.slice Y484d) x0)), (97, (.v (.int .i64) x1)), (98, (.v (.int .i64) x2))], [.box Y6488 (.node (.own 1 []) (.node (.own 2 []) (.node (.own 3 []) (.node (.v (.slice Y18c3) x3) (.node (.v (.slice Y484d) x4) (.node (.v (.slice Yedcc) x5) (.node (.v (.slice (.slice Y18c3)) x6) (.v .unit x7)))))))) true, .row Yh x8 true, .row Ybb x9 true, .row .str x10 true, .box Y011a (.v Y011a x11) true], 127, 4⟩
def qh_1_ex (o : (Int × (List (T18c3)) × (List (Tedcc)) × (List (List (T18c3))) × Unit × List (B8) × List (List (B8)) × List (B8) × List (T484d)) ⊕ ((List (T18c3)) × (List (T484d)) × (List (Tedcc)) × (List (List (T18c3))) × Unit × List (B8) × List (List (B8)) × List (B8))) : Exit := match o with | (.inl o) => .ret | (.inr o) => (.exit 1)
def qh_1_st (o : (Int × (List (T18c3)) × (List (Tedcc)) × (List (List (T18c3))) × Unit × List (B8) × List (List (B8)) × List (B8) × List (T484d)) ⊕ ((List (T18c3)) × (List (T484d)) × (List (Tedcc)) × (List (List (T18c3))) × Unit × List (B8) × List (List (B8)) × List (B8))) : St := match o with | (.inl o) => ⟨[(4, (.v (.int .i64) o.1))], [.box Y6488 (.node (.own 1 []) (.node (.own 2 []) (.node (.own 3 []) (.node (.v (.slice Y18c3) o.2.1) (.node (.own 4 []) (.node (.v (.slice Yedcc) o.2.2.1) (.node (.v (.slice (.slice Y18c3)) o.2.2.2.1) (.v .unit o.2.2.2.2.1)))))))) true, .row Yh o.2.2.2.2.2.1 true, .row Ybb o.2.2.2.2.2.2.1 true, .row .str o.2.2.2.2.2.2.2.1 true, .row Y484d o.2.2.2.2.2.2.2.2 true], 127, 4⟩ | (.inr o) => ⟨[], [.box Y6488 (.node (.own 1 []) (.node (.own 2 []) (.node (.own 3 []) (.node (.v (.slice Y18c3) o.1) (.node (.v (.slice Y484d) o.2.1) (.node (.v (.slice Yedcc) o.2.2.1) (.node (.v (.slice (.slice Y18c3)) o.2.2.2.1) (.v .unit o.2.2.2.2.1)))))))) true, .row Yh o.2.2.2.2.2.1 true, .row Ybb o.2.2.2.2.2.2.1 true, .row .str o.2.2.2.2.2.2.2 true], 127, 4⟩
theorem qh_1_body (x0 : List (T484d)) (x1 : Int) (x2 : Int) (x3 : List (T18c3)) (x4 : List (T484d)) (x5 : List (Tedcc)) (x6 : List (List (T18c3))) (x7 : Unit) (x8 : List (B8)) (x9 : List (List (B8))) (x10 : List (B8)) (x11 : T011a) : ∀ r, qh_1_step x0 x1 x2 x3 x4 x5 x6 x7 x8 x9 x10 x11 = some r → (match r with | .inl s => J03 prog (J0w (bodyOf f6) [1, 0, 1, 0, 1, 1, 1, 1, 1, 1, 1, 0, 1, 0, 1, 0, 0]) (qh_1_in x0 x1 x2 x3 x4 x5 x6 x7 x8 x9 x10 x11) .normal (qh_1_in x0 x1 s x3 x4 x5 x6 x7 x8 x9 x10 x11) | .inr o => qh_1_ex o ≠ .normal ∧ J03 prog (J0w (bodyOf f6) [1, 0, 1, 0, 1, 1, 1, 1, 1, 1, 1, 0, 1, 0, 1, 0, 0]) (qh_1_in x0 x1 x2 x3 x4 x5 x6 x7 x8 x9 x10 x11) (qh_1_ex o) (qh_1_st o)) := by
 intro r h
 unfold qh_1_step at h
 rcases fork_some h with ⟨h30, h⟩ | ⟨h30, h⟩
 ·obtain ⟨h31, h⟩ := need_some h
  rcases fork_some h with ⟨h32, h⟩ | ⟨h32, h⟩
  ·obtain ⟨h33, h⟩ := need_some h
   obtain ⟨h34, h⟩ := need_some h
   injection h with h; subst h
   exact ⟨by intro e; simp [qh_1_ex] at e, env.code (its := [b1, b1, .pre p24, .sel [4] [0, 1, 2, 3, 7]]) (.c h30 (.c h31 (.c h32 (.c h33 (.c h34 .n))))) (by kernel_rfl)⟩
  ·injection h with h; subst h
   exact env.code (its := [b1, b0, .sel [0, 3, 96, 97, 98] [0, 1, 2, 3, 4]]) (.c h30 (.c h31 (.c h32 .n))) (by kernel_rfl)
 ·injection h with h; subst h
  exact ⟨by intro e; simp [qh_1_ex] at e, env.code (its := [b0, .sel [] [0, 1, 2, 3]]) (.c h30 .n) (by kernel_rfl)⟩
theorem qh_1_ok (x0 : List (T484d)) (x1 : Int) (x2 : Int) (x3 : List (T18c3)) (x4 : List (T484d)) (x5 : List (Tedcc)) (x6 : List (List (T18c3))) (x7 : Unit) (x8 : List (B8)) (x9 : List (List (B8))) (x10 : List (B8)) (x11 : T011a) (o : (Int × (List (T18c3)) × (List (Tedcc)) × (List (List (T18c3))) × Unit × List (B8) × List (List (B8)) × List (B8) × List (T484d)) ⊕ ((List (T18c3)) × (List (T484d)) × (List (Tedcc)) × (List (List (T18c3))) × Unit × List (B8) × List (List (B8)) × List (B8))) (h : qh_1 x0 x1 x2 x3 x4 x5 x6 x7 x8 x9 x10 x11 = some o) : J03 prog (J0w (bodyOf f6) [1, 0, 1, 0, 1, 1, 1, 1, 1, 1, 1, 0, 1, 0, 1, 0]) (qh_1_in x0 x1 x2 x3 x4 x5 x6 x7 x8 x9 x10 x11) (qh_1_ex o) (qh_1_st o) :=
 J06.of_step (st := fun s => qh_1_in x0 x1 s x3 x4 x5 x6 x7 x8 x9 x10 x11) (ex := qh_1_ex) (stO := qh_1_st) (fun s s2 hs => qh_1_body x0 x1 s x3 x4 x5 x6 x7 x8 x9 x10 x11 (.inl s2) hs) (fun s r hs => qh_1_body x0 x1 s x3 x4 x5 x6 x7 x8 x9 x10 x11 (.inr r) hs) _ o h
def qh_R (a0 : T011a) (a1 : List (T18c3)) (a2 : List (T484d)) (a3 : List (Tedcc)) (a4 : List (List (T18c3))) (a5 : Unit) (a6 : List (B8)) (a7 : List (List (B8))) (a8 : List (B8)) (u : Int × (List (T18c3)) × (List (T484d)) × (List (Tedcc)) × (List (List (T18c3))) × Unit × List (B8) × List (List (B8)) × List (B8)) : Slot := (.v (.int .i64) u.1)
def qh_O (a0 : T011a) (a1 : List (T18c3)) (a2 : List (T484d)) (a3 : List (Tedcc)) (a4 : List (List (T18c3))) (a5 : Unit) (a6 : List (B8)) (a7 : List (List (B8))) (a8 : List (B8)) (u : Int × (List (T18c3)) × (List (T484d)) × (List (Tedcc)) × (List (List (T18c3))) × Unit × List (B8) × List (List (B8)) × List (B8)) : List AObj := [.box Y6488 (.node (.own 1 []) (.node (.own 2 []) (.node (.own 3 []) (.node (.v (.slice Y18c3) u.2.1) (.node (.v (.slice Y484d) u.2.2.1) (.node (.v (.slice Yedcc) u.2.2.2.1) (.node (.v (.slice (.slice Y18c3)) u.2.2.2.2.1) (.v .unit u.2.2.2.2.2.1)))))))) true, .row Yh u.2.2.2.2.2.2.1 true, .row Ybb u.2.2.2.2.2.2.2.1 true, .row .str u.2.2.2.2.2.2.2.2 true]
theorem qh_ok (a0 : T011a) (a1 : List (T18c3)) (a2 : List (T484d)) (a3 : List (Tedcc)) (a4 : List (List (T18c3))) (a5 : Unit) (a6 : List (B8)) (a7 : List (List (B8))) (a8 : List (B8)) (u : Int × (List (T18c3)) × (List (T484d)) × (List (Tedcc)) × (List (List (T18c3))) × Unit × List (B8) × List (List (B8)) × List (B8)) (h : qh a0 a1 a2 a3 a4 a5 a6 a7 a8 = some u) : CallC prog 6 [(.ptr 0 []), (.v Y011a a0)] [.box Y6488 (.node (.own 1 []) (.node (.own 2 []) (.node (.own 3 []) (.node (.v (.slice Y18c3) a1) (.node (.v (.slice Y484d) a2) (.node (.v (.slice Yedcc) a3) (.node (.v (.slice (.slice Y18c3)) a4) (.v .unit a5)))))))) true, .row Yh a6 true, .row Ybb a7 true, .row .str a8 true] (qh_R a0 a1 a2 a3 a4 a5 a6 a7 a8 u) (qh_O a0 a1 a2 a3 a4 a5 a6 a7 a8 u) := by
 unfold qh at h
 rcases fork_some h with ⟨h1, h⟩ | ⟨h1, h⟩
 ·obtain ⟨u2, h3, h⟩ := andThen_some h
  rcases fork_some h with ⟨h4, h⟩ | ⟨h4, h⟩
  ·injection h with h; subst h
   exact env.fun func6 can6 (its := [b1, .call [none] [] [] true (q12_R (a0.2.1, a0.2.2.1, ()) u2) (q12_O (a0.2.1, a0.2.2.1, ()) u2), b1, b1, b1, b1, b1]) (pos := [.sel [0, 1, 2, 3]]) (.c h1 (.c (q12_ok (a0.2.1, a0.2.2.1, ()) u2 h3) (.c h4 (.c h4 (.c h4 (.c h4 (.c r1 .n))))))) (by kernel_rfl)
  ·obtain ⟨u5, h6, h⟩ := andThen_some h
   rcases fork_some h with ⟨h7, h⟩ | ⟨h7, h⟩
   ·injection h with h; subst h
    exact env.fun func6 can6 (its := [b1, .call [none] [] [] true (q12_R (a0.2.1, a0.2.2.1, ()) u2) (q12_O (a0.2.1, a0.2.2.1, ()) u2), b0, b0, b0, .call [none] [] [] true (q17_R a0.2.1 u5) (q17_O a0.2.1 u5), b0, b1]) (pos := [.sel [0, 1, 2, 3]]) (.c h1 (.c (q12_ok (a0.2.1, a0.2.2.1, ()) u2 h3) (.c h4 (.c h4 (.c h4 (.c (q17_ok a0.2.1 u5 h6) (.c h4 (.c h7 .n)))))))) (by kernel_rfl)
   ·obtain ⟨u8, h9, h⟩ := andThen_some h
    rcases fork_some h with ⟨h10, h⟩ | ⟨h10, h⟩
    ·injection h with h; subst h
     exact env.fun func6 can6 (its := [b1, .call [none] [] [] true (q12_R (a0.2.1, a0.2.2.1, ()) u2) (q12_O (a0.2.1, a0.2.2.1, ()) u2), b0, b0, b0, .call [none] [] [] true (q17_R a0.2.1 u5) (q17_O a0.2.1 u5), b0, b0, .pre p25, .call [none, none] [] [] true (q2d_R a1 (a0.2.1, a0.2.2.1, ()) u8) (q2d_O a1 (a0.2.1, a0.2.2.1, ()) u8), b1]) (pos := [.sel [0, 1, 2, 3]]) (.c h1 (.c (q12_ok (a0.2.1, a0.2.2.1, ()) u2 h3) (.c h4 (.c h4 (.c h4 (.c (q17_ok a0.2.1 u5 h6) (.c h4 (.c h7 (.c (q2d_ok a1 (a0.2.1, a0.2.2.1, ()) u8 h9) (.c h10 .n)))))))))) (by kernel_rfl)
    ·injection h with h; subst h
     exact env.fun func6 can6 (its := [b1, .call [none] [] [] true (q12_R (a0.2.1, a0.2.2.1, ()) u2) (q12_O (a0.2.1, a0.2.2.1, ()) u2), b0, b0, b0, .call [none] [] [] true (q17_R a0.2.1 u5) (q17_O a0.2.1 u5), b0, b0, .pre p25, .call [none, none] [] [] true (q2d_R a1 (a0.2.1, a0.2.2.1, ()) u8) (q2d_O a1 (a0.2.1, a0.2.2.1, ()) u8), b0]) (pos := [.J67 0 [.fld 3], .sel [0, 1, 2, 3]]) (.c h1 (.c (q12_ok (a0.2.1, a0.2.2.1, ()) u2 h3) (.c h4 (.c h4 (.c h4 (.c (q17_ok a0.2.1 u5 h6) (.c h4 (.c h7 (.c (q2d_ok a1 (a0.2.1, a0.2.2.1, ()) u8 h9) (.c h10 .n)))))))))) (by kernel_rfl)
 ·rcases fork_some h with ⟨h11, h⟩ | ⟨h11, h⟩
  ·obtain ⟨u12, h13, h⟩ := andThen_some h
   rcases fork_some h with ⟨h14, h⟩ | ⟨h14, h⟩
   ·injection h with h; subst h
    exact env.fun func6 can6 (its := [b0, b1, .call [none] [] [] true (q17_R a0.2.1 u12) (q17_O a0.2.1 u12), b1]) (pos := [.sel [0, 1, 2, 3]]) (.c h1 (.c h11 (.c (q17_ok a0.2.1 u12 h13) (.c h14 .n)))) (by kernel_rfl)
   ·obtain ⟨u15, h16, h⟩ := andThen_some h
    injection h with h; subst h
    exact env.fun func6 can6 (its := [b0, b1, .call [none] [] [] true (q17_R a0.2.1 u12) (q17_O a0.2.1 u12), b0, .pre p26, .call [none, none] [] [] true (q2b_R a1 a0.2.1 u15) (q2b_O a1 a0.2.1 u15)]) (pos := [.J67 0 [.fld 3], .sel [0, 1, 2, 3]]) (.c h1 (.c h11 (.c (q17_ok a0.2.1 u12 h13) (.c h14 (.c (q2b_ok a1 a0.2.1 u15 h16) .n))))) (by kernel_rfl)
  ·rcases fork_some h with ⟨h17, h⟩ | ⟨h17, h⟩
   ·obtain ⟨u18, h19, h⟩ := andThen_some h
    injection h with h; subst h
    exact env.fun func6 can6 (its := [b0, b0, b1, b1, .pre p27, .asis, .call [none, none, none, none, none] [] [] false (q1b_R a1 (w64 ((w64 (a0.1 - (3 : Int))) + (1 : Int))) a0.2.1 a0.2.2.2.1 a0.2.2.2.2.1 u18) (q1b_O a1 (w64 ((w64 (a0.1 - (3 : Int))) + (1 : Int))) a0.2.1 a0.2.2.2.1 a0.2.2.2.2.1 u18)]) (pos := [.sel [0, 1, 2, 3]]) (.c h1 (.c h11 (.c h17 (.c h17 (.c rn (.c (q1b_ok a1 (w64 ((w64 (a0.1 - (3 : Int))) + (1 : Int))) a0.2.1 a0.2.2.2.1 a0.2.2.2.2.1 u18 h19) .n)))))) (by kernel_rfl)
   ·rcases fork_some h with ⟨h20, h⟩ | ⟨h20, h⟩
    ·obtain ⟨u21, h22, h⟩ := andThen_some h
     injection h with h; subst h
     exact env.fun func6 can6 (its := [b0, b0, b0, b1, b1, .pre p27, .asis, .call [none, none, none, none, none] [] [] false (q1b_R a1 (w64 ((w64 (a0.1 - (3 : Int))) + (1 : Int))) a0.2.1 a0.2.2.2.1 a0.2.2.2.2.1 u21) (q1b_O a1 (w64 ((w64 (a0.1 - (3 : Int))) + (1 : Int))) a0.2.1 a0.2.2.2.1 a0.2.2.2.2.1 u21)]) (pos := [.sel [0, 1, 2, 3]]) (.c h1 (.c h11 (.c h17 (.c h20 (.c h20 (.c rn (.c (q1b_ok a1 (w64 ((w64 (a0.1 - (3 : Int))) + (1 : Int))) a0.2.1 a0.2.2.2.1 a0.2.2.2.2.1 u21 h22) .n))))))) (by kernel_rfl)
    ·rcases fork_some h with ⟨h23, h⟩ | ⟨h23, h⟩
     ·obtain ⟨u24, h25, h⟩ := andThen_some h
      injection h with h; subst h
      exact env.fun func6 can6 (its := [b0, b0, b0, b0, b1, .pre p27, .asis, .call [none, none, none, none, none] [] [] false (q1b_R a1 (w64 ((w64 (a0.1 - (3 : Int))) + (1 : Int))) a0.2.1 a0.2.2.2.1 a0.2.2.2.2.1 u24) (q1b_O a1 (w64 ((w64 (a0.1 - (3 : Int))) + (1 : Int))) a0.2.1 a0.2.2.2.1 a0.2.2.2.2.1 u24)]) (pos := [.sel [0, 1, 2, 3]]) (.c h1 (.c h11 (.c h17 (.c h20 (.c h23 (.c rn (.c (q1b_ok a1 (w64 ((w64 (a0.1 - (3 : Int))) + (1 : Int))) a0.2.1 a0.2.2.2.1 a0.2.2.2.2.1 u24 h25) .n))))))) (by kernel_rfl)
     ·rcases fork_some h with ⟨h26, h⟩ | ⟨h26, h⟩
      ·rcases fork_some h with ⟨h27, h⟩ | ⟨h27, h⟩
       ·injection h with h; subst h
        exact env.fun func6 can6 (its := [b0, b0, b0, b0, b0, b1, b1, b1, b1, b1, b1]) (pos := [.sel [0, 1, 2, 3]]) (.c h1 (.c h11 (.c h17 (.c h20 (.c h23 (.c h26 (.c h27 (.c h27 (.c h27 (.c h27 (.c r1 .n))))))))))) (by kernel_rfl)
       ·rcases fork_some h with ⟨h28, h⟩ | ⟨h28, h⟩
        ·injection h with h; subst h
         exact env.fun func6 can6 (its := [b0, b0, b0, b0, b0, b1, b0, b0, b0, b0, b1]) (pos := [.sel [0, 1, 2, 3]]) (.c h1 (.c h11 (.c h17 (.c h20 (.c h23 (.c h26 (.c h27 (.c h27 (.c h27 (.c h27 (.c h28 .n))))))))))) (by kernel_rfl)
        ·obtain ⟨o35, h36, h⟩ := andThen_some h
         rcases o35 with o37 | o38
         ·injection h with h; subst h
          exact env.fun func6 can6 (its := [b0, b0, b0, b0, b0, b1, b0, b0, b0, b0, b0, .dive, .sel [0, 3, 96, 97, 98] [0, 1, 2, 3, 4], .part (qh_1_ex (.inl o37)) (qh_1_st (.inl o37))]) (pos := [.J67 0 [.fld 4], .sel [0, 1, 2, 3]]) (.c h1 (.c h11 (.c h17 (.c h20 (.c h23 (.c h26 (.c h27 (.c h27 (.c h27 (.c h27 (.c h28 (.c (qh_1_ok a2 (List.length a2 : Int) (0 : Int) a1 a2 a3 a4 a5 a6 a7 a8 a0 (.inl o37) h36) .n)))))))))))) (by kernel_rfl)
         ·injection h with h; subst h
          exact env.fun func6 can6 (its := [b0, b0, b0, b0, b0, b1, b0, b0, b0, b0, b0, .dive, .sel [0, 3, 96, 97, 98] [0, 1, 2, 3, 4], .part (qh_1_ex (.inr o38)) (qh_1_st (.inr o38))]) (pos := [.sel [0, 1, 2, 3]]) (.c h1 (.c h11 (.c h17 (.c h20 (.c h23 (.c h26 (.c h27 (.c h27 (.c h27 (.c h27 (.c h28 (.c (qh_1_ok a2 (List.length a2 : Int) (0 : Int) a1 a2 a3 a4 a5 a6 a7 a8 a0 (.inr o38) h36) .n)))))))))))) (by kernel_rfl)
      ·injection h with h; subst h
       exact env.fun func6 can6 (its := [b0, b0, b0, b0, b0, b0]) (pos := [.sel [0, 1, 2, 3]]) (.c h1 (.c h11 (.c h17 (.c h20 (.c h23 (.c h26 .n)))))) (by kernel_rfl)
end
end Go.Proofs.YtanhbdkimbljeaaGreat.lightHonest
