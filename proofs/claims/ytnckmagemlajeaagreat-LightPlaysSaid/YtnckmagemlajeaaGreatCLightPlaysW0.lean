/-
  The functions, walked through: each call comes to what the pure text says.
-/
import Derived.Test.YtnckmagemlajeaaGreatProg
import Derived.Test.YtnckmagemlajeaaGreatAxC
import Derived.Test.YtnckmagemlajeaaGreatCLightPlaysP
namespace Go.Proofs.YtnckmagemlajeaaGreat.lightPlays
open Go.Ax Go.Ax.V Go.Proofs.Tryz
set_option maxRecDepth 100000
set_option maxHeartbeats 4000000
set_option linter.unusedVariables false
noncomputable section
abbrev Yb : Ty := (.slice (.int .u8))
abbrev Yh : Ty := (.arr 32 (.int .u8))
abbrev Y8 : Ty := (.arr 8 (.int .u32))
abbrev Y64 : Ty := (.arr 64 (.int .u32))
abbrev Ybb : Ty := (.slice Yb)
abbrev Y18c3 : Ty := (.fld .str (.fld .str .unit))
abbrev Z32 := (List.replicate 32 (0 : UInt8))
abbrev Y484d : Ty := (.fld .str (.fld (.int .i64) (.fld Yh .unit)))
abbrev Y9c6e : Ty := (.fld (.slice Yh) (.fld (.slice Yh) .unit))
abbrev Y011a : Ty := (.fld (.int .i64) (.fld .str (.fld .str (.fld (.int .i64) (.fld (.int .i64) .unit)))))
abbrev Y1a67 : Ty := (.fld (.int .i64) (.fld (.int .i64) (.fld (.int .i64) (.fld (.int .i64) (.fld (.int .i64) .unit)))))
abbrev Yf321 : Ty := (.fld (.int .i64) (.fld (.int .i64) (.fld (.int .i64) (.fld (.int .i64) (.fld (.slice (.int .i64)) .unit)))))
abbrev Y8266 : Ty := (.fld (.int .i64) (.fld Y9c6e (.fld (.slice Yh) .unit)))
abbrev Yf0bc : Ty := (.fld (.int .i64) (.fld (.int .i64) (.fld Yh (.fld Yh (.fld Yh (.fld Yh .unit))))))
abbrev Y8f72 : Ty := (.fld .str (.fld Y8266 .unit))
abbrev Y65da : Ty := (.fld (.slice Yf0bc) (.fld (.slice Y484d) (.fld (.int .i64) (.fld .bool .unit))))
abbrev Yedcc : Ty := (.fld Yf0bc (.fld (.slice Y8f72) (.fld (.slice Y484d) (.fld (.slice Y484d) .unit))))
abbrev Y6488 : Ty := (.fld (.slice Yh) (.fld (.slice Ybb) (.fld (.slice .str) (.fld (.slice Y18c3) (.fld (.slice Y484d) (.fld (.slice Yedcc) (.fld (.slice (.slice Y18c3)) .unit)))))))
abbrev rg := List.range
abbrev s0 : List Po := [.sel []]
abbrev s1 : List Po := [.sel [0]]
abbrev b0 : It := .br false
abbrev b1 : It := .br true
theorem r0 : (false : Bool) = false := rfl
theorem r1 : (true : Bool) = true := rfl
theorem rn : ([] : List AObj) = [] := rfl
abbrev p0 : List (List Nat) := [[], [], [], [2], [1, 2, 3], [1, 2, 3, 4], [1, 2, 3, 4, 5], [1, 2, 3, 4, 5, 6], [], [], [9], [9, 10], [8, 9, 10, 11], [8, 9, 10, 11, 12], [8, 9, 10, 11, 12, 13], [8, 9, 10, 11, 12, 13, 14], [1, 2, 3, 4, 5, 6, 7, 8, 9, 10, 11, 12, 13, 14, 15], [], [], [18], [18, 19], [17, 18, 19, 20], [17, 18, 19, 20, 21], [17, 18, 19, 20, 21, 22], [17, 18, 19, 20, 21, 22, 23], [1, 2, 3, 4, 5, 6, 7, 8, 9, 10, 11, 12, 13, 14, 15, 16, 17, 18, 19, 20, 21, 22, 23, 24], [], [], [27], [27, 28], [26, 27, 28, 29], [26, 27, 28, 29, 30], [26, 27, 28, 29, 30, 31], [1, 2, 3, 4, 5, 6, 7, 8, 9, 10, 11, 12, 13, 14, 15, 16, 17, 18, 19, 20, 21, 22, 23, 24, 25, 26, 27, 28, 29, 30, 31, 32], (rg 34), (rg 35)]
abbrev p1 : List (List Nat) := [[], [0], [0, 1], [0, 1, 2], [], [4], [4, 5], [4, 5, 6], (rg 4), (rg 9)]
abbrev p2 : List (List Nat) := [[], [], [1], [1, 2], [1, 2, 3], [], [5], [], [5, 6, 7], [5, 6, 7, 8], [], [10], [5, 6, 7, 8, 9, 10, 11], [1, 2, 3, 4, 5, 6, 7, 8, 9, 10, 11, 12], [], [14], [14, 15], [14, 15, 16], [1, 2, 3, 4, 5, 6, 7, 8, 9, 10, 11, 12, 13, 14, 15, 16, 17], [], [5, 6, 7, 8, 19], [], [5, 6, 7, 8, 19, 20, 21], [5, 6, 7, 8, 19, 20, 21, 22], [], [24], [5, 6, 7, 8, 19, 20, 21, 22, 23, 24, 25], [1, 2, 3, 4, 5, 6, 7, 8, 9, 10, 11, 12, 13, 14, 15, 16, 17, 18, 19, 20, 21, 22, 23, 24, 25, 26], (rg 28), (rg 29)]
abbrev p3 : List (List Nat) := [[], [0], [0, 1], [], [3], (rg 5), (rg 6), [], [7], [0, 1, 2, 3, 4, 5, 7, 8], (rg 10), (rg 11)]
abbrev p4 : List (List Nat) := [[], [0], [], [0, 1, 2], [], (rg 5), [], [], [6, 7], [6, 7, 8], (rg 10), [], [11], [11, 12], (rg 14), (rg 15)]
abbrev p5 : List (List Nat) := [[], [], [1], [1, 2], [], [4], [4, 5], [1, 2, 3, 4, 5, 6], (rg 8), (rg 9)]
abbrev p6 : List (List Nat) := [[], [], [], [], [3], [1, 2, 3, 4], [], (rg 7), (rg 8)]
abbrev p7 : List (List Nat) := [[], [], [], [1, 2], [1, 2, 3], [], [], [1, 2, 3, 4, 5, 6], [1, 2, 3, 4, 5, 6, 7], [1, 2, 3, 4, 5, 6, 7, 8], (rg 10), (rg 11)]
abbrev p8 : List (List Nat) := [[], [], [0, 1], [0, 1, 2], [], [], [4, 5], (rg 7), [], [], (rg 10), (rg 11)]
abbrev p9 : List (List Nat) := [[], [], [0, 1], [0, 1, 2], (rg 4)]
abbrev p10 : List (List Nat) := [[], [], [1], [1, 2], [1, 2, 3], [], [5], [5, 6], [1, 2, 3, 4, 5, 6, 7], (rg 9), (rg 10), (rg 11)]
abbrev p11 : List (List Nat) := [[], [], [1], [1, 2], [1, 2, 3], [], [], [5, 6], [5, 6, 7], [5, 6, 7, 8], [5, 6, 7, 8, 9], [1, 2, 3, 4, 5, 6, 7, 8, 9, 10], (rg 12), (rg 13), (rg 14)]
abbrev p12 : List (List Nat) := [[], [0], [0, 1], [], [3], (rg 5), [], [6], (rg 8), (rg 9), [], (rg 11)]
abbrev p13 : List (List Nat) := [[], [0], [0, 1], [], [3], (rg 5), [0, 1, 2], (rg 7), (rg 8), (rg 9)]
abbrev p14 : List (List Nat) := [[], [], [1], [0, 1, 2], (rg 4), (rg 5), [], [6], [0, 1, 2, 3, 6, 7], (rg 6), (rg 10), (rg 11), (rg 12)]
abbrev p15 : List (List Nat) := [[], [], [1], [0, 1, 2], (rg 4), (rg 5), (rg 5), (rg 7), (rg 8), (rg 9), (rg 5), [0, 1, 2, 3, 4, 10], (rg 12), (rg 13)]
abbrev p16 : List (List Nat) := [[], [], [], [1, 2], (rg 4), [], [5], (rg 7), [], (rg 9), (rg 10)]
abbrev p17 : List (List Nat) := [[], [0], [0, 1], [], [3], (rg 5), (rg 6), (rg 7)]
abbrev p18 : List (List Nat) := [[], [0], [], [0, 1, 2], (rg 4), (rg 5)]
abbrev p19 : List (List Nat) := [[], [], [1], [1, 2], (rg 4), [], [5], (rg 7), (rg 8), [], [9], (rg 11), (rg 12)]
abbrev p20 : List (List Nat) := [[], [0], [], [], [], [2, 3, 4], [2, 3, 4, 5], (rg 7), (rg 8), (rg 9)]
abbrev p21 : List (List Nat) := [[], [0], [], [], [], [4], [2, 3, 4, 5], [2, 3, 4, 5, 6], [2, 3, 4, 5, 6, 7], (rg 9), (rg 10), (rg 11)]
abbrev p22 : List (List Nat) := [[], [], [0, 1], [], (rg 4), [], [], [5, 6], (rg 8), (rg 9), (rg 10), (rg 11)]
abbrev p23 : List (List Nat) := [[], [], [0, 1], [], [], [3, 4], (rg 6), [], [], [7, 8], (rg 10), (rg 11), (rg 12), (rg 13)]
abbrev p24 : List (List Nat) := [[], [0], [0, 1], [0, 1, 2], [], [], [5], (rg 7), (rg 8), (rg 9)]
abbrev p25 : List (List Nat) := [[], [0], [0, 1], [0, 1, 2], [], (rg 5), (rg 6)]
abbrev p26 : List (List Nat) := [[], [], [1], [1, 2], [1, 2, 3], [], [5], [1, 2, 3, 4, 5, 6], (rg 8), (rg 9), (rg 10)]
abbrev p27 : List (List Nat) := [[], [0], [0, 1], [0, 1, 2], [], [4], [4, 5], [4, 5, 6], [], [8], [], [10], [], [12], (rg 14), (rg 15), (rg 16), (rg 16), (rg 17), (rg 19)]
abbrev p28 : List (List Nat) := [[], [0], [], [2], [2, 3], [2, 3, 4], [], [2, 3, 4, 5, 6], [2, 3, 4, 5, 6, 7], [], [9], [9, 10], [9, 10, 11], [], [9, 10, 11, 12, 13], [9, 10, 11, 12, 13, 14], [], [], [17], [], [9, 10, 11, 12, 13, 14, 15, 16, 17, 18, 19], [2, 3, 4, 5, 6, 7, 8, 9, 10, 11, 12, 13, 14, 15, 16, 17, 18, 19, 20], [2, 3, 4, 5, 6, 7, 8, 9, 10, 11, 12, 13, 14, 15, 16, 17, 18, 19, 20, 21], (rg 23), (rg 24), (rg 25)]
abbrev p29 : List (List Nat) := [[], [0], [0, 1], [0, 1, 2], [], [4], (rg 6), (rg 7), (rg 8), [], [9], [9, 10], [9, 10, 11], [], [13], [9, 10, 11, 12, 13, 14], [9, 10, 11, 12, 13, 14, 15], [9, 10, 11, 12, 13, 14, 15, 16], [9, 10, 11, 12, 13, 14, 15, 16, 17], (rg 9), (rg 20), (rg 21), (rg 22), (rg 23)]
abbrev p30 : List (List Nat) := [[], [0], [0, 1], [], [3], (rg 5), (rg 5), [0, 1, 2, 3, 4, 6], (rg 8), (rg 9), (rg 10), (rg 11)]
abbrev p31 : List (List Nat) := [[], [], [], [2], [2, 3], [2, 3, 4], [1, 2, 3, 4, 5], [], [7], [1, 2, 3, 4, 5, 6, 7, 8], (rg 10), (rg 11), (rg 12)]
abbrev p32 : List (List Nat) := [[], [], [], [2], [2, 3], [2, 3, 4], [1, 2, 3, 4, 5], [], [7], [7, 8], [7, 8, 9], [7, 8, 9, 10], [1, 2, 3, 4, 5, 6, 7, 8, 9, 10, 11], (rg 13), (rg 14), (rg 15)]
abbrev p33 : List (List Nat) := [[], [0], [0, 1], [0, 1, 2], (rg 4), (rg 5), (rg 6), (rg 7), (rg 7), [0, 1, 2, 3, 4, 5, 6, 8], (rg 10), (rg 11), (rg 12), (rg 7), [0, 1, 2, 3, 4, 5, 6, 13], (rg 15), (rg 16), (rg 17)]
abbrev p34 : List (List Nat) := [[], [], [1], [], [1, 2, 3], [1, 2, 3, 4], [], [1, 2, 3, 4, 6], [1, 2, 3, 4, 5, 6, 7], (rg 9), [], (rg 11), [], [], [12], [12, 13, 14], [12, 13, 14, 15], (rg 17), [], [18], [18, 19], (rg 21), (rg 22)]
abbrev p35 : List (List Nat) := [[], [], [0], [0, 1, 2], (rg 4), [], (rg 6), [0], (rg 8), (rg 9)]
abbrev p36 : List (List Nat) := [[], [0], [0, 1], [0, 1, 2], [], [4], [4, 5], [4, 5, 6], [], [8], [8, 9], [8, 9, 10], [], [12], [12, 13], [12, 13, 14], [], [16], [16, 17], [16, 17, 18], [], [20], [20, 21], [20, 21, 22], [], [24], [24, 25], [24, 25, 26], [], [28], [28, 29], [28, 29, 30], (rg 4), [0, 1, 2, 3, 4, 5, 6, 7, 32], [0, 1, 2, 3, 4, 5, 6, 7, 8, 9, 10, 11, 32, 33], [0, 1, 2, 3, 4, 5, 6, 7, 8, 9, 10, 11, 12, 13, 14, 15, 32, 33, 34], [0, 1, 2, 3, 4, 5, 6, 7, 8, 9, 10, 11, 12, 13, 14, 15, 16, 17, 18, 19, 32, 33, 34, 35], [0, 1, 2, 3, 4, 5, 6, 7, 8, 9, 10, 11, 12, 13, 14, 15, 16, 17, 18, 19, 20, 21, 22, 23, 32, 33, 34, 35, 36], [0, 1, 2, 3, 4, 5, 6, 7, 8, 9, 10, 11, 12, 13, 14, 15, 16, 17, 18, 19, 20, 21, 22, 23, 24, 25, 26, 27, 32, 33, 34, 35, 36, 37], (rg 39)]
abbrev p37 : List (List Nat) := [[], [], [1], [1, 2], [1, 2, 3], [], [5], [5, 6], [1, 2, 3, 4, 5, 6, 7], [], [9], [9, 10], [1, 2, 3, 4, 5, 6, 7, 8, 9, 10, 11], (rg 13), (rg 14), (rg 15)]
abbrev p38 : List (List Nat) := [[], [0], [0, 1], [0, 1, 2], (rg 4), (rg 5), (rg 6), (rg 7), (rg 8), (rg 9), (rg 10), (rg 9), [0, 1, 2, 3, 4, 5, 6, 7, 8, 11], (rg 13), (rg 14), (rg 15), (rg 16), (rg 17), (rg 18), (rg 19)]
abbrev p39 : List (List Nat) := [[], [0], [], [2], [], (rg 5), (rg 6), (rg 7), (rg 8)]
abbrev p40 : List (List Nat) := [[], [0], [], [], [], (rg 5), (rg 6)]
abbrev p41 : List (List Nat) := [[], [0], [], [], [3], [], [5], [5, 6], [], [3, 4, 5, 6, 7, 8], (rg 10), (rg 11), (rg 12)]
abbrev p42 : List (List Nat) := [[], [0], [], [2], [], [4], [4, 5], [2, 3, 4, 5, 6], (rg 8), (rg 9), (rg 10)]
abbrev p43 : List (List Nat) := [[], [0], [0, 1], [0, 1, 2], (rg 4), (rg 5), (rg 6), (rg 7), (rg 8), (rg 9), (rg 10), (rg 11), (rg 12), (rg 13), (rg 14), (rg 15), (rg 16), (rg 17), (rg 18), (rg 19), (rg 20), (rg 21), (rg 22), (rg 20), [0, 1, 2, 3, 4, 5, 6, 7, 8, 9, 10, 11, 12, 13, 14, 15, 16, 17, 18, 19, 23], [0, 1, 2, 3, 4, 5, 6, 7, 8, 9, 10, 11, 12, 13, 14, 15, 16, 17, 18, 19, 23, 24], (rg 26), (rg 27), (rg 28), (rg 29), (rg 30), (rg 31), (rg 29), [0, 1, 2, 3, 4, 5, 6, 7, 8, 9, 10, 11, 12, 13, 14, 15, 16, 17, 18, 19, 20, 21, 22, 23, 24, 25, 26, 27, 28, 32], [0, 1, 2, 3, 4, 5, 6, 7, 8, 9, 10, 11, 12, 13, 14, 15, 16, 17, 18, 19, 20, 21, 22, 23, 24, 25, 26, 27, 28, 32, 33], (rg 35), (rg 36), (rg 37)]
abbrev p44 : List (List Nat) := [[], [], [1], [0, 1, 2], (rg 4), (rg 5), [], [], [6, 7], [6, 7, 8], [6, 7, 8, 9], (rg 11)]
abbrev p45 : List (List Nat) := [[], [0], [], [2], (rg 4), (rg 5), [], [6], [], [8], [], [10], [], [12], [6, 7, 8, 9, 10, 11, 12, 13], (rg 15), (rg 16), (rg 17)]
abbrev p46 : List (List Nat) := [[], [], [1], [], [1, 2, 3], [], [], [6], [6, 7], [], [6, 7, 8, 9], [], [11], [], [11, 12, 13], [11, 12, 13, 14], [11, 12, 13, 14, 15], [], [17], [], [17, 18, 19], [17, 18, 19, 20], [0, 1, 2, 3, 4, 11, 12, 13, 14, 15, 16, 17, 18, 19, 20, 21], [0, 1, 2, 3, 4, 11, 12, 13, 14, 15, 16, 17, 18, 19, 20, 21, 22], (rg 24), (rg 25)]
abbrev p47 : List (List Nat) := [[], [], [0, 1], [0, 1, 2], [], [], [4, 5], (rg 7), (rg 8), (rg 9)]
abbrev p48 : List (List Nat) := [[], [], [1], [], [3], (rg 5), (rg 6), (rg 7), (rg 7), [], [0, 1, 2, 3, 4, 5, 6, 7, 9], (rg 11)]
abbrev p49 : List (List Nat) := [[], [0], [], [2], [], [4], (rg 6), (rg 7), (rg 8), (rg 9), (rg 10), (rg 11), (rg 12), (rg 9), [0, 1, 2, 3, 4, 5, 6, 7, 8, 13], (rg 9), [0, 1, 2, 3, 4, 5, 6, 7, 8, 15], (rg 17), (rg 18), (rg 19)]
abbrev p50 : List (List Nat) := [[], [0], [0, 1], [0, 1, 2], (rg 4), (rg 5), (rg 6), (rg 7), (rg 8), (rg 9), (rg 10), (rg 11), (rg 12), (rg 13), (rg 14), (rg 15), (rg 16), (rg 17), (rg 18), (rg 19), (rg 20), (rg 21), (rg 22), (rg 23), (rg 24), (rg 24), [0, 1, 2, 3, 4, 5, 6, 7, 8, 9, 10, 11, 12, 13, 14, 15, 16, 17, 18, 19, 20, 21, 22, 23, 25], (rg 27), (rg 28), (rg 29), (rg 24), [0, 1, 2, 3, 4, 5, 6, 7, 8, 9, 10, 11, 12, 13, 14, 15, 16, 17, 18, 19, 20, 21, 22, 23, 30], (rg 32), (rg 33), (rg 34)]
abbrev p51 : List (List Nat) := [[], [0], [], [0, 1, 2], (rg 4), (rg 5), [], [6], [], [6, 7, 8], [6, 7, 8, 9], [], [], [0, 1, 2, 3, 4, 5, 11, 12], (rg 14)]
abbrev p52 : List (List Nat) := [[], [0], [], [], [3], [3, 4], [2, 3, 4, 5], [2, 3, 4, 5, 6], [], [0, 1, 8], (rg 10)]
abbrev p53 : List (List Nat) := [[], [], [0, 1], [0, 1, 2], [], (rg 4), (rg 6)]
abbrev p54 : List (List Nat) := [[], [0], [0, 1], [0, 1, 2], [0, 1, 2], [0, 1, 2, 4], (rg 6), (rg 7), (rg 8), [0, 1, 2], [0, 1, 2, 9], (rg 11), (rg 12)]
abbrev p55 : List (List Nat) := [[], [0], [], [2], (rg 4), (rg 5), (rg 6), (rg 7), (rg 6), [0, 1, 2, 3, 4, 5, 8], (rg 6), (rg 6), [0, 1, 2, 3, 4, 5, 11], (rg 13), (rg 14)]
abbrev p56 : List (List Nat) := [[], [0], [], [2], [], [4], (rg 6), [], [7], (rg 9), (rg 10), (rg 11), (rg 12), (rg 13), (rg 14), (rg 15), (rg 16), (rg 13), [0, 1, 2, 3, 4, 5, 6, 7, 8, 9, 10, 11, 12, 17], (rg 13), [0, 1, 2, 3, 4, 5, 6, 7, 8, 9, 10, 11, 12, 19], (rg 21), (rg 13), [0, 1, 2, 3, 4, 5, 6, 7, 8, 9, 10, 11, 12, 22], [0, 1, 2, 3, 4, 5, 6, 7, 8, 9, 10, 11, 12, 22, 23], [0, 1, 2, 3, 4, 5, 6, 7, 8, 9, 10, 11, 12, 22, 23, 24], (rg 26), (rg 27), (rg 28), (rg 29)]
abbrev p57 : List (List Nat) := [[], [0], [0, 1], [0, 1, 2], [], [4], [4, 5], [4, 5, 6], [4, 5, 6, 7], [4, 5, 6, 7, 8], (rg 10), (rg 11), (rg 12)]
abbrev p58 : List (List Nat) := [[], [], [1], [1, 2], (rg 4), [], [5], [5, 6], [5, 6, 7], (rg 9), (rg 10)]
abbrev p59 : List (List Nat) := [[], [0], [0, 1], [0, 1, 2], (rg 4), [0, 1], [0, 1, 5], (rg 7), (rg 8), (rg 9), (rg 10), (rg 11), (rg 10), [0, 1, 2, 3, 4, 5, 6, 7, 8, 9, 12], (rg 10), [0, 1, 2, 3, 4, 5, 6, 7, 8, 9, 14], (rg 16), (rg 17), (rg 18), (rg 19), (rg 20), (rg 21), (rg 22), (rg 23), (rg 24), (rg 25), (rg 26), (rg 23), [0, 1, 2, 3, 4, 5, 6, 7, 8, 9, 10, 11, 12, 13, 14, 15, 16, 17, 18, 19, 20, 21, 22, 27], (rg 23), [0, 1, 2, 3, 4, 5, 6, 7, 8, 9, 10, 11, 12, 13, 14, 15, 16, 17, 18, 19, 20, 21, 22, 29], (rg 31), (rg 32), (rg 33), (rg 34)]
abbrev p60 : List (List Nat) := [[], [], [1], [1, 2], [1, 2, 3], [1, 2, 3, 4], [], [6], [6, 7], [1, 2, 3, 4, 5, 6, 7, 8], (rg 10), (rg 11), (rg 12)]
abbrev p61 : List (List Nat) := [[], [0], [0, 1], [0, 1, 2], [], [4], [4, 5], [4, 5, 6], [4, 5, 6, 7], [4, 5, 6, 7, 8], (rg 10), (rg 11), [], (rg 13)]
abbrev p62 : List (List Nat) := [[], [], [1], [0, 1, 2], [], [4], [4, 5], [4, 5, 6], (rg 8), (rg 9), (rg 10), (rg 11), (rg 12), (rg 10), (rg 14), (rg 15)]
abbrev p63 : List (List Nat) := [[], [0], [], [2], [], [4], (rg 6), [], [7], (rg 9), (rg 10), (rg 11)]
abbrev p64 : List (List Nat) := [[], [0], [0, 1], [], [3], [3, 4], (rg 6), (rg 7), (rg 8), (rg 9), (rg 10), (rg 11), (rg 8), [0, 1, 2, 3, 4, 5, 6, 7, 12], (rg 8), [0, 1, 2, 3, 4, 5, 6, 7, 14], (rg 16), (rg 8), [0, 1, 2, 3, 4, 5, 6, 7, 17], [0, 1, 2, 3, 4, 5, 6, 7, 17, 18], [0, 1, 2, 3, 4, 5, 6, 7, 17, 18, 19], (rg 21), (rg 22), (rg 23), (rg 24)]
abbrev p65 : List (List Nat) := [[], [], [], [2], [2, 3], [2, 3, 4], [1, 2, 3, 4, 5], [], [7], [7, 8], [1, 2, 3, 4, 5, 6, 7, 8, 9], (rg 11), (rg 12), (rg 13)]
abbrev p66 : List (List Nat) := [[], [], [0, 1], [0, 1, 2], [], [], [4, 5], [4, 5, 6], (rg 8)]
abbrev p67 : List (List Nat) := [[], [0], [0, 1], [0, 1, 2], [], [4], [4, 5], [4, 5, 6], (rg 8), (rg 9), (rg 10), (rg 10), (rg 11), (rg 13)]
abbrev p68 : List (List Nat) := [[], [], [1], [1, 2], (rg 4), [], [], [6], [6, 7], (rg 9), (rg 10), (rg 11)]
abbrev p69 : List (List Nat) := [[], [], [1], [1, 2], [], (rg 5), (rg 6)]
abbrev p70 : List (List Nat) := [[], [], [], [0, 1, 2], [], [], [], (rg 7), (rg 8), (rg 9)]
abbrev p71 : List (List Nat) := [[], [], [1], [0, 1, 2], (rg 4), (rg 5), [], [], [6, 7], [6, 7, 8], [6, 7, 8, 9], (rg 11), (rg 12), (rg 13), (rg 13), [0, 1, 2, 3, 4, 5, 6, 7, 8, 9, 10, 11, 12, 14], (rg 16), (rg 17), (rg 18), (rg 13), (rg 13), [0, 1, 2, 3, 4, 5, 6, 7, 8, 9, 10, 11, 12, 19, 20], [0, 1, 2, 3, 4, 5, 6, 7, 8, 9, 10, 11, 12, 19, 20, 21], [0, 1, 2, 3, 4, 5, 6, 7, 8, 9, 10, 11, 12, 19, 20, 21, 22], (rg 24), (rg 25)]
abbrev p72 : List (List Nat) := [[], [0], [0, 1], [0, 1, 2], [], [4], [4, 5], (rg 7), (rg 8), [], [9], [], [11], (rg 13), [], (rg 15)]
abbrev p73 : List (List Nat) := [[], [], [0, 1], [0, 1, 2], (rg 4), (rg 4), [0, 1, 2, 3, 5], [0, 1, 2, 3, 5, 6], [0, 1, 2, 3, 5, 6, 7], (rg 9), (rg 10), (rg 11), (rg 12), (rg 13), (rg 14), (rg 13), [0, 1, 2, 3, 4, 5, 6, 7, 8, 9, 10, 11, 12, 15], [0, 1, 2, 3, 4, 5, 6, 7, 8, 9, 10, 11, 12, 15, 16], [0, 1, 2, 3, 4, 5, 6, 7, 8, 9, 10, 11, 12, 15, 16, 17], (rg 19), (rg 20), (rg 21), (rg 22), (rg 23), (rg 24), (rg 25), (rg 26), (rg 27), (rg 28), (rg 27), [0, 1, 2, 3, 4, 5, 6, 7, 8, 9, 10, 11, 12, 13, 14, 15, 16, 17, 18, 19, 20, 21, 22, 23, 24, 25, 26, 29], [0, 1, 2, 3, 4, 5, 6, 7, 8, 9, 10, 11, 12, 13, 14, 15, 16, 17, 18, 19, 20, 21, 22, 23, 24, 25, 26, 29, 30], [0, 1, 2, 3, 4, 5, 6, 7, 8, 9, 10, 11, 12, 13, 14, 15, 16, 17, 18, 19, 20, 21, 22, 23, 24, 25, 26, 29, 30, 31], (rg 27), [0, 1, 2, 3, 4, 5, 6, 7, 8, 9, 10, 11, 12, 13, 14, 15, 16, 17, 18, 19, 20, 21, 22, 23, 24, 25, 26, 33], [0, 1, 2, 3, 4, 5, 6, 7, 8, 9, 10, 11, 12, 13, 14, 15, 16, 17, 18, 19, 20, 21, 22, 23, 24, 25, 26, 33, 34], [0, 1, 2, 3, 4, 5, 6, 7, 8, 9, 10, 11, 12, 13, 14, 15, 16, 17, 18, 19, 20, 21, 22, 23, 24, 25, 26, 33, 34, 35], [0, 1, 2, 3, 4, 5, 6, 7, 8, 9, 10, 11, 12, 13, 14, 15, 16, 17, 18, 19, 20, 21, 22, 23, 24, 25, 26, 33, 34, 35, 36], [0, 1, 2, 3, 4, 5, 6, 7, 8, 9, 10, 11, 12, 13, 14, 15, 16, 17, 18, 19, 20, 21, 22, 23, 24, 25, 26, 33, 34, 35, 36, 37], [0, 1, 2, 3, 4, 5, 6, 7, 8, 9, 10, 11, 12, 13, 14, 15, 16, 17, 18, 19, 20, 21, 22, 23, 24, 25, 26, 29, 30, 31, 32, 33, 34, 35, 36, 37, 38], [0, 1, 2, 3, 4, 5, 6, 7, 8, 9, 10, 11, 12, 13, 14, 15, 16, 17, 18, 19, 20, 21, 22, 23, 24, 25, 26, 29, 30, 31, 32, 33, 34, 35, 36, 37, 38, 39], (rg 41), (rg 42)]
def T : Tab := [(3, (.int .i64), 8), (4, .bool, 1), (5, (.int .u8), 1), (9, .str, 16), (22, (.slice (.int .i64)), 24), (23, (.slice Y1a67), 24), (24, (.slice Yf321), 24), (27, (.int .i64), 8), (30, Y011a, 56), (32, Y1a67, 40), (38, Yh, 32), (40, Yf0bc, 144), (41, (.slice Y8f72), 24), (42, (.slice Y484d), 24), (44, Yedcc, 216), (45, (.slice Yh), 24), (46, (.slice Ybb), 24), (47, (.slice .str), 24), (48, (.slice Y18c3), 24), (49, (.slice Yedcc), 24), (50, (.slice (.slice Y18c3)), 24), (52, Y6488, 168), (53, .ptr, 8), (57, (.slice Yf0bc), 24), (59, Y65da, 64), (61, Yf321, 56), (77, Ybb, 24), (79, Y484d, 56), (81, Y18c3, 32), (94, Y9c6e, 48), (96, Y8266, 80), (98, Yb, 24), (100, Y8f72, 96), (106, Y65da, 64), (136, .cplx, 16), (144, (.int .u64), 8), (148, .flt, 8), (154, (.slice (.int .u32)), 24), (156, (.int .u32), 4), (157, Y8, 32), (158, (.int .u64), 8), (161, Y64, 256), (179, (.slice .bool), 24)]
theorem tab : TabOK prog T := tab_of_b (by kernel_rfl)
theorem bytes : J0s T = true := by kernel_rfl
theorem mix : prog.follows .mixedOrders = true := by kernel_rfl
theorem eqs : J18 prog T [38, 40] = true := by kernel_rfl
theorem env : Env prog T [38, 40] := ⟨tab, eqs, mix⟩
theorem can34 : CanF prog 34 f34 := ⟨func34, _, func34, by kernel_rfl, by kernel_rfl⟩
theorem q1y_ok {u} (h : q1y  = some u) : CallC prog 34 [] [] ((.own 0 [])) ([.row .str u true]) := by
 unfold q1y at h
 cases h
 exact env.fn can34 [] s1 .n
theorem can9 : CanF prog 9 f9 := ⟨func9, _, func9, by kernel_rfl, by kernel_rfl⟩
theorem q1s_ok {a0 a1 a2 u} (h : q1s a0 a1 a2 = some u) : CallC prog 9 [(.v (.int .i64) a0), (.v (.int .i64) a1), (.v (.int .i64) a2)] [] ((.v (.int .i64) u)) ([]) := by
 unfold q1s at h
 obtain ⟨h1, h⟩ := J4b h
 rcases J2w h with ⟨h2, h⟩ | ⟨h2, h⟩
 ·cases h
  exact env.fn can9 [b1] s0 (.c h1 (.c h2 .n))
 ·cases h
  exact env.fn can9 [b0] s0 (.c h1 (.c h2 .n))
theorem can23 : CanF prog 23 f23 := ⟨func23, _, func23, by kernel_rfl, by kernel_rfl⟩
def q2j_1_in (x0 : List Int) (x1 : Int) (x2 : Int) (x3 : List (T484d)) (x4 : List (B8)) : St := ⟨[(0, (.v (.slice (.int .i64)) x0)), (3, (.own 0 [])), (7, (.own 1 [])), (8, (.v (.int .i64) x1)), (9, (.v (.int .i64) x2))], [.row Y484d x3 true, .row .str x4 true], 43, 0⟩
def q2j_1_ex (o : List (T484d)) : Exit := (.exit 0)
def q2j_1_st (o : List (T484d)) : St := ⟨[(3, (.own 0 []))], [.row Y484d o true], 43, 0⟩
theorem q2j_1_body {x0 x1 x2 x3 x4 r} (h : q2j_1_step x0 x1 x2 x3 x4 = some r) : J09 prog (J0z (J0q f23) [1, 1, 0, 1, 0, 0]) (x2, x3) r (fun s => q2j_1_in x0 x1 s.1 s.2 x4) q2j_1_ex q2j_1_st := by
 unfold q2j_1_step at h
 rcases J2w h with ⟨h4, h⟩ | ⟨h4, h⟩
 ·obtain ⟨h5, h⟩ := J4b h
  rcases J2w h with ⟨h6, h⟩ | ⟨h6, h⟩
  ·have e1 := (AllP.c h4 (AllP.c h5 (AllP.c h6 (AllP.c h6 (AllP.c h6 (AllP.c h6 (AllP.c h6 (AllP.c r1 AllP.n))))))))
   rcases J2w h with ⟨h7, h⟩ | ⟨h7, h⟩
   ·obtain ⟨h8, h⟩ := J4b h
    obtain ⟨u9, h10, h⟩ := andThen_ok h q1s_ok
    obtain ⟨h11, h⟩ := J4b h
    cases h
    exact .next (env.cd [b1, b1, b1, b1, b1, b1, b1, b1, cI h10 [] [] [] true, .sel [0, 3, 7, 8, 9] [3, 1]] (e1.app (.c h7 (.c h8 (.c h10 (.c h11 .n))))))
   ·obtain ⟨h12, h⟩ := J4b h
    cases h
    exact .next (env.cd [b1, b1, b1, b1, b1, b1, b1, b0, .sel [0, 3, 7, 8, 9] [3, 1]] (e1.app (.c h7 (.c h12 .n))))
  ·rcases J2w h with ⟨h13, h⟩ | ⟨h13, h⟩
   ·obtain ⟨h14, h⟩ := J4b h
    obtain ⟨u15, h16, h⟩ := andThen_ok h q1s_ok
    obtain ⟨h17, h⟩ := J4b h
    cases h
    exact .next (env.cd [b1, b0, b0, b0, b0, b0, b1, b1, cI h16 [] [] [] true, .sel [0, 3, 7, 8, 9] [3, 1]] (.c h4 (.c h5 (.c h6 (.c h6 (.c h6 (.c h6 (.c h6 (.c h13 (.c h13 (.c h14 (.c h16 (.c h17 .n)))))))))))))
   ·cases h
    exact .next (env.cd [b1, b0, b0, b0, b0, b0, b0, .sel [0, 3, 7, 8, 9] [0, 1]] (.c h4 (.c h5 (.c h6 (.c h6 (.c h6 (.c h6 (.c h6 (.c h13 .n)))))))))
 ·cases h
  exact .out (by intro e; simp [q2j_1_ex] at e) (env.cd [b0, .sel [3] [0]] (.c h4 .n))
theorem q2j_1_ok {x0 x1 x2 x3 x4 o} (h : q2j_1 x0 x1 x2 x3 x4 = some o) : J03 prog (J0z (J0q f23) [1, 1, 0, 1, 0]) (q2j_1_in x0 x1 x2 x3 x4) (q2j_1_ex o) (q2j_1_st o) := J06.of_stepR (fun _ _ h => q2j_1_body h) _ _ h
theorem q2j_ok {a0 u} (h : q2j a0 = some u) : CallC prog 23 [(.v (.slice (.int .i64)) a0)] [] ((.own 0 [])) ([.row Y484d u true]) := by
 unfold q2j at h
 obtain ⟨u1, h2, h⟩ := andThen_ok h q1y_ok
 obtain ⟨o18, h19, h⟩ := andThen_ok h q2j_1_ok
 cases h
 exact env.fn can23 [cI h2 [] [] [] true, .dive, .promote 3 Y484d, .sel [0, 3, 7, 8, 9] [1, 0], pI h19] s1 (.c h2 (.c h19 .n))
theorem can24 : CanF prog 24 f24 := ⟨func24, _, func24, by kernel_rfl, by kernel_rfl⟩
theorem q2c_ok {a0 u} (h : q2c a0 = some u) : CallC prog 24 [(.v (.int .i64) a0)] [] ((.v Yh u)) ([]) := by
 unfold q2c at h
 cases h
 exact env.fn can24 [] s0 .n
theorem can99 : CanF prog 99 f99 := ⟨func99, _, func99, by kernel_rfl, by kernel_rfl⟩
theorem q14_ok {u} (h : q14  = some u) : CallC prog 99 [] [] ((.own 0 [])) ([.row (.int .u32) u true]) := by
 unfold q14 at h
 cases h
 exact env.fn can99 [] s1 .n
theorem can111 : CanF prog 111 f111 := ⟨func111, _, func111, by kernel_rfl, by kernel_rfl⟩
theorem q2f_ok {a0 a1 u} (h : q2f a0 a1 = some u) : CallC prog 111 [(.v (.int .u32) a0), (.v (.int .u64) a1)] [] ((.v (.int .u32) u)) ([]) := by
 unfold q2f at h
 obtain ⟨h1, h⟩ := J4b h
 obtain ⟨h2, h⟩ := J4b h
 cases h
 exact env.fn can111 [] s0 (.c h1 (.c h2 .n))
theorem can100 : CanF prog 100 f100 := ⟨func100, _, func100, by kernel_rfl, by kernel_rfl⟩
def q20_1_in (x0 : B8) (x1 : List UInt32) (x2 : Int) (x3 : List UInt32) (x4 : List UInt32) (x5 : List UInt32) : St := ⟨[(1, (.v Yb x0)), (2, (.v (.slice (.int .u32)) x1)), (3, (.ptr 0 [])), (6, (.ptr 1 [])), (7, (.ptr 2 [])), (20, (.v (.int .i64) x2))], [.box Y8 (.v Y8 x3) true, .box Y8 (.v Y8 x4) true, .box Y64 (.v Y64 x5) true], 207, 0⟩
def q20_1_ex (o : List UInt32 × List UInt32 × List UInt32 × List UInt32) : Exit := (.exit 0)
def q20_1_st (o : List UInt32 × List UInt32 × List UInt32 × List UInt32) : St := ⟨[(2, (.v (.slice (.int .u32)) o.1)), (3, (.ptr 0 [])), (6, (.ptr 1 [])), (7, (.ptr 2 []))], [.box Y8 (.v Y8 o.2.1) true, .box Y8 (.v Y8 o.2.2.1) true, .box Y64 (.v Y64 o.2.2.2) true], 207, 0⟩
theorem q20_1_body {x0 x1 x2 x3 x4 x5 r} (h : q20_1_step x0 x1 x2 x3 x4 x5 = some r) : J09 prog (J0z (J0q f100) [1, 1, 0, 1, 0, 0]) (x2, x5) r (fun s => q20_1_in x0 x1 s.1 x3 x4 s.2) q20_1_ex q20_1_st := by
 unfold q20_1_step at h
 rcases J2w h with ⟨h2, h⟩ | ⟨h2, h⟩
 ·obtain ⟨h3, h⟩ := J4b h
  obtain ⟨h4, h⟩ := J4b h
  obtain ⟨h5, h⟩ := J4b h
  obtain ⟨h6, h⟩ := J4b h
  obtain ⟨h7, h⟩ := J4b h
  cases h
  exact .next (env.cd [b1, .pre p0, .sel [1, 2, 3, 6, 7, 20] [0, 1, 2]] (.c h2 (.c h3 (.c (of_decide_eq_true (p := (0 ≤ (24 : Int))) (by kernel_rfl)) (.c h4 (.c (of_decide_eq_true (p := (0 ≤ (16 : Int))) (by kernel_rfl)) (.c h5 (.c (of_decide_eq_true (p := (0 ≤ (8 : Int))) (by kernel_rfl)) (.c h6 (.c h7 .n))))))))))
 ·cases h
  exact .out (by intro e; simp [q20_1_ex] at e) (env.cd [b0, .sel [2, 3, 6, 7] [0, 1, 2]] (.c h2 .n))
theorem q20_1_ok {x0 x1 x2 x3 x4 x5 o} (h : q20_1 x0 x1 x2 x3 x4 x5 = some o) : J03 prog (J0z (J0q f100) [1, 1, 0, 1, 0]) (q20_1_in x0 x1 x2 x3 x4 x5) (q20_1_ex o) (q20_1_st o) := J06.of_stepR (fun _ _ h => q20_1_body h) _ _ h
def q20_2_in (x0 : List UInt32) (x1 : Int) (x2 : List UInt32) (x3 : List UInt32) (x4 : List UInt32) : St := ⟨[(2, (.v (.slice (.int .u32)) x0)), (3, (.ptr 0 [])), (6, (.ptr 1 [])), (7, (.ptr 2 [])), (9, (.v (.int .i64) x1))], [.box Y8 (.v Y8 x2) true, .box Y8 (.v Y8 x3) true, .box Y64 (.v Y64 x4) true], 207, 0⟩
def q20_2_ex (o : List UInt32 × List UInt32 × List UInt32 × List UInt32) : Exit := (.exit 2)
def q20_2_st (o : List UInt32 × List UInt32 × List UInt32 × List UInt32) : St := ⟨[(2, (.v (.slice (.int .u32)) o.1)), (3, (.ptr 0 [])), (6, (.ptr 1 [])), (7, (.ptr 2 []))], [.box Y8 (.v Y8 o.2.1) true, .box Y8 (.v Y8 o.2.2.1) true, .box Y64 (.v Y64 o.2.2.2) true], 207, 0⟩
theorem q20_2_body {x0 x1 x2 x3 x4 r} (h : q20_2_step x0 x1 x2 x3 x4 = some r) : J09 prog (J0z (J0q f100) [1, 1, 1, 0, 1, 0, 0]) (x1, x4) r (fun s => q20_2_in x0 s.1 x2 x3 s.2) q20_2_ex q20_2_st := by
 unfold q20_2_step at h
 rcases J2w h with ⟨h11, h⟩ | ⟨h11, h⟩
 ·obtain ⟨h12, h⟩ := J4b h
  obtain ⟨h13, h⟩ := J4b h
  obtain ⟨h14, h⟩ := J4b h
  obtain ⟨u15, h16, h⟩ := andThen_ok h q2f_ok
  obtain ⟨u17, h18, h⟩ := andThen_ok h q2f_ok
  obtain ⟨h19, h⟩ := J4b h
  obtain ⟨u20, h21, h⟩ := andThen_ok h q2f_ok
  obtain ⟨u22, h23, h⟩ := andThen_ok h q2f_ok
  obtain ⟨h24, h⟩ := J4b h
  cases h
  exact .next (env.cd [b1, .pre p1, .pre p2, .asis, cI h16 [] [] [] true, .asis, cI h18 [] [] [] true, .asis, cI h21 [] [] [] true, .asis, cI h23 [] [] [] true, .sel [2, 3, 6, 7, 9] [0, 1, 2]] (.c h11 (.c h12 (.c h13 (.c h14 (.c rn (.c h16 (.c rn (.c h18 (.c (of_decide_eq_true (p := (0 ≤ (3 : Int))) (by kernel_rfl)) (.c h19 (.c rn (.c h21 (.c rn (.c h23 (.c (of_decide_eq_true (p := (0 ≤ (10 : Int))) (by kernel_rfl)) (.c h24 .n)))))))))))))))))
 ·cases h
  exact .out (by intro e; simp [q20_2_ex] at e) (env.cd [b0, .sel [2, 3, 6, 7] [0, 1, 2]] (.c h11 .n))
theorem q20_2_ok {x0 x1 x2 x3 x4 o} (h : q20_2 x0 x1 x2 x3 x4 = some o) : J03 prog (J0z (J0q f100) [1, 1, 1, 0, 1, 0]) (q20_2_in x0 x1 x2 x3 x4) (q20_2_ex o) (q20_2_st o) := J06.of_stepR (fun _ _ h => q20_2_body h) _ _ h
def q20_3_in (x0 : List UInt32) (x1 : Int) (x2 : List UInt32) (x3 : List UInt32) (x4 : List UInt32) (x5 : List UInt32) : St := ⟨[(2, (.v (.slice (.int .u32)) x0)), (3, (.ptr 0 [])), (6, (.ptr 1 [])), (7, (.ptr 2 [])), (12, (.ptr 3 [])), (101, (.v (.int .i64) x1))], [.box Y8 (.v Y8 x2) true, .box Y8 (.v Y8 x3) true, .box Y64 (.v Y64 x4) true, .box Y8 (.v Y8 x5) true], 207, 0⟩
def q20_3_ex (o : List UInt32 × List UInt32 × List UInt32) : Exit := (.exit 4)
def q20_3_st (o : List UInt32 × List UInt32 × List UInt32) : St := ⟨[(3, (.ptr 0 [])), (6, (.ptr 1 [])), (12, (.ptr 2 []))], [.box Y8 (.v Y8 o.1) true, .box Y8 (.v Y8 o.2.1) true, .box Y8 (.v Y8 o.2.2) true], 207, 0⟩
theorem q20_3_body {x0 x1 x2 x3 x4 x5 r} (h : q20_3_step x0 x1 x2 x3 x4 x5 = some r) : J09 prog (J0z (J0q f100) [1, 1, 1, 1, 1, 0, 1, 0, 0]) (x1, x5) r (fun s => q20_3_in x0 s.1 x2 x3 x4 s.2) q20_3_ex q20_3_st := by
 unfold q20_3_step at h
 rcases J2w h with ⟨h28, h⟩ | ⟨h28, h⟩
 ·obtain ⟨u29, h30, h⟩ := andThen_ok h q2f_ok
  obtain ⟨u31, h32, h⟩ := andThen_ok h q2f_ok
  obtain ⟨u33, h34, h⟩ := andThen_ok h q2f_ok
  obtain ⟨h35, h⟩ := J4b h
  obtain ⟨h36, h⟩ := J4b h
  obtain ⟨u37, h38, h⟩ := andThen_ok h q2f_ok
  obtain ⟨u39, h40, h⟩ := andThen_ok h q2f_ok
  obtain ⟨u41, h42, h⟩ := andThen_ok h q2f_ok
  cases h
  exact .next (env.cd [b1, .pre p3, .asis, cI h30 [] [] [] true, .asis, cI h32 [] [] [] true, .asis, cI h34 [] [] [] true, .pre p4, .pre p3, .asis, cI h38 [] [] [] true, .asis, cI h40 [] [] [] true, .asis, cI h42 [] [] [] true, .sel [2, 3, 6, 7, 12, 101] [0, 1, 2, 3]] (.c h28 (.c (of_decide_eq_true (p := (0 ≤ (4 : Int) ∧ (4 : Int) < (8 : Int))) (by kernel_rfl)) (.c rn (.c h30 (.c (of_decide_eq_true (p := (0 ≤ (4 : Int) ∧ (4 : Int) < (8 : Int))) (by kernel_rfl)) (.c rn (.c h32 (.c (of_decide_eq_true (p := (0 ≤ (4 : Int) ∧ (4 : Int) < (8 : Int))) (by kernel_rfl)) (.c rn (.c h34 (.c (of_decide_eq_true (p := (0 ≤ (4 : Int) ∧ (4 : Int) < (8 : Int))) (by kernel_rfl)) (.c (of_decide_eq_true (p := (0 ≤ (5 : Int) ∧ (5 : Int) < (8 : Int))) (by kernel_rfl)) (.c (of_decide_eq_true (p := (0 ≤ (4 : Int) ∧ (4 : Int) < (8 : Int))) (by kernel_rfl)) (.c (of_decide_eq_true (p := (0 ≤ (6 : Int) ∧ (6 : Int) < (8 : Int))) (by kernel_rfl)) (.c (of_decide_eq_true (p := (0 ≤ (7 : Int) ∧ (7 : Int) < (8 : Int))) (by kernel_rfl)) (.c h35 (.c h36 (.c (of_decide_eq_true (p := (0 ≤ (0 : Int) ∧ (0 : Int) < (8 : Int))) (by kernel_rfl)) (.c rn (.c h38 (.c (of_decide_eq_true (p := (0 ≤ (0 : Int) ∧ (0 : Int) < (8 : Int))) (by kernel_rfl)) (.c rn (.c h40 (.c (of_decide_eq_true (p := (0 ≤ (0 : Int) ∧ (0 : Int) < (8 : Int))) (by kernel_rfl)) (.c rn (.c h42 (.c (of_decide_eq_true (p := (0 ≤ (0 : Int) ∧ (0 : Int) < (8 : Int))) (by kernel_rfl)) (.c (of_decide_eq_true (p := (0 ≤ (1 : Int) ∧ (1 : Int) < (8 : Int))) (by kernel_rfl)) (.c (of_decide_eq_true (p := (0 ≤ (0 : Int) ∧ (0 : Int) < (8 : Int))) (by kernel_rfl)) (.c (of_decide_eq_true (p := (0 ≤ (2 : Int) ∧ (2 : Int) < (8 : Int))) (by kernel_rfl)) (.c (of_decide_eq_true (p := (0 ≤ (1 : Int) ∧ (1 : Int) < (8 : Int))) (by kernel_rfl)) (.c (of_decide_eq_true (p := (0 ≤ (2 : Int) ∧ (2 : Int) < (8 : Int))) (by kernel_rfl)) (.c (of_decide_eq_true (p := (0 ≤ (0 : Int) ∧ (0 : Int) < (8 : Int))) (by kernel_rfl)) (.c (of_decide_eq_true (p := (0 ≤ (1 : Int) ∧ (1 : Int) < (8 : Int))) (by kernel_rfl)) (.c (of_decide_eq_true (p := (0 ≤ (2 : Int) ∧ (2 : Int) < (8 : Int))) (by kernel_rfl)) (.c (of_decide_eq_true (p := (0 ≤ (3 : Int) ∧ (3 : Int) < (8 : Int))) (by kernel_rfl)) (.c (of_decide_eq_true (p := (0 ≤ (4 : Int) ∧ (4 : Int) < (8 : Int))) (by kernel_rfl)) (.c (of_decide_eq_true (p := (0 ≤ (5 : Int) ∧ (5 : Int) < (8 : Int))) (by kernel_rfl)) (.c (of_decide_eq_true (p := (0 ≤ (6 : Int) ∧ (6 : Int) < (8 : Int))) (by kernel_rfl)) .n))))))))))))))))))))))))))))))))))))))))
 ·cases h
  exact .out (by intro e; simp [q20_3_ex] at e) (env.cd [b0, .sel [3, 6, 12] [0, 1, 3]] (.c h28 .n))
theorem q20_3_ok {x0 x1 x2 x3 x4 x5 o} (h : q20_3 x0 x1 x2 x3 x4 x5 = some o) : J03 prog (J0z (J0q f100) [1, 1, 1, 1, 1, 0, 1, 0]) (q20_3_in x0 x1 x2 x3 x4 x5) (q20_3_ex o) (q20_3_st o) := J06.of_stepR (fun _ _ h => q20_3_body h) _ _ h
def q20_4_in (x0 : Int) (x1 : List UInt32) (x2 : List UInt32) (x3 : List UInt32) : St := ⟨[(3, (.ptr 0 [])), (6, (.ptr 1 [])), (12, (.ptr 2 [])), (193, (.v (.int .i64) x0))], [.box Y8 (.v Y8 x1) true, .box Y8 (.v Y8 x2) true, .box Y8 (.v Y8 x3) true], 207, 0⟩
def q20_4_ex (o : List UInt32 × List UInt32) : Exit := (.exit 6)
def q20_4_st (o : List UInt32 × List UInt32) : St := ⟨[(3, (.ptr 0 [])), (6, (.ptr 1 []))], [.box Y8 (.v Y8 o.1) true, .box Y8 (.v Y8 o.2) true], 207, 0⟩
theorem q20_4_body {x0 x1 x2 x3 r} (h : q20_4_step x0 x1 x2 x3 = some r) : J09 prog (J0z (J0q f100) [1, 1, 1, 1, 1, 1, 0, 1, 0, 0]) (x0, x1) r (fun s => q20_4_in s.1 s.2 x2 x3) q20_4_ex q20_4_st := by
 unfold q20_4_step at h
 rcases J2w h with ⟨h46, h⟩ | ⟨h46, h⟩
 ·obtain ⟨h47, h⟩ := J4b h
  cases h
  exact .next (env.cd [b1, .pre p5, .sel [3, 6, 12, 193] [0, 1, 2]] (.c h46 (.c h47 (.c h47 (.c h47 .n)))))
 ·cases h
  exact .out (by intro e; simp [q20_4_ex] at e) (env.cd [b0, .sel [3, 6] [0, 1]] (.c h46 .n))
theorem q20_4_ok {x0 x1 x2 x3 o} (h : q20_4 x0 x1 x2 x3 = some o) : J03 prog (J0z (J0q f100) [1, 1, 1, 1, 1, 1, 0, 1, 0]) (q20_4_in x0 x1 x2 x3) (q20_4_ex o) (q20_4_st o) := J06.of_stepR (fun _ _ h => q20_4_body h) _ _ h
theorem q20_ok {a0 a1 a2 u} (h : q20 a0 a1 a2 = some u) : CallC prog 100 [(.v Y8 a0), (.v Yb a1), (.v (.slice (.int .u32)) a2)] [] ((.v Y8 u)) ([]) := by
 unfold q20 at h
 obtain ⟨o8, h9, h⟩ := andThen_ok h q20_1_ok
 obtain ⟨o25, h26, h⟩ := andThen_ok h q20_2_ok
 obtain ⟨o43, h44, h⟩ := andThen_ok h q20_3_ok
 obtain ⟨o48, h49, h⟩ := andThen_ok h q20_4_ok
 cases h
 exact env.fn can100 [.dive, .sel [1, 2, 3, 6, 7, 20] [0, 1, 2], pI h9, .dive, .sel [2, 3, 6, 7, 9] [0, 1, 2], pI h26, .dive, .sel [2, 3, 6, 7, 12, 101] [0, 1, 2, 3], pI h44, .dive, .sel [3, 6, 12, 193] [0, 1, 2], pI h49] s0 (.c h9 (.c h26 (.c h44 (.c h49 .n))))
theorem can84 : CanF prog 84 f84 := ⟨func84, _, func84, by kernel_rfl, by kernel_rfl⟩
def q2h_1_in (x0 : B8) (x1 : B8) (x2 : List UInt32) (x3 : List UInt32) (x4 : B8) : St := ⟨[(0, (.v Yb x0)), (2, (.ptr 0 [])), (3, (.own 1 [])), (4, (.ptr 2 [])), (5, (.own 3 []))], [.box Yh (.v Yh x1) true, .row (.int .u32) x2 true, .box Y8 (.v Y8 x3) true, .row (.int .u8) x4 true], 88, 0⟩
def q2h_1_ex (o : B8 × B8 × List UInt32 × List UInt32 × B8) : Exit := (.exit 0)
def q2h_1_st (o : B8 × B8 × List UInt32 × List UInt32 × B8) : St := ⟨[(0, (.v Yb o.1)), (2, (.ptr 0 [])), (3, (.own 1 [])), (4, (.ptr 2 [])), (5, (.own 3 []))], [.box Yh (.v Yh o.2.1) true, .row (.int .u32) o.2.2.1 true, .box Y8 (.v Y8 o.2.2.2.1) true, .row (.int .u8) o.2.2.2.2 true], 88, 0⟩
theorem q2h_1_body {x0 x1 x2 x3 x4 r} (h : q2h_1_step x0 x1 x2 x3 x4 = some r) : J09 prog (J0z (J0q f84) [1, 1, 1, 1, 0, 0, 0]) x4 r (fun s => q2h_1_in x0 x1 x2 x3 s) q2h_1_ex q2h_1_st := by
 unfold q2h_1_step at h
 have e1 := (AllP.c (of_decide_eq_true (p := ((64 : Int) ≠ 0)) (by kernel_rfl)) AllP.n)
 rcases J2w h with ⟨h6, h⟩ | ⟨h6, h⟩
 ·obtain ⟨h7, h⟩ := J4b h
  cases h
  exact .next (env.cd [b1, .dive, .sel [0, 2, 3, 4, 5] [0, 1, 2, 5]] (e1.app (.c h6 (.c h7 .n))))
 ·cases h
  exact .out (by intro e; simp [q2h_1_ex] at e) (env.cd [b0, .sel [0, 2, 3, 4, 5] [0, 1, 2, 3]] (e1.app (.c h6 .n)))
theorem q2h_1_ok {x0 x1 x2 x3 x4 o} (h : q2h_1 x0 x1 x2 x3 x4 = some o) : J03 prog (J0z (J0q f84) [1, 1, 1, 1, 0, 0]) (q2h_1_in x0 x1 x2 x3 x4) (q2h_1_ex o) (q2h_1_st o) := J06.of_stepR (fun _ _ h => q2h_1_body h) _ _ h
def q2h_2_in (x0 : B8) (x1 : Int) (x2 : B8) (x3 : List UInt32) (x4 : List UInt32) (x5 : B8) : St := ⟨[(0, (.v Yb x0)), (2, (.ptr 0 [])), (3, (.own 1 [])), (4, (.ptr 2 [])), (5, (.own 3 [])), (6, (.v (.int .i64) x1))], [.box Yh (.v Yh x2) true, .row (.int .u32) x3 true, .box Y8 (.v Y8 x4) true, .row (.int .u8) x5 true], 88, 0⟩
def q2h_2_ex (o : B8 × List UInt32 × List UInt32 × B8) : Exit := (.exit 2)
def q2h_2_st (o : B8 × List UInt32 × List UInt32 × B8) : St := ⟨[(2, (.ptr 0 [])), (3, (.own 1 [])), (4, (.ptr 2 [])), (5, (.own 3 []))], [.box Yh (.v Yh o.1) true, .row (.int .u32) o.2.1 true, .box Y8 (.v Y8 o.2.2.1) true, .row (.int .u8) o.2.2.2 true], 88, 0⟩
theorem q2h_2_body {x0 x1 x2 x3 x4 x5 r} (h : q2h_2_step x0 x1 x2 x3 x4 x5 = some r) : J09 prog (J0z (J0q f84) [1, 1, 1, 1, 1, 0, 1, 0, 0]) (x1, x5) r (fun s => q2h_2_in x0 s.1 x2 x3 x4 s.2) q2h_2_ex q2h_2_st := by
 unfold q2h_2_step at h
 rcases J2w h with ⟨h11, h⟩ | ⟨h11, h⟩
 ·obtain ⟨h12, h⟩ := J4b h
  obtain ⟨h13, h⟩ := J4b h
  cases h
  exact .next (env.cd [b1, .dive, .sel [0, 2, 3, 4, 5, 6] [0, 1, 2, 5]] (.c h11 (.c h12 (.c h13 .n))))
 ·cases h
  exact .out (by intro e; simp [q2h_2_ex] at e) (env.cd [b0, .sel [2, 3, 4, 5] [0, 1, 2, 3]] (.c h11 .n))
theorem q2h_2_ok {x0 x1 x2 x3 x4 x5 o} (h : q2h_2 x0 x1 x2 x3 x4 x5 = some o) : J03 prog (J0z (J0q f84) [1, 1, 1, 1, 1, 0, 1, 0]) (q2h_2_in x0 x1 x2 x3 x4 x5) (q2h_2_ex o) (q2h_2_st o) := J06.of_stepR (fun _ _ h => q2h_2_body h) _ _ h
def q2h_3_in (x0 : B8) (x1 : Int) (x2 : B8) (x3 : List UInt32) (x4 : List UInt32) : St := ⟨[(2, (.ptr 0 [])), (3, (.own 1 [])), (4, (.ptr 2 [])), (5, (.v Yb x0)), (7, (.v (.int .i64) x1))], [.box Yh (.v Yh x2) true, .row (.int .u32) x3 true, .box Y8 (.v Y8 x4) true], 88, 0⟩
def q2h_3_ex (o : B8 × List UInt32) : Exit := (.exit 4)
def q2h_3_st (o : B8 × List UInt32) : St := ⟨[(2, (.ptr 0 [])), (4, (.ptr 1 []))], [.box Yh (.v Yh o.1) true, .box Y8 (.v Y8 o.2) true], 88, 0⟩
theorem q2h_3_body {x0 x1 x2 x3 x4 r} (h : q2h_3_step x0 x1 x2 x3 x4 = some r) : J09 prog (J0z (J0q f84) [1, 1, 1, 1, 1, 1, 0, 1, 0, 0]) (x1, x4) r (fun s => q2h_3_in x0 s.1 x2 x3 s.2) q2h_3_ex q2h_3_st := by
 unfold q2h_3_step at h
 rcases J2w h with ⟨h17, h⟩ | ⟨h17, h⟩
 ·obtain ⟨h18, h⟩ := J4b h
  obtain ⟨u19, h20, h⟩ := andThen_ok h q20_ok
  cases h
  exact .next (env.cd [b1, .pre p6, b0, .asis, cI h20 [] [] [0] true, .sel [2, 3, 4, 5, 7] [0, 1, 2]] (.c h17 (.c h18 (.c (rfl : ([.row (.int .u32) x3 true] : List AObj) = [.row (.int .u32) x3 true]) (.c h20 .n)))))
 ·cases h
  exact .out (by intro e; simp [q2h_3_ex] at e) (env.cd [b0, .sel [2, 4] [0, 2]] (.c h17 .n))
theorem q2h_3_ok {x0 x1 x2 x3 x4 o} (h : q2h_3 x0 x1 x2 x3 x4 = some o) : J03 prog (J0z (J0q f84) [1, 1, 1, 1, 1, 1, 0, 1, 0]) (q2h_3_in x0 x1 x2 x3 x4) (q2h_3_ex o) (q2h_3_st o) := J06.of_stepR (fun _ _ h => q2h_3_body h) _ _ h
def q2h_4_in (x0 : List UInt32) (x1 : Int) (x2 : B8) (x3 : B8) : St := ⟨[(2, (.ptr 0 [])), (8, (.ptr 1 [])), (55, (.v Y8 x0)), (56, (.v (.int .i64) x1))], [.box Yh (.v Yh x2) true, .box Yh (.v Yh x3) true], 88, 0⟩
def q2h_4_ex (o : B8 × B8) : Exit := (.exit 6)
def q2h_4_st (o : B8 × B8) : St := ⟨[(2, (.ptr 0 [])), (8, (.ptr 1 []))], [.box Yh (.v Yh o.1) true, .box Yh (.v Yh o.2) true], 88, 0⟩
theorem q2h_4_body {x0 x1 x2 x3 r} (h : q2h_4_step x0 x1 x2 x3 = some r) : J09 prog (J0z (J0q f84) [1, 1, 1, 1, 1, 1, 1, 1, 0, 1, 0, 0]) (x1, x3) r (fun s => q2h_4_in x0 s.1 x2 s.2) q2h_4_ex q2h_4_st := by
 unfold q2h_4_step at h
 rcases J2w h with ⟨h24, h⟩ | ⟨h24, h⟩
 ·obtain ⟨h25, h⟩ := J4b h
  obtain ⟨h26, h⟩ := J4b h
  obtain ⟨h27, h⟩ := J4b h
  obtain ⟨h28, h⟩ := J4b h
  obtain ⟨h29, h⟩ := J4b h
  cases h
  exact .next (env.cd [b1, .dive, .sel [2, 8, 55, 56] [0, 1]] (.c h24 (.c h25 (.c (of_decide_eq_true (p := (0 ≤ (24 : Int))) (by kernel_rfl)) (.c (of_decide_eq_true (p := (0 ≤ (16 : Int))) (by kernel_rfl)) (.c (of_decide_eq_true (p := (0 ≤ (8 : Int))) (by kernel_rfl)) (.c h26 (.c h27 (.c h28 (.c h29 .n))))))))))
 ·cases h
  exact .out (by intro e; simp [q2h_4_ex] at e) (env.cd [b0, .sel [2, 8] [0, 1]] (.c h24 .n))
theorem q2h_4_ok {x0 x1 x2 x3 o} (h : q2h_4 x0 x1 x2 x3 = some o) : J03 prog (J0z (J0q f84) [1, 1, 1, 1, 1, 1, 1, 1, 0, 1, 0]) (q2h_4_in x0 x1 x2 x3) (q2h_4_ex o) (q2h_4_st o) := J06.of_stepR (fun _ _ h => q2h_4_body h) _ _ h
theorem q2h_ok {a0 u} (h : q2h a0 = some u) : CallC prog 84 [(.v Yb a0)] [] ((.v Yh u)) ([]) := by
 unfold q2h at h
 obtain ⟨u1, h2, h⟩ := andThen_ok h q14_ok
 obtain ⟨h3, h⟩ := J4b h
 obtain ⟨h4, h⟩ := J4b h
 obtain ⟨o8, h9, h⟩ := andThen_ok h q2h_1_ok
 obtain ⟨o14, h15, h⟩ := andThen_ok h q2h_2_ok
 obtain ⟨o21, h22, h⟩ := andThen_ok h q2h_3_ok
 obtain ⟨o30, h31, h⟩ := andThen_ok h q2h_4_ok
 cases h
 exact env.fn can84 [cI h2 [] [] [] true, .dive, .sel [0, 2, 3, 4, 5] [0, 1, 2, 6], pI h9, .dive, .sel [0, 2, 3, 4, 5, 6] [0, 1, 2, 3], pI h15, .dive, .val 5 Yb, .sel [2, 3, 4, 5, 7] [0, 1, 2], pI h22, .dive, .sel [2, 8, 55, 56] [0, 2], pI h31] s0 (.c h2 (.c h3 (.c h4 (.c h9 (.c h15 (.c h22 (.c h31 .n)))))))
theorem can56 : CanF prog 56 f56 := ⟨func56, _, func56, by kernel_rfl, by kernel_rfl⟩
def q1k_1_in (x0 : List (B8)) (x1 : Int) (x2 : Int) (x3 : B8) (x4 : B8) : St := ⟨[(4, (.ptr 0 [])), (5, (.own 1 [])), (10, (.v Ybb x0)), (11, (.v (.int .i64) x1)), (12, (.v (.int .i64) x2))], [.box Yh (.v Yh x3) true, .row (.int .u8) x4 true], 22, 0⟩
def q1k_1_ex (o : B8 × B8) : Exit := (.exit 0)
def q1k_1_st (o : B8 × B8) : St := ⟨[(4, (.ptr 0 [])), (5, (.own 1 []))], [.box Yh (.v Yh o.1) true, .row (.int .u8) o.2 true], 22, 0⟩
theorem q1k_1_body {x0 x1 x2 x3 x4 r} (h : q1k_1_step x0 x1 x2 x3 x4 = some r) : J09 prog (J0z (J0q f56) [1, 1, 0, 1, 0, 0]) (x2, x4) r (fun s => q1k_1_in x0 x1 s.1 x3 s.2) q1k_1_ex q1k_1_st := by
 unfold q1k_1_step at h
 rcases J2w h with ⟨h2, h⟩ | ⟨h2, h⟩
 ·obtain ⟨h3, h⟩ := J4b h
  obtain ⟨h4, h⟩ := J4b h
  cases h
  exact .next (env.cd [b1, .dive, .sel [4, 5, 10, 11, 12] [0, 2]] (.c h2 (.c h3 (.c h4 .n))))
 ·cases h
  exact .out (by intro e; simp [q1k_1_ex] at e) (env.cd [b0, .sel [4, 5] [0, 1]] (.c h2 .n))
theorem q1k_1_ok {x0 x1 x2 x3 x4 o} (h : q1k_1 x0 x1 x2 x3 x4 = some o) : J03 prog (J0z (J0q f56) [1, 1, 0, 1, 0]) (q1k_1_in x0 x1 x2 x3 x4) (q1k_1_ex o) (q1k_1_st o) := J06.of_stepR (fun _ _ h => q1k_1_body h) _ _ h
theorem q1k_ok {a0 a1 u} (h : q1k a0 a1 = some u) : CallC prog 56 [(.v (.int .u8) a0), (.v Ybb a1)] [] ((.v Yh u)) ([]) := by
 unfold q1k at h
 obtain ⟨o5, h6, h⟩ := andThen_ok h q1k_1_ok
 obtain ⟨u7, h8, h⟩ := andThen_ok h q2h_ok
 cases h
 exact env.fn can56 [.dive, .sel [4, 5, 10, 11, 12] [0, 1], pI h6, cI h8 [] [] [1] true] s0 (.c h6 (.c h8 .n))
theorem can69 : CanF prog 69 f69 := ⟨func69, _, func69, by kernel_rfl, by kernel_rfl⟩
theorem q1j_ok {a0 a1 u} (h : q1j a0 a1 = some u) : CallC prog 69 [(.v Yh a0), (.v (.int .i64) a1)] [] ((.v Yh u)) ([]) := by
 unfold q1j at h
 obtain ⟨u1, h2, h⟩ := andThen_ok h q1k_ok
 cases h
 exact env.fn can69 [b1, cI h2 [] [] [3] true] s0 (.c h2 .n)
theorem can88 : CanF prog 88 f88 := ⟨func88, _, func88, by kernel_rfl, by kernel_rfl⟩
theorem q1h_ok {a0 a1 a2 u} (h : q1h a0 a1 a2 = some u) : CallC prog 88 [(.v Yh a0), (.v (.int .i64) a1), (.v (.int .i64) a2)] [] ((.v Yh u)) ([]) := by
 unfold q1h at h
 obtain ⟨u1, h2, h⟩ := andThen_ok h q1k_ok
 cases h
 exact env.fn can88 [b1, cI h2 [] [] [3] true] s0 (.c h2 .n)
theorem can89 : CanF prog 89 f89 := ⟨func89, _, func89, by kernel_rfl, by kernel_rfl⟩
theorem q1i_ok {a0 u} (h : q1i a0 = some u) : CallC prog 89 [(.v Yh a0)] [] ((.v Yh u)) ([]) := by
 unfold q1i at h
 obtain ⟨u1, h2, h⟩ := andThen_ok h q1k_ok
 cases h
 exact env.fn can89 [b1, cI h2 [] [] [2] true] s0 (.c h2 .n)
theorem can98 : CanF prog 98 f98 := ⟨func98, _, func98, by kernel_rfl, by kernel_rfl⟩
def q2o_1_in (x0 : List (B8)) (x1 : Int) (x2 : Int) (x3 : B8) (x4 : B8) : St := ⟨[(2, (.ptr 0 [])), (3, (.own 1 [])), (6, (.v (.slice Yh) x0)), (7, (.v (.int .i64) x1)), (8, (.v (.int .i64) x2))], [.box Yh (.v Yh x3) true, .row (.int .u8) x4 true], 19, 0⟩
def q2o_1_ex (o : B8 × B8) : Exit := (.exit 0)
def q2o_1_st (o : B8 × B8) : St := ⟨[(2, (.ptr 0 [])), (3, (.own 1 []))], [.box Yh (.v Yh o.1) true, .row (.int .u8) o.2 true], 19, 0⟩
theorem q2o_1_body {x0 x1 x2 x3 x4 r} (h : q2o_1_step x0 x1 x2 x3 x4 = some r) : J09 prog (J0z (J0q f98) [1, 1, 0, 1, 0, 0]) (x2, x4) r (fun s => q2o_1_in x0 x1 s.1 x3 s.2) q2o_1_ex q2o_1_st := by
 unfold q2o_1_step at h
 rcases J2w h with ⟨h2, h⟩ | ⟨h2, h⟩
 ·obtain ⟨h3, h⟩ := J4b h
  obtain ⟨h4, h⟩ := J4b h
  cases h
  exact .next (env.cd [b1, b1, .sel [2, 3, 6, 7, 8] [0, 3]] (.c h2 (.c h3 (.c h4 .n))))
 ·cases h
  exact .out (by intro e; simp [q2o_1_ex] at e) (env.cd [b0, .sel [2, 3] [0, 1]] (.c h2 .n))
theorem q2o_1_ok {x0 x1 x2 x3 x4 o} (h : q2o_1 x0 x1 x2 x3 x4 = some o) : J03 prog (J0z (J0q f98) [1, 1, 0, 1, 0]) (q2o_1_in x0 x1 x2 x3 x4) (q2o_1_ex o) (q2o_1_st o) := J06.of_stepR (fun _ _ h => q2o_1_body h) _ _ h
theorem q2o_ok {a0 u} (h : q2o a0 = some u) : CallC prog 98 [(.v (.slice Yh) a0)] [] ((.v Yh u)) ([]) := by
 unfold q2o at h
 obtain ⟨o5, h6, h⟩ := andThen_ok h q2o_1_ok
 obtain ⟨u7, h8, h⟩ := andThen_ok h q1k_ok
 cases h
 exact env.fn can98 [.dive, .promote 3 (.int .u8), .sel [2, 3, 6, 7, 8] [0, 1], pI h6, cI h8 [] [] [2] true] s0 (.c h6 (.c h8 .n))
theorem can83 : CanF prog 83 f83 := ⟨func83, _, func83, by kernel_rfl, by kernel_rfl⟩
def q2m_1_in (x0 : Int) (x1 : B8) (x2 : B8) (x3 : List (B8)) : St := ⟨[(1, (.ptr 0 [])), (2, (.ptr 1 [])), (3, (.own 2 [])), (5, (.v (.int .i64) x0))], [.box Yh (.v Yh x1) true, .box Yh (.v Yh x2) true, .row Yh x3 true], 22, 0⟩
def q2m_1_ex (o : B8 × List (B8)) : Exit := (.exit 0)
def q2m_1_st (o : B8 × List (B8)) : St := ⟨[(2, (.ptr 0 [])), (3, (.own 1 []))], [.box Yh (.v Yh o.1) true, .row Yh o.2 true], 22, 0⟩
theorem q2m_1_body {x0 x1 x2 x3 r} (h : q2m_1_step x0 x1 x2 x3 = some r) : J09 prog (J0z (J0q f83) [1, 1, 0, 1, 0, 0]) (x0, x3) r (fun s => q2m_1_in s.1 x1 x2 s.2) q2m_1_ex q2m_1_st := by
 unfold q2m_1_step at h
 rcases J2w h with ⟨h2, h⟩ | ⟨h2, h⟩
 ·obtain ⟨u3, h4, h⟩ := andThen_ok h q1h_ok
  obtain ⟨u5, h6, h⟩ := andThen_ok h q1i_ok
  obtain ⟨u7, h8, h⟩ := andThen_ok h q1h_ok
  obtain ⟨u9, h10, h⟩ := andThen_ok h q1i_ok
  obtain ⟨h11, h⟩ := J4b h
  cases h
  exact .next (env.cd [b1, .pre p7, .asis, cI h4 [] [] [] true, .asis, cI h6 [] [] [] true, .asis, cI h8 [] [] [] true, .asis, cI h10 [] [] [] true, .sel [1, 2, 3, 5] [0, 1, 4]] (.c h2 (.c rn (.c h4 (.c rn (.c h6 (.c rn (.c h8 (.c rn (.c h10 (.c h11 .n)))))))))))
 ·cases h
  exact .out (by intro e; simp [q2m_1_ex] at e) (env.cd [b0, .sel [2, 3] [1, 2]] (.c h2 .n))
theorem q2m_1_ok {x0 x1 x2 x3 o} (h : q2m_1 x0 x1 x2 x3 = some o) : J03 prog (J0z (J0q f83) [1, 1, 0, 1, 0]) (q2m_1_in x0 x1 x2 x3) (q2m_1_ex o) (q2m_1_st o) := J06.of_stepR (fun _ _ h => q2m_1_body h) _ _ h
theorem q2m_ok {a0 u} (h : q2m a0 = some u) : CallC prog 83 [(.v Yh a0)] [] ((.v Yh u)) ([]) := by
 unfold q2m at h
 obtain ⟨o12, h13, h⟩ := andThen_ok h q2m_1_ok
 obtain ⟨u14, h15, h⟩ := andThen_ok h q2o_ok
 cases h
 exact env.fn can83 [.dive, .promote 3 Yh, .sel [1, 2, 3, 5] [0, 1, 2], pI h13, cI h15 [] [] [1] true] s0 (.c h13 (.c h15 .n))
theorem can55 : CanF prog 55 f55 := ⟨func55, _, func55, by kernel_rfl, by kernel_rfl⟩
def q2d_1_in (x0 : Int) (x1 : B8) (x2 : List (B8)) : St := ⟨[(1, (.ptr 0 [])), (3, (.own 1 [])), (4, (.v (.int .i64) x0))], [.box Yh (.v Yh x1) true, .row Yb x2 true], 19, 0⟩
def q2d_1_ex (o : List (B8)) : Exit := (.exit 0)
def q2d_1_st (o : List (B8)) : St := ⟨[(3, (.own 0 []))], [.row Yb o true], 19, 0⟩
theorem q2d_1_body {x0 x1 x2 r} (h : q2d_1_step x0 x1 x2 = some r) : J09 prog (J0z (J0q f55) [1, 1, 0, 1, 0, 0]) (x0, x2) r (fun s => q2d_1_in s.1 x1 s.2) q2d_1_ex q2d_1_st := by
 unfold q2d_1_step at h
 rcases J2w h with ⟨h2, h⟩ | ⟨h2, h⟩
 ·obtain ⟨u3, h4, h⟩ := andThen_ok h q1j_ok
  obtain ⟨u5, h6, h⟩ := andThen_ok h q2m_ok
  obtain ⟨h7, h⟩ := J4b h
  cases h
  exact .next (env.cd [b1, cI h4 [] [] [] true, cI h6 [] [] [] true, b1, .sel [1, 3, 4] [0, 4]] (.c h2 (.c h4 (.c h6 (.c h7 .n)))))
 ·cases h
  exact .out (by intro e; simp [q2d_1_ex] at e) (env.cd [b0, .sel [3] [1]] (.c h2 .n))
theorem q2d_1_ok {x0 x1 x2 o} (h : q2d_1 x0 x1 x2 = some o) : J03 prog (J0z (J0q f55) [1, 1, 0, 1, 0]) (q2d_1_in x0 x1 x2) (q2d_1_ex o) (q2d_1_st o) := J06.of_stepR (fun _ _ h => q2d_1_body h) _ _ h
theorem q2d_ok {a0 u} (h : q2d a0 = some u) : CallC prog 55 [(.v Yh a0)] [] ((.own 0 [])) ([.row Yb u true]) := by
 unfold q2d at h
 obtain ⟨o8, h9, h⟩ := andThen_ok h q2d_1_ok
 cases h
 exact env.fn can55 [.dive, .promote 3 Yb, .sel [1, 3, 4] [0, 1], pI h9] s1 (.c h9 .n)
theorem can57 : CanF prog 57 f57 := ⟨func57, _, func57, by kernel_rfl, by kernel_rfl⟩
def q2g_1_in (x0 : Int) (x1 : Int) : St := ⟨[(0, (.v (.int .i64) x0)), (3, (.v (.int .i64) x1))], [], 11, 0⟩
def q2g_1_ex (o : Int) : Exit := (.exit 0)
def q2g_1_st (o : Int) : St := ⟨[(3, (.v (.int .i64) o))], [], 11, 0⟩
theorem q2g_1_body {x0 x1 r} (h : q2g_1_step x0 x1 = some r) : J09 prog (J0z (J0q f57) [1, 1, 0, 0, 0]) x1 r (fun s => q2g_1_in x0 s) q2g_1_ex q2g_1_st := by
 unfold q2g_1_step at h
 rcases J2w h with ⟨h2, h⟩ | ⟨h2, h⟩
 ·cases h
  exact .next (env.cd [b1, .dive, .sel [0, 3] []] (.c h2 .n))
 ·cases h
  exact .out (by intro e; simp [q2g_1_ex] at e) (env.cd [b0, .sel [3] []] (.c h2 .n))
theorem q2g_1_ok {x0 x1 o} (h : q2g_1 x0 x1 = some o) : J03 prog (J0z (J0q f57) [1, 1, 0, 0]) (q2g_1_in x0 x1) (q2g_1_ex o) (q2g_1_st o) := J06.of_stepR (fun _ _ h => q2g_1_body h) _ _ h
theorem q2g_ok {a0 u} (h : q2g a0 = some u) : CallC prog 57 [(.v (.int .i64) a0)] [] ((.v (.int .i64) u)) ([]) := by
 unfold q2g at h
 obtain ⟨o3, h4, h⟩ := andThen_ok h q2g_1_ok
 cases h
 exact env.fn can57 [.dive, .sel [0, 3] [], pI h4] s0 (.c h4 .n)
theorem can26 : CanF prog 26 f26 := ⟨func26, _, func26, by kernel_rfl, by kernel_rfl⟩
theorem q1q_ok : ∀ k a0 u, q1q k a0 = some u → CallC prog 26 [(.v Ybb a0)] [] ((.v Yh u)) ([])
 | 0, a0, u, h => by cases h
 | k + 1, a0, u, h => by
  unfold q1q at h
  rcases J2w h with ⟨h1, h⟩ | ⟨h1, h⟩
  ·obtain ⟨u2, h3, h⟩ := andThen_ok h q1k_ok
   cases h
   exact env.fn can26 [b1, cI h3 [none, (some Yb)] [] [] true] s0 (.c h1 (.c h3 .n))
  ·rcases J2w h with ⟨h4, h⟩ | ⟨h4, h⟩
   ·obtain ⟨h5, h⟩ := J4b h
    obtain ⟨u6, h7, h⟩ := andThen_ok h q1k_ok
    cases h
    exact env.fn can26 [b0, b1, cI h7 [] [] [1] true] s0 (.c h1 (.c h4 (.c h5 (.c h7 .n))))
   ·obtain ⟨u8, h9, h⟩ := andThen_ok h q2g_ok
    obtain ⟨h10, h⟩ := J4b h
    obtain ⟨u11, h12, h⟩ := andThen_ok h (q1q_ok k _ _)
    obtain ⟨h13, h⟩ := J4b h
    obtain ⟨u14, h15, h⟩ := andThen_ok h (q1q_ok k _ _)
    obtain ⟨u16, h17, h⟩ := andThen_ok h q1k_ok
    cases h
    exact env.fn can26 [b0, b0, cI h9 [] [] [] true, .pre p8, b0, .asis, cI h12 [] [] [] true, b0, .asis, cI h15 [] [] [] true, .pre p9, b1, b1, .asis, cI h17 [] [] [0] true] s0 (.c h1 (.c h4 (.c h9 (.c h10 (.c rn (.c h12 (.c h13 (.c rn (.c h15 (.c (rfl : ([.row Yb ([u11, u14] : List (B8)) true] : List AObj) = [.row Yb ([u11, u14] : List (B8)) true]) (.c h17 .n)))))))))))
theorem q2e_ok {a0 u} (h : q2e a0 = some u) : CallC prog 26 [(.v Ybb a0)] [] ((.v Yh u)) ([]) := q1q_ok 64 _ _ h
theorem can25 : CanF prog 25 f25 := ⟨func25, _, func25, by kernel_rfl, by kernel_rfl⟩
def qj_1_in (x0 : Int) (x1 : Int) (x2 : List (T484d)) (x3 : List (B8)) (x4 : Unit) (x5 : List (List (B8))) (x6 : List (B8)) : St := ⟨[(1, (.own 1 [])), (5, (.ptr 2 [])), (12, (.own 0 [])), (13, (.v (.int .i64) x0)), (14, (.v (.int .i64) x1))], [.row Y484d x2 true, .row Yh x3 true, .box Y6488 (.node (.own 1 []) (.node (.own 3 []) (.node (.own 4 []) (.node .nil (.node (.own 0 []) (.node .nil (.node .nil (.v .unit x4)))))))) true, .row Ybb x5 true, .row .str x6 true], 46, 2⟩
def qj_1_ex (o : (List (T484d)) × List (B8) × Unit × List (List (B8)) × List (B8)) : Exit := (.exit 0)
def qj_1_st (o : (List (T484d)) × List (B8) × Unit × List (List (B8)) × List (B8)) : St := ⟨[(5, (.ptr 2 []))], [.row Y484d o.1 true, .row Yh o.2.1 true, .box Y6488 (.node (.own 1 []) (.node (.own 3 []) (.node (.own 4 []) (.node .nil (.node (.own 0 []) (.node .nil (.node .nil (.v .unit o.2.2.1)))))))) true, .row Ybb o.2.2.2.1 true, .row .str o.2.2.2.2 true], 46, 2⟩
theorem qj_1_body {x0 x1 x2 x3 x4 x5 x6 r} (h : qj_1_step x0 x1 x2 x3 x4 x5 x6 = some r) : J09 prog (J0z (J0q f25) [1, 1, 0, 1, 0, 0]) (x1, x5, x6) r (fun s => qj_1_in x0 s.1 x2 x3 x4 s.2.1 s.2.2) qj_1_ex qj_1_st := by
 unfold qj_1_step at h
 rcases J2w h with ⟨h2, h⟩ | ⟨h2, h⟩
 ·obtain ⟨h3, h⟩ := J4b h
  obtain ⟨h4, h⟩ := J4b h
  obtain ⟨h5, h⟩ := J4b h
  obtain ⟨u6, h7, h⟩ := andThen_ok h q2d_ok
  obtain ⟨h8, h⟩ := J4b h
  cases h
  exact .next (env.cd [b1, .pre p10, .pre p11, cI h7 [] [] [] false, .sel [1, 5, 12, 13, 14] [0, 1, 2, 10, 7]] (.c h2 (.c h3 (.c h4 (.c h5 (.c h7 (.c h8 .n)))))))
 ·cases h
  exact .out (by intro e; simp [qj_1_ex] at e) (env.cd [b0, .sel [5] [0, 1, 2, 3, 4]] (.c h2 .n))
theorem qj_1_ok {x0 x1 x2 x3 x4 x5 x6 o} (h : qj_1 x0 x1 x2 x3 x4 x5 x6 = some o) : J03 prog (J0z (J0q f25) [1, 1, 0, 1, 0]) (qj_1_in x0 x1 x2 x3 x4 x5 x6) (qj_1_ex o) (qj_1_st o) := J06.of_stepR (fun _ _ h => qj_1_body h) _ _ h
theorem qj_ok {a0 a1 u} (h : qj a0 a1 = some u) : CallC prog 25 [(.own 0 []), (.own 1 [])] [.row Y484d a0 true, .row Yh a1 true] ((.ptr 2 [])) ([.row Y484d u.1 true, .row Yh u.2.1 true, .box Y6488 (.node (.own 1 []) (.node (.own 3 []) (.node (.own 4 []) (.node .nil (.node (.own 0 []) (.node .nil (.node .nil (.v .unit u.2.2.1)))))))) true, .row Ybb u.2.2.2.1 true, .row .str u.2.2.2.2 true]) := by
 unfold qj at h
 obtain ⟨o9, h10, h⟩ := andThen_ok h qj_1_ok
 cases h
 exact env.fn can25 [.asis, .dive, .J5j 2 [.fld 1], .J5j 2 [.fld 2], .sel [1, 5, 12, 13, 14] [0, 1, 2, 3, 4], pI h10] [.sel [0, 1, 2, 3, 4]] (.c h10 .n)
theorem can4 : CanF prog 4 f4 := ⟨func4, _, func4, by kernel_rfl, by kernel_rfl⟩
def q1v_1_in (x0 : Int) (x1 : Int) (x2 : List (T484d)) (x3 : List (B8)) : St := ⟨[(3, (.own 0 [])), (4, (.own 1 [])), (11, (.v (.int .i64) x0)), (12, (.v (.int .i64) x1))], [.row Y484d x2 true, .row Yh x3 true], 43, 0⟩
def q1v_1_ex (o : (List (T484d)) × List (B8)) : Exit := (.exit 0)
def q1v_1_st (o : (List (T484d)) × List (B8)) : St := ⟨[(3, (.own 0 [])), (4, (.own 1 []))], [.row Y484d o.1 true, .row Yh o.2 true], 43, 0⟩
theorem q1v_1_body {x0 x1 x2 x3 r} (h : q1v_1_step x0 x1 x2 x3 = some r) : J09 prog (J0z (J0q f4) [1, 1, 1, 0, 1, 0, 0]) (x1, x3) r (fun s => q1v_1_in x0 s.1 x2 s.2) q1v_1_ex q1v_1_st := by
 unfold q1v_1_step at h
 rcases J2w h with ⟨h4, h⟩ | ⟨h4, h⟩
 ·obtain ⟨u5, h6, h⟩ := andThen_ok h q2c_ok
  obtain ⟨h7, h⟩ := J4b h
  cases h
  exact .next (env.cd [b1, cI h6 [] [] [] true, .sel [3, 4, 11, 12] [0, 3]] (.c h4 (.c h6 (.c h7 .n))))
 ·cases h
  exact .out (by intro e; simp [q1v_1_ex] at e) (env.cd [b0, .sel [3, 4] [0, 1]] (.c h4 .n))
theorem q1v_1_ok {x0 x1 x2 x3 o} (h : q1v_1 x0 x1 x2 x3 = some o) : J03 prog (J0z (J0q f4) [1, 1, 1, 0, 1, 0]) (q1v_1_in x0 x1 x2 x3) (q1v_1_ex o) (q1v_1_st o) := J06.of_stepR (fun _ _ h => q1v_1_body h) _ _ h
def q1v_2_in (x0 : Int) (x1 : Int) (x2 : List (T484d)) (x3 : Unit) (x4 : List (B8)) (x5 : List (List (B8))) (x6 : List (B8)) : St := ⟨[(3, (.own 0 [])), (6, (.ptr 1 [])), (25, (.v (.int .i64) x0)), (26, (.v (.int .i64) x1))], [.row Y484d x2 true, .box Y6488 (.node (.own 2 []) (.node (.own 3 []) (.node (.own 4 []) (.node .nil (.node (.own 0 []) (.node .nil (.node .nil (.v .unit x3)))))))) true, .row Yh x4 true, .row Ybb x5 true, .row .str x6 true], 43, 0⟩
def q1v_2_ex (o : Unit × List (B8) × List (List (B8)) × List (B8) × List (T484d)) : Exit := (.exit 2)
def q1v_2_st (o : Unit × List (B8) × List (List (B8)) × List (B8) × List (T484d)) : St := ⟨[(6, (.ptr 0 []))], [.box Y6488 (.node (.own 1 []) (.node (.own 2 []) (.node (.own 3 []) (.node .nil (.node (.own 4 []) (.node .nil (.node .nil (.v .unit o.1)))))))) true, .row Yh o.2.1 true, .row Ybb o.2.2.1 true, .row .str o.2.2.2.1 true, .row Y484d o.2.2.2.2 true], 43, 0⟩
theorem q1v_2_body {x0 x1 x2 x3 x4 x5 x6 r} (h : q1v_2_step x0 x1 x2 x3 x4 x5 x6 = some r) : J09 prog (J0z (J0q f4) [1, 1, 1, 1, 1, 0, 1, 0, 0]) (x1, x2) r (fun s => q1v_2_in x0 s.1 s.2 x3 x4 x5 x6) q1v_2_ex q1v_2_st := by
 unfold q1v_2_step at h
 rcases J2w h with ⟨h13, h⟩ | ⟨h13, h⟩
 ·obtain ⟨h14, h⟩ := J4b h
  obtain ⟨u15, h16, h⟩ := andThen_ok h q2e_ok
  obtain ⟨h17, h⟩ := J4b h
  cases h
  exact .next (env.cd [b1, cI h16 [] [] [] true, .sel [3, 6, 25, 26] [0, 1, 2, 3, 4]] (.c h13 (.c h14 (.c h16 (.c h17 .n)))))
 ·cases h
  exact .out (by intro e; simp [q1v_2_ex] at e) (env.cd [b0, .sel [6] [1, 2, 3, 4, 0]] (.c h13 .n))
theorem q1v_2_ok {x0 x1 x2 x3 x4 x5 x6 o} (h : q1v_2 x0 x1 x2 x3 x4 x5 x6 = some o) : J03 prog (J0z (J0q f4) [1, 1, 1, 1, 1, 0, 1, 0]) (q1v_2_in x0 x1 x2 x3 x4 x5 x6) (q1v_2_ex o) (q1v_2_st o) := J06.of_stepR (fun _ _ h => q1v_2_body h) _ _ h
theorem q1v_ok {a0 u} (h : q1v a0 = some u) : CallC prog 4 [(.v (.slice (.int .i64)) a0)] [] ((.ptr 0 [])) ([.box Y6488 (.node (.own 1 []) (.node (.own 2 []) (.node (.own 3 []) (.node .nil (.node (.own 4 []) (.node .nil (.node .nil (.v .unit u.1)))))))) true, .row Yh u.2.1 true, .row Ybb u.2.2.1 true, .row .str u.2.2.2.1 true, .row Y484d u.2.2.2.2 true]) := by
 unfold q1v at h
 obtain ⟨u1, h2, h⟩ := andThen_ok h q2j_ok
 obtain ⟨o8, h9, h⟩ := andThen_ok h q1v_1_ok
 obtain ⟨u10, h11, h⟩ := andThen_ok h qj_ok
 obtain ⟨o18, h19, h⟩ := andThen_ok h q1v_2_ok
 cases h
 exact env.fn can4 [cI h2 [] [] [] true, .dive, .promote 4 Yh, .sel [3, 4, 11, 12] [0, 1], pI h9, cI h11 [] [0, 1] [] false, .dive, .sel [3, 6, 25, 26] [0, 2, 1, 3, 4], pI h19] [.sel [0, 1, 2, 3, 4]] (.c h2 (.c h9 (.c h11 (.c h19 .n))))
theorem can62 : CanF prog 62 f62 := ⟨func62, _, func62, by kernel_rfl, by kernel_rfl⟩
theorem q29_ok {u} (h : q29  = some u) : CallC prog 62 [] [] ((.own 0 [])) ([.row .str u true]) := by
 unfold q29 at h
 cases h
 exact env.fn can62 [] s1 .n
theorem can32 : CanF prog 32 f32 := ⟨func32, _, func32, by kernel_rfl, by kernel_rfl⟩
theorem q2i_ok {a0 u} (h : q2i a0 = some u) : CallC prog 32 [(.v (.int .i64) a0)] [] ((.v .str u)) ([]) := by
 unfold q2i at h
 obtain ⟨u1, h2, h⟩ := andThen_ok h q29_ok
 obtain ⟨u3, h4, h⟩ := andThen_ok h q29_ok
 obtain ⟨u5, h6, h⟩ := andThen_ok h q1s_ok
 obtain ⟨h7, h⟩ := J4b h
 cases h
 exact env.fn can32 [cI h2 [] [] [] true, cI h4 [] [] [] true, cI h6 [] [] [] true] s0 (.c h2 (.c h4 (.c h6 (.c h7 .n))))
theorem can33 : CanF prog 33 f33 := ⟨func33, _, func33, by kernel_rfl, by kernel_rfl⟩
theorem q2a_ok {a0 u} (h : q2a a0 = some u) : CallC prog 33 [(.v (.int .i64) a0)] [] ((.v .str u)) ([]) := by
 unfold q2a at h
 obtain ⟨u1, h2, h⟩ := andThen_ok h q1s_ok
 obtain ⟨h3, h⟩ := J4b h
 cases h
 exact env.fn can33 [cI h2 [] [] [] true] s0 (.c h2 (.c h3 .n))
theorem can6 : CanF prog 6 f6 := ⟨func6, _, func6, by kernel_rfl, by kernel_rfl⟩
theorem q22_ok {a0 u} (h : q22 a0 = some u) : CallC prog 6 [(.v Y1a67 a0)] [] ((.v Y011a u)) ([]) := by
 unfold q22 at h
 obtain ⟨u1, h2, h⟩ := andThen_ok h q1s_ok
 obtain ⟨u3, h4, h⟩ := andThen_ok h q1s_ok
 obtain ⟨u5, h6, h⟩ := andThen_ok h q1s_ok
 let i1 : List It := [.pre p12, .asis, cI h2 [] [] [] true, .asis, cI h4 [] [] [] true, .asis, cI h6 [] [] [] true]
 have e2 := (AllP.c rn (AllP.c h2 (AllP.c rn (AllP.c h4 (AllP.c rn (AllP.c h6 AllP.n))))))
 rcases J2w h with ⟨h7, h⟩ | ⟨h7, h⟩
 ·obtain ⟨u8, h9, h⟩ := andThen_ok h q2i_ok
  obtain ⟨u10, h11, h⟩ := andThen_ok h q2a_ok
  cases h
  exact env.fn can6 (i1 ++ [b1, .pre p13, .asis, cI h9 [] [] [] true, .asis, cI h11 [] [] [] true]) s0 (e2.app (.c h7 (.c rn (.c h9 (.c rn (.c h11 .n))))))
 ·rcases J2w h with ⟨h12, h⟩ | ⟨h12, h⟩
  ·obtain ⟨u13, h14, h⟩ := andThen_ok h q2i_ok
   cases h
   exact env.fn can6 (i1 ++ [b0, b1, cI h14 [] [] [] true]) s0 (e2.app (.c h7 (.c h12 (.c h14 .n))))
  ·rcases J2w h with ⟨h15, h⟩ | ⟨h15, h⟩
   ·obtain ⟨u16, h17, h⟩ := andThen_ok h q1y_ok
    obtain ⟨u18, h19, h⟩ := andThen_ok h q1s_ok
    obtain ⟨h20, h⟩ := J4b h
    obtain ⟨u21, h22, h⟩ := andThen_ok h q1s_ok
    cases h
    exact env.fn can6 (i1 ++ [b0, b0, b1, .pre p14, cI h17 [] [] [] true, .asis, cI h19 [] [] [] true, .asis, cI h22 [] [] [] true]) s0 (e2.app (.c h7 (.c h12 (.c h15 (.c h17 (.c rn (.c h19 (.c h20 (.c rn (.c h22 .n))))))))))
   ·obtain ⟨u23, h24, h⟩ := andThen_ok h q1s_ok
    obtain ⟨h25, h⟩ := J4b h
    cases h
    exact env.fn can6 (i1 ++ [b0, b0, b0, cI h24 [] [] [] true]) s0 (e2.app (.c h7 (.c h12 (.c h15 (.c h24 (.c h25 .n))))))
theorem can27 : CanF prog 27 f27 := ⟨func27, _, func27, by kernel_rfl, by kernel_rfl⟩
theorem q12_ok {a0 u} (h : q12 a0 = some u) : CallC prog 27 [(.v Y18c3 a0)] [] ((.v .bool u)) ([]) := by
 unfold q12 at h
 rcases J2w h with ⟨h1, h⟩ | ⟨h1, h⟩
 ·rcases J2w h with ⟨h2, h⟩ | ⟨h2, h⟩
  ·cases h
   exact env.fn can27 [b1, b1, b1, b1, b1, b1, b1, b1, b1, b1] s0 (.c h1 (.c h1 (.c h1 (.c h1 (.c h1 (.c h2 (.c h2 (.c h2 (.c h2 (.c h2 .n))))))))))
  ·cases h
   exact env.fn can27 [b1, b1, b1, b1, b1, b0, b0, b0, b0, b0] s0 (.c h1 (.c h1 (.c h1 (.c h1 (.c h1 (.c h2 (.c h2 (.c h2 (.c h2 (.c h2 .n))))))))))
 ·cases h
  exact env.fn can27 [b0, b0, b0, b0, b0, b0, b0, b0, b0, b0] s0 (.c h1 (.c h1 (.c h1 (.c h1 (.c h1 (.c r0 (.c r0 (.c r0 (.c r0 (.c r0 .n))))))))))
theorem can28 : CanF prog 28 f28 := ⟨func28, _, func28, by kernel_rfl, by kernel_rfl⟩
theorem q1b_ok {a0 u} (h : q1b a0 = some u) : CallC prog 28 [(.v .str a0)] [] ((.v .bool u)) ([]) := by
 unfold q1b at h
 rcases J2w h with ⟨h1, h⟩ | ⟨h1, h⟩
 ·obtain ⟨h2, h⟩ := J4b h
  cases h
  exact env.fn can28 [b1, b1, b0, b1, b1] s0 (.c h1 (.c h1 (.c h2 (.c h1 (.c h1 .n)))))
 ·cases h
  exact env.fn can28 [b0, b0, b0, b0] s0 (.c h1 (.c h1 (.c h1 (.c h1 .n))))
theorem can58 : CanF prog 58 f58 := ⟨func58, _, func58, by kernel_rfl, by kernel_rfl⟩
def q1w_1_in (x0 : List (T18c3)) (x1 : B8) (x2 : Int) : St := ⟨[(0, (.v (.slice Y18c3) x0)), (1, (.v .str x1)), (5, (.v (.int .i64) x2))], [], 22, 0⟩
def q1w_1_ex (o : Int) : Exit := (.exit 0)
def q1w_1_st (o : Int) : St := ⟨[(5, (.v (.int .i64) o))], [], 22, 0⟩
theorem q1w_1_body {x0 x1 x2 r} (h : q1w_1_step x0 x1 x2 = some r) : J09 prog (J0z (J0q f58) [1, 1, 0, 0, 0]) x2 r (fun s => q1w_1_in x0 x1 s) q1w_1_ex q1w_1_st := by
 unfold q1w_1_step at h
 rcases J2w h with ⟨h2, h⟩ | ⟨h2, h⟩
 ·obtain ⟨h3, h⟩ := J4b h
  have e1 := (AllP.c h2 (AllP.c h2 (AllP.c h2 (AllP.c h3 (AllP.c h2 (AllP.c h2 (AllP.c h2 (AllP.c h2 (AllP.c h2 AllP.n)))))))))
  rcases J2w h with ⟨h4, h⟩ | ⟨h4, h⟩
  ·cases h
   exact .next (env.cd [b1, b1, b1, b1, b1, b1, b1, b1, b1, .dive, .sel [0, 1, 5] []] (e1.app (.c h4 .n)))
  ·cases h
   exact .out (by intro e; simp [q1w_1_ex] at e) (env.cd [b1, b1, b1, b1, b1, b1, b1, b1, b0, .sel [5] []] (e1.app (.c h4 .n)))
 ·cases h
  exact .out (by intro e; simp [q1w_1_ex] at e) (env.cd [b0, b0, b0, b0, b0, b0, b0, b0, b0, .sel [5] []] (.c h2 (.c h2 (.c h2 (.c h2 (.c h2 (.c h2 (.c h2 (.c h2 (.c r0 .n))))))))))
theorem q1w_1_ok {x0 x1 x2 o} (h : q1w_1 x0 x1 x2 = some o) : J03 prog (J0z (J0q f58) [1, 1, 0, 0]) (q1w_1_in x0 x1 x2) (q1w_1_ex o) (q1w_1_st o) := J06.of_stepR (fun _ _ h => q1w_1_body h) _ _ h
theorem q1w_ok {a0 a1 u} (h : q1w a0 a1 = some u) : CallC prog 58 [(.v (.slice Y18c3) a0), (.v .str a1)] [] ((.v (.int .i64) u)) ([]) := by
 unfold q1w at h
 obtain ⟨o5, h6, h⟩ := andThen_ok h q1w_1_ok
 cases h
 exact env.fn can58 [.dive, .sel [0, 1, 5] [], pI h6] s0 (.c h6 .n)
theorem can29 : CanF prog 29 f29 := ⟨func29, _, func29, by kernel_rfl, by kernel_rfl⟩
theorem q2n_ok {a0 a1 u} (h : q2n a0 a1 = some u) : CallC prog 29 [(.v (.slice Y18c3) a0), (.v Y18c3 a1)] [] ((.own 0 [])) ([.row Y18c3 u true]) := by
 unfold q2n at h
 obtain ⟨u1, h2, h⟩ := andThen_ok h q1w_ok
 obtain ⟨h3, h⟩ := J4b h
 let i1 : List It := [cI h2 [] [] [] true, b0, .pre p15]
 rcases J2w h with ⟨h4, h⟩ | ⟨h4, h⟩
 ·obtain ⟨h5, h⟩ := J4b h
  have e2 := (AllP.c h2 (AllP.c h3 (AllP.c h4 (AllP.c h4 (AllP.c h4 (AllP.c h5 (AllP.c h4 (AllP.c h4 (AllP.c h4 (AllP.c h4 (AllP.c h4 (AllP.c h4 AllP.n))))))))))))
  rcases J2w h with ⟨h6, h⟩ | ⟨h6, h⟩
  ·obtain ⟨h7, h⟩ := J4b h
   obtain ⟨h8, h⟩ := J4b h
   obtain ⟨h9, h⟩ := J4b h
   obtain ⟨h10, h⟩ := J4b h
   obtain ⟨h11, h⟩ := J4b h
   cases h
   exact env.fn can29 (i1 ++ [b1, b1, b1, b1, b1, b1, b1, b1, b1, b1, b0, .pre p16, b0]) [.sel [5]] (e2.app (.c h6 (.c h7 (.c h8 (.c h9 (.c h10 (.c h11 .n)))))))
  ·obtain ⟨h12, h⟩ := J4b h
   obtain ⟨h13, h⟩ := J4b h
   obtain ⟨h14, h⟩ := J4b h
   obtain ⟨h15, h⟩ := J4b h
   cases h
   exact env.fn can29 (i1 ++ [b1, b1, b1, b1, b1, b1, b1, b1, b1, b0, .pre p16, b0]) [.sel [5]] (e2.app (.c h6 (.c h12 (.c h13 (.c h14 (.c h15 .n))))))
 ·obtain ⟨h16, h⟩ := J4b h
  obtain ⟨h17, h⟩ := J4b h
  obtain ⟨h18, h⟩ := J4b h
  obtain ⟨h19, h⟩ := J4b h
  cases h
  exact env.fn can29 (i1 ++ [b0, b0, b0, b0, b0, b0, b0, b0, b0, b0, .pre p16, b0]) [.sel [5]] (.c h2 (.c h3 (.c h4 (.c h4 (.c h4 (.c h4 (.c h4 (.c h4 (.c h4 (.c h4 (.c h4 (.c r0 (.c h16 (.c h17 (.c h18 (.c h19 .n))))))))))))))))
theorem can30 : CanF prog 30 f30 := ⟨func30, _, func30, by kernel_rfl, by kernel_rfl⟩
def q2l_1_in (x0 : B8) (x1 : List (T18c3)) (x2 : Int) (x3 : Int) (x4 : List (T18c3)) : St := ⟨[(1, (.v .str x0)), (5, (.own 0 [])), (8, (.v (.slice Y18c3) x1)), (9, (.v (.int .i64) x2)), (10, (.v (.int .i64) x3))], [.row Y18c3 x4 true], 24, 0⟩
def q2l_1_ex (o : List (T18c3)) : Exit := (.exit 0)
def q2l_1_st (o : List (T18c3)) : St := ⟨[(5, (.own 0 []))], [.row Y18c3 o true], 24, 0⟩
theorem q2l_1_body {x0 x1 x2 x3 x4 r} (h : q2l_1_step x0 x1 x2 x3 x4 = some r) : J09 prog (J0z (J0q f30) [1, 1, 0, 1, 0, 0]) (x3, x4) r (fun s => q2l_1_in x0 x1 x2 s.1 s.2) q2l_1_ex q2l_1_st := by
 unfold q2l_1_step at h
 rcases J2w h with ⟨h2, h⟩ | ⟨h2, h⟩
 ·obtain ⟨h3, h⟩ := J4b h
  rcases J2w h with ⟨h4, h⟩ | ⟨h4, h⟩
  ·obtain ⟨h5, h⟩ := J4b h
   cases h
   exact .next (env.cd [b1, b1, .sel [1, 5, 8, 9, 10] [3]] (.c h2 (.c h3 (.c h4 (.c h5 .n)))))
  ·cases h
   exact .next (env.cd [b1, b0, .sel [1, 5, 8, 9, 10] [0]] (.c h2 (.c h3 (.c h4 .n))))
 ·cases h
  exact .out (by intro e; simp [q2l_1_ex] at e) (env.cd [b0, .sel [5] [0]] (.c h2 .n))
theorem q2l_1_ok {x0 x1 x2 x3 x4 o} (h : q2l_1 x0 x1 x2 x3 x4 = some o) : J03 prog (J0z (J0q f30) [1, 1, 0, 1, 0]) (q2l_1_in x0 x1 x2 x3 x4) (q2l_1_ex o) (q2l_1_st o) := J06.of_stepR (fun _ _ h => q2l_1_body h) _ _ h
theorem q2l_ok {a0 a1 u} (h : q2l a0 a1 = some u) : CallC prog 30 [(.v (.slice Y18c3) a0), (.v .str a1)] [] ((.own 0 [])) ([.row Y18c3 u true]) := by
 unfold q2l at h
 obtain ⟨o6, h7, h⟩ := andThen_ok h q2l_1_ok
 cases h
 exact env.fn can30 [.dive, .promote 5 Y18c3, .sel [1, 5, 8, 9, 10] [0], pI h7] s1 (.c h7 .n)
theorem can85 : CanF prog 85 f85 := ⟨func85, _, func85, by kernel_rfl, by kernel_rfl⟩
def q1a_1_in (x0 : B8) (x1 : Int) (x2 : Int) : St := ⟨[(0, (.v .str x0)), (4, (.v (.int .i64) x1)), (5, (.v (.int .i64) x2))], [], 46, 0⟩
def q1a_1_ex (o : (Int × Int) ⊕ (Unit)) : Exit := match (generalizing := false) o with | (.inl o) => .ret | (.inr o) => (.exit 0)
def q1a_1_st (o : (Int × Int) ⊕ (Unit)) : St := match (generalizing := false) o with | (.inl o) => ⟨[(2, (.v (.int .i64) o.1)), (3, (.v (.int .i64) o.2))], [], 46, 0⟩ | (.inr o) => ⟨[], [], 46, 0⟩
theorem q1a_1_body {x0 x1 x2 r} (h : q1a_1_step x0 x1 x2 = some r) : J09 prog (J0z (J0q f85) [1, 1, 0, 1, 0, 0]) (x1, x2) r (fun s => q1a_1_in x0 s.1 s.2) q1a_1_ex q1a_1_st := by
 unfold q1a_1_step at h
 rcases J2w h with ⟨h2, h⟩ | ⟨h2, h⟩
 ·let i1 : List It := [b1, b1, b1]
  have e2 := (AllP.c h2 (AllP.c h2 (AllP.c h2 AllP.n)))
  rcases J2w h with ⟨h3, h⟩ | ⟨h3, h⟩
  ·obtain ⟨h4, h⟩ := J4b h
   obtain ⟨h5, h⟩ := J4b h
   have e3 := e2.app (.c h3 (.c h4 (.c h5 (.c h4 .n))))
   rcases J2w h with ⟨h6, h⟩ | ⟨h6, h⟩
   ·rcases J2w h with ⟨h7, h⟩ | ⟨h7, h⟩
    ·let i4 : List It := i1 ++ [b1, b1, b1, b1, b1, b1, b1]
     have e5 := e3.app (.c h6 (.c h7 (.c h7 (.c h7 (.c h4 (.c h7 (.c h7 .n)))))))
     rcases J2w h with ⟨h8, h⟩ | ⟨h8, h⟩
     ·cases h
      exact .out (by intro e; simp [q1a_1_ex] at e) (env.cd (i4 ++ [b1, b1, b1, b1, .sel [2, 3] []]) (e5.app (.c h8 (.c h8 (.c h8 (.c r1 .n))))))
     ·rcases J2w h with ⟨h9, h⟩ | ⟨h9, h⟩
      ·cases h
       exact .out (by intro e; simp [q1a_1_ex] at e) (env.cd (i4 ++ [b0, b0, b0, b1, .sel [2, 3] []]) (e5.app (.c h8 (.c h8 (.c h8 (.c h9 .n))))))
      ·cases h
       exact .out (by intro e; simp [q1a_1_ex] at e) (env.cd (i4 ++ [b0, b0, b0, b0, .sel [2, 3] []]) (e5.app (.c h8 (.c h8 (.c h8 (.c h9 .n))))))
    ·have e4 := e3.app (.c h6 (.c h7 (.c h7 (.c h7 (.c h7 (.c h7 (.c r0 (.c r0 (.c r0 .n)))))))))
     rcases J2w h with ⟨h10, h⟩ | ⟨h10, h⟩
     ·cases h
      exact .out (by intro e; simp [q1a_1_ex] at e) (env.cd (i1 ++ [b1, b1, b0, b0, b0, b0, b0, b0, b0, b0, b1, .sel [2, 3] []]) (e4.app (.c h10 .n)))
     ·cases h
      exact .out (by intro e; simp [q1a_1_ex] at e) (env.cd (i1 ++ [b1, b1, b0, b0, b0, b0, b0, b0, b0, b0, b0, .sel [2, 3] []]) (e4.app (.c h10 .n)))
   ·cases h
    exact .next (env.cd (i1 ++ [b1, b0, .sel [0, 4, 5] []]) (e3.app (.c h6 .n)))
  ·cases h
   exact .out (by intro e; simp [q1a_1_ex] at e) (env.cd (i1 ++ [b0, .sel [] []]) (e2.app (.c h3 .n)))
 ·cases h
  exact .out (by intro e; simp [q1a_1_ex] at e) (env.cd [b0, b0, b0, b0, .sel [] []] (.c h2 (.c h2 (.c h2 (.c r0 .n)))))
theorem q1a_1_ok {x0 x1 x2 o} (h : q1a_1 x0 x1 x2 = some o) : J03 prog (J0z (J0q f85) [1, 1, 0, 1, 0]) (q1a_1_in x0 x1 x2) (q1a_1_ex o) (q1a_1_st o) := J06.of_stepR (fun _ _ h => q1a_1_body h) _ _ h
theorem q1a_ok {a0 u} (h : q1a a0 = some u) : CallC prog 85 [(.v .str a0)] [] ((.tup (.v (.int .i64) u.1) (.tup (.v (.int .i64) u.2) .tnil))) ([]) := by
 unfold q1a at h
 obtain ⟨o11, h12, h⟩ := andThen_ok h q1a_1_ok
 rcases o11 with o13 | o14
 ·cases h
  exact env.fn can85 [.dive, .sel [0, 4, 5] [], pI h12] s0 (.c h12 .n)
 ·cases h
  exact env.fn can85 [.dive, .sel [0, 4, 5] [], pI h12] s0 (.c h12 .n)
theorem can59 : CanF prog 59 f59 := ⟨func59, _, func59, by kernel_rfl, by kernel_rfl⟩
theorem qw_ok {a0 u} (h : qw a0 = some u) : CallC prog 59 [(.v .str a0)] [] ((.tup (.v (.int .i64) u.1) (.tup (.v (.int .i64) u.2.1) (.tup (.v .bool u.2.2) .tnil)))) ([]) := by
 unfold qw at h
 obtain ⟨u1, h2, h⟩ := andThen_ok h q1a_ok
 let i1 : List It := [cI h2 [] [] [] true]
 rcases J2w h with ⟨h3, h⟩ | ⟨h3, h⟩
 ·cases h
  exact env.fn can59 (i1 ++ [b1]) s0 (.c h2 (.c h3 .n))
 ·obtain ⟨h4, h⟩ := J4b h
  obtain ⟨u5, h6, h⟩ := andThen_ok h q1a_ok
  let i2 : List It := i1 ++ [b0, b0, cI h6 [] [] [] true]
  have e3 := (AllP.c h2 (AllP.c h3 (AllP.c h4 (AllP.c h6 AllP.n))))
  rcases J2w h with ⟨h7, h⟩ | ⟨h7, h⟩
  ·cases h
   exact env.fn can59 (i2 ++ [b1, b1, b1, b1, b1, b1, b1, b1, b1, b1, b1, b1, b1, b1]) s0 (e3.app (.c h7 (.c h7 (.c h7 (.c h7 (.c h7 (.c h7 (.c h7 (.c r1 (.c r1 (.c r1 (.c r1 (.c r1 (.c r1 (.c r1 .n)))))))))))))))
  ·let i4 : List It := i2 ++ [b0, b0, b0, b0, b0, b0, b0]
   have e5 := e3.app (.c h7 (.c h7 (.c h7 (.c h7 (.c h7 (.c h7 (.c h7 .n)))))))
   rcases J2w h with ⟨h8, h⟩ | ⟨h8, h⟩
   ·cases h
    exact env.fn can59 (i4 ++ [b1, b1, b1, b1, b1, b1, b1]) s0 (e5.app (.c h8 (.c h8 (.c h8 (.c r1 (.c r1 (.c r1 (.c r1 .n))))))))
   ·rcases J2w h with ⟨h9, h⟩ | ⟨h9, h⟩
    ·cases h
     exact env.fn can59 (i4 ++ [b0, b0, b0, b1, b1, b1, b1]) s0 (e5.app (.c h8 (.c h8 (.c h8 (.c h9 (.c h9 (.c h9 (.c r1 .n))))))))
    ·rcases J2w h with ⟨h10, h⟩ | ⟨h10, h⟩
     ·cases h
      exact env.fn can59 (i4 ++ [b0, b0, b0, b0, b0, b0, b1]) s0 (e5.app (.c h8 (.c h8 (.c h8 (.c h9 (.c h9 (.c h9 (.c h10 .n))))))))
     ·cases h
      exact env.fn can59 (i4 ++ [b0, b0, b0, b0, b0, b0, b0]) s0 (e5.app (.c h8 (.c h8 (.c h8 (.c h9 (.c h9 (.c h9 (.c h10 .n))))))))
theorem can66 : CanF prog 66 f66 := ⟨func66, _, func66, by kernel_rfl, by kernel_rfl⟩
theorem q1x_ok : ∀ k a0 u, q1x k a0 = some u → CallC prog 66 [(.v (.int .i64) a0)] [] ((.own 0 [])) ([.row (.int .u8) u true])
 | 0, a0, u, h => by cases h
 | k + 1, a0, u, h => by
  unfold q1x at h
  rcases J2w h with ⟨h1, h⟩ | ⟨h1, h⟩
  ·cases h
   exact env.fn can66 [b1, b1, b1, b1] [.promote (.int .u8), .sel [0]] (.c h1 (.c h1 (.c h1 (.c r1 .n))))
  ·rcases J2w h with ⟨h2, h⟩ | ⟨h2, h⟩
   ·cases h
    exact env.fn can66 [b0, b0, b0, b1] [.promote (.int .u8), .sel [0]] (.c h1 (.c h1 (.c h1 (.c h2 .n))))
   ·rcases J2w h with ⟨h3, h⟩ | ⟨h3, h⟩
    ·cases h
     exact env.fn can66 [b0, b0, b0, b0, b1] s1 (.c h1 (.c h1 (.c h1 (.c h2 (.c h3 .n)))))
    ·obtain ⟨u4, h5, h⟩ := andThen_ok h (q1x_ok k _ _)
     obtain ⟨h6, h⟩ := J4b h
     cases h
     exact env.fn can66 [b0, b0, b0, b0, b0, cI h5 [] [] [] true] [.sel [2]] (.c h1 (.c h1 (.c h1 (.c h2 (.c h3 (.c (of_decide_eq_true (p := (0 ≤ (7 : Int))) (by kernel_rfl)) (.c h5 (.c h6 .n))))))))
theorem q2k_ok {a0 u} (h : q2k a0 = some u) : CallC prog 66 [(.v (.int .i64) a0)] [] ((.own 0 [])) ([.row (.int .u8) u true]) := q1x_ok 64 _ _ h
theorem can60 : CanF prog 60 f60 := ⟨func60, _, func60, by kernel_rfl, by kernel_rfl⟩
theorem q1c_ok {a0 a1 u} (h : q1c a0 a1 = some u) : CallC prog 60 [(.v (.int .i64) a0), (.v (.int .i64) a1)] [] ((.v .str u)) ([]) := by
 unfold q1c at h
 obtain ⟨u1, h2, h⟩ := andThen_ok h q2k_ok
 obtain ⟨u3, h4, h⟩ := andThen_ok h q2k_ok
 obtain ⟨h5, h⟩ := J4b h
 cases h
 exact env.fn can60 [cI h2 [] [] [] true, cI h4 [] [] [] true] s0 (.c h2 (.c h4 (.c h5 .n)))
theorem can61 : CanF prog 61 f61 := ⟨func61, _, func61, by kernel_rfl, by kernel_rfl⟩
def q18_1_in (x0 : Int) (x1 : List (T18c3)) (x2 : Int) (x3 : Int) : St := ⟨[(4, (.v (.int .i64) x0)), (10, (.v (.slice Y18c3) x1)), (11, (.v (.int .i64) x2)), (12, (.v (.int .i64) x3))], [], 38, 0⟩
def q18_1_ex (o : (Int × Bool) ⊕ (Int)) : Exit := match (generalizing := false) o with | (.inl o) => .ret | (.inr o) => (.exit 0)
def q18_1_st (o : (Int × Bool) ⊕ (Int)) : St := match (generalizing := false) o with | (.inl o) => ⟨[(2, (.v (.int .i64) o.1)), (3, (.v .bool o.2))], [], 38, 0⟩ | (.inr o) => ⟨[(4, (.v (.int .i64) o))], [], 38, 0⟩
theorem q18_1_body {x0 x1 x2 x3 r} (h : q18_1_step x0 x1 x2 x3 = some r) : J09 prog (J0z (J0q f61) [1, 1, 0, 1, 0, 0]) (x0, x3) r (fun s => q18_1_in s.1 x1 x2 s.2) q18_1_ex q18_1_st := by
 unfold q18_1_step at h
 rcases J2w h with ⟨h2, h⟩ | ⟨h2, h⟩
 ·obtain ⟨h3, h⟩ := J4b h
  obtain ⟨u4, h5, h⟩ := andThen_ok h q1b_ok
  let i1 : List It := [b1, cI h5 [] [] [] true]
  rcases J2w h with ⟨h6, h⟩ | ⟨h6, h⟩
  ·cases h
   exact .next (env.cd (i1 ++ [b1, .sel [4, 10, 11, 12] []]) (.c h2 (.c h3 (.c h5 (.c h6 .n)))))
  ·obtain ⟨u7, h8, h⟩ := andThen_ok h qw_ok
   rcases J2w h with ⟨h9, h⟩ | ⟨h9, h⟩
   ·cases h
    exact .out (by intro e; simp [q18_1_ex] at e) (env.cd (i1 ++ [b0, cI h8 [] [] [] true, b1, .sel [2, 3] []]) (.c h2 (.c h3 (.c h5 (.c h6 (.c h8 (.c h9 .n)))))))
   ·cases h
    exact .next (env.cd (i1 ++ [b0, cI h8 [] [] [] true, b0, .sel [4, 10, 11, 12] []]) (.c h2 (.c h3 (.c h5 (.c h6 (.c h8 (.c h9 .n)))))))
 ·cases h
  exact .out (by intro e; simp [q18_1_ex] at e) (env.cd [b0, .sel [4] []] (.c h2 .n))
theorem q18_1_ok {x0 x1 x2 x3 o} (h : q18_1 x0 x1 x2 x3 = some o) : J03 prog (J0z (J0q f61) [1, 1, 0, 1, 0]) (q18_1_in x0 x1 x2 x3) (q18_1_ex o) (q18_1_st o) := J06.of_stepR (fun _ _ h => q18_1_body h) _ _ h
theorem q18_ok {a0 u} (h : q18 a0 = some u) : CallC prog 61 [(.v (.slice Y18c3) a0)] [] ((.tup (.v (.int .i64) u.1) (.tup (.v .bool u.2) .tnil))) ([]) := by
 unfold q18 at h
 obtain ⟨o10, h11, h⟩ := andThen_ok h q18_1_ok
 let i1 : List It := [.dive, .sel [4, 10, 11, 12] []]
 rcases o10 with o12 | o13
 ·cases h
  exact env.fn can61 (i1 ++ [pI h11]) s0 (.c h11 .n)
 ·rcases J2w h with ⟨h14, h⟩ | ⟨h14, h⟩
  ·cases h
   exact env.fn can61 (i1 ++ [pI h11, b1]) s0 (.c h11 (.c h14 .n))
  ·cases h
   exact env.fn can61 (i1 ++ [pI h11, b0]) s0 (.c h11 (.c h14 .n))
theorem can31 : CanF prog 31 f31 := ⟨func31, _, func31, by kernel_rfl, by kernel_rfl⟩
theorem q1l_ok {a0 a1 a2 a3 a4 u} (h : q1l a0 a1 a2 a3 a4 = some u) : CallC prog 31 [(.v (.slice Y18c3) a0), (.v (.int .i64) a1), (.v .str a2), (.v (.int .i64) a3), (.v (.int .i64) a4)] [] ((.tup (.v (.slice Y18c3) u.1) (.tup (.v (.int .i64) u.2) .tnil))) ([]) := by
 unfold q1l at h
 obtain ⟨h1, h⟩ := J4b h
 have e1 := (AllP.c h1 AllP.n)
 rcases J2w h with ⟨h2, h⟩ | ⟨h2, h⟩
 ·cases h
  exact env.fn can31 [b1, b1, b1, b1, b1, b1, b1, b1, b1, b1, b1, b1, b1, b1, b1, b1, b1] s0 (e1.app (.c h2 (.c h2 (.c h2 (.c h2 (.c r1 (.c r1 (.c r1 (.c r1 (.c r1 (.c r1 (.c r1 (.c r1 (.c r1 (.c r1 (.c r1 (.c r1 (.c r1 .n))))))))))))))))))
 ·let i2 : List It := [b0, b0, b0, b0]
  have e3 := e1.app (.c h2 (.c h2 (.c h2 (.c h2 .n))))
  rcases J2w h with ⟨h3, h⟩ | ⟨h3, h⟩
  ·cases h
   exact env.fn can31 (i2 ++ [b1, b1, b1, b1, b1, b1, b1, b1, b1, b1, b1, b1, b1]) s0 (e3.app (.c h3 (.c h3 (.c h3 (.c r1 (.c r1 (.c r1 (.c r1 (.c r1 (.c r1 (.c r1 (.c r1 (.c r1 (.c r1 .n))))))))))))))
  ·let i4 : List It := i2 ++ [b0, b0, b0]
   have e5 := e3.app (.c h3 (.c h3 (.c h3 .n)))
   rcases J2w h with ⟨h4, h⟩ | ⟨h4, h⟩
   ·cases h
    exact env.fn can31 (i4 ++ [b1, b1, b1, b1, b1, b1, b1, b1, b1, b1]) s0 (e5.app (.c h4 (.c h4 (.c h4 (.c r1 (.c r1 (.c r1 (.c r1 (.c r1 (.c r1 (.c r1 .n)))))))))))
   ·let i6 : List It := i4 ++ [b0, b0, b0]
    have e7 := e5.app (.c h4 (.c h4 (.c h4 .n)))
    rcases J2w h with ⟨h5, h⟩ | ⟨h5, h⟩
    ·cases h
     exact env.fn can31 (i6 ++ [b1, b1, b1, b1, b1, b1, b1]) s0 (e7.app (.c h5 (.c h5 (.c h5 (.c r1 (.c r1 (.c r1 (.c r1 .n))))))))
    ·let i8 : List It := i6 ++ [b0, b0, b0]
     have e9 := e7.app (.c h5 (.c h5 (.c h5 .n)))
     rcases J2w h with ⟨h6, h⟩ | ⟨h6, h⟩
     ·cases h
      exact env.fn can31 (i8 ++ [b1, b1, b1, b1]) s0 (e9.app (.c h6 (.c h6 (.c h6 (.c r1 .n)))))
     ·let i10 : List It := i8 ++ [b0, b0, b0]
      have e11 := e9.app (.c h6 (.c h6 (.c h6 .n)))
      rcases J2w h with ⟨h7, h⟩ | ⟨h7, h⟩
      ·cases h
       exact env.fn can31 (i10 ++ [b1]) s0 (e11.app (.c h7 .n))
      ·obtain ⟨u8, h9, h⟩ := andThen_ok h q1w_ok
       let i12 : List It := i10 ++ [b0, cI h9 [] [] [] true]
       have e13 := e11.app (.c h7 (.c h9 .n))
       rcases J2w h with ⟨h10, h⟩ | ⟨h10, h⟩
       ·obtain ⟨h11, h⟩ := J4b h
        let i14 : List It := i12 ++ [b1, b1, b1, b1, b1, b1, b1, b1]
        have e15 := e13.app (.c h10 (.c h10 (.c h10 (.c h11 (.c h10 (.c h10 (.c h10 (.c h10 (.c h10 .n)))))))))
        rcases J2w h with ⟨h12, h⟩ | ⟨h12, h⟩
        ·obtain ⟨u13, h14, h⟩ := andThen_ok h qw_ok
         let i16 : List It := i14 ++ [b1, cI h14 [] [] [] true]
         have e17 := e15.app (.c h12 (.c h11 (.c h14 .n)))
         rcases J2w h with ⟨h15, h⟩ | ⟨h15, h⟩
         ·cases h
          exact env.fn can31 (i16 ++ [b1]) s0 (e17.app (.c h15 .n))
         ·let i18 : List It := i16 ++ [b0]
          have e19 := e17.app (.c h15 .n)
          rcases J2w h with ⟨h16, h⟩ | ⟨h16, h⟩
          ·obtain ⟨u17, h18, h⟩ := andThen_ok h q1c_ok
           obtain ⟨u19, h20, h⟩ := andThen_ok h q2n_ok
           let i20 : List It := i18 ++ [b1, cI h18 [] [] [] true, cI h20 [] [] [] true]
           rcases J2w h with ⟨h21, h⟩ | ⟨h21, h⟩
           ·cases h
            exact env.fn can31 (i20 ++ [b1]) s0 (e19.app (.c h16 (.c h18 (.c h20 (.c h21 .n)))))
           ·obtain ⟨u22, h23, h⟩ := andThen_ok h q18_ok
            rcases J2w h with ⟨h24, h⟩ | ⟨h24, h⟩
            ·cases h
             exact env.fn can31 (i20 ++ [b0, cI h23 [] [] [0] true, b1]) s0 (e19.app (.c h16 (.c h18 (.c h20 (.c h21 (.c h23 (.c h24 .n)))))))
            ·cases h
             exact env.fn can31 (i20 ++ [b0, cI h23 [] [] [0] true, b0]) [.vals (.slice Y18c3) [(.int .i64)], .sel []] (e19.app (.c h16 (.c h18 (.c h20 (.c h21 (.c h23 (.c h24 .n)))))))
          ·let i20 : List It := i18 ++ [b0]
           have e21 := e19.app (.c h16 .n)
           rcases J2w h with ⟨h25, h⟩ | ⟨h25, h⟩
           ·rcases J2w h with ⟨h26, h⟩ | ⟨h26, h⟩
            ·cases h
             exact env.fn can31 (i20 ++ [b1, b1]) s0 (e21.app (.c h25 (.c h26 .n)))
            ·obtain ⟨u27, h28, h⟩ := andThen_ok h q1c_ok
             obtain ⟨u29, h30, h⟩ := andThen_ok h q2n_ok
             let i22 : List It := i20 ++ [b1, b0, cI h28 [] [] [] true, cI h30 [] [] [] true]
             have e23 := e21.app (.c h25 (.c h26 (.c h28 (.c h30 .n))))
             rcases J2w h with ⟨h31, h⟩ | ⟨h31, h⟩
             ·cases h
              exact env.fn can31 (i22 ++ [b1]) s0 (e23.app (.c h31 .n))
             ·obtain ⟨u32, h33, h⟩ := andThen_ok h q18_ok
              rcases J2w h with ⟨h34, h⟩ | ⟨h34, h⟩
              ·cases h
               exact env.fn can31 (i22 ++ [b0, cI h33 [] [] [0] true, b1]) s0 (e23.app (.c h31 (.c h33 (.c h34 .n))))
              ·cases h
               exact env.fn can31 (i22 ++ [b0, cI h33 [] [] [0] true, b0]) [.vals (.slice Y18c3) [(.int .i64)], .sel []] (e23.app (.c h31 (.c h33 (.c h34 .n))))
           ·have e22 := e21.app (.c h25 .n)
            rcases J2w h with ⟨h35, h⟩ | ⟨h35, h⟩
            ·let i23 : List It := i20 ++ [b0, b1]
             rcases J2w h with ⟨h36, h⟩ | ⟨h36, h⟩
             ·cases h
              exact env.fn can31 (i23 ++ [b1]) s0 (e22.app (.c h35 (.c h36 .n)))
             ·have e24 := e22.app (.c h35 (.c h36 .n))
              rcases J2w h with ⟨h37, h⟩ | ⟨h37, h⟩
              ·cases h
               exact env.fn can31 (i23 ++ [b0, b1, b1, b1, b1, b1, b1, b1, b1]) s0 (e24.app (.c h37 (.c h37 (.c h37 (.c r1 (.c r1 (.c r1 (.c r1 (.c r1 .n)))))))))
              ·let i25 : List It := i23 ++ [b0, b0, b0, b0]
               have e26 := e24.app (.c h37 (.c h37 (.c h37 .n)))
               rcases J2w h with ⟨h38, h⟩ | ⟨h38, h⟩
               ·cases h
                exact env.fn can31 (i25 ++ [b1, b1, b1, b1, b1]) s0 (e26.app (.c h38 (.c h38 (.c h38 (.c h38 (.c r1 .n))))))
               ·let i27 : List It := i25 ++ [b0, b0, b0, b0]
                have e28 := e26.app (.c h38 (.c h38 (.c h38 (.c h38 .n))))
                rcases J2w h with ⟨h39, h⟩ | ⟨h39, h⟩
                ·cases h
                 exact env.fn can31 (i27 ++ [b1]) s0 (e28.app (.c h39 .n))
                ·obtain ⟨h40, h⟩ := J4b h
                 obtain ⟨u41, h42, h⟩ := andThen_ok h q1c_ok
                 obtain ⟨u43, h44, h⟩ := andThen_ok h q2n_ok
                 let i29 : List It := i27 ++ [b0, cI h42 [] [] [] true, cI h44 [] [] [] true]
                 have e30 := e28.app (.c h39 (.c h40 (.c h42 (.c h44 .n))))
                 rcases J2w h with ⟨h45, h⟩ | ⟨h45, h⟩
                 ·cases h
                  exact env.fn can31 (i29 ++ [b1]) s0 (e30.app (.c h45 .n))
                 ·obtain ⟨u46, h47, h⟩ := andThen_ok h q18_ok
                  rcases J2w h with ⟨h48, h⟩ | ⟨h48, h⟩
                  ·cases h
                   exact env.fn can31 (i29 ++ [b0, cI h47 [] [] [0] true, b1]) s0 (e30.app (.c h45 (.c h47 (.c h48 .n))))
                  ·cases h
                   exact env.fn can31 (i29 ++ [b0, cI h47 [] [] [0] true, b0]) [.vals (.slice Y18c3) [(.int .i64)], .sel []] (e30.app (.c h45 (.c h47 (.c h48 .n))))
            ·obtain ⟨u49, h50, h⟩ := andThen_ok h q1c_ok
             obtain ⟨u51, h52, h⟩ := andThen_ok h q2n_ok
             let i23 : List It := i20 ++ [b0, b0, cI h50 [] [] [] true, cI h52 [] [] [] true]
             rcases J2w h with ⟨h53, h⟩ | ⟨h53, h⟩
             ·cases h
              exact env.fn can31 (i23 ++ [b1]) s0 (e22.app (.c h35 (.c h50 (.c h52 (.c h53 .n)))))
             ·obtain ⟨u54, h55, h⟩ := andThen_ok h q18_ok
              rcases J2w h with ⟨h56, h⟩ | ⟨h56, h⟩
              ·cases h
               exact env.fn can31 (i23 ++ [b0, cI h55 [] [] [0] true, b1]) s0 (e22.app (.c h35 (.c h50 (.c h52 (.c h53 (.c h55 (.c h56 .n)))))))
              ·cases h
               exact env.fn can31 (i23 ++ [b0, cI h55 [] [] [0] true, b0]) [.vals (.slice Y18c3) [(.int .i64)], .sel []] (e22.app (.c h35 (.c h50 (.c h52 (.c h53 (.c h55 (.c h56 .n)))))))
        ·let i16 : List It := i14 ++ [b0]
         have e17 := e15.app (.c h12 .n)
         rcases J2w h with ⟨h57, h⟩ | ⟨h57, h⟩
         ·obtain ⟨u58, h59, h⟩ := andThen_ok h q1c_ok
          obtain ⟨u60, h61, h⟩ := andThen_ok h q2n_ok
          let i18 : List It := i16 ++ [b1, cI h59 [] [] [] true, cI h61 [] [] [] true]
          rcases J2w h with ⟨h62, h⟩ | ⟨h62, h⟩
          ·cases h
           exact env.fn can31 (i18 ++ [b1]) s0 (e17.app (.c h57 (.c h59 (.c h61 (.c h62 .n)))))
          ·obtain ⟨u63, h64, h⟩ := andThen_ok h q18_ok
           rcases J2w h with ⟨h65, h⟩ | ⟨h65, h⟩
           ·cases h
            exact env.fn can31 (i18 ++ [b0, cI h64 [] [] [0] true, b1]) s0 (e17.app (.c h57 (.c h59 (.c h61 (.c h62 (.c h64 (.c h65 .n)))))))
           ·cases h
            exact env.fn can31 (i18 ++ [b0, cI h64 [] [] [0] true, b0]) [.vals (.slice Y18c3) [(.int .i64)], .sel []] (e17.app (.c h57 (.c h59 (.c h61 (.c h62 (.c h64 (.c h65 .n)))))))
         ·let i18 : List It := i16 ++ [b0]
          have e19 := e17.app (.c h57 .n)
          rcases J2w h with ⟨h66, h⟩ | ⟨h66, h⟩
          ·rcases J2w h with ⟨h67, h⟩ | ⟨h67, h⟩
           ·cases h
            exact env.fn can31 (i18 ++ [b1, b1]) s0 (e19.app (.c h66 (.c h67 .n)))
           ·obtain ⟨u68, h69, h⟩ := andThen_ok h q1c_ok
            obtain ⟨u70, h71, h⟩ := andThen_ok h q2n_ok
            let i20 : List It := i18 ++ [b1, b0, cI h69 [] [] [] true, cI h71 [] [] [] true]
            have e21 := e19.app (.c h66 (.c h67 (.c h69 (.c h71 .n))))
            rcases J2w h with ⟨h72, h⟩ | ⟨h72, h⟩
            ·cases h
             exact env.fn can31 (i20 ++ [b1]) s0 (e21.app (.c h72 .n))
            ·obtain ⟨u73, h74, h⟩ := andThen_ok h q18_ok
             rcases J2w h with ⟨h75, h⟩ | ⟨h75, h⟩
             ·cases h
              exact env.fn can31 (i20 ++ [b0, cI h74 [] [] [0] true, b1]) s0 (e21.app (.c h72 (.c h74 (.c h75 .n))))
             ·cases h
              exact env.fn can31 (i20 ++ [b0, cI h74 [] [] [0] true, b0]) [.vals (.slice Y18c3) [(.int .i64)], .sel []] (e21.app (.c h72 (.c h74 (.c h75 .n))))
          ·have e20 := e19.app (.c h66 .n)
           rcases J2w h with ⟨h76, h⟩ | ⟨h76, h⟩
           ·let i21 : List It := i18 ++ [b0, b1]
            rcases J2w h with ⟨h77, h⟩ | ⟨h77, h⟩
            ·cases h
             exact env.fn can31 (i21 ++ [b1]) s0 (e20.app (.c h76 (.c h77 .n)))
            ·have e22 := e20.app (.c h76 (.c h77 .n))
             rcases J2w h with ⟨h78, h⟩ | ⟨h78, h⟩
             ·cases h
              exact env.fn can31 (i21 ++ [b0, b1, b1, b1, b1, b1, b1, b1, b1]) s0 (e22.app (.c h78 (.c h78 (.c h78 (.c r1 (.c r1 (.c r1 (.c r1 (.c r1 .n)))))))))
             ·let i23 : List It := i21 ++ [b0, b0, b0, b0]
              have e24 := e22.app (.c h78 (.c h78 (.c h78 .n)))
              rcases J2w h with ⟨h79, h⟩ | ⟨h79, h⟩
              ·cases h
               exact env.fn can31 (i23 ++ [b1, b1, b1, b1, b1]) s0 (e24.app (.c h79 (.c h79 (.c h79 (.c h79 (.c r1 .n))))))
              ·let i25 : List It := i23 ++ [b0, b0, b0, b0]
               have e26 := e24.app (.c h79 (.c h79 (.c h79 (.c h79 .n))))
               rcases J2w h with ⟨h80, h⟩ | ⟨h80, h⟩
               ·cases h
                exact env.fn can31 (i25 ++ [b1]) s0 (e26.app (.c h80 .n))
               ·obtain ⟨h81, h⟩ := J4b h
                obtain ⟨u82, h83, h⟩ := andThen_ok h q1c_ok
                obtain ⟨u84, h85, h⟩ := andThen_ok h q2n_ok
                let i27 : List It := i25 ++ [b0, cI h83 [] [] [] true, cI h85 [] [] [] true]
                have e28 := e26.app (.c h80 (.c h81 (.c h83 (.c h85 .n))))
                rcases J2w h with ⟨h86, h⟩ | ⟨h86, h⟩
                ·cases h
                 exact env.fn can31 (i27 ++ [b1]) s0 (e28.app (.c h86 .n))
                ·obtain ⟨u87, h88, h⟩ := andThen_ok h q18_ok
                 rcases J2w h with ⟨h89, h⟩ | ⟨h89, h⟩
                 ·cases h
                  exact env.fn can31 (i27 ++ [b0, cI h88 [] [] [0] true, b1]) s0 (e28.app (.c h86 (.c h88 (.c h89 .n))))
                 ·cases h
                  exact env.fn can31 (i27 ++ [b0, cI h88 [] [] [0] true, b0]) [.vals (.slice Y18c3) [(.int .i64)], .sel []] (e28.app (.c h86 (.c h88 (.c h89 .n))))
           ·obtain ⟨u90, h91, h⟩ := andThen_ok h q1c_ok
            obtain ⟨u92, h93, h⟩ := andThen_ok h q2n_ok
            let i21 : List It := i18 ++ [b0, b0, cI h91 [] [] [] true, cI h93 [] [] [] true]
            rcases J2w h with ⟨h94, h⟩ | ⟨h94, h⟩
            ·cases h
             exact env.fn can31 (i21 ++ [b1]) s0 (e20.app (.c h76 (.c h91 (.c h93 (.c h94 .n)))))
            ·obtain ⟨u95, h96, h⟩ := andThen_ok h q18_ok
             rcases J2w h with ⟨h97, h⟩ | ⟨h97, h⟩
             ·cases h
              exact env.fn can31 (i21 ++ [b0, cI h96 [] [] [0] true, b1]) s0 (e20.app (.c h76 (.c h91 (.c h93 (.c h94 (.c h96 (.c h97 .n)))))))
             ·cases h
              exact env.fn can31 (i21 ++ [b0, cI h96 [] [] [0] true, b0]) [.vals (.slice Y18c3) [(.int .i64)], .sel []] (e20.app (.c h76 (.c h91 (.c h93 (.c h94 (.c h96 (.c h97 .n)))))))
       ·let i14 : List It := i12 ++ [b0, b0, b0, b0, b0, b0, b0, b0, b0]
        have e15 := e13.app (.c h10 (.c h10 (.c h10 (.c h10 (.c h10 (.c h10 (.c h10 (.c h10 (.c r0 .n)))))))))
        rcases J2w h with ⟨h98, h⟩ | ⟨h98, h⟩
        ·obtain ⟨u99, h100, h⟩ := andThen_ok h q1c_ok
         obtain ⟨u101, h102, h⟩ := andThen_ok h q2n_ok
         let i16 : List It := i14 ++ [b1, cI h100 [] [] [] true, cI h102 [] [] [] true]
         have e17 := e15.app (.c h98 (.c h100 (.c h102 .n)))
         rcases J2w h with ⟨h103, h⟩ | ⟨h103, h⟩
         ·cases h
          exact env.fn can31 (i16 ++ [b1]) s0 (e17.app (.c h103 .n))
         ·obtain ⟨u104, h105, h⟩ := andThen_ok h q18_ok
          rcases J2w h with ⟨h106, h⟩ | ⟨h106, h⟩
          ·cases h
           exact env.fn can31 (i16 ++ [b0, cI h105 [] [] [0] true, b1]) s0 (e17.app (.c h103 (.c h105 (.c h106 .n))))
          ·cases h
           exact env.fn can31 (i16 ++ [b0, cI h105 [] [] [0] true, b0]) [.vals (.slice Y18c3) [(.int .i64)], .sel []] (e17.app (.c h103 (.c h105 (.c h106 .n))))
        ·rcases J2w h with ⟨h107, h⟩ | ⟨h107, h⟩
         ·cases h
          exact env.fn can31 (i14 ++ [b0, b1, b1]) s0 (e15.app (.c h98 (.c h107 (.c r1 .n))))
         ·have e16 := e15.app (.c h98 (.c h107 .n))
          rcases J2w h with ⟨h108, h⟩ | ⟨h108, h⟩
          ·cases h
           exact env.fn can31 (i14 ++ [b0, b0, b1, b1]) s0 (e16.app (.c h108 (.c r1 .n)))
          ·obtain ⟨u109, h110, h⟩ := andThen_ok h q1c_ok
           obtain ⟨u111, h112, h⟩ := andThen_ok h q2n_ok
           let i17 : List It := i14 ++ [b0, b0, b0, cI h110 [] [] [] true, cI h112 [] [] [] true]
           have e18 := e16.app (.c h108 (.c h110 (.c h112 .n)))
           rcases J2w h with ⟨h113, h⟩ | ⟨h113, h⟩
           ·cases h
            exact env.fn can31 (i17 ++ [b1]) s0 (e18.app (.c h113 .n))
           ·obtain ⟨u114, h115, h⟩ := andThen_ok h q18_ok
            rcases J2w h with ⟨h116, h⟩ | ⟨h116, h⟩
            ·cases h
             exact env.fn can31 (i17 ++ [b0, cI h115 [] [] [0] true, b1]) s0 (e18.app (.c h113 (.c h115 (.c h116 .n))))
            ·cases h
             exact env.fn can31 (i17 ++ [b0, cI h115 [] [] [0] true, b0]) [.vals (.slice Y18c3) [(.int .i64)], .sel []] (e18.app (.c h113 (.c h115 (.c h116 .n))))
theorem can7 : CanF prog 7 f7 := ⟨func7, _, func7, by kernel_rfl, by kernel_rfl⟩
theorem q2b_ok {a0 a1 u} (h : q2b a0 a1 = some u) : CallC prog 7 [(.v (.slice (.int .i64)) a0), (.v (.int .i64) a1)] [] ((.v (.int .i64) u)) ([]) := by
 unfold q2b at h
 rcases J2w h with ⟨h1, h⟩ | ⟨h1, h⟩
 ·cases h
  exact env.fn can7 [b1] s0 (.c h1 .n)
 ·obtain ⟨h2, h⟩ := J4b h
  obtain ⟨h3, h⟩ := J4b h
  obtain ⟨u4, h5, h⟩ := andThen_ok h q1s_ok
  cases h
  exact env.fn can7 [b0, cI h5 [] [] [] true] s0 (.c h1 (.c h2 (.c h3 (.c h5 .n))))
theorem can67 : CanF prog 67 f67 := ⟨func67, _, func67, by kernel_rfl, by kernel_rfl⟩
theorem q25_ok {a0 u} (h : q25 a0 = some u) : CallC prog 67 [(.v .str a0)] [] ((.own 0 [])) ([.row (.int .u8) u true]) := by
 unfold q25 at h
 obtain ⟨u1, h2, h⟩ := andThen_ok h q2k_ok
 obtain ⟨h3, h⟩ := J4b h
 cases h
 exact env.fn can67 [cI h2 [] [] [] true] [.sel [1]] (.c h2 (.c h3 .n))
theorem can86 : CanF prog 86 f86 := ⟨func86, _, func86, by kernel_rfl, by kernel_rfl⟩
theorem q24_ok {a0 u} (h : q24 a0 = some u) : CallC prog 86 [(.v Y18c3 a0)] [] ((.own 0 [])) ([.row (.int .u8) u true]) := by
 unfold q24 at h
 obtain ⟨u1, h2, h⟩ := andThen_ok h q25_ok
 obtain ⟨u3, h4, h⟩ := andThen_ok h q25_ok
 obtain ⟨h5, h⟩ := J4b h
 cases h
 exact env.fn can86 [.pre p17, cI h2 [] [] [] true, cI h4 [] [] [] true] [.sel [3]] (.c h2 (.c h4 (.c h5 .n)))
theorem can64 : CanF prog 64 f64 := ⟨func64, _, func64, by kernel_rfl, by kernel_rfl⟩
def q1n_1_in (x0 : List (T18c3)) (x1 : Int) (x2 : Int) (x3 : List (B8)) : St := ⟨[(3, (.own 0 [])), (6, (.v (.slice Y18c3) x0)), (7, (.v (.int .i64) x1)), (8, (.v (.int .i64) x2))], [.row Yb x3 true], 19, 0⟩
def q1n_1_ex (o : List (B8)) : Exit := (.exit 0)
def q1n_1_st (o : List (B8)) : St := ⟨[(3, (.own 0 []))], [.row Yb o true], 19, 0⟩
theorem q1n_1_body {x0 x1 x2 x3 r} (h : q1n_1_step x0 x1 x2 x3 = some r) : J09 prog (J0z (J0q f64) [1, 1, 0, 1, 0, 0]) (x2, x3) r (fun s => q1n_1_in x0 x1 s.1 s.2) q1n_1_ex q1n_1_st := by
 unfold q1n_1_step at h
 rcases J2w h with ⟨h2, h⟩ | ⟨h2, h⟩
 ·obtain ⟨h3, h⟩ := J4b h
  obtain ⟨u4, h5, h⟩ := andThen_ok h q24_ok
  obtain ⟨h6, h⟩ := J4b h
  cases h
  exact .next (env.cd [b1, cI h5 [] [] [] true, .sel [3, 6, 7, 8] [4]] (.c h2 (.c h3 (.c h5 (.c h6 .n)))))
 ·cases h
  exact .out (by intro e; simp [q1n_1_ex] at e) (env.cd [b0, .sel [3] [0]] (.c h2 .n))
theorem q1n_1_ok {x0 x1 x2 x3 o} (h : q1n_1 x0 x1 x2 x3 = some o) : J03 prog (J0z (J0q f64) [1, 1, 0, 1, 0]) (q1n_1_in x0 x1 x2 x3) (q1n_1_ex o) (q1n_1_st o) := J06.of_stepR (fun _ _ h => q1n_1_body h) _ _ h
theorem q1n_ok {a0 u} (h : q1n a0 = some u) : CallC prog 64 [(.v (.slice Y18c3) a0)] [] ((.own 0 [])) ([.row Yb u true]) := by
 unfold q1n at h
 obtain ⟨o7, h8, h⟩ := andThen_ok h q1n_1_ok
 cases h
 exact env.fn can64 [.dive, .promote 3 Yb, .sel [3, 6, 7, 8] [0], pI h8] s1 (.c h8 .n)
theorem can63 : CanF prog 63 f63 := ⟨func63, _, func63, by kernel_rfl, by kernel_rfl⟩
theorem q1u_ok {a0 a1 u} (h : q1u a0 a1 = some u) : CallC prog 63 [(.v (.int .i64) a0), (.v Yh a1)] [] ((.v Yh u)) ([]) := by
 unfold q1u at h
 obtain ⟨u1, h2, h⟩ := andThen_ok h q2k_ok
 obtain ⟨u3, h4, h⟩ := andThen_ok h q1k_ok
 cases h
 exact env.fn can63 [.pre p18, cI h2 [] [] [] true, b1, .asis, cI h4 [] [] [0] true] s0 (.c h2 (.c (rfl : ([.row Yb ([u1, a1] : List (B8)) true] : List AObj) = [.row Yb ([u1, a1] : List (B8)) true]) (.c h4 .n)))
theorem can35 : CanF prog 35 f35 := ⟨func35, _, func35, by kernel_rfl, by kernel_rfl⟩
theorem q13_ok {a0 u} (h : q13 a0 = some u) : CallC prog 35 [(.v (.slice Y18c3) a0)] [] ((.v Yh u)) ([]) := by
 unfold q13 at h
 obtain ⟨u1, h2, h⟩ := andThen_ok h q1n_ok
 obtain ⟨u3, h4, h⟩ := andThen_ok h q2e_ok
 obtain ⟨u5, h6, h⟩ := andThen_ok h q1u_ok
 cases h
 exact env.fn can35 [cI h2 [] [] [] false, cI h4 [] [] [1] true, cI h6 [] [] [] true] s0 (.c h2 (.c h4 (.c h6 .n)))
theorem can37 : CanF prog 37 f37 := ⟨func37, _, func37, by kernel_rfl, by kernel_rfl⟩
def q17_1_in (x0 : List (T484d)) (x1 : Int) (x2 : Int) (x3 : B8) (x4 : B8) : St := ⟨[(2, (.ptr 0 [])), (3, (.own 1 [])), (9, (.v (.slice Y484d) x0)), (10, (.v (.int .i64) x1)), (11, (.v (.int .i64) x2))], [.box Yh (.v Yh x3) true, .row (.int .u8) x4 true], 31, 0⟩
def q17_1_ex (o : B8 × B8) : Exit := (.exit 0)
def q17_1_st (o : B8 × B8) : St := ⟨[(2, (.ptr 0 [])), (3, (.own 1 []))], [.box Yh (.v Yh o.1) true, .row (.int .u8) o.2 true], 31, 0⟩
theorem q17_1_body {x0 x1 x2 x3 x4 r} (h : q17_1_step x0 x1 x2 x3 x4 = some r) : J09 prog (J0z (J0q f37) [1, 1, 0, 1, 0, 0]) (x2, x4) r (fun s => q17_1_in x0 x1 s.1 x3 s.2) q17_1_ex q17_1_st := by
 unfold q17_1_step at h
 rcases J2w h with ⟨h4, h⟩ | ⟨h4, h⟩
 ·obtain ⟨h5, h⟩ := J4b h
  obtain ⟨u6, h7, h⟩ := andThen_ok h q25_ok
  obtain ⟨h8, h⟩ := J4b h
  obtain ⟨u9, h10, h⟩ := andThen_ok h q2k_ok
  obtain ⟨h11, h⟩ := J4b h
  obtain ⟨h12, h⟩ := J4b h
  cases h
  exact .next (env.cd [b1, .pre p19, cI h7 [] [] [] true, cI h10 [] [] [] true, b1, .sel [2, 3, 9, 10, 11] [0, 7]] (.c h4 (.c h5 (.c h7 (.c h8 (.c h10 (.c h11 (.c h12 .n))))))))
 ·cases h
  exact .out (by intro e; simp [q17_1_ex] at e) (env.cd [b0, .sel [2, 3] [0, 1]] (.c h4 .n))
theorem q17_1_ok {x0 x1 x2 x3 x4 o} (h : q17_1 x0 x1 x2 x3 x4 = some o) : J03 prog (J0z (J0q f37) [1, 1, 0, 1, 0]) (q17_1_in x0 x1 x2 x3 x4) (q17_1_ex o) (q17_1_st o) := J06.of_stepR (fun _ _ h => q17_1_body h) _ _ h
theorem q17_ok {a0 u} (h : q17 a0 = some u) : CallC prog 37 [(.v (.slice Y484d) a0)] [] ((.v Yh u)) ([]) := by
 unfold q17 at h
 obtain ⟨u1, h2, h⟩ := andThen_ok h q2k_ok
 obtain ⟨o13, h14, h⟩ := andThen_ok h q17_1_ok
 obtain ⟨u15, h16, h⟩ := andThen_ok h q1k_ok
 cases h
 exact env.fn can37 [cI h2 [] [] [] true, .dive, .sel [2, 3, 9, 10, 11] [0, 1], pI h14, cI h16 [] [] [2] true] s0 (.c h2 (.c h14 (.c h16 .n)))
theorem can65 : CanF prog 65 f65 := ⟨func65, _, func65, by kernel_rfl, by kernel_rfl⟩
def qn_1_in (x0 : Int) (x1 : Int) (x2 : B8) (x3 : List (B8)) : St := ⟨[(3, (.own 0 [])), (21, (.own 1 [])), (22, (.v (.int .i64) x0)), (23, (.v (.int .i64) x1))], [.row (.int .u8) x2 true, .row Yh x3 true], 32, 0⟩
def qn_1_ex (o : B8) : Exit := (.exit 0)
def qn_1_st (o : B8) : St := ⟨[(3, (.own 0 []))], [.row (.int .u8) o true], 32, 0⟩
theorem qn_1_body {x0 x1 x2 x3 r} (h : qn_1_step x0 x1 x2 x3 = some r) : J09 prog (J0z (J0q f65) [1, 1, 0, 1, 0, 0]) (x1, x2) r (fun s => qn_1_in x0 s.1 s.2 x3) qn_1_ex qn_1_st := by
 unfold qn_1_step at h
 rcases J2w h with ⟨h7, h⟩ | ⟨h7, h⟩
 ·obtain ⟨h8, h⟩ := J4b h
  obtain ⟨h9, h⟩ := J4b h
  cases h
  exact .next (env.cd [b1, b1, .sel [3, 21, 22, 23] [3, 1]] (.c h7 (.c h8 (.c h9 .n))))
 ·cases h
  exact .out (by intro e; simp [qn_1_ex] at e) (env.cd [b0, .sel [3] [0]] (.c h7 .n))
theorem qn_1_ok {x0 x1 x2 x3 o} (h : qn_1 x0 x1 x2 x3 = some o) : J03 prog (J0z (J0q f65) [1, 1, 0, 1, 0]) (qn_1_in x0 x1 x2 x3) (qn_1_ex o) (qn_1_st o) := J06.of_stepR (fun _ _ h => qn_1_body h) _ _ h
theorem qn_ok {a0 u} (h : qn a0 = some u) : CallC prog 65 [(.v Yf0bc a0)] [] ((.own 0 [])) ([.row (.int .u8) u true]) := by
 unfold qn at h
 obtain ⟨u1, h2, h⟩ := andThen_ok h q2k_ok
 obtain ⟨u3, h4, h⟩ := andThen_ok h q2k_ok
 obtain ⟨h5, h⟩ := J4b h
 obtain ⟨o10, h11, h⟩ := andThen_ok h qn_1_ok
 cases h
 exact env.fn can65 [.pre p17, cI h2 [] [] [] true, cI h4 [] [] [] true, .dive, .sel [3, 21, 22, 23] [3, 4], pI h11] s1 (.c h2 (.c h4 (.c h5 (.c h11 .n))))
theorem can36 : CanF prog 36 f36 := ⟨func36, _, func36, by kernel_rfl, by kernel_rfl⟩
theorem qx_ok {a0 u} (h : qx a0 = some u) : CallC prog 36 [(.v Yf0bc a0)] [] ((.v Yh u)) ([]) := by
 unfold qx at h
 obtain ⟨u1, h2, h⟩ := andThen_ok h qn_ok
 obtain ⟨u3, h4, h⟩ := andThen_ok h q1k_ok
 cases h
 exact env.fn can36 [cI h2 [] [] [] true, cI h4 [] [] [3] true] s0 (.c h2 (.c h4 .n))
theorem can87 : CanF prog 87 f87 := ⟨func87, _, func87, by kernel_rfl, by kernel_rfl⟩
theorem q2q_ok {a0 a1 u} (h : q2q a0 a1 = some u) : CallC prog 87 [(.v Yb a0), (.v (.int .i64) a1)] [] ((.v (.int .i64) u)) ([]) := by
 unfold q2q at h
 obtain ⟨u1, h2, h⟩ := andThen_ok h q1k_ok
 obtain ⟨h3, h⟩ := J4b h
 obtain ⟨h4, h⟩ := J4b h
 cases h
 exact env.fn can87 [cI h2 [] [] [0] true] s0 (.c h2 (.c (of_decide_eq_true (p := ((8 : Int) ≠ 0)) (by kernel_rfl)) (.c h3 (.c (of_decide_eq_true (p := ((8 : Int) ≠ 0)) (by kernel_rfl)) (.c h4 .n)))))
theorem can68 : CanF prog 68 f68 := ⟨func68, _, func68, by kernel_rfl, by kernel_rfl⟩
def q27_1_in (x0 : B8) (x1 : Int) (x2 : B8) (x3 : Unit) (x4 : Unit) (x5 : List (B8)) (x6 : List (B8)) : St := ⟨[(1, (.v Yb x0)), (2, (.ptr 0 [])), (4, (.ptr 1 [])), (5, (.ptr 2 [])), (8, (.v (.int .i64) x1))], [.box Yh (.v Yh x2) true, .box Y9c6e (.node .nil (.node .nil (.v .unit x3))) true, .box Y9c6e (.node (.own 3 []) (.node (.own 4 []) (.v .unit x4))) true, .row Yh x5 true, .row Yh x6 true], 36, 0⟩
def q27_1_ex (o : Unit × Unit × List (B8) × List (B8)) : Exit := (.exit 0)
def q27_1_st (o : Unit × Unit × List (B8) × List (B8)) : St := ⟨[(4, (.ptr 0 [])), (5, (.ptr 1 []))], [.box Y9c6e (.node .nil (.node .nil (.v .unit o.1))) true, .box Y9c6e (.node (.own 2 []) (.node (.own 3 []) (.v .unit o.2.1))) true, .row Yh o.2.2.1 true, .row Yh o.2.2.2 true], 36, 0⟩
theorem q27_1_body {x0 x1 x2 x3 x4 x5 x6 r} (h : q27_1_step x0 x1 x2 x3 x4 x5 x6 = some r) : J09 prog (J0z (J0q f68) [1, 1, 0, 1, 0, 0]) (x1, x5, x6) r (fun s => q27_1_in x0 s.1 x2 x3 x4 s.2.1 s.2.2) q27_1_ex q27_1_st := by
 unfold q27_1_step at h
 rcases J2w h with ⟨h2, h⟩ | ⟨h2, h⟩
 ·obtain ⟨u3, h4, h⟩ := andThen_ok h q2q_ok
  obtain ⟨u5, h6, h⟩ := andThen_ok h q1h_ok
  obtain ⟨h7, h⟩ := J4b h
  obtain ⟨u8, h9, h⟩ := andThen_ok h q1h_ok
  obtain ⟨u10, h11, h⟩ := andThen_ok h q1i_ok
  obtain ⟨h12, h⟩ := J4b h
  cases h
  exact .next (env.cd [b1, cI h4 [] [] [] true, .pre p20, .asis, cI h6 [] [] [] true, .pre p21, .asis, cI h9 [] [] [] true, .asis, cI h11 [] [] [] true, .sel [1, 2, 4, 5, 8] [0, 1, 2, 6, 8]] (.c h2 (.c h4 (.c rn (.c h6 (.c h7 (.c rn (.c h9 (.c rn (.c h11 (.c h12 .n)))))))))))
 ·cases h
  exact .out (by intro e; simp [q27_1_ex] at e) (env.cd [b0, .sel [4, 5] [1, 2, 3, 4]] (.c h2 .n))
theorem q27_1_ok {x0 x1 x2 x3 x4 x5 x6 o} (h : q27_1 x0 x1 x2 x3 x4 x5 x6 = some o) : J03 prog (J0z (J0q f68) [1, 1, 0, 1, 0]) (q27_1_in x0 x1 x2 x3 x4 x5 x6) (q27_1_ex o) (q27_1_st o) := J06.of_stepR (fun _ _ h => q27_1_body h) _ _ h
theorem q27_ok {a0 a1 u} (h : q27 a0 a1 = some u) : CallC prog 68 [(.v Yh a0), (.v Yb a1)] [] ((.v Y9c6e u)) ([]) := by
 unfold q27 at h
 obtain ⟨o13, h14, h⟩ := andThen_ok h q27_1_ok
 cases h
 exact env.fn can68 [.dive, .J5j 2 [.fld 0], .J5j 2 [.fld 1], .sel [1, 2, 4, 5, 8] [0, 1, 2, 3, 4], pI h14] s0 (.c h14 .n)
theorem can70 : CanF prog 70 f70 := ⟨func70, _, func70, by kernel_rfl, by kernel_rfl⟩
theorem q1o_ok : ∀ k a0 a1 u, q1o k a0 a1 = some u → CallC prog 70 [(.v Ybb a0), (.v (.int .i64) a1)] [] ((.own 0 [])) ([.row Yh u true])
 | 0, a0, a1, u, h => by cases h
 | k + 1, a0, a1, u, h => by
  unfold q1o at h
  rcases J2w h with ⟨h1, h⟩ | ⟨h1, h⟩
  ·cases h
   exact env.fn can70 [b1, b1, b1, b1, b1, b1, b1, b1, b1, b1] [.promote Yh, .sel [0]] (.c h1 (.c h1 (.c h1 (.c h1 (.c h1 (.c r1 (.c r1 (.c r1 (.c r1 (.c r1 .n))))))))))
  ·let i1 : List It := [b0, b0, b0, b0, b0]
   have e2 := (AllP.c h1 (AllP.c h1 (AllP.c h1 (AllP.c h1 (AllP.c h1 AllP.n)))))
   rcases J2w h with ⟨h2, h⟩ | ⟨h2, h⟩
   ·cases h
    exact env.fn can70 (i1 ++ [b1, b1, b1, b1, b1]) [.promote Yh, .sel [0]] (e2.app (.c h2 (.c h2 (.c h2 (.c h2 (.c r1 .n))))))
   ·have e3 := e2.app (.c h2 (.c h2 (.c h2 (.c h2 .n))))
    rcases J2w h with ⟨h3, h⟩ | ⟨h3, h⟩
    ·cases h
     exact env.fn can70 (i1 ++ [b0, b0, b0, b0, b1]) [.promote Yh, .sel [0]] (e3.app (.c h3 .n))
    ·obtain ⟨u4, h5, h⟩ := andThen_ok h q2g_ok
     rcases J2w h with ⟨h6, h⟩ | ⟨h6, h⟩
     ·obtain ⟨h7, h⟩ := J4b h
      obtain ⟨u8, h9, h⟩ := andThen_ok h (q1o_ok k _ _ _)
      obtain ⟨h10, h⟩ := J4b h
      obtain ⟨u11, h12, h⟩ := andThen_ok h q2e_ok
      obtain ⟨h13, h⟩ := J4b h
      cases h
      exact env.fn can70 (i1 ++ [b0, b0, b0, b0, b0, cI h5 [] [] [] true, b1, .pre p22, b0, cI h9 [] [] [] true, b0, .asis, cI h12 [] [] [] true]) [.sel [2]] (e3.app (.c h3 (.c h5 (.c h6 (.c h7 (.c h9 (.c h10 (.c rn (.c h12 (.c h13 .n))))))))))
     ·obtain ⟨h14, h⟩ := J4b h
      obtain ⟨u15, h16, h⟩ := andThen_ok h (q1o_ok k _ _ _)
      obtain ⟨h17, h⟩ := J4b h
      obtain ⟨u18, h19, h⟩ := andThen_ok h q2e_ok
      obtain ⟨h20, h⟩ := J4b h
      cases h
      exact env.fn can70 (i1 ++ [b0, b0, b0, b0, b0, cI h5 [] [] [] true, b0, .pre p23, b0, cI h16 [] [] [] true, b0, .asis, cI h19 [] [] [] true]) [.sel [2]] (e3.app (.c h3 (.c h5 (.c h6 (.c h14 (.c h16 (.c h17 (.c rn (.c h19 (.c h20 .n))))))))))
theorem q26_ok {a0 a1 u} (h : q26 a0 a1 = some u) : CallC prog 70 [(.v Ybb a0), (.v (.int .i64) a1)] [] ((.own 0 [])) ([.row Yh u true]) := q1o_ok 64 _ _ _ h
theorem can38 : CanF prog 38 f38 := ⟨func38, _, func38, by kernel_rfl, by kernel_rfl⟩
theorem q2r_ok {a0 a1 a2 a3 u} (h : q2r a0 a1 a2 a3 = some u) : CallC prog 38 [(.v Ybb a0), (.v Yh a1), (.v (.int .i64) a2), (.v Yb a3)] [] ((.v Y8266 u)) ([]) := by
 unfold q2r at h
 obtain ⟨u1, h2, h⟩ := andThen_ok h q1j_ok
 obtain ⟨u3, h4, h⟩ := andThen_ok h q27_ok
 obtain ⟨u5, h6, h⟩ := andThen_ok h q26_ok
 cases h
 exact env.fn can38 [cI h2 [] [] [] true, cI h4 [] [] [] false, cI h6 [] [] [] true] s0 (.c h2 (.c h4 (.c h6 .n)))
theorem can5 : CanF prog 5 f5 := ⟨func5, _, func5, by kernel_rfl, by kernel_rfl⟩
def qk_1_in (x0 : List (T484d)) (x1 : Int) (x2 : Int) (x3 : List (T18c3)) (x4 : List (T484d)) (x5 : List (Tedcc)) (x6 : List (List (T18c3))) (x7 : Unit) (x8 : List (B8)) (x9 : List (List (B8))) (x10 : List (B8)) (x11 : T011a) : St := ⟨[(0, (.ptr 0 [])), (3, (.ptr 4 [])), (96, (.v (.slice Y484d) x0)), (97, (.v (.int .i64) x1)), (98, (.v (.int .i64) x2))], [.box Y6488 (.node (.own 1 []) (.node (.own 2 []) (.node (.own 3 []) (.node (.v (.slice Y18c3) x3) (.node (.v (.slice Y484d) x4) (.node (.v (.slice Yedcc) x5) (.node (.v (.slice (.slice Y18c3)) x6) (.v .unit x7)))))))) true, .row Yh x8 true, .row Ybb x9 true, .row .str x10 true, .box Y011a (.v Y011a x11) true], 127, 4⟩
def qk_1_ex (o : (Int × (List (T18c3)) × (List (Tedcc)) × (List (List (T18c3))) × Unit × List (B8) × List (List (B8)) × List (B8) × List (T484d)) ⊕ ((List (T18c3)) × (List (T484d)) × (List (Tedcc)) × (List (List (T18c3))) × Unit × List (B8) × List (List (B8)) × List (B8))) : Exit := match (generalizing := false) o with | (.inl o) => .ret | (.inr o) => (.exit 1)
def qk_1_st (o : (Int × (List (T18c3)) × (List (Tedcc)) × (List (List (T18c3))) × Unit × List (B8) × List (List (B8)) × List (B8) × List (T484d)) ⊕ ((List (T18c3)) × (List (T484d)) × (List (Tedcc)) × (List (List (T18c3))) × Unit × List (B8) × List (List (B8)) × List (B8))) : St := match (generalizing := false) o with | (.inl o) => ⟨[(4, (.v (.int .i64) o.1))], [.box Y6488 (.node (.own 1 []) (.node (.own 2 []) (.node (.own 3 []) (.node (.v (.slice Y18c3) o.2.1) (.node (.own 4 []) (.node (.v (.slice Yedcc) o.2.2.1) (.node (.v (.slice (.slice Y18c3)) o.2.2.2.1) (.v .unit o.2.2.2.2.1)))))))) true, .row Yh o.2.2.2.2.2.1 true, .row Ybb o.2.2.2.2.2.2.1 true, .row .str o.2.2.2.2.2.2.2.1 true, .row Y484d o.2.2.2.2.2.2.2.2 true], 127, 4⟩ | (.inr o) => ⟨[], [.box Y6488 (.node (.own 1 []) (.node (.own 2 []) (.node (.own 3 []) (.node (.v (.slice Y18c3) o.1) (.node (.v (.slice Y484d) o.2.1) (.node (.v (.slice Yedcc) o.2.2.1) (.node (.v (.slice (.slice Y18c3)) o.2.2.2.1) (.v .unit o.2.2.2.2.1)))))))) true, .row Yh o.2.2.2.2.2.1 true, .row Ybb o.2.2.2.2.2.2.1 true, .row .str o.2.2.2.2.2.2.2 true], 127, 4⟩
theorem qk_1_body {x0 x1 x2 x3 x4 x5 x6 x7 x8 x9 x10 x11 r} (h : qk_1_step x0 x1 x2 x3 x4 x5 x6 x7 x8 x9 x10 x11 = some r) : J09 prog (J0z (J0q f5) [1, 0, 1, 0, 1, 1, 1, 1, 1, 1, 1, 0, 1, 0, 1, 0, 0]) x2 r (fun s => qk_1_in x0 x1 s x3 x4 x5 x6 x7 x8 x9 x10 x11) qk_1_ex qk_1_st := by
 unfold qk_1_step at h
 rcases J2w h with ⟨h30, h⟩ | ⟨h30, h⟩
 ·obtain ⟨h31, h⟩ := J4b h
  rcases J2w h with ⟨h32, h⟩ | ⟨h32, h⟩
  ·obtain ⟨h33, h⟩ := J4b h
   obtain ⟨h34, h⟩ := J4b h
   cases h
   exact .out (by intro e; simp [qk_1_ex] at e) (env.cd [b1, b1, .pre p24, .sel [4] [0, 1, 2, 3, 7]] (.c h30 (.c h31 (.c h32 (.c h33 (.c h34 .n))))))
  ·cases h
   exact .next (env.cd [b1, b0, .sel [0, 3, 96, 97, 98] [0, 1, 2, 3, 4]] (.c h30 (.c h31 (.c h32 .n))))
 ·cases h
  exact .out (by intro e; simp [qk_1_ex] at e) (env.cd [b0, .sel [] [0, 1, 2, 3]] (.c h30 .n))
theorem qk_1_ok {x0 x1 x2 x3 x4 x5 x6 x7 x8 x9 x10 x11 o} (h : qk_1 x0 x1 x2 x3 x4 x5 x6 x7 x8 x9 x10 x11 = some o) : J03 prog (J0z (J0q f5) [1, 0, 1, 0, 1, 1, 1, 1, 1, 1, 1, 0, 1, 0, 1, 0]) (qk_1_in x0 x1 x2 x3 x4 x5 x6 x7 x8 x9 x10 x11) (qk_1_ex o) (qk_1_st o) := J06.of_stepR (fun _ _ h => qk_1_body h) _ _ h
theorem qk_ok {a0 a1 a2 a3 a4 a5 a6 a7 a8 u} (h : qk a0 a1 a2 a3 a4 a5 a6 a7 a8 = some u) : CallC prog 5 [(.ptr 0 []), (.v Y011a a0)] [.box Y6488 (.node (.own 1 []) (.node (.own 2 []) (.node (.own 3 []) (.node (.v (.slice Y18c3) a1) (.node (.v (.slice Y484d) a2) (.node (.v (.slice Yedcc) a3) (.node (.v (.slice (.slice Y18c3)) a4) (.v .unit a5)))))))) true, .row Yh a6 true, .row Ybb a7 true, .row .str a8 true] ((.v (.int .i64) u.1)) ([.box Y6488 (.node (.own 1 []) (.node (.own 2 []) (.node (.own 3 []) (.node (.v (.slice Y18c3) u.2.1) (.node (.v (.slice Y484d) u.2.2.1) (.node (.v (.slice Yedcc) u.2.2.2.1) (.node (.v (.slice (.slice Y18c3)) u.2.2.2.2.1) (.v .unit u.2.2.2.2.2.1)))))))) true, .row Yh u.2.2.2.2.2.2.1 true, .row Ybb u.2.2.2.2.2.2.2.1 true, .row .str u.2.2.2.2.2.2.2.2 true]) := by
 unfold qk at h
 rcases J2w h with ⟨h1, h⟩ | ⟨h1, h⟩
 ·obtain ⟨u2, h3, h⟩ := andThen_ok h q12_ok
  let i1 : List It := [b1, cI h3 [] [] [] true]
  rcases J2w h with ⟨h4, h⟩ | ⟨h4, h⟩
  ·cases h
   exact env.fn can5 (i1 ++ [b1, b1, b1, b1, b1]) [.sel [0, 1, 2, 3]] (.c h1 (.c h3 (.c h4 (.c h4 (.c h4 (.c h4 (.c r1 .n)))))))
  ·obtain ⟨u5, h6, h⟩ := andThen_ok h q1b_ok
   let i2 : List It := i1 ++ [b0, b0, b0, cI h6 [] [] [] true, b0]
   have e3 := (AllP.c h1 (AllP.c h3 (AllP.c h4 (AllP.c h4 (AllP.c h4 (AllP.c h6 (AllP.c h4 AllP.n)))))))
   rcases J2w h with ⟨h7, h⟩ | ⟨h7, h⟩
   ·cases h
    exact env.fn can5 (i2 ++ [b1]) [.sel [0, 1, 2, 3]] (e3.app (.c h7 .n))
   ·obtain ⟨u8, h9, h⟩ := andThen_ok h q2n_ok
    let i4 : List It := i2 ++ [b0, .pre p25, cI h9 [] [] [] true]
    rcases J2w h with ⟨h10, h⟩ | ⟨h10, h⟩
    ·cases h
     exact env.fn can5 (i4 ++ [b1]) [.sel [0, 1, 2, 3]] (e3.app (.c h7 (.c h9 (.c h10 .n))))
    ·cases h
     exact env.fn can5 (i4 ++ [b0]) [.J6w 0 [.fld 3], .sel [0, 1, 2, 3]] (e3.app (.c h7 (.c h9 (.c h10 .n))))
 ·have e1 := (AllP.c h1 AllP.n)
  rcases J2w h with ⟨h11, h⟩ | ⟨h11, h⟩
  ·obtain ⟨u12, h13, h⟩ := andThen_ok h q1b_ok
   rcases J2w h with ⟨h14, h⟩ | ⟨h14, h⟩
   ·cases h
    exact env.fn can5 [b0, b1, cI h13 [] [] [] true, b1] [.sel [0, 1, 2, 3]] (e1.app (.c h11 (.c h13 (.c h14 .n))))
   ·obtain ⟨u15, h16, h⟩ := andThen_ok h q2l_ok
    cases h
    exact env.fn can5 [b0, b1, cI h13 [] [] [] true, b0, .pre p26, cI h16 [] [] [] true] [.J6w 0 [.fld 3], .sel [0, 1, 2, 3]] (e1.app (.c h11 (.c h13 (.c h14 (.c h16 .n)))))
  ·let i2 : List It := [b0, b0]
   have e3 := e1.app (.c h11 .n)
   rcases J2w h with ⟨h17, h⟩ | ⟨h17, h⟩
   ·obtain ⟨u18, h19, h⟩ := andThen_ok h q1l_ok
    cases h
    exact env.fn can5 (i2 ++ [b1, b1, .pre p27, .asis, cI h19 [] [] [] false]) [.sel [0, 1, 2, 3]] (e3.app (.c h17 (.c h17 (.c rn (.c h19 .n)))))
   ·rcases J2w h with ⟨h20, h⟩ | ⟨h20, h⟩
    ·obtain ⟨u21, h22, h⟩ := andThen_ok h q1l_ok
     cases h
     exact env.fn can5 (i2 ++ [b0, b1, b1, .pre p27, .asis, cI h22 [] [] [] false]) [.sel [0, 1, 2, 3]] (e3.app (.c h17 (.c h20 (.c h20 (.c rn (.c h22 .n))))))
    ·have e4 := e3.app (.c h17 (.c h20 .n))
     rcases J2w h with ⟨h23, h⟩ | ⟨h23, h⟩
     ·obtain ⟨u24, h25, h⟩ := andThen_ok h q1l_ok
      cases h
      exact env.fn can5 (i2 ++ [b0, b0, b1, .pre p27, .asis, cI h25 [] [] [] false]) [.sel [0, 1, 2, 3]] (e4.app (.c h23 (.c rn (.c h25 .n))))
     ·let i5 : List It := i2 ++ [b0, b0, b0]
      rcases J2w h with ⟨h26, h⟩ | ⟨h26, h⟩
      ·rcases J2w h with ⟨h27, h⟩ | ⟨h27, h⟩
       ·cases h
        exact env.fn can5 (i5 ++ [b1, b1, b1, b1, b1, b1]) [.sel [0, 1, 2, 3]] (e4.app (.c h23 (.c h26 (.c h27 (.c h27 (.c h27 (.c h27 (.c r1 .n))))))))
       ·have e6 := e4.app (.c h23 (.c h26 (.c h27 (.c h27 (.c h27 (.c h27 .n))))))
        rcases J2w h with ⟨h28, h⟩ | ⟨h28, h⟩
        ·cases h
         exact env.fn can5 (i5 ++ [b1, b0, b0, b0, b0, b1]) [.sel [0, 1, 2, 3]] (e6.app (.c h28 .n))
        ·obtain ⟨o35, h36, h⟩ := andThen_ok h qk_1_ok
         let i7 : List It := i5 ++ [b1, b0, b0, b0, b0, b0, .dive, .sel [0, 3, 96, 97, 98] [0, 1, 2, 3, 4]]
         rcases o35 with o37 | o38
         ·cases h
          exact env.fn can5 (i7 ++ [pI h36]) [.J6w 0 [.fld 4], .sel [0, 1, 2, 3]] (e6.app (.c h28 (.c h36 .n)))
         ·cases h
          exact env.fn can5 (i7 ++ [pI h36]) [.sel [0, 1, 2, 3]] (e6.app (.c h28 (.c h36 .n)))
      ·cases h
       exact env.fn can5 (i5 ++ [b0]) [.sel [0, 1, 2, 3]] (e4.app (.c h23 (.c h26 .n)))
theorem can8 : CanF prog 8 f8 := ⟨func8, _, func8, by kernel_rfl, by kernel_rfl⟩
def qd_1_in (x0 : Int) (x1 : Int) (x2 : Int) (x3 : List (T18c3)) (x4 : List (T484d)) (x5 : List (Tedcc)) (x6 : List (List (T18c3))) (x7 : Unit) (x8 : List (B8)) (x9 : List (List (B8))) (x10 : List (B8)) (x11 : Tf0bc) (x12 : List (T484d)) (x13 : Unit) (x14 : List (T8f72)) (x15 : List (T484d)) (x16 : B8) : St := ⟨[(0, (.ptr 0 [])), (5, (.v (.int .i64) x0)), (6, (.ptr 4 [])), (7, (.ptr 7 [])), (103, (.own 1 [])), (104, (.v (.int .i64) x1)), (105, (.v (.int .i64) x2))], [.box Y6488 (.node (.own 1 []) (.node (.own 2 []) (.node (.own 3 []) (.node (.v (.slice Y18c3) x3) (.node (.v (.slice Y484d) x4) (.node (.v (.slice Yedcc) x5) (.node (.v (.slice (.slice Y18c3)) x6) (.v .unit x7)))))))) true, .row Yh x8 true, .row Ybb x9 true, .row .str x10 true, .box Yedcc (.node (.v Yf0bc x11) (.node (.own 5 []) (.node (.v (.slice Y484d) x12) (.node (.own 6 []) (.v .unit x13))))) true, .row Y8f72 x14 true, .row Y484d x15 true, .box Yh (.v Yh x16) false], 165, 4⟩
def qd_1_ex (o : Int × (List (T18c3)) × (List (T484d)) × (List (Tedcc)) × (List (List (T18c3))) × Unit × List (B8) × List (List (B8)) × List (B8) × (Tf0bc) × (List (T484d)) × Unit × (List (T8f72)) × List (T484d)) : Exit := (.exit 0)
def qd_1_st (o : Int × (List (T18c3)) × (List (T484d)) × (List (Tedcc)) × (List (List (T18c3))) × Unit × List (B8) × List (List (B8)) × List (B8) × (Tf0bc) × (List (T484d)) × Unit × (List (T8f72)) × List (T484d)) : St := ⟨[(0, (.ptr 0 [])), (5, (.v (.int .i64) o.1)), (6, (.ptr 4 []))], [.box Y6488 (.node (.own 1 []) (.node (.own 2 []) (.node (.own 3 []) (.node (.v (.slice Y18c3) o.2.1) (.node (.v (.slice Y484d) o.2.2.1) (.node (.v (.slice Yedcc) o.2.2.2.1) (.node (.v (.slice (.slice Y18c3)) o.2.2.2.2.1) (.v .unit o.2.2.2.2.2.1)))))))) true, .row Yh o.2.2.2.2.2.2.1 true, .row Ybb o.2.2.2.2.2.2.2.1 true, .row .str o.2.2.2.2.2.2.2.2.1 true, .box Yedcc (.node (.v Yf0bc o.2.2.2.2.2.2.2.2.2.1) (.node (.own 5 []) (.node (.v (.slice Y484d) o.2.2.2.2.2.2.2.2.2.2.1) (.node (.own 6 []) (.v .unit o.2.2.2.2.2.2.2.2.2.2.2.1))))) true, .row Y8f72 o.2.2.2.2.2.2.2.2.2.2.2.2.1 true, .row Y484d o.2.2.2.2.2.2.2.2.2.2.2.2.2 true], 165, 4⟩
theorem qd_1_body {x0 x1 x2 x3 x4 x5 x6 x7 x8 x9 x10 x11 x12 x13 x14 x15 x16 r} (h : qd_1_step x0 x1 x2 x3 x4 x5 x6 x7 x8 x9 x10 x11 x12 x13 x14 x15 x16 = some r) : J09 prog (J0z (J0q f8) [1, 1, 1, 1, 1, 1, 1, 1, 1, 0, 1, 0, 0]) (x2, x14) r (fun s => qd_1_in x0 x1 s.1 x3 x4 x5 x6 x7 x8 x9 x10 x11 x12 x13 s.2 x15 x16) qd_1_ex qd_1_st := by
 unfold qd_1_step at h
 rcases J2w h with ⟨h19, h⟩ | ⟨h19, h⟩
 ·obtain ⟨h20, h⟩ := J4b h
  obtain ⟨h21, h⟩ := J4b h
  obtain ⟨h22, h⟩ := J4b h
  obtain ⟨u23, h24, h⟩ := andThen_ok h q2r_ok
  obtain ⟨h25, h⟩ := J4b h
  cases h
  exact .next (env.cd [b1, .pre p28, b0, .asis, cI h24 [] [] [] false, .asis, .sel [0, 5, 6, 7, 103, 104, 105] [0, 1, 2, 3, 4, 10, 6, 7]] (.c h19 (.c h20 (.c h21 (.c h22 (.c rn (.c h24 (.c h25 .n))))))))
 ·cases h
  exact .out (by intro e; simp [qd_1_ex] at e) (env.cd [b0, .sel [0, 5, 6] [0, 1, 2, 3, 4, 5, 6]] (.c h19 .n))
theorem qd_1_ok {x0 x1 x2 x3 x4 x5 x6 x7 x8 x9 x10 x11 x12 x13 x14 x15 x16 o} (h : qd_1 x0 x1 x2 x3 x4 x5 x6 x7 x8 x9 x10 x11 x12 x13 x14 x15 x16 = some o) : J03 prog (J0z (J0q f8) [1, 1, 1, 1, 1, 1, 1, 1, 1, 0, 1, 0]) (qd_1_in x0 x1 x2 x3 x4 x5 x6 x7 x8 x9 x10 x11 x12 x13 x14 x15 x16) (qd_1_ex o) (qd_1_st o) := J06.of_stepR (fun _ _ h => qd_1_body h) _ _ h
def qd_2_in (x0 : Int) (x1 : Int) (x2 : Int) (x3 : List (T18c3)) (x4 : List (T484d)) (x5 : List (Tedcc)) (x6 : List (List (T18c3))) (x7 : Unit) (x8 : List (B8)) (x9 : List (List (B8))) (x10 : List (B8)) (x11 : Tf0bc) (x12 : Unit) (x13 : List (T8f72)) (x14 : List (T484d)) (x15 : B8) : St := ⟨[(0, (.ptr 0 [])), (5, (.v (.int .i64) x0)), (6, (.ptr 4 [])), (7, (.ptr 7 [])), (103, (.own 1 [])), (104, (.v (.int .i64) x1)), (105, (.v (.int .i64) x2))], [.box Y6488 (.node (.own 1 []) (.node (.own 2 []) (.node (.own 3 []) (.node (.v (.slice Y18c3) x3) (.node (.v (.slice Y484d) x4) (.node (.v (.slice Yedcc) x5) (.node (.v (.slice (.slice Y18c3)) x6) (.v .unit x7)))))))) true, .row Yh x8 true, .row Ybb x9 true, .row .str x10 true, .box Yedcc (.node (.v Yf0bc x11) (.node (.own 5 []) (.node (.own 6 []) (.node (.own 6 []) (.v .unit x12))))) true, .row Y8f72 x13 true, .row Y484d x14 true, .box Yh (.v Yh x15) false], 165, 4⟩
def qd_2_ex (o : Int × (List (T18c3)) × (List (T484d)) × (List (Tedcc)) × (List (List (T18c3))) × Unit × List (B8) × List (List (B8)) × List (B8) × (Tf0bc) × Unit × (List (T8f72)) × List (T484d)) : Exit := (.exit 0)
def qd_2_st (o : Int × (List (T18c3)) × (List (T484d)) × (List (Tedcc)) × (List (List (T18c3))) × Unit × List (B8) × List (List (B8)) × List (B8) × (Tf0bc) × Unit × (List (T8f72)) × List (T484d)) : St := ⟨[(0, (.ptr 0 [])), (5, (.v (.int .i64) o.1)), (6, (.ptr 4 []))], [.box Y6488 (.node (.own 1 []) (.node (.own 2 []) (.node (.own 3 []) (.node (.v (.slice Y18c3) o.2.1) (.node (.v (.slice Y484d) o.2.2.1) (.node (.v (.slice Yedcc) o.2.2.2.1) (.node (.v (.slice (.slice Y18c3)) o.2.2.2.2.1) (.v .unit o.2.2.2.2.2.1)))))))) true, .row Yh o.2.2.2.2.2.2.1 true, .row Ybb o.2.2.2.2.2.2.2.1 true, .row .str o.2.2.2.2.2.2.2.2.1 true, .box Yedcc (.node (.v Yf0bc o.2.2.2.2.2.2.2.2.2.1) (.node (.own 5 []) (.node (.own 6 []) (.node (.own 6 []) (.v .unit o.2.2.2.2.2.2.2.2.2.2.1))))) true, .row Y8f72 o.2.2.2.2.2.2.2.2.2.2.2.1 true, .row Y484d o.2.2.2.2.2.2.2.2.2.2.2.2 true], 165, 4⟩
theorem qd_2_body {x0 x1 x2 x3 x4 x5 x6 x7 x8 x9 x10 x11 x12 x13 x14 x15 r} (h : qd_2_step x0 x1 x2 x3 x4 x5 x6 x7 x8 x9 x10 x11 x12 x13 x14 x15 = some r) : J09 prog (J0z (J0q f8) [1, 1, 1, 1, 1, 1, 1, 1, 1, 0, 1, 0, 0]) (x2, x13) r (fun s => qd_2_in x0 x1 s.1 x3 x4 x5 x6 x7 x8 x9 x10 x11 x12 s.2 x14 x15) qd_2_ex qd_2_st := by
 unfold qd_2_step at h
 rcases J2w h with ⟨h42, h⟩ | ⟨h42, h⟩
 ·obtain ⟨h43, h⟩ := J4b h
  obtain ⟨h44, h⟩ := J4b h
  obtain ⟨h45, h⟩ := J4b h
  obtain ⟨u46, h47, h⟩ := andThen_ok h q2r_ok
  obtain ⟨h48, h⟩ := J4b h
  cases h
  exact .next (env.cd [b1, .pre p28, b0, .asis, cI h47 [] [] [] false, .asis, .sel [0, 5, 6, 7, 103, 104, 105] [0, 1, 2, 3, 4, 10, 6, 7]] (.c h42 (.c h43 (.c h44 (.c h45 (.c rn (.c h47 (.c h48 .n))))))))
 ·cases h
  exact .out (by intro e; simp [qd_2_ex] at e) (env.cd [b0, .sel [0, 5, 6] [0, 1, 2, 3, 4, 5, 6]] (.c h42 .n))
theorem qd_2_ok {x0 x1 x2 x3 x4 x5 x6 x7 x8 x9 x10 x11 x12 x13 x14 x15 o} (h : qd_2 x0 x1 x2 x3 x4 x5 x6 x7 x8 x9 x10 x11 x12 x13 x14 x15 = some o) : J03 prog (J0z (J0q f8) [1, 1, 1, 1, 1, 1, 1, 1, 1, 0, 1, 0]) (qd_2_in x0 x1 x2 x3 x4 x5 x6 x7 x8 x9 x10 x11 x12 x13 x14 x15) (qd_2_ex o) (qd_2_st o) := J06.of_stepR (fun _ _ h => qd_2_body h) _ _ h
theorem qd_ok {a0 a1 a2 a3 a4 a5 a6 a7 a8 u} (h : qd a0 a1 a2 a3 a4 a5 a6 a7 a8 = some u) : CallC prog 8 [(.ptr 0 []), (.v (.int .i64) a0)] [.box Y6488 (.node (.own 1 []) (.node (.own 2 []) (.node (.own 3 []) (.node (.v (.slice Y18c3) a1) (.node (.v (.slice Y484d) a2) (.node (.v (.slice Yedcc) a3) (.node (.v (.slice (.slice Y18c3)) a4) (.v .unit a5)))))))) true, .row Yh a6 true, .row Ybb a7 true, .row .str a8 true] ((.v (.int .i64) u.1)) ([.box Y6488 (.node (.own 1 []) (.node (.own 2 []) (.node (.own 3 []) (.node (.v (.slice Y18c3) u.2.1) (.node (.v (.slice Y484d) u.2.2.1) (.node (.v (.slice Yedcc) u.2.2.2.1) (.node (.v (.slice (.slice Y18c3)) u.2.2.2.2.1) (.v .unit u.2.2.2.2.2.1)))))))) true, .row Yh u.2.2.2.2.2.2.1 true, .row Ybb u.2.2.2.2.2.2.2.1 true, .row .str u.2.2.2.2.2.2.2.2 true]) := by
 unfold qd at h
 rcases J2w h with ⟨h1, h⟩ | ⟨h1, h⟩
 ·cases h
  exact env.fn can8 [b1, b1, b1, b1, b1, b1, b1, b1, b1, b1, b1, b1] [.sel [0, 1, 2, 3]] (.c h1 (.c h1 (.c h1 (.c r1 (.c r1 (.c r1 (.c r1 (.c r1 (.c r1 (.c r1 (.c r1 (.c r1 .n))))))))))))
 ·let i1 : List It := [b0, b0, b0]
  have e2 := (AllP.c h1 (AllP.c h1 (AllP.c h1 AllP.n)))
  rcases J2w h with ⟨h2, h⟩ | ⟨h2, h⟩
  ·cases h
   exact env.fn can8 (i1 ++ [b1, b1, b1, b1, b1, b1, b1, b1, b1]) [.sel [0, 1, 2, 3]] (e2.app (.c h2 (.c h2 (.c h2 (.c r1 (.c r1 (.c r1 (.c r1 (.c r1 (.c r1 .n))))))))))
  ·have e3 := e2.app (.c h2 (.c h2 (.c h2 .n)))
   rcases J2w h with ⟨h3, h⟩ | ⟨h3, h⟩
   ·cases h
    exact env.fn can8 (i1 ++ [b0, b0, b0, b1, b1, b1, b1, b1, b1]) [.sel [0, 1, 2, 3]] (e3.app (.c h3 (.c h3 (.c h3 (.c h3 (.c h3 (.c r1 .n)))))))
   ·let i4 : List It := i1 ++ [b0, b0, b0, b0, b0, b0]
    rcases J2w h with ⟨h4, h⟩ | ⟨h4, h⟩
    ·obtain ⟨h5, h⟩ := J4b h
     let i5 : List It := i4 ++ [b1, b1, b1, b1, b1, b1, b1, b1, b1, b1, b1, b1, b0, b1, b0]
     have e6 := e3.app (.c h3 (.c h3 (.c h3 (.c h4 (.c h4 (.c h4 (.c h4 (.c h4 (.c h4 (.c h4 (.c h4 (.c h5 (.c h4 (.c h4 (.c h4 (.c h4 (.c h3 (.c h4 (.c h3 .n)))))))))))))))))))
     rcases J2w h with ⟨h6, h⟩ | ⟨h6, h⟩
     ·cases h
      exact env.fn can8 (i5 ++ [b1]) [.sel [0, 1, 2, 3]] (e6.app (.c h6 .n))
     ·obtain ⟨h7, h⟩ := J4b h
      obtain ⟨u8, h9, h⟩ := andThen_ok h q13_ok
      obtain ⟨u10, h11, h⟩ := andThen_ok h qx_ok
      obtain ⟨u12, h13, h⟩ := andThen_ok h q17_ok
      obtain ⟨u14, h15, h⟩ := andThen_ok h q17_ok
      obtain ⟨u16, h17, h⟩ := andThen_ok h qx_ok
      obtain ⟨o26, h27, h⟩ := andThen_ok h qd_1_ok
      obtain ⟨h28, h⟩ := J4b h
      obtain ⟨h29, h⟩ := J4b h
      obtain ⟨h30, h⟩ := J4b h
      obtain ⟨h31, h⟩ := J4b h
      cases h
      exact env.fn can8 (i5 ++ [b0, .asis, cI h9 [] [] [] true, .asis, b1, .pre p29, .asis, cI h11 [] [] [] true, .pre p30, .asis, cI h13 [] [] [] true, .asis, cI h15 [] [] [0] true, cI h17 [] [] [] true, .dive, .J5j 6 [.fld 1], .freeze [7], .sel [0, 5, 6, 7, 103, 104, 105] [0, 1, 2, 3, 6, 8, 5, 7], pI h27, .pre p31, .pre p32]) [.J6w 0 [.fld 5], .J6w 0 [.fld 6], .sel [0, 1, 2, 3]] (e6.app (.c h6 (.c h7 (.c h9 (.c h4 (.c h5 (.c h5 (.c rn (.c h11 (.c rn (.c h13 (.c (rfl : ([.row Y484d (([] : List (T484d)) ++ a2) true] : List AObj) = [.row Y484d (([] : List (T484d)) ++ a2) true]) (.c h15 (.c h17 (.c h27 (.c h28 (.c h29 (.c h30 (.c h31 .n)))))))))))))))))))
    ·obtain ⟨h32, h⟩ := J4b h
     obtain ⟨u33, h34, h⟩ := andThen_ok h q13_ok
     obtain ⟨u35, h36, h⟩ := andThen_ok h q17_ok
     obtain ⟨u37, h38, h⟩ := andThen_ok h q17_ok
     obtain ⟨u39, h40, h⟩ := andThen_ok h qx_ok
     obtain ⟨o49, h50, h⟩ := andThen_ok h qd_2_ok
     obtain ⟨h51, h⟩ := J4b h
     obtain ⟨h52, h⟩ := J4b h
     obtain ⟨h53, h⟩ := J4b h
     obtain ⟨h54, h⟩ := J4b h
     cases h
     exact env.fn can8 (i4 ++ [b0, b0, b0, b0, b0, b0, b0, b0, b0, b0, b0, b0, b0, b0, b0, b0, .asis, cI h34 [] [] [] true, .asis, b0, .pre p30, .asis, cI h36 [] [] [0] true, .asis, cI h38 [] [] [0] true, cI h40 [] [] [] true, .dive, .J5j 6 [.fld 1], .freeze [7], .sel [0, 5, 6, 7, 103, 104, 105] [0, 1, 2, 3, 6, 8, 5, 7], pI h50, .pre p31, .pre p32]) [.J6w 0 [.fld 5], .J6w 0 [.fld 6], .sel [0, 1, 2, 3]] (e3.app (.c h3 (.c h3 (.c h3 (.c h4 (.c h4 (.c h4 (.c h4 (.c h4 (.c h4 (.c h4 (.c h4 (.c h4 (.c h4 (.c h4 (.c h4 (.c h3 (.c h4 (.c h3 (.c r0 (.c h32 (.c h34 (.c h4 (.c (rfl : ([.row Y484d (([] : List (T484d)) ++ a2) true] : List AObj) = [.row Y484d (([] : List (T484d)) ++ a2) true]) (.c h36 (.c (rfl : ([.row Y484d (([] : List (T484d)) ++ a2) true] : List AObj) = [.row Y484d (([] : List (T484d)) ++ a2) true]) (.c h38 (.c h40 (.c h50 (.c h51 (.c h52 (.c h53 (.c h54 .n)))))))))))))))))))))))))))))))))
theorem can39 : CanF prog 39 f39 := ⟨func39, _, func39, by kernel_rfl, by kernel_rfl⟩
theorem q3c_ok {a0 u} (h : q3c a0 = some u) : CallC prog 39 [(.v Yf0bc a0)] [] ((.v .bool u)) ([]) := by
 unfold q3c at h
 rcases J2w h with ⟨h1, h⟩ | ⟨h1, h⟩
 ·have e1 := (AllP.c h1 (AllP.c h1 (AllP.c h1 (AllP.c h1 AllP.n))))
  rcases J2w h with ⟨h2, h⟩ | ⟨h2, h⟩
  ·rcases J2w h with ⟨h3, h⟩ | ⟨h3, h⟩
   ·cases h
    exact env.fn can39 [b1, b1, b1, b1, b1, b1, b1, b1, b1, b1, b1, b1] s0 (e1.app (.c h2 (.c h2 (.c h2 (.c h2 (.c h3 (.c h3 (.c h3 (.c h3 .n)))))))))
   ·cases h
    exact env.fn can39 [b1, b1, b1, b1, b1, b1, b1, b1, b0, b0, b0, b0] s0 (e1.app (.c h2 (.c h2 (.c h2 (.c h2 (.c h3 (.c h3 (.c h3 (.c h3 .n)))))))))
  ·cases h
   exact env.fn can39 [b1, b1, b1, b1, b0, b0, b0, b0, b0, b0, b0, b0] s0 (e1.app (.c h2 (.c h2 (.c h2 (.c h2 (.c r0 (.c r0 (.c r0 (.c r0 .n)))))))))
 ·cases h
  exact env.fn can39 [b0, b0, b0, b0, b0, b0, b0, b0, b0, b0, b0, b0] s0 (.c h1 (.c h1 (.c h1 (.c h1 (.c r0 (.c r0 (.c r0 (.c r0 (.c r0 (.c r0 (.c r0 (.c r0 .n))))))))))))
theorem can71 : CanF prog 71 f71 := ⟨func71, _, func71, by kernel_rfl, by kernel_rfl⟩
theorem q3u_ok {a0 u} (h : q3u a0 = some u) : CallC prog 71 [(.v Y484d a0)] [] ((.v .bool u)) ([]) := by
 unfold q3u at h
 rcases J2w h with ⟨h1, h⟩ | ⟨h1, h⟩
 ·have e1 := (AllP.c h1 (AllP.c h1 (AllP.c h1 (AllP.c h1 (AllP.c h1 AllP.n)))))
  rcases J2w h with ⟨h2, h⟩ | ⟨h2, h⟩
  ·rcases J2w h with ⟨h3, h⟩ | ⟨h3, h⟩
   ·cases h
    exact env.fn can71 [b1, b1, b1, b1, b1, b1, b1, b1, b1, b1, b1, b1, b1] s0 (e1.app (.c h2 (.c h2 (.c h2 (.c h2 (.c h3 (.c h3 (.c h3 (.c h3 .n)))))))))
   ·cases h
    exact env.fn can71 [b1, b1, b1, b1, b1, b1, b1, b1, b1, b0, b0, b0, b0] s0 (e1.app (.c h2 (.c h2 (.c h2 (.c h2 (.c h3 (.c h3 (.c h3 (.c h3 .n)))))))))
  ·cases h
   exact env.fn can71 [b1, b1, b1, b1, b1, b0, b0, b0, b0, b0, b0, b0, b0] s0 (e1.app (.c h2 (.c h2 (.c h2 (.c h2 (.c r0 (.c r0 (.c r0 (.c r0 .n)))))))))
 ·cases h
  exact env.fn can71 [b0, b0, b0, b0, b0, b0, b0, b0, b0, b0, b0, b0, b0] s0 (.c h1 (.c h1 (.c h1 (.c h1 (.c h1 (.c r0 (.c r0 (.c r0 (.c r0 (.c r0 (.c r0 (.c r0 (.c r0 .n)))))))))))))
theorem can40 : CanF prog 40 f40 := ⟨func40, _, func40, by kernel_rfl, by kernel_rfl⟩
def q32_1_in (x0 : List (T484d)) (x1 : List (T484d)) (x2 : Int) (x3 : Int) : St := ⟨[(0, (.v (.slice Y484d) x0)), (5, (.v (.slice Y484d) x1)), (6, (.v (.int .i64) x2)), (7, (.v (.int .i64) x3))], [], 39, 0⟩
def q32_1_ex (o : (Bool) ⊕ (List (T484d))) : Exit := match (generalizing := false) o with | (.inl o) => .ret | (.inr o) => (.exit 0)
def q32_1_st (o : (Bool) ⊕ (List (T484d))) : St := match (generalizing := false) o with | (.inl o) => ⟨[(2, (.v .bool o))], [], 39, 0⟩ | (.inr o) => ⟨[(0, (.v (.slice Y484d) o))], [], 39, 0⟩
theorem q32_1_body {x0 x1 x2 x3 r} (h : q32_1_step x0 x1 x2 x3 = some r) : J09 prog (J0z (J0q f40) [1, 0, 1, 0, 0]) x3 r (fun s => q32_1_in x0 x1 x2 s) q32_1_ex q32_1_st := by
 unfold q32_1_step at h
 rcases J2w h with ⟨h2, h⟩ | ⟨h2, h⟩
 ·obtain ⟨h3, h⟩ := J4b h
  obtain ⟨u4, h5, h⟩ := andThen_ok h q3u_ok
  let i1 : List It := [b1, .pre p33, .asis, cI h5 [] [] [] true]
  have e2 := (AllP.c h2 (AllP.c h3 (AllP.c rn (AllP.c h5 AllP.n))))
  rcases J2w h with ⟨h6, h⟩ | ⟨h6, h⟩
  ·cases h
   exact .out (by intro e; simp [q32_1_ex] at e) (env.cd (i1 ++ [b1, b1, b1, b1, b1, b1, .sel [2] []]) (e2.app (.c h6 (.c h6 (.c h6 (.c h6 (.c h6 (.c r1 .n))))))))
  ·rcases J2w h with ⟨h7, h⟩ | ⟨h7, h⟩
   ·obtain ⟨h8, h⟩ := J4b h
    let i3 : List It := i1 ++ [b0, b0, b0, b1, b1, b1, b1, b1, b1, b1, b1, b1, b0, b1, b0]
    have e4 := e2.app (.c h6 (.c h6 (.c h6 (.c h7 (.c h7 (.c h7 (.c h7 (.c h8 (.c h7 (.c h7 (.c h7 (.c h7 (.c h7 (.c h6 (.c h7 (.c h6 .n))))))))))))))))
    rcases J2w h with ⟨h9, h⟩ | ⟨h9, h⟩
    ·cases h
     exact .out (by intro e; simp [q32_1_ex] at e) (env.cd (i3 ++ [b1, .sel [2] []]) (e4.app (.c h9 .n)))
    ·cases h
     exact .next (env.cd (i3 ++ [b0, .sel [0, 5, 6, 7] []]) (e4.app (.c h9 .n)))
   ·cases h
    exact .next (env.cd (i1 ++ [b0, b0, b0, b0, b0, b0, b0, b0, b0, b0, b0, b0, b0, b0, b0, b0, .sel [0, 5, 6, 7] []]) (e2.app (.c h6 (.c h6 (.c h6 (.c h7 (.c h7 (.c h7 (.c h7 (.c h7 (.c h7 (.c h7 (.c h7 (.c h7 (.c h6 (.c h7 (.c h6 (.c r0 .n))))))))))))))))))
 ·cases h
  exact .out (by intro e; simp [q32_1_ex] at e) (env.cd [b0, .sel [0] []] (.c h2 .n))
theorem q32_1_ok {x0 x1 x2 x3 o} (h : q32_1 x0 x1 x2 x3 = some o) : J03 prog (J0z (J0q f40) [1, 0, 1, 0]) (q32_1_in x0 x1 x2 x3) (q32_1_ex o) (q32_1_st o) := J06.of_stepR (fun _ _ h => q32_1_body h) _ _ h
theorem q32_ok {a0 u} (h : q32 a0 = some u) : CallC prog 40 [(.v (.slice Y484d) a0)] [] ((.v .bool u)) ([]) := by
 unfold q32 at h
 obtain ⟨o10, h11, h⟩ := andThen_ok h q32_1_ok
 let i1 : List It := [.dive, .sel [0, 5, 6, 7] []]
 rcases o10 with o12 | o13
 ·cases h
  exact env.fn can40 (i1 ++ [pI h11]) s0 (.c h11 .n)
 ·rcases J2w h with ⟨h14, h⟩ | ⟨h14, h⟩
  ·cases h
   exact env.fn can40 (i1 ++ [pI h11, b1, b1, b1, b1]) s0 (.c h11 (.c h14 (.c h14 (.c h14 (.c h14 .n)))))
  ·cases h
   exact env.fn can40 (i1 ++ [pI h11, b0, b0, b0, b0]) s0 (.c h11 (.c h14 (.c h14 (.c h14 (.c h14 .n)))))
theorem can90 : CanF prog 90 f90 := ⟨func90, _, func90, by kernel_rfl, by kernel_rfl⟩
def q3t_1_in (x0 : Int) (x1 : B8) : St := ⟨[(0, (.v (.int .i64) x0)), (3, (.own 0 []))], [.row (.int .u8) x1 true], 26, 0⟩
def q3t_1_ex (o : Int × B8) : Exit := (.exit 0)
def q3t_1_st (o : Int × B8) : St := ⟨[(0, (.v (.int .i64) o.1)), (3, (.own 0 []))], [.row (.int .u8) o.2 true], 26, 0⟩
theorem q3t_1_body {x0 x1 r} (h : q3t_1_step x0 x1 = some r) : J09 prog (J0z (J0q f90) [1, 1, 1, 0, 0, 0]) (x0, x1) r (fun s => q3t_1_in s.1 s.2) q3t_1_ex q3t_1_st := by
 unfold q3t_1_step at h
 rcases J2w h with ⟨h4, h⟩ | ⟨h4, h⟩
 ·obtain ⟨h5, h⟩ := J4b h
  cases h
  exact .next (env.cd [b1, .dive, .sel [0, 3] [2]] (.c h4 (.c h5 (.c (of_decide_eq_true (p := (0 ≤ (7 : Int))) (by kernel_rfl)) .n))))
 ·cases h
  exact .out (by intro e; simp [q3t_1_ex] at e) (env.cd [b0, .sel [0, 3] [0]] (.c h4 .n))
theorem q3t_1_ok {x0 x1 o} (h : q3t_1 x0 x1 = some o) : J03 prog (J0z (J0q f90) [1, 1, 1, 0, 0]) (q3t_1_in x0 x1) (q3t_1_ex o) (q3t_1_st o) := J06.of_stepR (fun _ _ h => q3t_1_body h) _ _ h
theorem q3t_ok {a0 u} (h : q3t a0 = some u) : CallC prog 90 [(.v (.int .i64) a0)] [] ((.own 0 [])) ([.row (.int .u8) u true]) := by
 unfold q3t at h
 rcases J2w h with ⟨h1, h⟩ | ⟨h1, h⟩
 ·cases h
  exact env.fn can90 [b1, b1, b1, b1] [.promote (.int .u8), .sel [0]] (.c h1 (.c h1 (.c h1 (.c r1 .n))))
 ·rcases J2w h with ⟨h2, h⟩ | ⟨h2, h⟩
  ·cases h
   exact env.fn can90 [b0, b0, b0, b1] [.promote (.int .u8), .sel [0]] (.c h1 (.c h1 (.c h1 (.c h2 .n))))
  ·obtain ⟨o6, h7, h⟩ := andThen_ok h q3t_1_ok
   obtain ⟨h8, h⟩ := J4b h
   cases h
   exact env.fn can90 [b0, b0, b0, b0, .dive, .promote 3 (.int .u8), .sel [0, 3] [0], pI h7] [.sel [2]] (.c h1 (.c h1 (.c h1 (.c h2 (.c h7 (.c h8 .n))))))
theorem can72 : CanF prog 72 f72 := ⟨func72, _, func72, by kernel_rfl, by kernel_rfl⟩
def q3v_1_in (x0 : List Int) (x1 : Int) (x2 : Int) (x3 : B8) : St := ⟨[(3, (.own 0 [])), (6, (.v (.slice (.int .i64)) x0)), (7, (.v (.int .i64) x1)), (8, (.v (.int .i64) x2))], [.row (.int .u8) x3 true], 18, 0⟩
def q3v_1_ex (o : B8) : Exit := (.exit 0)
def q3v_1_st (o : B8) : St := ⟨[(3, (.own 0 []))], [.row (.int .u8) o true], 18, 0⟩
theorem q3v_1_body {x0 x1 x2 x3 r} (h : q3v_1_step x0 x1 x2 x3 = some r) : J09 prog (J0z (J0q f72) [1, 1, 0, 1, 0, 0]) (x2, x3) r (fun s => q3v_1_in x0 x1 s.1 s.2) q3v_1_ex q3v_1_st := by
 unfold q3v_1_step at h
 rcases J2w h with ⟨h2, h⟩ | ⟨h2, h⟩
 ·obtain ⟨h3, h⟩ := J4b h
  obtain ⟨u4, h5, h⟩ := andThen_ok h q3t_ok
  obtain ⟨h6, h⟩ := J4b h
  cases h
  exact .next (env.cd [b1, cI h5 [] [] [] true, .sel [3, 6, 7, 8] [2]] (.c h2 (.c h3 (.c h5 (.c h6 .n)))))
 ·cases h
  exact .out (by intro e; simp [q3v_1_ex] at e) (env.cd [b0, .sel [3] [0]] (.c h2 .n))
theorem q3v_1_ok {x0 x1 x2 x3 o} (h : q3v_1 x0 x1 x2 x3 = some o) : J03 prog (J0z (J0q f72) [1, 1, 0, 1, 0]) (q3v_1_in x0 x1 x2 x3) (q3v_1_ex o) (q3v_1_st o) := J06.of_stepR (fun _ _ h => q3v_1_body h) _ _ h
theorem q3v_ok {a0 u} (h : q3v a0 = some u) : CallC prog 72 [(.v (.slice (.int .i64)) a0)] [] ((.own 0 [])) ([.row (.int .u8) u true]) := by
 unfold q3v at h
 obtain ⟨o7, h8, h⟩ := andThen_ok h q3v_1_ok
 cases h
 exact env.fn can72 [.dive, .promote 3 (.int .u8), .sel [3, 6, 7, 8] [0], pI h8] s1 (.c h8 .n)
theorem can74 : CanF prog 74 f74 := ⟨func74, _, func74, by kernel_rfl, by kernel_rfl⟩
def q3f_1_in (x0 : List (B8)) (x1 : Int) (x2 : Int) (x3 : B8) : St := ⟨[(3, (.own 0 [])), (6, (.v (.slice .str) x0)), (7, (.v (.int .i64) x1)), (8, (.v (.int .i64) x2))], [.row (.int .u8) x3 true], 21, 0⟩
def q3f_1_ex (o : B8) : Exit := (.exit 0)
def q3f_1_st (o : B8) : St := ⟨[(3, (.own 0 []))], [.row (.int .u8) o true], 21, 0⟩
theorem q3f_1_body {x0 x1 x2 x3 r} (h : q3f_1_step x0 x1 x2 x3 = some r) : J09 prog (J0z (J0q f74) [1, 1, 0, 1, 0, 0]) (x2, x3) r (fun s => q3f_1_in x0 x1 s.1 s.2) q3f_1_ex q3f_1_st := by
 unfold q3f_1_step at h
 rcases J2w h with ⟨h2, h⟩ | ⟨h2, h⟩
 ·obtain ⟨h3, h⟩ := J4b h
  obtain ⟨u4, h5, h⟩ := andThen_ok h q3t_ok
  obtain ⟨h6, h⟩ := J4b h
  obtain ⟨h7, h⟩ := J4b h
  cases h
  exact .next (env.cd [b1, cI h5 [] [] [] true, .sel [3, 6, 7, 8] [3]] (.c h2 (.c h3 (.c h5 (.c h6 (.c h7 .n))))))
 ·cases h
  exact .out (by intro e; simp [q3f_1_ex] at e) (env.cd [b0, .sel [3] [0]] (.c h2 .n))
theorem q3f_1_ok {x0 x1 x2 x3 o} (h : q3f_1 x0 x1 x2 x3 = some o) : J03 prog (J0z (J0q f74) [1, 1, 0, 1, 0]) (q3f_1_in x0 x1 x2 x3) (q3f_1_ex o) (q3f_1_st o) := J06.of_stepR (fun _ _ h => q3f_1_body h) _ _ h
theorem q3f_ok {a0 u} (h : q3f a0 = some u) : CallC prog 74 [(.v (.slice .str) a0)] [] ((.own 0 [])) ([.row (.int .u8) u true]) := by
 unfold q3f at h
 obtain ⟨o8, h9, h⟩ := andThen_ok h q3f_1_ok
 cases h
 exact env.fn can74 [.dive, .promote 3 (.int .u8), .sel [3, 6, 7, 8] [0], pI h9] s1 (.c h9 .n)
theorem can75 : CanF prog 75 f75 := ⟨func75, _, func75, by kernel_rfl, by kernel_rfl⟩
def q3q_1_in (x0 : List (B8)) (x1 : Int) (x2 : Int) (x3 : B8) : St := ⟨[(3, (.own 0 [])), (6, (.v (.slice Yh) x0)), (7, (.v (.int .i64) x1)), (8, (.v (.int .i64) x2))], [.row (.int .u8) x3 true], 17, 0⟩
def q3q_1_ex (o : B8) : Exit := (.exit 0)
def q3q_1_st (o : B8) : St := ⟨[(3, (.own 0 []))], [.row (.int .u8) o true], 17, 0⟩
theorem q3q_1_body {x0 x1 x2 x3 r} (h : q3q_1_step x0 x1 x2 x3 = some r) : J09 prog (J0z (J0q f75) [1, 1, 0, 1, 0, 0]) (x2, x3) r (fun s => q3q_1_in x0 x1 s.1 s.2) q3q_1_ex q3q_1_st := by
 unfold q3q_1_step at h
 rcases J2w h with ⟨h2, h⟩ | ⟨h2, h⟩
 ·obtain ⟨h3, h⟩ := J4b h
  obtain ⟨h4, h⟩ := J4b h
  cases h
  exact .next (env.cd [b1, b1, .sel [3, 6, 7, 8] [2]] (.c h2 (.c h3 (.c h4 .n))))
 ·cases h
  exact .out (by intro e; simp [q3q_1_ex] at e) (env.cd [b0, .sel [3] [0]] (.c h2 .n))
theorem q3q_1_ok {x0 x1 x2 x3 o} (h : q3q_1 x0 x1 x2 x3 = some o) : J03 prog (J0z (J0q f75) [1, 1, 0, 1, 0]) (q3q_1_in x0 x1 x2 x3) (q3q_1_ex o) (q3q_1_st o) := J06.of_stepR (fun _ _ h => q3q_1_body h) _ _ h
theorem q3q_ok {a0 u} (h : q3q a0 = some u) : CallC prog 75 [(.v (.slice Yh) a0)] [] ((.own 0 [])) ([.row (.int .u8) u true]) := by
 unfold q3q at h
 obtain ⟨o5, h6, h⟩ := andThen_ok h q3q_1_ok
 cases h
 exact env.fn can75 [.dive, .promote 3 (.int .u8), .sel [3, 6, 7, 8] [0], pI h6] s1 (.c h6 .n)
theorem can91 : CanF prog 91 f91 := ⟨func91, _, func91, by kernel_rfl, by kernel_rfl⟩
theorem qg_ok {a0 u} (h : qg a0 = some u) : CallC prog 91 [.nil, (.v (.int .i64) a0)] [] ((.own 0 [])) ([.row (.int .u8) u true]) := by
 unfold qg at h
 rcases J2w h with ⟨h1, h⟩ | ⟨h1, h⟩
 ·cases h
 ·rcases J2w h with ⟨h2, h⟩ | ⟨h2, h⟩
  ·obtain ⟨h3, h⟩ := J4b h
   obtain ⟨h4, h⟩ := J4b h
   obtain ⟨h5, h⟩ := J4b h
   obtain ⟨h6, h⟩ := J4b h
   cases h
   exact env.fn can91 [b0, b1, b1, b1] [.sel [1]] (.c h1 (.c h2 (.c h3 (.c h4 (.c h5 (.c h6 .n))))))
  ·cases h
   exact env.fn can91 [b0, b0] [.promote (.int .u8), .sel [0]] (.c h1 (.c h2 .n))
theorem can73 : CanF prog 73 f73 := ⟨func73, _, func73, by kernel_rfl, by kernel_rfl⟩
def qs_1_in (x0 : List (B8)) (x1 : Int) (x2 : List (B8)) (x3 : Int) (x4 : Int) : St := ⟨[(0, (.v Ybb x0)), (3, (.v (.int .i64) x1)), (9, (.v Ybb x2)), (10, (.v (.int .i64) x3)), (11, (.v (.int .i64) x4))], [], 36, 0⟩
def qs_1_ex (o : List (B8) × Int) : Exit := (.exit 0)
def qs_1_st (o : List (B8) × Int) : St := ⟨[(0, (.v Ybb o.1)), (3, (.v (.int .i64) o.2))], [], 36, 0⟩
theorem qs_1_body {x0 x1 x2 x3 x4 r} (h : qs_1_step x0 x1 x2 x3 x4 = some r) : J09 prog (J0z (J0q f73) [1, 1, 0, 1, 0, 0]) (x1, x4) r (fun s => qs_1_in x0 s.1 x2 x3 s.2) qs_1_ex qs_1_st := by
 unfold qs_1_step at h
 rcases J2w h with ⟨h2, h⟩ | ⟨h2, h⟩
 ·obtain ⟨h3, h⟩ := J4b h
  rcases J2w h with ⟨h4, h⟩ | ⟨h4, h⟩
  ·cases h
  ·cases h
   exact .next (env.cd [b1, b0, .sel [0, 3, 9, 10, 11] []] (.c h2 (.c h3 (.c h4 .n))))
 ·cases h
  exact .out (by intro e; simp [qs_1_ex] at e) (env.cd [b0, .sel [0, 3] []] (.c h2 .n))
theorem qs_1_ok {x0 x1 x2 x3 x4 o} (h : qs_1 x0 x1 x2 x3 x4 = some o) : J03 prog (J0z (J0q f73) [1, 1, 0, 1, 0]) (qs_1_in x0 x1 x2 x3 x4) (qs_1_ex o) (qs_1_st o) := J06.of_stepR (fun _ _ h => qs_1_body h) _ _ h
def qs_2_in (x0 : List (B8)) (x1 : Int) (x2 : Int) (x3 : B8) : St := ⟨[(6, (.own 0 [])), (25, (.v Ybb x0)), (26, (.v (.int .i64) x1)), (27, (.v (.int .i64) x2))], [.row (.int .u8) x3 true], 36, 0⟩
def qs_2_ex (o : B8) : Exit := (.exit 2)
def qs_2_st (o : B8) : St := ⟨[(6, (.own 0 []))], [.row (.int .u8) o true], 36, 0⟩
theorem qs_2_body {x0 x1 x2 x3 r} (h : qs_2_step x0 x1 x2 x3 = some r) : J09 prog (J0z (J0q f73) [1, 1, 1, 1, 0, 1, 0, 0]) (x2, x3) r (fun s => qs_2_in x0 x1 s.1 s.2) qs_2_ex qs_2_st := by
 unfold qs_2_step at h
 rcases J2w h with ⟨h10, h⟩ | ⟨h10, h⟩
 ·obtain ⟨h11, h⟩ := J4b h
  obtain ⟨h12, h⟩ := J4b h
  cases h
  exact .next (env.cd [b1, .dive, .sel [6, 25, 26, 27] [1]] (.c h10 (.c h11 (.c h12 .n))))
 ·cases h
  exact .out (by intro e; simp [qs_2_ex] at e) (env.cd [b0, .sel [6] [0]] (.c h10 .n))
theorem qs_2_ok {x0 x1 x2 x3 o} (h : qs_2 x0 x1 x2 x3 = some o) : J03 prog (J0z (J0q f73) [1, 1, 1, 1, 0, 1, 0]) (qs_2_in x0 x1 x2 x3) (qs_2_ex o) (qs_2_st o) := J06.of_stepR (fun _ _ h => qs_2_body h) _ _ h
theorem qs_ok {a0 u} (h : qs a0 = some u) : CallC prog 73 [(.v Ybb a0)] [] ((.own 0 [])) ([.row (.int .u8) u true]) := by
 unfold qs at h
 obtain ⟨o5, h6, h⟩ := andThen_ok h qs_1_ok
 obtain ⟨u7, h8, h⟩ := andThen_ok h qg_ok
 obtain ⟨o13, h14, h⟩ := andThen_ok h qs_2_ok
 cases h
 exact env.fn can73 [.dive, .sel [0, 3, 9, 10, 11] [], pI h6, cI h8 [] [] [] true, .dive, .sel [6, 25, 26, 27] [0], pI h14] s1 (.c h6 (.c h8 (.c h14 .n)))
theorem can101 : CanF prog 101 f101 := ⟨func101, _, func101, by kernel_rfl, by kernel_rfl⟩
theorem q3l_ok {u} (h : q3l  = some u) : CallC prog 101 [] [] ((.v Y8 u)) ([]) := by
 unfold q3l at h
 cases h
 exact env.fn can101 [] s0 .n
theorem can102 : CanF prog 102 f102 := ⟨func102, _, func102, by kernel_rfl, by kernel_rfl⟩
theorem q3g_ok {u} (h : q3g  = some u) : CallC prog 102 [] [] ((.v Y64 u)) ([]) := by
 unfold q3g at h
 cases h
 exact env.fn can102 [] s0 .n
theorem can112 : CanF prog 112 f112 := ⟨func112, _, func112, by kernel_rfl, by kernel_rfl⟩
theorem q34_ok {a0 u} (h : q34 a0 = some u) : CallC prog 112 [(.v (.int .i64) a0)] [] ((.v (.int .i64) u)) ([]) := by
 unfold q34 at h
 cases h
 exact env.fn can112 [] s0 (.c (of_decide_eq_true (p := ((64 : Int) ≠ 0)) (by kernel_rfl)) .n)
theorem can103 : CanF prog 103 f103 := ⟨func103, _, func103, by kernel_rfl, by kernel_rfl⟩
def q35_1_in (x0 : UInt64) (x1 : Int) (x2 : B8) : St := ⟨[(3, (.own 0 [])), (4, (.v (.int .u64) x0)), (22, (.v (.int .i64) x1))], [.row (.int .u8) x2 true], 39, 0⟩
def q35_1_ex (o : B8) : Exit := (.exit 0)
def q35_1_st (o : B8) : St := ⟨[(3, (.own 0 []))], [.row (.int .u8) o true], 39, 0⟩
theorem q35_1_body {x0 x1 x2 r} (h : q35_1_step x0 x1 x2 = some r) : J09 prog (J0z (J0q f103) [1, 1, 1, 1, 1, 0, 1, 0, 0]) (x1, x2) r (fun s => q35_1_in x0 s.1 s.2) q35_1_ex q35_1_st := by
 unfold q35_1_step at h
 rcases J2w h with ⟨h6, h⟩ | ⟨h6, h⟩
 ·obtain ⟨h7, h⟩ := J4b h
  obtain ⟨h8, h⟩ := J4b h
  cases h
  exact .next (env.cd [b1, .dive, .sel [3, 4, 22] [0]] (.c h6 (.c h7 (.c h8 .n))))
 ·cases h
  exact .out (by intro e; simp [q35_1_ex] at e) (env.cd [b0, .sel [3] [0]] (.c h6 .n))
theorem q35_1_ok {x0 x1 x2 o} (h : q35_1 x0 x1 x2 = some o) : J03 prog (J0z (J0q f103) [1, 1, 1, 1, 1, 0, 1, 0]) (q35_1_in x0 x1 x2) (q35_1_ex o) (q35_1_st o) := J06.of_stepR (fun _ _ h => q35_1_body h) _ _ h
theorem q35_ok {a0 u} (h : q35 a0 = some u) : CallC prog 103 [(.v Yb a0)] [] ((.own 0 [])) ([.row (.int .u8) u true]) := by
 unfold q35 at h
 obtain ⟨u1, h2, h⟩ := andThen_ok h q34_ok
 obtain ⟨h3, h⟩ := J4b h
 obtain ⟨h4, h⟩ := J4b h
 obtain ⟨o9, h10, h⟩ := andThen_ok h q35_1_ok
 cases h
 exact env.fn can103 [cI h2 [] [] [] true, .dive, .sel [3, 4, 22] [0], pI h10] s1 (.c h2 (.c h3 (.c h4 (.c h10 .n))))
theorem can120 : CanF prog 120 f120 := ⟨func120, _, func120, by kernel_rfl, by kernel_rfl⟩
theorem q23_ok {a0 a1 u} (h : q23 a0 a1 = some u) : CallC prog 120 [(.v (.int .u32) a0), (.v (.int .i64) a1)] [] ((.v (.int .u32) u)) ([]) := by
 unfold q23 at h
 obtain ⟨h1, h⟩ := J4b h
 obtain ⟨h2, h⟩ := J4b h
 cases h
 exact env.fn can120 [] s0 (.c h1 (.c h2 .n))
theorem can114 : CanF prog 114 f114 := ⟨func114, _, func114, by kernel_rfl, by kernel_rfl⟩
theorem q3n_ok {a0 a1 u} (h : q3n a0 a1 = some u) : CallC prog 114 [(.v (.int .u32) a0), (.v (.int .i64) a1)] [] ((.v (.int .u32) u)) ([]) := by
 unfold q3n at h
 obtain ⟨u1, h2, h⟩ := andThen_ok h q23_ok
 cases h
 exact env.fn can114 [cI h2 [] [] [] true] s0 (.c h2 .n)
theorem can113 : CanF prog 113 f113 := ⟨func113, _, func113, by kernel_rfl, by kernel_rfl⟩
def q3b_1_in (x0 : B8) (x1 : Int) (x2 : List UInt32) (x3 : List UInt32) : St := ⟨[(0, (.v Yb x0)), (2, (.ptr 0 [])), (3, (.ptr 1 [])), (8, (.v (.int .i64) x1))], [.box Y64 (.v Y64 x2) true, .box Y64 (.v Y64 x3) true], 89, 0⟩
def q3b_1_ex (o : List UInt32 × List UInt32) : Exit := (.exit 0)
def q3b_1_st (o : List UInt32 × List UInt32) : St := ⟨[(2, (.ptr 0 [])), (3, (.ptr 1 []))], [.box Y64 (.v Y64 o.1) true, .box Y64 (.v Y64 o.2) true], 89, 0⟩
theorem q3b_1_body {x0 x1 x2 x3 r} (h : q3b_1_step x0 x1 x2 x3 = some r) : J09 prog (J0z (J0q f113) [1, 1, 0, 1, 0, 0]) (x1, x3) r (fun s => q3b_1_in x0 s.1 x2 s.2) q3b_1_ex q3b_1_st := by
 unfold q3b_1_step at h
 rcases J2w h with ⟨h2, h⟩ | ⟨h2, h⟩
 ·obtain ⟨h3, h⟩ := J4b h
  obtain ⟨h4, h⟩ := J4b h
  obtain ⟨h5, h⟩ := J4b h
  obtain ⟨h6, h⟩ := J4b h
  obtain ⟨h7, h⟩ := J4b h
  cases h
  exact .next (env.cd [b1, .pre p0, .sel [0, 2, 3, 8] [0, 1]] (.c h2 (.c h3 (.c (of_decide_eq_true (p := (0 ≤ (24 : Int))) (by kernel_rfl)) (.c h4 (.c (of_decide_eq_true (p := (0 ≤ (16 : Int))) (by kernel_rfl)) (.c h5 (.c (of_decide_eq_true (p := (0 ≤ (8 : Int))) (by kernel_rfl)) (.c h6 (.c h7 .n))))))))))
 ·cases h
  exact .out (by intro e; simp [q3b_1_ex] at e) (env.cd [b0, .sel [2, 3] [0, 1]] (.c h2 .n))
theorem q3b_1_ok {x0 x1 x2 x3 o} (h : q3b_1 x0 x1 x2 x3 = some o) : J03 prog (J0z (J0q f113) [1, 1, 0, 1, 0]) (q3b_1_in x0 x1 x2 x3) (q3b_1_ex o) (q3b_1_st o) := J06.of_stepR (fun _ _ h => q3b_1_body h) _ _ h
def q3b_2_in (x0 : Int) (x1 : List UInt32) (x2 : List UInt32) : St := ⟨[(2, (.ptr 0 [])), (3, (.ptr 1 [])), (5, (.v (.int .i64) x0))], [.box Y64 (.v Y64 x1) true, .box Y64 (.v Y64 x2) true], 89, 0⟩
def q3b_2_ex (o : List UInt32 × List UInt32) : Exit := (.exit 2)
def q3b_2_st (o : List UInt32 × List UInt32) : St := ⟨[(2, (.ptr 0 [])), (3, (.ptr 1 []))], [.box Y64 (.v Y64 o.1) true, .box Y64 (.v Y64 o.2) true], 89, 0⟩
theorem q3b_2_body {x0 x1 x2 r} (h : q3b_2_step x0 x1 x2 = some r) : J09 prog (J0z (J0q f113) [1, 1, 1, 0, 1, 0, 0]) (x0, x2) r (fun s => q3b_2_in s.1 x1 s.2) q3b_2_ex q3b_2_st := by
 unfold q3b_2_step at h
 rcases J2w h with ⟨h11, h⟩ | ⟨h11, h⟩
 ·obtain ⟨h12, h⟩ := J4b h
  obtain ⟨h13, h⟩ := J4b h
  obtain ⟨h14, h⟩ := J4b h
  obtain ⟨u15, h16, h⟩ := andThen_ok h q3n_ok
  obtain ⟨u17, h18, h⟩ := andThen_ok h q3n_ok
  obtain ⟨h19, h⟩ := J4b h
  obtain ⟨u20, h21, h⟩ := andThen_ok h q3n_ok
  obtain ⟨u22, h23, h⟩ := andThen_ok h q3n_ok
  obtain ⟨h24, h⟩ := J4b h
  cases h
  exact .next (env.cd [b1, .pre p1, .pre p2, .asis, cI h16 [] [] [] true, .asis, cI h18 [] [] [] true, .asis, cI h21 [] [] [] true, .asis, cI h23 [] [] [] true, .sel [2, 3, 5] [0, 1]] (.c h11 (.c h12 (.c h13 (.c h14 (.c rn (.c h16 (.c rn (.c h18 (.c (of_decide_eq_true (p := (0 ≤ (3 : Int))) (by kernel_rfl)) (.c h19 (.c rn (.c h21 (.c rn (.c h23 (.c (of_decide_eq_true (p := (0 ≤ (10 : Int))) (by kernel_rfl)) (.c h24 .n)))))))))))))))))
 ·cases h
  exact .out (by intro e; simp [q3b_2_ex] at e) (env.cd [b0, .sel [2, 3] [0, 1]] (.c h11 .n))
theorem q3b_2_ok {x0 x1 x2 o} (h : q3b_2 x0 x1 x2 = some o) : J03 prog (J0z (J0q f113) [1, 1, 1, 0, 1, 0]) (q3b_2_in x0 x1 x2) (q3b_2_ex o) (q3b_2_st o) := J06.of_stepR (fun _ _ h => q3b_2_body h) _ _ h
theorem q3b_ok {a0 u} (h : q3b a0 = some u) : CallC prog 113 [(.v Yb a0)] [] ((.v Y64 u)) ([]) := by
 unfold q3b at h
 obtain ⟨o8, h9, h⟩ := andThen_ok h q3b_1_ok
 obtain ⟨o25, h26, h⟩ := andThen_ok h q3b_2_ok
 cases h
 exact env.fn can113 [.dive, .sel [0, 2, 3, 8] [0, 1], pI h9, .dive, .sel [2, 3, 5] [0, 1], pI h26] s0 (.c h9 (.c h26 .n))
theorem can104 : CanF prog 104 f104 := ⟨func104, _, func104, by kernel_rfl, by kernel_rfl⟩
def q2u_1_in (x0 : UInt32) (x1 : UInt32) (x2 : UInt32) (x3 : UInt32) (x4 : UInt32) (x5 : UInt32) (x6 : UInt32) (x7 : UInt32) (x8 : Int) (x9 : List UInt32) (x10 : List UInt32) (x11 : List UInt32) : St := ⟨[(0, (.ptr 0 [])), (1, (.ptr 1 [])), (6, (.ptr 2 [])), (7, (.v (.int .u32) x0)), (8, (.v (.int .u32) x1)), (9, (.v (.int .u32) x2)), (10, (.v (.int .u32) x3)), (11, (.v (.int .u32) x4)), (12, (.v (.int .u32) x5)), (13, (.v (.int .u32) x6)), (14, (.v (.int .u32) x7)), (56, (.v (.int .i64) x8))], [.box Y8 (.v Y8 x9) true, .box Y64 (.v Y64 x10) true, .box Y64 (.v Y64 x11) true], 146, 2⟩
def q2u_1_ex (o : UInt32 × UInt32 × UInt32 × UInt32 × UInt32 × UInt32 × UInt32 × UInt32 × List UInt32 × List UInt32) : Exit := (.exit 0)
def q2u_1_st (o : UInt32 × UInt32 × UInt32 × UInt32 × UInt32 × UInt32 × UInt32 × UInt32 × List UInt32 × List UInt32) : St := ⟨[(0, (.ptr 0 [])), (7, (.v (.int .u32) o.1)), (8, (.v (.int .u32) o.2.1)), (9, (.v (.int .u32) o.2.2.1)), (10, (.v (.int .u32) o.2.2.2.1)), (11, (.v (.int .u32) o.2.2.2.2.1)), (12, (.v (.int .u32) o.2.2.2.2.2.1)), (13, (.v (.int .u32) o.2.2.2.2.2.2.1)), (14, (.v (.int .u32) o.2.2.2.2.2.2.2.1))], [.box Y8 (.v Y8 o.2.2.2.2.2.2.2.2.1) true, .box Y64 (.v Y64 o.2.2.2.2.2.2.2.2.2) true], 146, 2⟩
theorem q2u_1_body {x0 x1 x2 x3 x4 x5 x6 x7 x8 x9 x10 x11 r} (h : q2u_1_step x0 x1 x2 x3 x4 x5 x6 x7 x8 x9 x10 x11 = some r) : J09 prog (J0z (J0q f104) [1, 1, 0, 1, 0, 0]) (x0, x1, x2, x3, x4, x5, x6, x7, x8) r (fun s => q2u_1_in s.1 s.2.1 s.2.2.1 s.2.2.2.1 s.2.2.2.2.1 s.2.2.2.2.2.1 s.2.2.2.2.2.2.1 s.2.2.2.2.2.2.2.1 s.2.2.2.2.2.2.2.2 x9 x10 x11) q2u_1_ex q2u_1_st := by
 unfold q2u_1_step at h
 rcases J2w h with ⟨h4, h⟩ | ⟨h4, h⟩
 ·obtain ⟨u5, h6, h⟩ := andThen_ok h q3n_ok
  obtain ⟨u7, h8, h⟩ := andThen_ok h q3n_ok
  obtain ⟨u9, h10, h⟩ := andThen_ok h q3n_ok
  obtain ⟨h11, h⟩ := J4b h
  obtain ⟨u12, h13, h⟩ := andThen_ok h q3n_ok
  obtain ⟨u14, h15, h⟩ := andThen_ok h q3n_ok
  obtain ⟨u16, h17, h⟩ := andThen_ok h q3n_ok
  cases h
  exact .next (env.cd [b1, .pre p34, .asis, cI h6 [] [] [] true, .asis, cI h8 [] [] [] true, .asis, cI h10 [] [] [] true, cI h13 [] [] [] true, cI h15 [] [] [] true, cI h17 [] [] [] true, .sel [0, 1, 6, 7, 8, 9, 10, 11, 12, 13, 14, 56] [0, 1, 2]] (.c h4 (.c rn (.c h6 (.c rn (.c h8 (.c rn (.c h10 (.c h11 (.c h11 (.c h13 (.c h15 (.c h17 .n)))))))))))))
 ·cases h
  exact .out (by intro e; simp [q2u_1_ex] at e) (env.cd [b0, .sel [0, 7, 8, 9, 10, 11, 12, 13, 14] [0, 1]] (.c h4 .n))
theorem q2u_1_ok {x0 x1 x2 x3 x4 x5 x6 x7 x8 x9 x10 x11 o} (h : q2u_1 x0 x1 x2 x3 x4 x5 x6 x7 x8 x9 x10 x11 = some o) : J03 prog (J0z (J0q f104) [1, 1, 0, 1, 0]) (q2u_1_in x0 x1 x2 x3 x4 x5 x6 x7 x8 x9 x10 x11) (q2u_1_ex o) (q2u_1_st o) := J06.of_stepR (fun _ _ h => q2u_1_body h) _ _ h
def q2u_2_in (x0 : List UInt32) (x1 : Int) (x2 : List UInt32) (x3 : List UInt32) : St := ⟨[(0, (.ptr 0 [])), (131, (.v Y8 x0)), (132, (.v (.int .i64) x1))], [.box Y8 (.v Y8 x2) true, .box Y64 (.v Y64 x3) true], 146, 2⟩
def q2u_2_ex (o : List UInt32 × List UInt32) : Exit := (.exit 2)
def q2u_2_st (o : List UInt32 × List UInt32) : St := ⟨[], [.box Y8 (.v Y8 o.1) true, .box Y64 (.v Y64 o.2) true], 146, 2⟩
theorem q2u_2_body {x0 x1 x2 x3 r} (h : q2u_2_step x0 x1 x2 x3 = some r) : J09 prog (J0z (J0q f104) [1, 1, 1, 1, 0, 0]) (x1, x2) r (fun s => q2u_2_in x0 s.1 s.2 x3) q2u_2_ex q2u_2_st := by
 unfold q2u_2_step at h
 rcases J2w h with ⟨h21, h⟩ | ⟨h21, h⟩
 ·obtain ⟨h22, h⟩ := J4b h
  cases h
  exact .next (env.cd [b1, .pre p35, .sel [0, 131, 132] [0, 1]] (.c h21 (.c h22 (.c h22 (.c h22 .n)))))
 ·cases h
  exact .out (by intro e; simp [q2u_2_ex] at e) (env.cd [b0, .sel [] [0, 1]] (.c h21 .n))
theorem q2u_2_ok {x0 x1 x2 x3 o} (h : q2u_2 x0 x1 x2 x3 = some o) : J03 prog (J0z (J0q f104) [1, 1, 1, 1, 0]) (q2u_2_in x0 x1 x2 x3) (q2u_2_ex o) (q2u_2_st o) := J06.of_stepR (fun _ _ h => q2u_2_body h) _ _ h
theorem q2u_ok {a0 a1 a2 u} (h : q2u a0 a1 a2 = some u) : CallC prog 104 [(.ptr 0 []), (.ptr 1 []), (.v Yb a0)] [.box Y8 (.v Y8 a1) true, .box Y64 (.v Y64 a2) true] (.tnil) ([.box Y8 (.v Y8 u.1) true, .box Y64 (.v Y64 u.2) true]) := by
 unfold q2u at h
 obtain ⟨u1, h2, h⟩ := andThen_ok h q3b_ok
 obtain ⟨o18, h19, h⟩ := andThen_ok h q2u_1_ok
 obtain ⟨o23, h24, h⟩ := andThen_ok h q2u_2_ok
 cases h
 exact env.fn can104 [cI h2 [] [] [] true, .pre p36, .dive, .sel [0, 1, 6, 7, 8, 9, 10, 11, 12, 13, 14, 56] [0, 1, 2], pI h19, .dive, .sel [0, 131, 132] [0, 1], pI h24] [.sel [0, 1]] (.c h2 (.c (of_decide_eq_true (p := (0 ≤ (0 : Int) ∧ (0 : Int) < (8 : Int))) (by kernel_rfl)) (.c (of_decide_eq_true (p := (0 ≤ (1 : Int) ∧ (1 : Int) < (8 : Int))) (by kernel_rfl)) (.c (of_decide_eq_true (p := (0 ≤ (2 : Int) ∧ (2 : Int) < (8 : Int))) (by kernel_rfl)) (.c (of_decide_eq_true (p := (0 ≤ (3 : Int) ∧ (3 : Int) < (8 : Int))) (by kernel_rfl)) (.c (of_decide_eq_true (p := (0 ≤ (4 : Int) ∧ (4 : Int) < (8 : Int))) (by kernel_rfl)) (.c (of_decide_eq_true (p := (0 ≤ (5 : Int) ∧ (5 : Int) < (8 : Int))) (by kernel_rfl)) (.c (of_decide_eq_true (p := (0 ≤ (6 : Int) ∧ (6 : Int) < (8 : Int))) (by kernel_rfl)) (.c (of_decide_eq_true (p := (0 ≤ (7 : Int) ∧ (7 : Int) < (8 : Int))) (by kernel_rfl)) (.c h19 (.c h24 .n)))))))))))
theorem can92 : CanF prog 92 f92 := ⟨func92, _, func92, by kernel_rfl, by kernel_rfl⟩
def q3z_1_in (x0 : B8) (x1 : B8) (x2 : List UInt32) (x3 : List UInt32) : St := ⟨[(2, (.ptr 0 [])), (3, (.ptr 1 [])), (4, (.ptr 2 [])), (5, (.v Yb x0))], [.box Yh (.v Yh x1) true, .box Y8 (.v Y8 x2) true, .box Y64 (.v Y64 x3) true], 44, 0⟩
def q3z_1_ex (o : B8 × List UInt32) : Exit := (.exit 0)
def q3z_1_st (o : B8 × List UInt32) : St := ⟨[(2, (.ptr 0 [])), (3, (.ptr 1 []))], [.box Yh (.v Yh o.1) true, .box Y8 (.v Y8 o.2) true], 44, 0⟩
theorem q3z_1_body {x0 x1 x2 x3 r} (h : q3z_1_step x0 x1 x2 x3 = some r) : J09 prog (J0z (J0q f92) [1, 1, 0, 1, 0, 0]) (x0, x2, x3) r (fun s => q3z_1_in s.1 x1 s.2.1 s.2.2) q3z_1_ex q3z_1_st := by
 unfold q3z_1_step at h
 rcases J2w h with ⟨h8, h⟩ | ⟨h8, h⟩
 ·obtain ⟨h9, h⟩ := J4b h
  obtain ⟨u10, h11, h⟩ := andThen_ok h q2u_ok
  obtain ⟨h12, h⟩ := J4b h
  cases h
  exact .next (env.cd [b1, b0, cI h11 [] [1, 2] [] true, b0, .sel [2, 3, 4, 5] [0, 1, 2]] (.c h8 (.c h9 (.c h11 (.c h12 .n)))))
 ·cases h
  exact .out (by intro e; simp [q3z_1_ex] at e) (env.cd [b0, .sel [2, 3] [0, 1]] (.c h8 .n))
theorem q3z_1_ok {x0 x1 x2 x3 o} (h : q3z_1 x0 x1 x2 x3 = some o) : J03 prog (J0z (J0q f92) [1, 1, 0, 1, 0]) (q3z_1_in x0 x1 x2 x3) (q3z_1_ex o) (q3z_1_st o) := J06.of_stepR (fun _ _ h => q3z_1_body h) _ _ h
def q3z_2_in (x0 : Int) (x1 : UInt32) (x2 : List UInt32) (x3 : Int) (x4 : Int) (x5 : B8) (x6 : B8) : St := ⟨[(2, (.ptr 0 [])), (6, (.ptr 1 [])), (7, (.v (.int .i64) x0)), (8, (.v (.int .u32) x1)), (22, (.v Y8 x2)), (23, (.v (.int .i64) x3)), (27, (.v (.int .i64) x4))], [.box Yh (.v Yh x5) true, .box Yh (.v Yh x6) true], 44, 0⟩
def q3z_2_ex (o : List UInt32 × Int × B8 × B8) : Exit := (.exit 4)
def q3z_2_st (o : List UInt32 × Int × B8 × B8) : St := ⟨[(2, (.ptr 0 [])), (6, (.ptr 1 [])), (22, (.v Y8 o.1)), (23, (.v (.int .i64) o.2.1))], [.box Yh (.v Yh o.2.2.1) true, .box Yh (.v Yh o.2.2.2) true], 44, 0⟩
theorem q3z_2_body {x0 x1 x2 x3 x4 x5 x6 r} (h : q3z_2_step x0 x1 x2 x3 x4 x5 x6 = some r) : J09 prog (J0z (J0q f92) [1, 1, 1, 1, 0, 1, 0, 0, 1, 1, 0, 0, 1, 1, 0, 0]) (x4, x6) r (fun s => q3z_2_in x0 x1 x2 x3 s.1 x5 s.2) q3z_2_ex q3z_2_st := by
 unfold q3z_2_step at h
 rcases J2w h with ⟨h19, h⟩ | ⟨h19, h⟩
 ·obtain ⟨h20, h⟩ := J4b h
  obtain ⟨h21, h⟩ := J4b h
  cases h
  exact .next (env.cd [b1, .dive, .sel [2, 6, 7, 8, 22, 23, 27] [0, 1]] (.c h19 (.c h20 (.c h21 .n))))
 ·cases h
  exact .out (by intro e; simp [q3z_2_ex] at e) (env.cd [b0, .sel [2, 6, 22, 23] [0, 1]] (.c h19 .n))
theorem q3z_2_ok {x0 x1 x2 x3 x4 x5 x6 o} (h : q3z_2 x0 x1 x2 x3 x4 x5 x6 = some o) : J03 prog (J0z (J0q f92) [1, 1, 1, 1, 0, 1, 0, 0, 1, 1, 0, 0, 1, 1, 0]) (q3z_2_in x0 x1 x2 x3 x4 x5 x6) (q3z_2_ex o) (q3z_2_st o) := J06.of_stepR (fun _ _ h => q3z_2_body h) _ _ h
def q3z_3_in (x0 : List UInt32) (x1 : Int) (x2 : B8) (x3 : B8) : St := ⟨[(2, (.ptr 0 [])), (6, (.ptr 1 [])), (22, (.v Y8 x0)), (23, (.v (.int .i64) x1))], [.box Yh (.v Yh x2) true, .box Yh (.v Yh x3) true], 44, 0⟩
def q3z_3_ex (o : B8 × B8) : Exit := (.exit 2)
def q3z_3_st (o : B8 × B8) : St := ⟨[(2, (.ptr 0 [])), (6, (.ptr 1 []))], [.box Yh (.v Yh o.1) true, .box Yh (.v Yh o.2) true], 44, 0⟩
theorem q3z_3_body {x0 x1 x2 x3 r} (h : q3z_3_step x0 x1 x2 x3 = some r) : J09 prog (J0z (J0q f92) [1, 1, 1, 1, 0, 1, 0, 0]) (x0, x1, x2, x3) r (fun s => q3z_3_in s.1 s.2.1 s.2.2.1 s.2.2.2) q3z_3_ex q3z_3_st := by
 unfold q3z_3_step at h
 rcases J2w h with ⟨h16, h⟩ | ⟨h16, h⟩
 ·obtain ⟨h17, h⟩ := J4b h
  obtain ⟨o22, h23, h⟩ := andThen_ok h q3z_2_ok
  cases h
  exact .next (env.cd [b1, .dive, .dive, .sel [2, 6, 7, 8, 22, 23, 27] [0, 1], pI h23, .sel [2, 6, 22, 23] [0, 1]] (.c h16 (.c h17 (.c h23 .n))))
 ·cases h
  exact .out (by intro e; simp [q3z_3_ex] at e) (env.cd [b0, .sel [2, 6] [0, 1]] (.c h16 .n))
theorem q3z_3_ok {x0 x1 x2 x3 o} (h : q3z_3 x0 x1 x2 x3 = some o) : J03 prog (J0z (J0q f92) [1, 1, 1, 1, 0, 1, 0]) (q3z_3_in x0 x1 x2 x3) (q3z_3_ex o) (q3z_3_st o) := J06.of_stepR (fun _ _ h => q3z_3_body h) _ _ h
theorem q3z_ok {a0 u} (h : q3z a0 = some u) : CallC prog 92 [(.v Yb a0)] [] ((.v Yh u)) ([]) := by
 unfold q3z at h
 obtain ⟨u1, h2, h⟩ := andThen_ok h q3l_ok
 obtain ⟨u3, h4, h⟩ := andThen_ok h q3g_ok
 obtain ⟨u5, h6, h⟩ := andThen_ok h q35_ok
 obtain ⟨o13, h14, h⟩ := andThen_ok h q3z_1_ok
 obtain ⟨o24, h25, h⟩ := andThen_ok h q3z_3_ok
 cases h
 exact env.fn can92 [cI h2 [] [] [] true, cI h4 [] [] [] true, cI h6 [] [] [] true, .dive, .val 5 Yb, .sel [2, 3, 4, 5] [0, 1, 2], pI h14, .dive, .sel [2, 6, 22, 23] [0, 2], pI h25] s0 (.c h2 (.c h4 (.c h6 (.c h14 (.c h25 .n)))))
theorem can76 : CanF prog 76 f76 := ⟨func76, _, func76, by kernel_rfl, by kernel_rfl⟩
def q31_1_in (x0 : List (B8)) (x1 : Int) (x2 : Int) (x3 : B8) (x4 : B8) : St := ⟨[(4, (.ptr 0 [])), (5, (.own 1 [])), (10, (.v Ybb x0)), (11, (.v (.int .i64) x1)), (12, (.v (.int .i64) x2))], [.box Yh (.v Yh x3) true, .row (.int .u8) x4 true], 22, 0⟩
def q31_1_ex (o : B8 × B8) : Exit := (.exit 0)
def q31_1_st (o : B8 × B8) : St := ⟨[(4, (.ptr 0 [])), (5, (.own 1 []))], [.box Yh (.v Yh o.1) true, .row (.int .u8) o.2 true], 22, 0⟩
theorem q31_1_body {x0 x1 x2 x3 x4 r} (h : q31_1_step x0 x1 x2 x3 x4 = some r) : J09 prog (J0z (J0q f76) [1, 1, 0, 1, 0, 0]) (x2, x4) r (fun s => q31_1_in x0 x1 s.1 x3 s.2) q31_1_ex q31_1_st := by
 unfold q31_1_step at h
 rcases J2w h with ⟨h2, h⟩ | ⟨h2, h⟩
 ·obtain ⟨h3, h⟩ := J4b h
  obtain ⟨h4, h⟩ := J4b h
  cases h
  exact .next (env.cd [b1, .dive, .sel [4, 5, 10, 11, 12] [0, 2]] (.c h2 (.c h3 (.c h4 .n))))
 ·cases h
  exact .out (by intro e; simp [q31_1_ex] at e) (env.cd [b0, .sel [4, 5] [0, 1]] (.c h2 .n))
theorem q31_1_ok {x0 x1 x2 x3 x4 o} (h : q31_1 x0 x1 x2 x3 x4 = some o) : J03 prog (J0z (J0q f76) [1, 1, 0, 1, 0]) (q31_1_in x0 x1 x2 x3 x4) (q31_1_ex o) (q31_1_st o) := J06.of_stepR (fun _ _ h => q31_1_body h) _ _ h
theorem q31_ok {a0 a1 u} (h : q31 a0 a1 = some u) : CallC prog 76 [(.v (.int .u8) a0), (.v Ybb a1)] [] ((.v Yh u)) ([]) := by
 unfold q31 at h
 obtain ⟨o5, h6, h⟩ := andThen_ok h q31_1_ok
 obtain ⟨u7, h8, h⟩ := andThen_ok h q3z_ok
 cases h
 exact env.fn can76 [.dive, .sel [4, 5, 10, 11, 12] [0, 1], pI h6, cI h8 [] [] [1] true] s0 (.c h6 (.c h8 .n))
theorem can41 : CanF prog 41 f41 := ⟨func41, _, func41, by kernel_rfl, by kernel_rfl⟩
def q3h_1_in (x0 : List (T484d)) (x1 : Int) (x2 : Int) (x3 : B8) (x4 : B8) : St := ⟨[(2, (.ptr 0 [])), (3, (.own 1 [])), (10, (.v (.slice Y484d) x0)), (11, (.v (.int .i64) x1)), (12, (.v (.int .i64) x2))], [.box Yh (.v Yh x3) true, .row (.int .u8) x4 true], 35, 0⟩
def q3h_1_ex (o : B8 × B8) : Exit := (.exit 0)
def q3h_1_st (o : B8 × B8) : St := ⟨[(2, (.ptr 0 [])), (3, (.own 1 []))], [.box Yh (.v Yh o.1) true, .row (.int .u8) o.2 true], 35, 0⟩
theorem q3h_1_body {x0 x1 x2 x3 x4 r} (h : q3h_1_step x0 x1 x2 x3 x4 = some r) : J09 prog (J0z (J0q f41) [1, 1, 0, 1, 0, 0]) (x2, x4) r (fun s => q3h_1_in x0 x1 s.1 x3 s.2) q3h_1_ex q3h_1_st := by
 unfold q3h_1_step at h
 rcases J2w h with ⟨h4, h⟩ | ⟨h4, h⟩
 ·obtain ⟨h5, h⟩ := J4b h
  obtain ⟨u6, h7, h⟩ := andThen_ok h q3f_ok
  obtain ⟨u8, h9, h⟩ := andThen_ok h q3v_ok
  obtain ⟨u10, h11, h⟩ := andThen_ok h q3q_ok
  obtain ⟨u12, h13, h⟩ := andThen_ok h qs_ok
  cases h
  exact .next (env.cd [b1, .pre p37, cI h7 [] [] [0] true, cI h9 [] [] [0] true, cI h11 [] [] [0] true, cI h13 [] [] [0] true, .sel [2, 3, 10, 11, 12] [0, 10]] (.c h4 (.c h5 (.c h7 (.c h9 (.c h11 (.c h13 .n)))))))
 ·cases h
  exact .out (by intro e; simp [q3h_1_ex] at e) (env.cd [b0, .sel [2, 3] [0, 1]] (.c h4 .n))
theorem q3h_1_ok {x0 x1 x2 x3 x4 o} (h : q3h_1 x0 x1 x2 x3 x4 = some o) : J03 prog (J0z (J0q f41) [1, 1, 0, 1, 0]) (q3h_1_in x0 x1 x2 x3 x4) (q3h_1_ex o) (q3h_1_st o) := J06.of_stepR (fun _ _ h => q3h_1_body h) _ _ h
theorem q3h_ok {a0 u} (h : q3h a0 = some u) : CallC prog 41 [(.v (.slice Y484d) a0)] [] ((.v Yh u)) ([]) := by
 unfold q3h at h
 obtain ⟨u1, h2, h⟩ := andThen_ok h q3v_ok
 obtain ⟨o14, h15, h⟩ := andThen_ok h q3h_1_ok
 obtain ⟨u16, h17, h⟩ := andThen_ok h q31_ok
 cases h
 exact env.fn can41 [cI h2 [] [] [1] true, .dive, .sel [2, 3, 10, 11, 12] [0, 2], pI h15, cI h17 [] [] [2] true] s0 (.c h2 (.c h15 (.c h17 .n)))
theorem can42 : CanF prog 42 f42 := ⟨func42, _, func42, by kernel_rfl, by kernel_rfl⟩
theorem q2t_ok {a0 u} (h : q2t a0 = some u) : CallC prog 42 [(.v (.int .i64) a0)] [] ((.v .bool u)) ([]) := by
 unfold q2t at h
 rcases J2w h with ⟨h1, h⟩ | ⟨h1, h⟩
 ·cases h
  exact env.fn can42 [b1, b1, b1] s0 (.c h1 (.c h1 (.c h1 .n)))
 ·cases h
  exact env.fn can42 [b0, b0, b0] s0 (.c h1 (.c h1 (.c h1 .n)))
theorem can43 : CanF prog 43 f43 := ⟨func43, _, func43, by kernel_rfl, by kernel_rfl⟩
theorem q15_ok {a0 u} (h : q15 a0 = some u) : CallC prog 43 [.v (.slice Y484d) a0] [] (.own 0 []) [.row Y484d u true] := by
 unfold q15 at h
 obtain ⟨h1, h⟩ := J4b h
 injection h with h; subst h
 rcases a0 with _ | ⟨x0, a0⟩
 ·exact env.funAny (r0 := J0z (J0q f43) [0]) (r1 := J0z (J0q f43) [1, 0, 0]) (x := J0z (J0q f43) [1, 0, 1, 0]) (z := J0z (J0q f43) [1, 1]) (t := 4) (r := (.own 0 [])) can43.1 can43.2 (i0 := [.sel [0] []]) (i1 := [.sel [0, 4] []]) (i2 := [.promote 2 Y484d, .sel [2] [0]]) (i3 := [.sel [2] [1]]) (pos := [.sel [0]]) (st1 := ⟨[(0, (.v (.slice Y484d) ([] : List (T484d))))], [], 8, 0⟩) (st2 := ⟨[(0, (.v (.slice Y484d) ([] : List (T484d)))), (4, .anyb)], [], 8, 0⟩) (st3 := ⟨[(2, (.own 0 []))], [.row Y484d ([] : List (T484d)) true], 8, 0⟩) (by kernel_rfl) (by kernel_rfl) (by kernel_rfl) (by kernel_rfl) (by kernel_rfl) (by kernel_rfl) (.c (show List.length ([] : List (T484d)) + List.length ([] : List (T484d)) ≤ 2147483648 from by first | decide | (simp at h1 ⊢; try omega)) .n) (by kernel_rfl) (by kernel_rfl) (by kernel_rfl)
 ·exact env.fn can43 [b0] [.sel [1]] (.c r0 (.c (show List.length ([] : List (T484d)) + List.length (x0 :: a0) ≤ 2147483648 from by first | decide | (simp at h1 ⊢; try omega)) .n))
theorem can10 : CanF prog 10 f10 := ⟨func10, _, func10, by kernel_rfl, by kernel_rfl⟩
theorem q3s_ok {a0 a1 a2 u} (h : q3s a0 a1 a2 = some u) : CallC prog 10 [(.v Yf0bc a0), (.v (.slice Y484d) a1), (.v (.int .i64) a2)] [] (match (generalizing := false) u with | (.inl u) => (.tup .nilp (.tup (.v (.int .i64) u) .tnil)) | (.inr u) => (.tup (.ptr 0 []) (.tup (.v (.int .i64) u.1) .tnil))) (match (generalizing := false) u with | (.inl u) => [] | (.inr u) => [.box Y65da (.v Y65da u.2) true]) := by
 unfold q3s at h
 obtain ⟨u1, h2, h⟩ := andThen_ok h q3c_ok
 let i1 : List It := [.pre p38, .asis, cI h2 [] [] [] true]
 have e2 := (AllP.c rn (AllP.c h2 AllP.n))
 rcases J2w h with ⟨h3, h⟩ | ⟨h3, h⟩
 ·cases h
  exact env.fn can10 (i1 ++ [b1, b1, b1, b1, b1, b1, b1, b1, b1, b1, b1, b1, b1, b1, b1]) s0 (e2.app (.c h3 (.c h3 (.c h3 (.c h3 (.c r1 (.c r1 (.c r1 (.c r1 (.c r1 (.c r1 (.c r1 (.c r1 (.c r1 (.c r1 (.c r1 .n))))))))))))))))
 ·obtain ⟨u4, h5, h⟩ := andThen_ok h q32_ok
  let i3 : List It := i1 ++ [b0, b0, .asis, cI h5 [] [] [] true, b0, b0]
  have e4 := e2.app (.c h3 (.c h3 (.c rn (.c h5 (.c h3 (.c h3 .n))))))
  rcases J2w h with ⟨h6, h⟩ | ⟨h6, h⟩
  ·cases h
   exact env.fn can10 (i3 ++ [b1, b1, b1, b1, b1, b1, b1, b1, b1, b1, b1]) s0 (e4.app (.c h6 (.c h6 (.c h6 (.c h6 (.c h6 (.c h6 (.c r1 (.c r1 (.c r1 (.c r1 (.c r1 .n))))))))))))
  ·obtain ⟨u7, h8, h⟩ := andThen_ok h q3h_ok
   let i5 : List It := i3 ++ [b0, b0, b0, b0, .asis, cI h8 [] [] [] true, b0, b0]
   have e6 := e4.app (.c h6 (.c h6 (.c h6 (.c h6 (.c rn (.c h8 (.c h6 (.c h6 .n))))))))
   rcases J2w h with ⟨h9, h⟩ | ⟨h9, h⟩
   ·cases h
    exact env.fn can10 (i5 ++ [b1, b1, b1, b1, b1]) s0 (e6.app (.c h9 (.c h9 (.c h9 (.c h9 (.c r1 .n))))))
   ·obtain ⟨u10, h11, h⟩ := andThen_ok h q2t_ok
    have e7 := e6.app (.c h9 (.c h9 (.c rn (.c h11 (.c h9 (.c h9 .n))))))
    rcases J2w h with ⟨h12, h⟩ | ⟨h12, h⟩
    ·cases h
     exact env.fn can10 (i5 ++ [b0, b0, .asis, cI h11 [] [] [] true, b0, b0, b1]) s0 (e7.app (.c h12 .n))
    ·obtain ⟨u13, h14, h⟩ := andThen_ok h q15_ok
     cases h
     exact env.fn can10 (i5 ++ [b0, b0, .asis, cI h11 [] [] [] true, b0, b0, b0, .pre p39, cI h14 [] [] [] true]) [.sel [3]] (e7.app (.c h12 (.c h14 .n)))
theorem can93 : CanF prog 93 f93 := ⟨func93, _, func93, by kernel_rfl, by kernel_rfl⟩
theorem q1t_ok {a0 u} (h : q1t a0 = some u) : CallC prog 93 [(.v Yh a0)] [] ((.v Yh u)) ([]) := by
 unfold q1t at h
 obtain ⟨u1, h2, h⟩ := andThen_ok h q2d_ok
 obtain ⟨u3, h4, h⟩ := andThen_ok h q2e_ok
 cases h
 exact env.fn can93 [cI h2 [] [] [] false, cI h4 [] [] [2] true] s0 (.c h2 (.c h4 .n))
theorem can77 : CanF prog 77 f77 := ⟨func77, _, func77, by kernel_rfl, by kernel_rfl⟩
theorem q1z_ok {a0 u} (h : q1z a0 = some u) : CallC prog 77 [(.v (.int .i64) a0)] [] ((.v Yh u)) ([]) := by
 unfold q1z at h
 obtain ⟨u1, h2, h⟩ := andThen_ok h q2c_ok
 obtain ⟨u3, h4, h⟩ := andThen_ok h q1t_ok
 cases h
 exact env.fn can77 [cI h2 [] [] [] true, cI h4 [] [] [] true] s0 (.c h2 (.c h4 .n))
theorem can44 : CanF prog 44 f44 := ⟨func44, _, func44, by kernel_rfl, by kernel_rfl⟩
def q1r_1_in (x0 : Int) (x1 : Int) (x2 : List (T484d)) : St := ⟨[(3, (.own 0 [])), (8, (.v (.int .i64) x0)), (9, (.v (.int .i64) x1))], [.row Y484d x2 true], 20, 0⟩
def q1r_1_ex (o : List (T484d)) : Exit := (.exit 0)
def q1r_1_st (o : List (T484d)) : St := ⟨[(3, (.own 0 []))], [.row Y484d o true], 20, 0⟩
theorem q1r_1_body {x0 x1 x2 r} (h : q1r_1_step x0 x1 x2 = some r) : J09 prog (J0z (J0q f44) [1, 1, 0, 1, 0, 0]) (x1, x2) r (fun s => q1r_1_in x0 s.1 s.2) q1r_1_ex q1r_1_st := by
 unfold q1r_1_step at h
 rcases J2w h with ⟨h4, h⟩ | ⟨h4, h⟩
 ·obtain ⟨u5, h6, h⟩ := andThen_ok h q1z_ok
  obtain ⟨h7, h⟩ := J4b h
  cases h
  exact .next (env.cd [b1, cI h6 [] [] [] true, .sel [3, 8, 9] [0]] (.c h4 (.c h6 (.c h7 .n))))
 ·cases h
  exact .out (by intro e; simp [q1r_1_ex] at e) (env.cd [b0, .sel [3] [0]] (.c h4 .n))
theorem q1r_1_ok {x0 x1 x2 o} (h : q1r_1 x0 x1 x2 = some o) : J03 prog (J0z (J0q f44) [1, 1, 0, 1, 0]) (q1r_1_in x0 x1 x2) (q1r_1_ex o) (q1r_1_st o) := J06.of_stepR (fun _ _ h => q1r_1_body h) _ _ h
theorem q1r_ok {a0 u} (h : q1r a0 = some u) : CallC prog 44 [(.v (.slice (.int .i64)) a0)] [] ((.own 0 [])) ([.row Y484d u true]) := by
 unfold q1r at h
 obtain ⟨u1, h2, h⟩ := andThen_ok h q2j_ok
 obtain ⟨o8, h9, h⟩ := andThen_ok h q1r_1_ok
 cases h
 exact env.fn can44 [cI h2 [] [] [] true, .dive, .sel [3, 8, 9] [0], pI h9] s1 (.c h2 (.c h9 .n))
theorem can45 : CanF prog 45 f45 := ⟨func45, _, func45, by kernel_rfl, by kernel_rfl⟩
theorem q1p_ok {a0 a1 a2 u} (h : q1p a0 a1 a2 = some u) : CallC prog 45 [(.v Yh a0), (.v (.int .i64) a1), (.v Yb a2)] [] ((.v Y8266 u)) ([]) := by
 unfold q1p at h
 obtain ⟨u1, h2, h⟩ := andThen_ok h q2d_ok
 obtain ⟨u3, h4, h⟩ := andThen_ok h q2r_ok
 cases h
 exact env.fn can45 [.pre p40, cI h2 [] [] [] false, cI h4 [] [] [0] false] s0 (.c h2 (.c h4 .n))
theorem can12 : CanF prog 12 f12 := ⟨func12, _, func12, by kernel_rfl, by kernel_rfl⟩
def q1m_1_in (x0 : List Int) (x1 : Int) (x2 : Int) (x3 : Int) (x4 : List Int) (x5 : Int) (x6 : Int) (x7 : Tf0bc) (x8 : Unit) (x9 : Tf0bc) (x10 : (List (T484d)) × (List (T484d)) × Unit) (x11 : List (T8f72)) (x12 : B8) : St := ⟨[(1, (.v (.slice (.int .i64)) x0)), (6, (.ptr 0 [])), (7, (.ptr 1 [])), (8, (.ptr 3 [])), (9, (.v (.int .i64) x1)), (33, (.v (.int .i64) x2)), (34, (.v (.int .i64) x3)), (37, (.v (.slice (.int .i64)) x4)), (38, (.v (.int .i64) x5)), (39, (.v (.int .i64) x6))], [.box Yedcc (.node (.v Yf0bc x7) (.node .nil (.node .nil (.node .nil (.v .unit x8))))) true, .box Yedcc (.node (.v Yf0bc x9) (.node (.own 2 []) (.v (.fld (.slice Y484d) (.fld (.slice Y484d) .unit)) x10))) true, .row Y8f72 x11 true, .box Yh (.v Yh x12) false], 62, 0⟩
def q1m_1_ex (o : List Int × Int × Int × (Tf0bc) × Unit × (Tf0bc) × ((List (T484d)) × (List (T484d)) × Unit) × (List (T8f72)) × B8) : Exit := (.exit 2)
def q1m_1_st (o : List Int × Int × Int × (Tf0bc) × Unit × (Tf0bc) × ((List (T484d)) × (List (T484d)) × Unit) × (List (T8f72)) × B8) : St := ⟨[(1, (.v (.slice (.int .i64)) o.1)), (6, (.ptr 0 [])), (7, (.ptr 1 [])), (8, (.ptr 3 [])), (33, (.v (.int .i64) o.2.1)), (34, (.v (.int .i64) o.2.2.1))], [.box Yedcc (.node (.v Yf0bc o.2.2.2.1) (.node .nil (.node .nil (.node .nil (.v .unit o.2.2.2.2.1))))) true, .box Yedcc (.node (.v Yf0bc o.2.2.2.2.2.1) (.node (.own 2 []) (.v (.fld (.slice Y484d) (.fld (.slice Y484d) .unit)) o.2.2.2.2.2.2.1))) true, .row Y8f72 o.2.2.2.2.2.2.2.1 true, .box Yh (.v Yh o.2.2.2.2.2.2.2.2) false], 62, 0⟩
theorem q1m_1_body {x0 x1 x2 x3 x4 x5 x6 x7 x8 x9 x10 x11 x12 r} (h : q1m_1_step x0 x1 x2 x3 x4 x5 x6 x7 x8 x9 x10 x11 x12 = some r) : J09 prog (J0z (J0q f12) [1, 1, 1, 1, 1, 0, 1, 0, 0, 1, 1, 0, 0, 1, 1, 0, 0]) (x6, x11) r (fun s => q1m_1_in x0 x1 x2 x3 x4 x5 s.1 x7 x8 x9 x10 s.2 x12) q1m_1_ex q1m_1_st := by
 unfold q1m_1_step at h
 rcases J2w h with ⟨h10, h⟩ | ⟨h10, h⟩
 ·obtain ⟨h11, h⟩ := J4b h
  obtain ⟨u12, h13, h⟩ := andThen_ok h q1s_ok
  rcases J2w h with ⟨h14, h⟩ | ⟨h14, h⟩
  ·obtain ⟨u15, h16, h⟩ := andThen_ok h q2c_ok
   obtain ⟨u17, h18, h⟩ := andThen_ok h q1p_ok
   obtain ⟨h19, h⟩ := J4b h
   cases h
   exact .next (env.cd [b1, cI h13 [] [] [] true, b1, .pre p41, .asis, cI h16 [] [] [] true, b0, .asis, cI h18 [] [] [] false, .sel [1, 6, 7, 8, 9, 33, 34, 37, 38, 39] [0, 1, 2, 3]] (.c h10 (.c h11 (.c h13 (.c h14 (.c rn (.c h16 (.c rn (.c h18 (.c h19 .n))))))))))
  ·cases h
   exact .next (env.cd [b1, cI h13 [] [] [] true, b0, .sel [1, 6, 7, 8, 9, 33, 34, 37, 38, 39] [0, 1, 2, 3]] (.c h10 (.c h11 (.c h13 (.c h14 .n)))))
 ·cases h
  exact .out (by intro e; simp [q1m_1_ex] at e) (env.cd [b0, .sel [1, 6, 7, 8, 33, 34] [0, 1, 2, 3]] (.c h10 .n))
theorem q1m_1_ok {x0 x1 x2 x3 x4 x5 x6 x7 x8 x9 x10 x11 x12 o} (h : q1m_1 x0 x1 x2 x3 x4 x5 x6 x7 x8 x9 x10 x11 x12 = some o) : J03 prog (J0z (J0q f12) [1, 1, 1, 1, 1, 0, 1, 0, 0, 1, 1, 0, 0, 1, 1, 0]) (q1m_1_in x0 x1 x2 x3 x4 x5 x6 x7 x8 x9 x10 x11 x12) (q1m_1_ex o) (q1m_1_st o) := J06.of_stepR (fun _ _ h => q1m_1_body h) _ _ h
def q1m_2_in (x0 : List Int) (x1 : Int) (x2 : Int) (x3 : Tf0bc) (x4 : Unit) (x5 : Tf0bc) (x6 : (List (T484d)) × (List (T484d)) × Unit) (x7 : List (T8f72)) (x8 : B8) : St := ⟨[(1, (.v (.slice (.int .i64)) x0)), (6, (.ptr 0 [])), (7, (.ptr 1 [])), (8, (.ptr 3 [])), (33, (.v (.int .i64) x1)), (34, (.v (.int .i64) x2))], [.box Yedcc (.node (.v Yf0bc x3) (.node .nil (.node .nil (.node .nil (.v .unit x4))))) true, .box Yedcc (.node (.v Yf0bc x5) (.node (.own 2 []) (.v (.fld (.slice Y484d) (.fld (.slice Y484d) .unit)) x6))) true, .row Y8f72 x7 true, .box Yh (.v Yh x8) false], 62, 0⟩
def q1m_2_ex (o : (Tf0bc) × Unit × (Tf0bc) × ((List (T484d)) × (List (T484d)) × Unit) × List (T8f72)) : Exit := (.exit 0)
def q1m_2_st (o : (Tf0bc) × Unit × (Tf0bc) × ((List (T484d)) × (List (T484d)) × Unit) × List (T8f72)) : St := ⟨[(6, (.ptr 0 [])), (7, (.ptr 1 []))], [.box Yedcc (.node (.v Yf0bc o.1) (.node .nil (.node .nil (.node .nil (.v .unit o.2.1))))) true, .box Yedcc (.node (.v Yf0bc o.2.2.1) (.node (.own 2 []) (.v (.fld (.slice Y484d) (.fld (.slice Y484d) .unit)) o.2.2.2.1))) true, .row Y8f72 o.2.2.2.2 true], 62, 0⟩
theorem q1m_2_body {x0 x1 x2 x3 x4 x5 x6 x7 x8 r} (h : q1m_2_step x0 x1 x2 x3 x4 x5 x6 x7 x8 = some r) : J09 prog (J0z (J0q f12) [1, 1, 1, 1, 1, 0, 1, 0, 0]) (x0, x1, x2, x3, x4, x5, x6, x7, x8) r (fun s => q1m_2_in s.1 s.2.1 s.2.2.1 s.2.2.2.1 s.2.2.2.2.1 s.2.2.2.2.2.1 s.2.2.2.2.2.2.1 s.2.2.2.2.2.2.2.1 s.2.2.2.2.2.2.2.2) q1m_2_ex q1m_2_st := by
 unfold q1m_2_step at h
 rcases J2w h with ⟨h8, h⟩ | ⟨h8, h⟩
 ·obtain ⟨o20, h21, h⟩ := andThen_ok h q1m_1_ok
  cases h
  exact .next (env.cd [b1, .dive, .dive, .sel [1, 6, 7, 8, 9, 33, 34, 37, 38, 39] [0, 1, 2, 3], pI h21, .sel [1, 6, 7, 8, 33, 34] [0, 1, 2, 3]] (.c h8 (.c h21 .n)))
 ·cases h
  exact .out (by intro e; simp [q1m_2_ex] at e) (env.cd [b0, .sel [6, 7] [0, 1, 2]] (.c h8 .n))
theorem q1m_2_ok {x0 x1 x2 x3 x4 x5 x6 x7 x8 o} (h : q1m_2 x0 x1 x2 x3 x4 x5 x6 x7 x8 = some o) : J03 prog (J0z (J0q f12) [1, 1, 1, 1, 1, 0, 1, 0]) (q1m_2_in x0 x1 x2 x3 x4 x5 x6 x7 x8) (q1m_2_ex o) (q1m_2_st o) := J06.of_stepR (fun _ _ h => q1m_2_body h) _ _ h
theorem q1m_ok {a0 a1 a2 u} (h : q1m a0 a1 a2 = some u) : CallC prog 12 [(.v Yedcc a0), (.v (.slice (.int .i64)) a1), (.v (.int .i64) a2)] [] ((.v Yedcc u)) ([]) := by
 unfold q1m at h
 obtain ⟨u1, h2, h⟩ := andThen_ok h q1s_ok
 obtain ⟨h3, h⟩ := J4b h
 obtain ⟨u4, h5, h⟩ := andThen_ok h qx_ok
 obtain ⟨h6, h⟩ := J4b h
 obtain ⟨o22, h23, h⟩ := andThen_ok h q1m_2_ok
 cases h
 exact env.fn can12 [cI h2 [] [] [] true, cI h5 [] [] [] true, .dive, .freeze [3], .sel [1, 6, 7, 8, 33, 34] [1, 2, 5, 3], pI h23] s0 (.c h2 (.c h3 (.c h3 (.c h5 (.c h6 (.c h23 .n))))))
theorem can11 : CanF prog 11 f11 := ⟨func11, _, func11, by kernel_rfl, by kernel_rfl⟩
theorem q1f_ok {a0 a1 a2 u} (h : q1f a0 a1 a2 = some u) : CallC prog 11 [(.v Yedcc a0), (.v (.int .i64) a1), (.v (.slice (.int .i64)) a2)] [] ((.v Yedcc u)) ([]) := by
 unfold q1f at h
 obtain ⟨u1, h2, h⟩ := andThen_ok h q1s_ok
 let i1 : List It := [cI h2 [] [] [] true]
 have e2 := (AllP.c h2 AllP.n)
 rcases J2w h with ⟨h3, h⟩ | ⟨h3, h⟩
 ·cases h
  exact env.fn can11 (i1 ++ [b1]) s0 (e2.app (.c h3 .n))
 ·rcases J2w h with ⟨h4, h⟩ | ⟨h4, h⟩
  ·obtain ⟨u5, h6, h⟩ := andThen_ok h q1r_ok
   cases h
   exact env.fn can11 (i1 ++ [b0, b1, cI h6 [] [] [3] true]) s0 (e2.app (.c h3 (.c h4 (.c h6 .n))))
  ·let i3 : List It := i1 ++ [b0, b0]
   have e4 := e2.app (.c h3 (.c h4 .n))
   rcases J2w h with ⟨h7, h⟩ | ⟨h7, h⟩
   ·obtain ⟨u8, h9, h⟩ := andThen_ok h q1r_ok
    cases h
    exact env.fn can11 (i3 ++ [b1, cI h9 [] [] [3] true]) s0 (e4.app (.c h7 (.c h9 .n)))
   ·rcases J2w h with ⟨h10, h⟩ | ⟨h10, h⟩
    ·obtain ⟨u11, h12, h⟩ := andThen_ok h q1s_ok
     obtain ⟨h13, h⟩ := J4b h
     cases h
     exact env.fn can11 (i3 ++ [b0, b1, .pre p42, .asis, cI h12 [] [] [] true, b0]) s0 (e4.app (.c h7 (.c h10 (.c (of_decide_eq_true (p := ((14 : Int) ≠ 0)) (by kernel_rfl)) (.c rn (.c h12 (.c h13 .n)))))))
    ·have e5 := e4.app (.c h7 (.c h10 .n))
     rcases J2w h with ⟨h14, h⟩ | ⟨h14, h⟩
     ·obtain ⟨u15, h16, h⟩ := andThen_ok h q1m_ok
      cases h
      exact env.fn can11 (i3 ++ [b0, b0, b1, cI h16 [] [] [] false]) s0 (e5.app (.c h14 (.c (of_decide_eq_true (p := ((14 : Int) ≠ 0)) (by kernel_rfl)) (.c h16 .n))))
     ·rcases J2w h with ⟨h17, h⟩ | ⟨h17, h⟩
      ·cases h
       exact env.fn can11 (i3 ++ [b0, b0, b0, b1]) s0 (e5.app (.c h14 (.c h17 .n)))
      ·rcases J2w h with ⟨h18, h⟩ | ⟨h18, h⟩
       ·cases h
        exact env.fn can11 (i3 ++ [b0, b0, b0, b0, b1]) s0 (e5.app (.c h14 (.c h17 (.c h18 .n))))
       ·rcases J2w h with ⟨h19, h⟩ | ⟨h19, h⟩
        ·obtain ⟨u20, h21, h⟩ := andThen_ok h q1r_ok
         obtain ⟨u22, h23, h⟩ := andThen_ok h q17_ok
         obtain ⟨u24, h25, h⟩ := andThen_ok h q1m_ok
         cases h
         exact env.fn can11 (i3 ++ [b0, b0, b0, b0, b0, b1, cI h21 [] [] [3] true, cI h23 [] [] [4] true, cI h25 [] [] [] false]) s0 (e5.app (.c h14 (.c h17 (.c h18 (.c h19 (.c h21 (.c h23 (.c (of_decide_eq_true (p := ((14 : Int) ≠ 0)) (by kernel_rfl)) (.c h25 .n)))))))))
        ·cases h
         exact env.fn can11 (i3 ++ [b0, b0, b0, b0, b0, b0]) s0 (e5.app (.c h14 (.c h17 (.c h18 (.c h19 .n)))))
theorem can46 : CanF prog 46 f46 := ⟨func46, _, func46, by kernel_rfl, by kernel_rfl⟩
theorem q2x_ok {a0 u} (h : q2x a0 = some u) : CallC prog 46 [(.v Yedcc a0)] [] ((.v .bool u)) ([]) := by
 unfold q2x at h
 obtain ⟨u1, h2, h⟩ := andThen_ok h q3c_ok
 let i1 : List It := [.pre p43, .asis, cI h2 [] [] [] true]
 have e2 := (AllP.c rn (AllP.c h2 AllP.n))
 rcases J2w h with ⟨h3, h⟩ | ⟨h3, h⟩
 ·obtain ⟨u4, h5, h⟩ := andThen_ok h q32_ok
  let i3 : List It := i1 ++ [b1, b1, b1, .asis, cI h5 [] [] [] true, b1]
  have e4 := e2.app (.c h3 (.c h3 (.c h3 (.c rn (.c h5 (.c h3 .n))))))
  rcases J2w h with ⟨h6, h⟩ | ⟨h6, h⟩
  ·obtain ⟨u7, h8, h⟩ := andThen_ok h q32_ok
   let i5 : List It := i3 ++ [b1, b1, b1, .asis, cI h8 [] [] [] true, b1]
   have e6 := e4.app (.c h6 (.c h6 (.c h6 (.c rn (.c h8 (.c h6 .n))))))
   rcases J2w h with ⟨h9, h⟩ | ⟨h9, h⟩
   ·have e7 := e6.app (.c h9 (.c h9 (.c h9 (.c h9 (.c h9 .n)))))
    rcases J2w h with ⟨h10, h⟩ | ⟨h10, h⟩
    ·obtain ⟨u11, h12, h⟩ := andThen_ok h q3h_ok
     let i8 : List It := i5 ++ [b1, b1, b1, b1, b1, b1, b1, b1, .asis, cI h12 [] [] [] true, b1, b1, b1, b1, b1]
     have e9 := e7.app (.c h10 (.c h10 (.c h10 (.c rn (.c h12 (.c h10 (.c h10 (.c h10 (.c h10 (.c h10 .n))))))))))
     rcases J2w h with ⟨h13, h⟩ | ⟨h13, h⟩
     ·obtain ⟨u14, h15, h⟩ := andThen_ok h q3h_ok
      cases h
      exact env.fn can46 (i8 ++ [b1, b1, b1, .asis, cI h15 [] [] [] true, b1, b1, b1, b1, b1]) s0 (e9.app (.c h13 (.c h13 (.c h13 (.c rn (.c h15 (.c h13 (.c h13 (.c h13 (.c h13 (.c h13 .n)))))))))))
     ·cases h
      exact env.fn can46 (i8 ++ [b0, b0, b0, b0, b0, b0, b0, b0]) s0 (e9.app (.c h13 (.c h13 (.c h13 (.c h13 (.c h13 (.c h13 (.c h13 (.c h13 .n)))))))))
    ·cases h
     exact env.fn can46 (i5 ++ [b1, b1, b1, b1, b1, b0, b0, b0, b0, b0, b0, b0, b0, b0, b0, b0, b0, b0, b0, b0, b0]) s0 (e7.app (.c h10 (.c h10 (.c h10 (.c h10 (.c h10 (.c h10 (.c h10 (.c h10 (.c r0 (.c r0 (.c r0 (.c r0 (.c r0 (.c r0 (.c r0 (.c r0 .n)))))))))))))))))
   ·cases h
    exact env.fn can46 (i5 ++ [b0, b0, b0, b0, b0, b0, b0, b0, b0, b0, b0, b0, b0, b0, b0, b0, b0, b0, b0, b0, b0]) s0 (e6.app (.c h9 (.c h9 (.c h9 (.c h9 (.c h9 (.c r0 (.c r0 (.c r0 (.c r0 (.c r0 (.c r0 (.c r0 (.c r0 (.c r0 (.c r0 (.c r0 (.c r0 (.c r0 (.c r0 (.c r0 (.c r0 .n))))))))))))))))))))))
  ·cases h
   exact env.fn can46 (i3 ++ [b0, b0, b0, b0, b0, b0, b0, b0, b0, b0, b0, b0, b0, b0, b0, b0, b0, b0, b0, b0, b0, b0, b0, b0, b0]) s0 (e4.app (.c h6 (.c h6 (.c h6 (.c h6 (.c r0 (.c r0 (.c r0 (.c r0 (.c r0 (.c r0 (.c r0 (.c r0 (.c r0 (.c r0 (.c r0 (.c r0 (.c r0 (.c r0 (.c r0 (.c r0 (.c r0 (.c r0 (.c r0 (.c r0 (.c r0 .n))))))))))))))))))))))))))
 ·cases h
  exact env.fn can46 (i1 ++ [b0, b0, b0, b0, b0, b0, b0, b0, b0, b0, b0, b0, b0, b0, b0, b0, b0, b0, b0, b0, b0, b0, b0, b0, b0, b0, b0, b0, b0]) s0 (e2.app (.c h3 (.c h3 (.c h3 (.c h3 (.c r0 (.c r0 (.c r0 (.c r0 (.c r0 (.c r0 (.c r0 (.c r0 (.c r0 (.c r0 (.c r0 (.c r0 (.c r0 (.c r0 (.c r0 (.c r0 (.c r0 (.c r0 (.c r0 (.c r0 (.c r0 (.c r0 (.c r0 (.c r0 (.c r0 .n))))))))))))))))))))))))))))))
theorem can107 : CanF prog 107 f107 := ⟨func107, _, func107, by kernel_rfl, by kernel_rfl⟩
def q37_1_in (x0 : List (T8f72)) (x1 : Int) : St := ⟨[(0, (.v (.slice Y8f72) x0)), (3, (.v (.int .i64) x1))], [], 25, 0⟩
def q37_1_ex (o : (Bool) ⊕ (List (T8f72))) : Exit := match (generalizing := false) o with | (.inl o) => .ret | (.inr o) => (.exit 0)
def q37_1_st (o : (Bool) ⊕ (List (T8f72))) : St := match (generalizing := false) o with | (.inl o) => ⟨[(2, (.v .bool o))], [], 25, 0⟩ | (.inr o) => ⟨[(0, (.v (.slice Y8f72) o))], [], 25, 0⟩
theorem q37_1_body {x0 x1 r} (h : q37_1_step x0 x1 = some r) : J09 prog (J0z (J0q f107) [1, 0, 1, 0, 0]) x1 r (fun s => q37_1_in x0 s) q37_1_ex q37_1_st := by
 unfold q37_1_step at h
 rcases J2w h with ⟨h2, h⟩ | ⟨h2, h⟩
 ·obtain ⟨h3, h⟩ := J4b h
  obtain ⟨h4, h⟩ := J4b h
  let i1 : List It := [b1, .pre p44]
  rcases J2w h with ⟨h5, h⟩ | ⟨h5, h⟩
  ·cases h
   exact .out (by intro e; simp [q37_1_ex] at e) (env.cd (i1 ++ [b1, .sel [2] []]) (.c h2 (.c h3 (.c h4 (.c h5 .n)))))
  ·cases h
   exact .next (env.cd (i1 ++ [b0, .sel [0, 3] []]) (.c h2 (.c h3 (.c h4 (.c h5 .n)))))
 ·cases h
  exact .out (by intro e; simp [q37_1_ex] at e) (env.cd [b0, .sel [0] []] (.c h2 .n))
theorem q37_1_ok {x0 x1 o} (h : q37_1 x0 x1 = some o) : J03 prog (J0z (J0q f107) [1, 0, 1, 0]) (q37_1_in x0 x1) (q37_1_ex o) (q37_1_st o) := J06.of_stepR (fun _ _ h => q37_1_body h) _ _ h
theorem q37_ok {a0 u} (h : q37 a0 = some u) : CallC prog 107 [(.v (.slice Y8f72) a0)] [] ((.v .bool u)) ([]) := by
 unfold q37 at h
 obtain ⟨o6, h7, h⟩ := andThen_ok h q37_1_ok
 rcases o6 with o8 | o9
 ·cases h
  exact env.fn can107 [.dive, .sel [0, 3] [], pI h7] s0 (.c h7 .n)
 ·cases h
  exact env.fn can107 [.dive, .sel [0, 3] [], pI h7] s0 (.c h7 .n)
theorem can121 : CanF prog 121 f121 := ⟨func121, _, func121, by kernel_rfl, by kernel_rfl⟩
theorem q33_ok {a0 u} (h : q33 a0 = some u) : CallC prog 121 [(.v Yf0bc a0)] [] ((.own 0 [])) ([.row (.int .u8) u true]) := by
 unfold q33 at h
 obtain ⟨u1, h2, h⟩ := andThen_ok h q3c_ok
 rcases J2w h with ⟨h3, h⟩ | ⟨h3, h⟩
 ·cases h
  exact env.fn can121 [cI h2 [] [] [] true, b1] [.promote (.int .u8), .sel [1]] (.c h2 (.c h3 .n))
 ·obtain ⟨u4, h5, h⟩ := andThen_ok h q3v_ok
  obtain ⟨u6, h7, h⟩ := andThen_ok h q3q_ok
  obtain ⟨h8, h⟩ := J4b h
  cases h
  exact env.fn can121 [cI h2 [] [] [] true, b0, .pre p45, cI h5 [] [] [0] true, cI h7 [] [] [0] true] [.sel [5]] (.c h2 (.c h3 (.c h5 (.c h7 (.c h8 .n)))))
end
end Go.Proofs.YtnckmagemlajeaaGreat.lightPlays
