/-
  The functions, walked through: each call comes to what the pure text says.
-/
import Derived.Test.YtnckmagemlajeaaProg
import Derived.Test.YtnckmagemlajeaaAxC
import Derived.Test.YtnckmagemlajeaaCAdmitBindsP
namespace Go.Proofs.Ytnckmagemlajeaa.admitBinds
open Go.Ax Go.Ax.V Go.Proofs.Try
set_option maxRecDepth 100000
set_option linter.unusedVariables false
noncomputable section
abbrev Yb : Ty := (.slice (.int .u8))
abbrev Yh : Ty := (.arr 32 (.int .u8))
abbrev Y8 : Ty := (.arr 8 (.int .u32))
abbrev Y64 : Ty := (.arr 64 (.int .u32))
abbrev Ybb : Ty := (.slice Yb)
abbrev Y18c3 : Ty := (.fld .str (.fld .str .unit))
abbrev Z32 := (List.replicate 32 (0 : UInt8))
abbrev Z18c3 := (([] : B8), ([] : B8), ())
abbrev Y011a : Ty := (.fld (.int .i64) (.fld .str (.fld .str (.fld (.int .i64) (.fld (.int .i64) .unit)))))
abbrev Y1a67 : Ty := (.fld (.int .i64) (.fld (.int .i64) (.fld (.int .i64) (.fld (.int .i64) (.fld (.int .i64) .unit)))))
abbrev Z20c7 := ((0 : Int), (0 : Int), ([] : List (T18c3)), ([] : List (List (B8))), ())
abbrev Y20c7 : Ty := (.fld (.int .i64) (.fld (.int .i64) (.fld (.slice Y18c3) (.fld (.slice (.slice Yh)) .unit))))
abbrev Z1f7e := ((0 : Int), (0 : Int), ([] : List (T18c3)), Z20c7, ())
abbrev Y1f7e : Ty := (.fld (.int .i64) (.fld (.int .i64) (.fld (.slice Y18c3) (.fld Y20c7 .unit))))
abbrev rg := List.range
abbrev s0 : List Po := [.sel []]
abbrev s1 : List Po := [.sel [0]]
abbrev b0 : It := .br false
abbrev b1 : It := .br true
theorem r0 : (false : Bool) = false := rfl
theorem r1 : (true : Bool) = true := rfl
theorem rn : ([] : List AObj) = [] := rfl
abbrev p0 : List (List Nat) := [[], [], [], [1, 2], [1, 2, 3], [1, 2, 3, 4], [], [], [6, 7], [6, 7, 8], [6, 7, 8, 9], [1, 2, 3, 4, 5, 6, 7, 8, 9, 10], (rg 12)]
abbrev p1 : List (List Nat) := [[], [0], [0, 1], [], [3], (rg 5), [], [6], (rg 8), (rg 9), [], (rg 11)]
abbrev p2 : List (List Nat) := [[], [], [], [2], [1, 2, 3], [1, 2, 3, 4], [1, 2, 3, 4, 5], [1, 2, 3, 4, 5, 6], [], [], [9], [9, 10], [8, 9, 10, 11], [8, 9, 10, 11, 12], [8, 9, 10, 11, 12, 13], [8, 9, 10, 11, 12, 13, 14], [1, 2, 3, 4, 5, 6, 7, 8, 9, 10, 11, 12, 13, 14, 15], [], [], [18], [18, 19], [17, 18, 19, 20], [17, 18, 19, 20, 21], [17, 18, 19, 20, 21, 22], [17, 18, 19, 20, 21, 22, 23], [1, 2, 3, 4, 5, 6, 7, 8, 9, 10, 11, 12, 13, 14, 15, 16, 17, 18, 19, 20, 21, 22, 23, 24], [], [], [27], [27, 28], [26, 27, 28, 29], [26, 27, 28, 29, 30], [26, 27, 28, 29, 30, 31], [1, 2, 3, 4, 5, 6, 7, 8, 9, 10, 11, 12, 13, 14, 15, 16, 17, 18, 19, 20, 21, 22, 23, 24, 25, 26, 27, 28, 29, 30, 31, 32], (rg 34), (rg 35)]
abbrev p3 : List (List Nat) := [[], [0], [0, 1], [0, 1, 2], [], [4], [4, 5], [4, 5, 6], (rg 4), (rg 9)]
abbrev p4 : List (List Nat) := [[], [], [1], [1, 2], [1, 2, 3], [], [5], [], [5, 6, 7], [5, 6, 7, 8], [], [10], [5, 6, 7, 8, 9, 10, 11], [1, 2, 3, 4, 5, 6, 7, 8, 9, 10, 11, 12], [], [14], [14, 15], [14, 15, 16], [1, 2, 3, 4, 5, 6, 7, 8, 9, 10, 11, 12, 13, 14, 15, 16, 17], [], [5, 6, 7, 8, 19], [], [5, 6, 7, 8, 19, 20, 21], [5, 6, 7, 8, 19, 20, 21, 22], [], [24], [5, 6, 7, 8, 19, 20, 21, 22, 23, 24, 25], [1, 2, 3, 4, 5, 6, 7, 8, 9, 10, 11, 12, 13, 14, 15, 16, 17, 18, 19, 20, 21, 22, 23, 24, 25, 26], (rg 28), (rg 29)]
abbrev p5 : List (List Nat) := [[], [], [1], [], [1, 2, 3], [1, 2, 3, 4], [], [1, 2, 3, 4, 6], [1, 2, 3, 4, 5, 6, 7], (rg 9), [], (rg 11), [], [], [12], [12, 13, 14], [12, 13, 14, 15], (rg 17), [], [18], [18, 19], (rg 21), (rg 22)]
abbrev p6 : List (List Nat) := [[], [], [0], [0, 1, 2], (rg 4), [], (rg 6), [0], (rg 8), (rg 9)]
abbrev p7 : List (List Nat) := [[], [0], [0, 1], [0, 1, 2], [], [4], [4, 5], [4, 5, 6], [], [8], [8, 9], [8, 9, 10], [], [12], [12, 13], [12, 13, 14], [], [16], [16, 17], [16, 17, 18], [], [20], [20, 21], [20, 21, 22], [], [24], [24, 25], [24, 25, 26], [], [28], [28, 29], [28, 29, 30], (rg 4), [0, 1, 2, 3, 4, 5, 6, 7, 32], [0, 1, 2, 3, 4, 5, 6, 7, 8, 9, 10, 11, 32, 33], [0, 1, 2, 3, 4, 5, 6, 7, 8, 9, 10, 11, 12, 13, 14, 15, 32, 33, 34], [0, 1, 2, 3, 4, 5, 6, 7, 8, 9, 10, 11, 12, 13, 14, 15, 16, 17, 18, 19, 32, 33, 34, 35], [0, 1, 2, 3, 4, 5, 6, 7, 8, 9, 10, 11, 12, 13, 14, 15, 16, 17, 18, 19, 20, 21, 22, 23, 32, 33, 34, 35, 36], [0, 1, 2, 3, 4, 5, 6, 7, 8, 9, 10, 11, 12, 13, 14, 15, 16, 17, 18, 19, 20, 21, 22, 23, 24, 25, 26, 27, 32, 33, 34, 35, 36, 37], (rg 39)]
abbrev p8 : List (List Nat) := [[], [], [0, 1], [0, 1, 2], (rg 4)]
abbrev p9 : List (List Nat) := [[], [], [0, 1], [0, 1, 2], [], [], [4, 5], (rg 7), (rg 8), (rg 9)]
abbrev p10 : List (List Nat) := [[], [0], [0, 1], [0, 1, 2], [], (rg 5), (rg 6), (rg 7)]
abbrev p11 : List (List Nat) := [[], [0], [0, 1], [], [3], (rg 5), (rg 6), (rg 7)]
abbrev p12 : List (List Nat) := [[], [0], [0, 1], [], [3], (rg 5), (rg 6), [], [7], [0, 1, 2, 3, 4, 5, 7, 8], (rg 10), (rg 11)]
abbrev p13 : List (List Nat) := [[], [0], [], [0, 1, 2], [], (rg 5), [], [], [6, 7], [6, 7, 8], (rg 10), [], [11], [11, 12], (rg 14), (rg 15)]
abbrev p14 : List (List Nat) := [[], [], [1], [1, 2], [], [4], [4, 5], [1, 2, 3, 4, 5, 6], (rg 8), (rg 9)]
abbrev p15 : List (List Nat) := [[], [], [], [], [3], [1, 2, 3, 4], [], (rg 7), (rg 8)]
abbrev p16 : List (List Nat) := [[], [], [0, 1], [0, 1, 2], [], [], [4, 5], (rg 7), [], [], (rg 10), (rg 11)]
abbrev p17 : List (List Nat) := [[], [], [0, 1], [], (rg 4), [], [], [5, 6], (rg 8), (rg 9), (rg 10), (rg 11)]
abbrev p18 : List (List Nat) := [[], [], [0, 1], [], [], [3, 4], (rg 6), [], [], [7, 8], (rg 10), (rg 11), (rg 12), (rg 13)]
abbrev p19 : List (List Nat) := [[], [0], [], [], [2, 3], [2, 3, 4], [2, 3, 4, 5], (rg 7), (rg 8), (rg 9)]
abbrev p20 : List (List Nat) := [[], [0], [], [2], [], [2, 3, 4], [2, 3, 4, 5], (rg 7), (rg 8), (rg 9)]
abbrev p21 : List (List Nat) := [[], [], [1], [0, 1, 2], [], [4], (rg 6), (rg 7), (rg 8)]
abbrev p22 : List (List Nat) := [[], [0], [0, 1], [0, 1, 2], (rg 4), (rg 4), [0, 1, 2, 3, 5], (rg 7), (rg 8), (rg 9), (rg 10), (rg 10), (rg 12), (rg 13), (rg 14), (rg 10), [0, 1, 2, 3, 4, 5, 6, 7, 8, 9, 15], (rg 17), (rg 18)]
abbrev p23 : List (List Nat) := [[], [], [], [2], (rg 4), [], [], [], [7], [5, 6, 7, 8], (rg 5), (rg 11), (rg 12), (rg 13)]
abbrev p24 : List (List Nat) := [[], [0], [0, 1], [0, 1, 2], (rg 4), (rg 5), (rg 6), (rg 7), (rg 7), [0, 1, 2, 3, 4, 5, 6, 8], (rg 10), (rg 11), (rg 12), (rg 7), [0, 1, 2, 3, 4, 5, 6, 13], (rg 15), (rg 16), (rg 17)]
abbrev p25 : List (List Nat) := [[], [0], [0, 1], [], (rg 4), (rg 5), (rg 6)]
abbrev p26 : List (List Nat) := [[], [0], [], [2], [], [2, 3, 4], [], [6], [], [8], [], [8, 9, 10], [8, 9, 10, 11], (rg 13), (rg 14), (rg 15), (rg 15), [], [0, 1, 2, 3, 4, 5, 6, 7, 8, 9, 10, 11, 12, 13, 14, 15, 17], (rg 19)]
abbrev p27 : List (List Nat) := [[], [0], [0, 1], [0, 1, 2], (rg 4), [0, 1, 2], (rg 6), [0, 1, 2], (rg 8), (rg 9)]
abbrev p28 : List (List Nat) := [[], [], [0, 1], [0, 1, 2]]
abbrev p29 : List (List Nat) := [[], [], [0, 1], [0, 1, 2], [], [], [4, 5], [4, 5, 6], (rg 8)]
abbrev p30 : List (List Nat) := [[], [0], [0, 1], [0, 1, 2], (rg 4), [], [5], (rg 7), (rg 8), (rg 9), (rg 9), [0, 1, 2, 3, 4, 5, 6, 7, 8, 10], [0, 1, 2, 3, 4, 5, 6, 7, 8, 10, 11], [0, 1, 2, 3, 4, 5, 6, 7, 8, 10, 11, 12], (rg 9), [0, 1, 2, 3, 4, 5, 6, 7, 8, 14], (rg 16), (rg 17)]
abbrev p31 : List (List Nat) := [[], [0], [0, 1], [], [3], [3, 4], [3, 4, 5], [0, 1, 2], (rg 8)]
abbrev p32 : List (List Nat) := [[], [0], [], [], [3], [2, 3, 4], [], [2, 3, 4, 5, 6], (rg 8), (rg 9), (rg 10)]
abbrev p33 : List (List Nat) := [[], [0], [0, 1], [], [], [4], [3, 4, 5], [], [3, 4, 5, 6, 7], (rg 9), (rg 10), (rg 11)]
abbrev p34 : List (List Nat) := [[], [0], [0, 1], [0, 1, 2], [], [4], [4, 5], [4, 5, 6], (rg 7), [0, 1, 2, 3, 4, 5, 6, 8], [0, 1, 2, 3, 4, 5, 6, 8, 9], (rg 11), (rg 12), (rg 13)]
abbrev p35 : List (List Nat) := [[], [0], [0, 1], [], [3], (rg 5), [], [6], [6, 7], [], [9], [6, 7, 8, 9, 10], (rg 9), [0, 1, 2, 3, 4, 5, 6, 7, 8, 12], [0, 1, 2, 3, 4, 5, 6, 7, 8, 12, 13], (rg 15), (rg 16), (rg 17)]
abbrev p36 : List (List Nat) := [[], [0], [0, 1], [], [3], (rg 5), (rg 6), (rg 7), (rg 8)]
abbrev p37 : List (List Nat) := [[], [], [1], [], (rg 4), (rg 5), (rg 6), (rg 7), (rg 7), [0, 1, 2, 3, 4, 5, 6, 8], (rg 7), (rg 11), (rg 12), (rg 13), (rg 14), (rg 15), (rg 15), [0, 1, 2, 3, 4, 5, 6, 7, 8, 9, 10, 11, 12, 13, 14, 16], (rg 15), (rg 19), (rg 20), (rg 21), (rg 22)]
abbrev p38 : List (List Nat) := [[], [], [0, 1], [], (rg 4), (rg 5)]
abbrev p39 : List (List Nat) := [[], [], [0, 1], [0, 1, 2], [], [], [4, 5], (rg 7), (rg 8), [], [9], (rg 11), (rg 12)]
abbrev p40 : List (List Nat) := [[], [0], [0, 1], [], [], [4], [0, 1, 2, 4, 5], (rg 7), [], (rg 9), (rg 10), (rg 11), (rg 12)]
abbrev p41 : List (List Nat) := [[], [0], [], [], [3], [3, 4], [2, 3, 4, 5], [2, 3, 4, 5, 6], [], [0, 1, 8], (rg 10)]
abbrev p42 : List (List Nat) := [[], [], [0, 1], [0, 1, 2], [], (rg 4), (rg 6)]
abbrev p43 : List (List Nat) := [[], [], [], [], [], [4], [4, 5], [3, 4, 5, 6], (rg 8), [], [], (rg 11), [], (rg 13), (rg 14), (rg 15), (rg 16)]
abbrev p44 : List (List Nat) := [[], [], [], [1, 2], [], [], [4, 5], [], [], [8], [8, 9], [7, 8, 9, 10], (rg 12), [], [], (rg 15), [], (rg 17), (rg 18), (rg 19), (rg 20)]
abbrev p45 : List (List Nat) := [[], [], [1], [], [3], [], [3, 4, 5], [], [7], [], [9], [], [9, 10, 11], [9, 10, 11, 12], [1, 2, 3, 4, 5, 6, 7, 8, 9, 10, 11, 12, 13], (rg 15), [], [], [17], [0, 1, 2, 3, 4, 5, 6, 7, 8, 9, 10, 11, 12, 13, 14, 15, 17, 18], (rg 20), [], (rg 22), (rg 23), (rg 24), (rg 25)]
abbrev p46 : List (List Nat) := [[], [], [], [1, 2], [], [1, 2, 3, 4], (rg 6), (rg 7)]
abbrev p47 : List (List Nat) := [[], [0], [], [0, 1, 2], [], [], (rg 6), (rg 7)]
abbrev p48 : List (List Nat) := [[], [], [], [1, 2], [], [], [], (rg 7), [], [], [], [], (rg 12), [], (rg 14)]
abbrev p49 : List (List Nat) := [[], [0], [], [0, 1, 2], (rg 4), (rg 5), (rg 6), (rg 5), [0, 1, 2, 3, 4, 7], (rg 9), (rg 10), (rg 11), (rg 12), (rg 13), (rg 14), (rg 15), (rg 16)]
def T : Tab := [(3, (.int .i64), 8), (4, .bool, 1), (5, (.int .u8), 1), (9, .str, 16), (22, (.slice (.int .i64)), 24), (24, Y1a67, 40), (25, (.slice Y18c3), 24), (28, Y011a, 56), (31, Yh, 32), (33, (.slice (.slice Yh)), 24), (35, Y20c7, 64), (37, Y1f7e, 104), (39, (.int .i64), 8), (47, Y18c3, 32), (50, Ybb, 24), (59, .mp, 8), (61, (.slice .str), 24), (63, Yb, 24), (78, .mp, 8), (85, (.slice Yh), 24), (96, (.slice (.int .u32)), 24), (98, (.int .u32), 4), (99, Y8, 32), (100, (.int .u64), 8), (101, (.int .u64), 8), (108, (.slice .bool), 24), (111, Y64, 256)]
theorem tab : TabOK prog T := tab_of_b (by kernel_rfl)
theorem bytes : bytesB T = true := by kernel_rfl
theorem mix : prog.follows .mixedOrders = true := by kernel_rfl
theorem eqs : eqTypes prog T [31, 47] = true := by kernel_rfl
theorem env : Env prog T [31, 47] := ⟨tab, eqs, mix⟩
theorem can25 : Callable prog 25 := ⟨_, func25, by kernel_rfl, by kernel_rfl⟩
def affiantkeep_keys_R  (u : List (B8)) : Slot := (.own 0 [])
def affiantkeep_keys_O  (u : List (B8)) : List AObj := [.row .str u true]
theorem affiantkeep_keys_ok  (u : List (B8)) (h : affiantkeep_keys  = some u) : CallC prog 25 [] [] (affiantkeep_keys_R u) (affiantkeep_keys_O u) := by
 unfold affiantkeep_keys at h
 injection h with h; subst h
 exact env.fun func25 can25 (its := []) (pos := s1) .n (by kernel_rfl)
theorem can20 : Callable prog 20 := ⟨_, func20, by kernel_rfl, by kernel_rfl⟩
def affiantbook_Within_R (a0 : Int) (a1 : Int) (a2 : Int) (u : Int) : Slot := (.v (.int .i64) u)
def affiantbook_Within_O (a0 : Int) (a1 : Int) (a2 : Int) (u : Int) : List AObj := []
theorem affiantbook_Within_ok (a0 : Int) (a1 : Int) (a2 : Int) (u : Int) (h : affiantbook_Within a0 a1 a2 = some u) : CallC prog 20 [(.v (.int .i64) a0), (.v (.int .i64) a1), (.v (.int .i64) a2)] [] (affiantbook_Within_R a0 a1 a2 u) (affiantbook_Within_O a0 a1 a2 u) := by
 unfold affiantbook_Within at h
 obtain ⟨h1, h⟩ := need_some h
 rcases fork_some h with ⟨h2, h⟩ | ⟨h2, h⟩
 ·injection h with h; subst h
  exact env.fun func20 can20 (its := [b1]) (pos := s0) (.c h1 (.c h2 .n)) (by kernel_rfl)
 ·injection h with h; subst h
  exact env.fun func20 can20 (its := [b0]) (pos := s0) (.c h1 (.c h2 .n)) (by kernel_rfl)
theorem can24 : Callable prog 24 := ⟨_, func24, by kernel_rfl, by kernel_rfl⟩
def affiantkeep_Key_R (a0 : Int) (u : B8) : Slot := (.v .str u)
def affiantkeep_Key_O (a0 : Int) (u : B8) : List AObj := []
theorem affiantkeep_Key_ok (a0 : Int) (u : B8) (h : affiantkeep_Key a0 = some u) : CallC prog 24 [(.v (.int .i64) a0)] [] (affiantkeep_Key_R a0 u) (affiantkeep_Key_O a0 u) := by
 unfold affiantkeep_Key at h
 obtain ⟨u1, h2, h⟩ := andThen_some h
 obtain ⟨u3, h4, h⟩ := andThen_some h
 obtain ⟨u5, h6, h⟩ := andThen_some h
 obtain ⟨h7, h⟩ := need_some h
 injection h with h; subst h
 exact env.fun func24 can24 (its := [.call [] [] [] true (affiantkeep_keys_R u1) (affiantkeep_keys_O u1), .call [] [] [] true (affiantkeep_keys_R u3) (affiantkeep_keys_O u3), .call [none, none, none] [] [] true (affiantbook_Within_R a0 (0 : Int) (w64 ((List.length u3 : Int) - (1 : Int))) u5) (affiantbook_Within_O a0 (0 : Int) (w64 ((List.length u3 : Int) - (1 : Int))) u5)]) (pos := s0) (.c (affiantkeep_keys_ok u1 h2) (.c (affiantkeep_keys_ok u3 h4) (.c (affiantbook_Within_ok a0 (0 : Int) (w64 ((List.length u3 : Int) - (1 : Int))) u5 h6) (.c h7 .n)))) (by kernel_rfl)
theorem can23 : Callable prog 23 := ⟨_, func23, by kernel_rfl, by kernel_rfl⟩
def affiantkeep_Text_R (a0 : Int) (u : B8) : Slot := (.v .str u)
def affiantkeep_Text_O (a0 : Int) (u : B8) : List AObj := []
theorem affiantkeep_Text_ok (a0 : Int) (u : B8) (h : affiantkeep_Text a0 = some u) : CallC prog 23 [(.v (.int .i64) a0)] [] (affiantkeep_Text_R a0 u) (affiantkeep_Text_O a0 u) := by
 unfold affiantkeep_Text at h
 obtain ⟨u1, h2, h⟩ := andThen_some h
 obtain ⟨h3, h⟩ := need_some h
 injection h with h; subst h
 exact env.fun func23 can23 (its := [.call [none, none, none] [] [] true (affiantbook_Within_R a0 (0 : Int) (4 : Int) u1) (affiantbook_Within_O a0 (0 : Int) (4 : Int) u1)]) (pos := s0) (.c (affiantbook_Within_ok a0 (0 : Int) (4 : Int) u1 h2) (.c h3 .n)) (by kernel_rfl)
theorem can5 : Callable prog 5 := ⟨_, func5, by kernel_rfl, by kernel_rfl⟩
def affiantkeep_Pairs_1_in (x0 : List Int) (x1 : Int) (x2 : List (B8 × B8)) : St := ⟨[(0, (.v (.slice (.int .i64)) x0)), (3, (.mp 0)), (4, (.v (.int .i64) x1))], [.map .str .str x2 true], 54, 0⟩
def affiantkeep_Pairs_1_ex (o : List (B8 × B8)) : Exit := (.exit 0)
def affiantkeep_Pairs_1_st (o : List (B8 × B8)) : St := ⟨[(3, (.mp 0))], [.map .str .str o true], 54, 0⟩
theorem affiantkeep_Pairs_1_body (x0 : List Int) (x1 : Int) (x2 : List (B8 × B8)) : ∀ r, affiantkeep_Pairs_1_step x0 x1 x2 = some r → (match r with | .inl s => CodeOK prog (codeAt (bodyOf f5) [1, 1, 0, 1, 0, 0]) (affiantkeep_Pairs_1_in x0 x1 x2) .normal (affiantkeep_Pairs_1_in x0 s.1 s.2) | .inr o => affiantkeep_Pairs_1_ex o ≠ .normal ∧ CodeOK prog (codeAt (bodyOf f5) [1, 1, 0, 1, 0, 0]) (affiantkeep_Pairs_1_in x0 x1 x2) (affiantkeep_Pairs_1_ex o) (affiantkeep_Pairs_1_st o)) := by
 intro r h
 unfold affiantkeep_Pairs_1_step at h
 rcases fork_some h with ⟨h2, h⟩ | ⟨h2, h⟩
 ·rcases fork_some h with ⟨h3, h⟩ | ⟨h3, h⟩
  ·obtain ⟨h4, h⟩ := need_some h
   obtain ⟨u5, h6, h⟩ := andThen_some h
   obtain ⟨u7, h8, h⟩ := andThen_some h
   injection h with h; subst h
   exact env.code (its := [b1, b1, b1, b1, .pre p0, .asis, .call [none] [] [] true (affiantkeep_Key_R (List.getD x0 (Int.toNat x1) (0 : Int)) u5) (affiantkeep_Key_O (List.getD x0 (Int.toNat x1) (0 : Int)) u5), .asis, .call [none] [] [] true (affiantkeep_Text_R (w64 (Int.tdiv (List.getD x0 (Int.toNat x1) (0 : Int)) (12 : Int))) u7) (affiantkeep_Text_O (w64 (Int.tdiv (List.getD x0 (Int.toNat x1) (0 : Int)) (12 : Int))) u7), .sel [0, 3, 4] [0]]) (.c h2 (.c h2 (.c h2 (.c h3 (.c h4 (.c rn (.c (affiantkeep_Key_ok (List.getD x0 (Int.toNat x1) (0 : Int)) u5 h6) (.c h4 (.c (of_decide_eq_true (p := ((12 : Int) ≠ 0)) (by kernel_rfl)) (.c rn (.c (affiantkeep_Text_ok (w64 (Int.tdiv (List.getD x0 (Int.toNat x1) (0 : Int)) (12 : Int))) u7 h8) .n))))))))))) (by kernel_rfl)
  ·injection h with h; subst h
   exact ⟨by intro e; simp [affiantkeep_Pairs_1_ex] at e, env.code (its := [b1, b1, b1, b0, .sel [3] [0]]) (.c h2 (.c h2 (.c h2 (.c h3 .n)))) (by kernel_rfl)⟩
 ·injection h with h; subst h
  exact ⟨by intro e; simp [affiantkeep_Pairs_1_ex] at e, env.code (its := [b0, b0, b0, b0, .sel [3] [0]]) (.c h2 (.c h2 (.c h2 (.c r0 .n)))) (by kernel_rfl)⟩
theorem affiantkeep_Pairs_1_ok (x0 : List Int) (x1 : Int) (x2 : List (B8 × B8)) (o : List (B8 × B8)) (h : affiantkeep_Pairs_1 x0 x1 x2 = some o) : CodeOK prog (codeAt (bodyOf f5) [1, 1, 0, 1, 0]) (affiantkeep_Pairs_1_in x0 x1 x2) (affiantkeep_Pairs_1_ex o) (affiantkeep_Pairs_1_st o) :=
 LoopOK.of_step (st := fun s => affiantkeep_Pairs_1_in x0 s.1 s.2) (ex := affiantkeep_Pairs_1_ex) (stO := affiantkeep_Pairs_1_st) (fun s s2 hs => affiantkeep_Pairs_1_body x0 s.1 s.2 (.inl s2) hs) (fun s r hs => affiantkeep_Pairs_1_body x0 s.1 s.2 (.inr r) hs) _ o h
def affiantkeep_Pairs_2_in (x0 : Int) (x1 : Int) (x2 : List (B8 × B8)) (x3 : List (T18c3)) (x4 : List (B8)) : St := ⟨[(3, (.mp 0)), (5, (.own 1 [])), (33, (.own 2 [])), (34, (.v (.int .i64) x0)), (35, (.v (.int .i64) x1))], [.map .str .str x2 true, .row Y18c3 x3 true, .row .str x4 true], 54, 0⟩
def affiantkeep_Pairs_2_ex (o : List (T18c3)) : Exit := (.exit 2)
def affiantkeep_Pairs_2_st (o : List (T18c3)) : St := ⟨[(5, (.own 0 []))], [.row Y18c3 o true], 54, 0⟩
theorem affiantkeep_Pairs_2_body (x0 : Int) (x1 : Int) (x2 : List (B8 × B8)) (x3 : List (T18c3)) (x4 : List (B8)) : ∀ r, affiantkeep_Pairs_2_step x0 x1 x2 x3 x4 = some r → (match r with | .inl s => CodeOK prog (codeAt (bodyOf f5) [1, 1, 1, 1, 0, 1, 0, 0]) (affiantkeep_Pairs_2_in x0 x1 x2 x3 x4) .normal (affiantkeep_Pairs_2_in x0 s.1 x2 s.2 x4) | .inr o => affiantkeep_Pairs_2_ex o ≠ .normal ∧ CodeOK prog (codeAt (bodyOf f5) [1, 1, 1, 1, 0, 1, 0, 0]) (affiantkeep_Pairs_2_in x0 x1 x2 x3 x4) (affiantkeep_Pairs_2_ex o) (affiantkeep_Pairs_2_st o)) := by
 intro r h
 unfold affiantkeep_Pairs_2_step at h
 rcases fork_some h with ⟨h14, h⟩ | ⟨h14, h⟩
 ·obtain ⟨h15, h⟩ := need_some h
  rcases fork_some h with ⟨h16, h⟩ | ⟨h16, h⟩
  ·obtain ⟨h17, h⟩ := need_some h
   injection h with h; subst h
   exact env.code (its := [b1, b1, .sel [3, 5, 33, 34, 35] [0, 4, 2]]) (.c h14 (.c h15 (.c h16 (.c h17 .n)))) (by kernel_rfl)
  ·injection h with h; subst h
   exact env.code (its := [b1, b0, .sel [3, 5, 33, 34, 35] [0, 1, 2]]) (.c h14 (.c h15 (.c h16 .n))) (by kernel_rfl)
 ·injection h with h; subst h
  exact ⟨by intro e; simp [affiantkeep_Pairs_2_ex] at e, env.code (its := [b0, .sel [5] [1]]) (.c h14 .n) (by kernel_rfl)⟩
theorem affiantkeep_Pairs_2_ok (x0 : Int) (x1 : Int) (x2 : List (B8 × B8)) (x3 : List (T18c3)) (x4 : List (B8)) (o : List (T18c3)) (h : affiantkeep_Pairs_2 x0 x1 x2 x3 x4 = some o) : CodeOK prog (codeAt (bodyOf f5) [1, 1, 1, 1, 0, 1, 0]) (affiantkeep_Pairs_2_in x0 x1 x2 x3 x4) (affiantkeep_Pairs_2_ex o) (affiantkeep_Pairs_2_st o) :=
 LoopOK.of_step (st := fun s => affiantkeep_Pairs_2_in x0 s.1 x2 s.2 x4) (ex := affiantkeep_Pairs_2_ex) (stO := affiantkeep_Pairs_2_st) (fun s s2 hs => affiantkeep_Pairs_2_body x0 s.1 x2 s.2 x4 (.inl s2) hs) (fun s r hs => affiantkeep_Pairs_2_body x0 s.1 x2 s.2 x4 (.inr r) hs) _ o h
def affiantkeep_Pairs_R (a0 : List Int) (u : List (T18c3)) : Slot := (.own 0 [])
def affiantkeep_Pairs_O (a0 : List Int) (u : List (T18c3)) : List AObj := [.row Y18c3 u true]
theorem affiantkeep_Pairs_ok (a0 : List Int) (u : List (T18c3)) (h : affiantkeep_Pairs a0 = some u) : CallC prog 5 [(.v (.slice (.int .i64)) a0)] [] (affiantkeep_Pairs_R a0 u) (affiantkeep_Pairs_O a0 u) := by
 unfold affiantkeep_Pairs at h
 obtain ⟨o9, h10, h⟩ := andThen_some h
 obtain ⟨u11, h12, h⟩ := andThen_some h
 obtain ⟨o18, h19, h⟩ := andThen_some h
 injection h with h; subst h
 exact env.fun func5 can5 (its := [.val 0 .str, .dive, .sel [0, 3, 4] [0], .part (affiantkeep_Pairs_1_ex o9) (affiantkeep_Pairs_1_st o9), .call [] [] [] true (affiantkeep_keys_R u11) (affiantkeep_keys_O u11), .dive, .promote 5 Y18c3, .sel [3, 5, 33, 34, 35] [0, 2, 1], .part (affiantkeep_Pairs_2_ex o18) (affiantkeep_Pairs_2_st o18)]) (pos := s1) (.c (affiantkeep_Pairs_1_ok a0 (0 : Int) ([] : List (B8 × B8)) o9 h10) (.c (affiantkeep_keys_ok u11 h12) (.c (affiantkeep_Pairs_2_ok (List.length u11 : Int) (0 : Int) o9 ([] : List (T18c3)) u11 o18 h19) .n))) (by kernel_rfl)
theorem can6 : Callable prog 6 := ⟨_, func6, by kernel_rfl, by kernel_rfl⟩
def affiantkeep_Query_Query_R (a0 : T1a67) (u : T011a) : Slot := (.v Y011a u)
def affiantkeep_Query_Query_O (a0 : T1a67) (u : T011a) : List AObj := []
theorem affiantkeep_Query_Query_ok (a0 : T1a67) (u : T011a) (h : affiantkeep_Query_Query a0 = some u) : CallC prog 6 [(.v Y1a67 a0)] [] (affiantkeep_Query_Query_R a0 u) (affiantkeep_Query_Query_O a0 u) := by
 unfold affiantkeep_Query_Query at h
 obtain ⟨u1, h2, h⟩ := andThen_some h
 obtain ⟨u3, h4, h⟩ := andThen_some h
 obtain ⟨u5, h6, h⟩ := andThen_some h
 rcases fork_some h with ⟨h7, h⟩ | ⟨h7, h⟩
 ·obtain ⟨u8, h9, h⟩ := andThen_some h
  rcases fork_some h with ⟨h10, h⟩ | ⟨h10, h⟩
  ·rcases fork_some h with ⟨h11, h⟩ | ⟨h11, h⟩
   ·injection h with h; subst h
    exact env.fun func6 can6 (its := [.pre p1, .asis, .call [none] [] [] true (affiantkeep_Key_R a0.2.1 u1) (affiantkeep_Key_O a0.2.1 u1), .asis, .call [none, none, none] [] [] true (affiantbook_Within_R a0.2.2.2.1 (0 : Int) (5 : Int) u3) (affiantbook_Within_O a0.2.2.2.1 (0 : Int) (5 : Int) u3), .asis, .call [none, none, none] [] [] true (affiantbook_Within_R a0.2.2.2.2.1 (1 : Int) (6 : Int) u5) (affiantbook_Within_O a0.2.2.2.2.1 (1 : Int) (6 : Int) u5), b1, .call [none] [] [] true (affiantkeep_Key_R a0.2.2.1 u8) (affiantkeep_Key_O a0.2.2.1 u8), b1, b1]) (pos := s0) (.c rn (.c (affiantkeep_Key_ok a0.2.1 u1 h2) (.c rn (.c (affiantbook_Within_ok a0.2.2.2.1 (0 : Int) (5 : Int) u3 h4) (.c rn (.c (affiantbook_Within_ok a0.2.2.2.2.1 (1 : Int) (6 : Int) u5 h6) (.c h7 (.c (affiantkeep_Key_ok a0.2.2.1 u8 h9) (.c h10 (.c (of_decide_eq_true (p := ((4 : Int) ≠ 0)) (by kernel_rfl)) (.c h11 .n))))))))))) (by kernel_rfl)
   ·injection h with h; subst h
    exact env.fun func6 can6 (its := [.pre p1, .asis, .call [none] [] [] true (affiantkeep_Key_R a0.2.1 u1) (affiantkeep_Key_O a0.2.1 u1), .asis, .call [none, none, none] [] [] true (affiantbook_Within_R a0.2.2.2.1 (0 : Int) (5 : Int) u3) (affiantbook_Within_O a0.2.2.2.1 (0 : Int) (5 : Int) u3), .asis, .call [none, none, none] [] [] true (affiantbook_Within_R a0.2.2.2.2.1 (1 : Int) (6 : Int) u5) (affiantbook_Within_O a0.2.2.2.2.1 (1 : Int) (6 : Int) u5), b1, .call [none] [] [] true (affiantkeep_Key_R a0.2.2.1 u8) (affiantkeep_Key_O a0.2.2.1 u8), b1, b0]) (pos := s0) (.c rn (.c (affiantkeep_Key_ok a0.2.1 u1 h2) (.c rn (.c (affiantbook_Within_ok a0.2.2.2.1 (0 : Int) (5 : Int) u3 h4) (.c rn (.c (affiantbook_Within_ok a0.2.2.2.2.1 (1 : Int) (6 : Int) u5 h6) (.c h7 (.c (affiantkeep_Key_ok a0.2.2.1 u8 h9) (.c h10 (.c (of_decide_eq_true (p := ((4 : Int) ≠ 0)) (by kernel_rfl)) (.c h11 .n))))))))))) (by kernel_rfl)
  ·rcases fork_some h with ⟨h12, h⟩ | ⟨h12, h⟩
   ·injection h with h; subst h
    exact env.fun func6 can6 (its := [.pre p1, .asis, .call [none] [] [] true (affiantkeep_Key_R a0.2.1 u1) (affiantkeep_Key_O a0.2.1 u1), .asis, .call [none, none, none] [] [] true (affiantbook_Within_R a0.2.2.2.1 (0 : Int) (5 : Int) u3) (affiantbook_Within_O a0.2.2.2.1 (0 : Int) (5 : Int) u3), .asis, .call [none, none, none] [] [] true (affiantbook_Within_R a0.2.2.2.2.1 (1 : Int) (6 : Int) u5) (affiantbook_Within_O a0.2.2.2.2.1 (1 : Int) (6 : Int) u5), b1, .call [none] [] [] true (affiantkeep_Key_R a0.2.2.1 u8) (affiantkeep_Key_O a0.2.2.1 u8), b0, b1]) (pos := s0) (.c rn (.c (affiantkeep_Key_ok a0.2.1 u1 h2) (.c rn (.c (affiantbook_Within_ok a0.2.2.2.1 (0 : Int) (5 : Int) u3 h4) (.c rn (.c (affiantbook_Within_ok a0.2.2.2.2.1 (1 : Int) (6 : Int) u5 h6) (.c h7 (.c (affiantkeep_Key_ok a0.2.2.1 u8 h9) (.c h10 (.c (of_decide_eq_true (p := ((4 : Int) ≠ 0)) (by kernel_rfl)) (.c h12 .n))))))))))) (by kernel_rfl)
   ·injection h with h; subst h
    exact env.fun func6 can6 (its := [.pre p1, .asis, .call [none] [] [] true (affiantkeep_Key_R a0.2.1 u1) (affiantkeep_Key_O a0.2.1 u1), .asis, .call [none, none, none] [] [] true (affiantbook_Within_R a0.2.2.2.1 (0 : Int) (5 : Int) u3) (affiantbook_Within_O a0.2.2.2.1 (0 : Int) (5 : Int) u3), .asis, .call [none, none, none] [] [] true (affiantbook_Within_R a0.2.2.2.2.1 (1 : Int) (6 : Int) u5) (affiantbook_Within_O a0.2.2.2.2.1 (1 : Int) (6 : Int) u5), b1, .call [none] [] [] true (affiantkeep_Key_R a0.2.2.1 u8) (affiantkeep_Key_O a0.2.2.1 u8), b0, b0]) (pos := s0) (.c rn (.c (affiantkeep_Key_ok a0.2.1 u1 h2) (.c rn (.c (affiantbook_Within_ok a0.2.2.2.1 (0 : Int) (5 : Int) u3 h4) (.c rn (.c (affiantbook_Within_ok a0.2.2.2.2.1 (1 : Int) (6 : Int) u5 h6) (.c h7 (.c (affiantkeep_Key_ok a0.2.2.1 u8 h9) (.c h10 (.c (of_decide_eq_true (p := ((4 : Int) ≠ 0)) (by kernel_rfl)) (.c h12 .n))))))))))) (by kernel_rfl)
 ·rcases fork_some h with ⟨h13, h⟩ | ⟨h13, h⟩
  ·injection h with h; subst h
   exact env.fun func6 can6 (its := [.pre p1, .asis, .call [none] [] [] true (affiantkeep_Key_R a0.2.1 u1) (affiantkeep_Key_O a0.2.1 u1), .asis, .call [none, none, none] [] [] true (affiantbook_Within_R a0.2.2.2.1 (0 : Int) (5 : Int) u3) (affiantbook_Within_O a0.2.2.2.1 (0 : Int) (5 : Int) u3), .asis, .call [none, none, none] [] [] true (affiantbook_Within_R a0.2.2.2.2.1 (1 : Int) (6 : Int) u5) (affiantbook_Within_O a0.2.2.2.2.1 (1 : Int) (6 : Int) u5), b0, b1]) (pos := s0) (.c rn (.c (affiantkeep_Key_ok a0.2.1 u1 h2) (.c rn (.c (affiantbook_Within_ok a0.2.2.2.1 (0 : Int) (5 : Int) u3 h4) (.c rn (.c (affiantbook_Within_ok a0.2.2.2.2.1 (1 : Int) (6 : Int) u5 h6) (.c h7 (.c (of_decide_eq_true (p := ((4 : Int) ≠ 0)) (by kernel_rfl)) (.c h13 .n))))))))) (by kernel_rfl)
  ·injection h with h; subst h
   exact env.fun func6 can6 (its := [.pre p1, .asis, .call [none] [] [] true (affiantkeep_Key_R a0.2.1 u1) (affiantkeep_Key_O a0.2.1 u1), .asis, .call [none, none, none] [] [] true (affiantbook_Within_R a0.2.2.2.1 (0 : Int) (5 : Int) u3) (affiantbook_Within_O a0.2.2.2.1 (0 : Int) (5 : Int) u3), .asis, .call [none, none, none] [] [] true (affiantbook_Within_R a0.2.2.2.2.1 (1 : Int) (6 : Int) u5) (affiantbook_Within_O a0.2.2.2.2.1 (1 : Int) (6 : Int) u5), b0, b0]) (pos := s0) (.c rn (.c (affiantkeep_Key_ok a0.2.1 u1 h2) (.c rn (.c (affiantbook_Within_ok a0.2.2.2.1 (0 : Int) (5 : Int) u3 h4) (.c rn (.c (affiantbook_Within_ok a0.2.2.2.2.1 (1 : Int) (6 : Int) u5 h6) (.c h7 (.c (of_decide_eq_true (p := ((4 : Int) ≠ 0)) (by kernel_rfl)) (.c h13 .n))))))))) (by kernel_rfl)
theorem can60 : Callable prog 60 := ⟨_, func60, by kernel_rfl, by kernel_rfl⟩
def vint_one_1_in (x0 : Int) (x1 : B8) : St := ⟨[(0, (.v (.int .i64) x0)), (3, (.own 0 []))], [.row (.int .u8) x1 true], 26, 0⟩
def vint_one_1_ex (o : Int × B8) : Exit := (.exit 0)
def vint_one_1_st (o : Int × B8) : St := ⟨[(0, (.v (.int .i64) o.1)), (3, (.own 0 []))], [.row (.int .u8) o.2 true], 26, 0⟩
theorem vint_one_1_body (x0 : Int) (x1 : B8) : ∀ r, vint_one_1_step x0 x1 = some r → (match r with | .inl s => CodeOK prog (codeAt (bodyOf f60) [1, 1, 1, 0, 0, 0]) (vint_one_1_in x0 x1) .normal (vint_one_1_in s.1 s.2) | .inr o => vint_one_1_ex o ≠ .normal ∧ CodeOK prog (codeAt (bodyOf f60) [1, 1, 1, 0, 0, 0]) (vint_one_1_in x0 x1) (vint_one_1_ex o) (vint_one_1_st o)) := by
 intro r h
 unfold vint_one_1_step at h
 rcases fork_some h with ⟨h4, h⟩ | ⟨h4, h⟩
 ·obtain ⟨h5, h⟩ := need_some h
  injection h with h; subst h
  exact env.code (its := [b1, .dive, .sel [0, 3] [2]]) (.c h4 (.c h5 (.c (of_decide_eq_true (p := (0 ≤ (7 : Int))) (by kernel_rfl)) .n))) (by kernel_rfl)
 ·injection h with h; subst h
  exact ⟨by intro e; simp [vint_one_1_ex] at e, env.code (its := [b0, .sel [0, 3] [0]]) (.c h4 .n) (by kernel_rfl)⟩
theorem vint_one_1_ok (x0 : Int) (x1 : B8) (o : Int × B8) (h : vint_one_1 x0 x1 = some o) : CodeOK prog (codeAt (bodyOf f60) [1, 1, 1, 0, 0]) (vint_one_1_in x0 x1) (vint_one_1_ex o) (vint_one_1_st o) :=
 LoopOK.of_step (st := fun s => vint_one_1_in s.1 s.2) (ex := vint_one_1_ex) (stO := vint_one_1_st) (fun s s2 hs => vint_one_1_body s.1 s.2 (.inl s2) hs) (fun s r hs => vint_one_1_body s.1 s.2 (.inr r) hs) _ o h
def vint_one_R (a0 : Int) (u : B8) : Slot := (.own 0 [])
def vint_one_O (a0 : Int) (u : B8) : List AObj := [.row (.int .u8) u true]
theorem vint_one_ok (a0 : Int) (u : B8) (h : vint_one a0 = some u) : CallC prog 60 [(.v (.int .i64) a0)] [] (vint_one_R a0 u) (vint_one_O a0 u) := by
 unfold vint_one at h
 rcases fork_some h with ⟨h1, h⟩ | ⟨h1, h⟩
 ·injection h with h; subst h
  exact env.fun func60 can60 (its := [b1, b1, b1, b1]) (pos := [.promote (.int .u8), .sel [0]]) (.c h1 (.c h1 (.c h1 (.c r1 .n)))) (by kernel_rfl)
 ·rcases fork_some h with ⟨h2, h⟩ | ⟨h2, h⟩
  ·injection h with h; subst h
   exact env.fun func60 can60 (its := [b0, b0, b0, b1]) (pos := [.promote (.int .u8), .sel [0]]) (.c h1 (.c h1 (.c h1 (.c h2 .n)))) (by kernel_rfl)
  ·obtain ⟨o6, h7, h⟩ := andThen_some h
   obtain ⟨h8, h⟩ := need_some h
   injection h with h; subst h
   exact env.fun func60 can60 (its := [b0, b0, b0, b0, .dive, .promote 3 (.int .u8), .sel [0, 3] [0], .part (vint_one_1_ex o6) (vint_one_1_st o6)]) (pos := [.sel [2]]) (.c h1 (.c h1 (.c h1 (.c h2 (.c (vint_one_1_ok a0 ([] : List (UInt8)) o6 h7) (.c h8 .n)))))) (by kernel_rfl)
theorem can56 : Callable prog 56 := ⟨_, func56, by kernel_rfl, by kernel_rfl⟩
def vint_Text_1_in (x0 : List (B8)) (x1 : Int) (x2 : Int) (x3 : B8) : St := ⟨[(3, (.own 0 [])), (6, (.v (.slice .str) x0)), (7, (.v (.int .i64) x1)), (8, (.v (.int .i64) x2))], [.row (.int .u8) x3 true], 21, 0⟩
def vint_Text_1_ex (o : B8) : Exit := (.exit 0)
def vint_Text_1_st (o : B8) : St := ⟨[(3, (.own 0 []))], [.row (.int .u8) o true], 21, 0⟩
theorem vint_Text_1_body (x0 : List (B8)) (x1 : Int) (x2 : Int) (x3 : B8) : ∀ r, vint_Text_1_step x0 x1 x2 x3 = some r → (match r with | .inl s => CodeOK prog (codeAt (bodyOf f56) [1, 1, 0, 1, 0, 0]) (vint_Text_1_in x0 x1 x2 x3) .normal (vint_Text_1_in x0 x1 s.1 s.2) | .inr o => vint_Text_1_ex o ≠ .normal ∧ CodeOK prog (codeAt (bodyOf f56) [1, 1, 0, 1, 0, 0]) (vint_Text_1_in x0 x1 x2 x3) (vint_Text_1_ex o) (vint_Text_1_st o)) := by
 intro r h
 unfold vint_Text_1_step at h
 rcases fork_some h with ⟨h2, h⟩ | ⟨h2, h⟩
 ·obtain ⟨h3, h⟩ := need_some h
  obtain ⟨u4, h5, h⟩ := andThen_some h
  obtain ⟨h6, h⟩ := need_some h
  obtain ⟨h7, h⟩ := need_some h
  injection h with h; subst h
  exact env.code (its := [b1, .call [none] [] [] true (vint_one_R (List.length (List.getD x0 (Int.toNat x2) ([] : B8)) : Int) u4) (vint_one_O (List.length (List.getD x0 (Int.toNat x2) ([] : B8)) : Int) u4), .sel [3, 6, 7, 8] [3]]) (.c h2 (.c h3 (.c (vint_one_ok (List.length (List.getD x0 (Int.toNat x2) ([] : B8)) : Int) u4 h5) (.c h6 (.c h7 .n))))) (by kernel_rfl)
 ·injection h with h; subst h
  exact ⟨by intro e; simp [vint_Text_1_ex] at e, env.code (its := [b0, .sel [3] [0]]) (.c h2 .n) (by kernel_rfl)⟩
theorem vint_Text_1_ok (x0 : List (B8)) (x1 : Int) (x2 : Int) (x3 : B8) (o : B8) (h : vint_Text_1 x0 x1 x2 x3 = some o) : CodeOK prog (codeAt (bodyOf f56) [1, 1, 0, 1, 0]) (vint_Text_1_in x0 x1 x2 x3) (vint_Text_1_ex o) (vint_Text_1_st o) :=
 LoopOK.of_step (st := fun s => vint_Text_1_in x0 x1 s.1 s.2) (ex := vint_Text_1_ex) (stO := vint_Text_1_st) (fun s s2 hs => vint_Text_1_body x0 x1 s.1 s.2 (.inl s2) hs) (fun s r hs => vint_Text_1_body x0 x1 s.1 s.2 (.inr r) hs) _ o h
def vint_Text_R (a0 : List (B8)) (u : B8) : Slot := (.own 0 [])
def vint_Text_O (a0 : List (B8)) (u : B8) : List AObj := [.row (.int .u8) u true]
theorem vint_Text_ok (a0 : List (B8)) (u : B8) (h : vint_Text a0 = some u) : CallC prog 56 [(.v (.slice .str) a0)] [] (vint_Text_R a0 u) (vint_Text_O a0 u) := by
 unfold vint_Text at h
 obtain ⟨o8, h9, h⟩ := andThen_some h
 injection h with h; subst h
 exact env.fun func56 can56 (its := [.dive, .promote 3 (.int .u8), .sel [3, 6, 7, 8] [0], .part (vint_Text_1_ex o8) (vint_Text_1_st o8)]) (pos := s1) (.c (vint_Text_1_ok a0 (List.length a0 : Int) (0 : Int) ([] : List (UInt8)) o8 h9) .n) (by kernel_rfl)
theorem can26 : Callable prog 26 := ⟨_, func26, by kernel_rfl, by kernel_rfl⟩
def kv_Leaf_R (a0 : T18c3) (u : B8) : Slot := (.own 0 [])
def kv_Leaf_O (a0 : T18c3) (u : B8) : List AObj := [.row (.int .u8) u true]
theorem kv_Leaf_ok (a0 : T18c3) (u : B8) (h : kv_Leaf a0 = some u) : CallC prog 26 [(.v Y18c3 a0)] [] (kv_Leaf_R a0 u) (kv_Leaf_O a0 u) := by
 unfold kv_Leaf at h
 obtain ⟨u1, h2, h⟩ := andThen_some h
 injection h with h; subst h
 exact env.fun func26 can26 (its := [.call [none] [] [1] true (vint_Text_R ([a0.1, a0.2.1] : List (B8)) u1) (vint_Text_O ([a0.1, a0.2.1] : List (B8)) u1)]) (pos := [.sel [2]]) (.c (vint_Text_ok ([a0.1, a0.2.1] : List (B8)) u1 h2) .n) (by kernel_rfl)
theorem can74 : Callable prog 74 := ⟨_, func74, by kernel_rfl, by kernel_rfl⟩
def sha_first_R  (u : List UInt32) : Slot := (.v Y8 u)
def sha_first_O  (u : List UInt32) : List AObj := []
theorem sha_first_ok  (u : List UInt32) (h : sha_first  = some u) : CallC prog 74 [] [] (sha_first_R u) (sha_first_O u) := by
 unfold sha_first at h
 injection h with h; subst h
 exact env.fun func74 can74 (its := []) (pos := s0) .n (by kernel_rfl)
theorem can75 : Callable prog 75 := ⟨_, func75, by kernel_rfl, by kernel_rfl⟩
def sha_added_R  (u : List UInt32) : Slot := (.v Y64 u)
def sha_added_O  (u : List UInt32) : List AObj := []
theorem sha_added_ok  (u : List UInt32) (h : sha_added  = some u) : CallC prog 75 [] [] (sha_added_R u) (sha_added_O u) := by
 unfold sha_added at h
 injection h with h; subst h
 exact env.fun func75 can75 (its := []) (pos := s0) .n (by kernel_rfl)
theorem can80 : Callable prog 80 := ⟨_, func80, by kernel_rfl, by kernel_rfl⟩
def sha_Blocks_R (a0 : Int) (u : Int) : Slot := (.v (.int .i64) u)
def sha_Blocks_O (a0 : Int) (u : Int) : List AObj := []
theorem sha_Blocks_ok (a0 : Int) (u : Int) (h : sha_Blocks a0 = some u) : CallC prog 80 [(.v (.int .i64) a0)] [] (sha_Blocks_R a0 u) (sha_Blocks_O a0 u) := by
 unfold sha_Blocks at h
 injection h with h; subst h
 exact env.fun func80 can80 (its := []) (pos := s0) (.c (of_decide_eq_true (p := ((64 : Int) ≠ 0)) (by kernel_rfl)) .n) (by kernel_rfl)
theorem can76 : Callable prog 76 := ⟨_, func76, by kernel_rfl, by kernel_rfl⟩
def sha_padded_1_in (x0 : UInt64) (x1 : Int) (x2 : B8) : St := ⟨[(3, (.own 0 [])), (4, (.v (.int .u64) x0)), (22, (.v (.int .i64) x1))], [.row (.int .u8) x2 true], 39, 0⟩
def sha_padded_1_ex (o : B8) : Exit := (.exit 0)
def sha_padded_1_st (o : B8) : St := ⟨[(3, (.own 0 []))], [.row (.int .u8) o true], 39, 0⟩
theorem sha_padded_1_body (x0 : UInt64) (x1 : Int) (x2 : B8) : ∀ r, sha_padded_1_step x0 x1 x2 = some r → (match r with | .inl s => CodeOK prog (codeAt (bodyOf f76) [1, 1, 1, 1, 1, 0, 1, 0, 0]) (sha_padded_1_in x0 x1 x2) .normal (sha_padded_1_in x0 s.1 s.2) | .inr o => sha_padded_1_ex o ≠ .normal ∧ CodeOK prog (codeAt (bodyOf f76) [1, 1, 1, 1, 1, 0, 1, 0, 0]) (sha_padded_1_in x0 x1 x2) (sha_padded_1_ex o) (sha_padded_1_st o)) := by
 intro r h
 unfold sha_padded_1_step at h
 rcases fork_some h with ⟨h6, h⟩ | ⟨h6, h⟩
 ·obtain ⟨h7, h⟩ := need_some h
  obtain ⟨h8, h⟩ := need_some h
  injection h with h; subst h
  exact env.code (its := [b1, .dive, .sel [3, 4, 22] [0]]) (.c h6 (.c h7 (.c h8 .n))) (by kernel_rfl)
 ·injection h with h; subst h
  exact ⟨by intro e; simp [sha_padded_1_ex] at e, env.code (its := [b0, .sel [3] [0]]) (.c h6 .n) (by kernel_rfl)⟩
theorem sha_padded_1_ok (x0 : UInt64) (x1 : Int) (x2 : B8) (o : B8) (h : sha_padded_1 x0 x1 x2 = some o) : CodeOK prog (codeAt (bodyOf f76) [1, 1, 1, 1, 1, 0, 1, 0]) (sha_padded_1_in x0 x1 x2) (sha_padded_1_ex o) (sha_padded_1_st o) :=
 LoopOK.of_step (st := fun s => sha_padded_1_in x0 s.1 s.2) (ex := sha_padded_1_ex) (stO := sha_padded_1_st) (fun s s2 hs => sha_padded_1_body x0 s.1 s.2 (.inl s2) hs) (fun s r hs => sha_padded_1_body x0 s.1 s.2 (.inr r) hs) _ o h
def sha_padded_R (a0 : B8) (u : B8) : Slot := (.own 0 [])
def sha_padded_O (a0 : B8) (u : B8) : List AObj := [.row (.int .u8) u true]
theorem sha_padded_ok (a0 : B8) (u : B8) (h : sha_padded a0 = some u) : CallC prog 76 [(.v Yb a0)] [] (sha_padded_R a0 u) (sha_padded_O a0 u) := by
 unfold sha_padded at h
 obtain ⟨u1, h2, h⟩ := andThen_some h
 obtain ⟨h3, h⟩ := need_some h
 obtain ⟨h4, h⟩ := need_some h
 obtain ⟨o9, h10, h⟩ := andThen_some h
 injection h with h; subst h
 exact env.fun func76 can76 (its := [.call [none] [] [] true (sha_Blocks_R (List.length a0 : Int) u1) (sha_Blocks_O (List.length a0 : Int) u1), .dive, .sel [3, 4, 22] [0], .part (sha_padded_1_ex o9) (sha_padded_1_st o9)]) (pos := s1) (.c (sha_Blocks_ok (List.length a0 : Int) u1 h2) (.c h3 (.c h4 (.c (sha_padded_1_ok ((UInt64.ofNat (Int.toNat ((List.length a0 : Int) % 18446744073709551616))) * (8 : UInt64)) (0 : Int) (List.set (List.take (List.length (List.replicate (Int.toNat (w64 (u1 * (64 : Int)))) (0 : UInt8))) a0 ++ List.drop (List.length a0) (List.replicate (Int.toNat (w64 (u1 * (64 : Int)))) (0 : UInt8))) (Int.toNat (List.length a0 : Int)) (128 : UInt8)) o9 h10) .n)))) (by kernel_rfl)
theorem can84 : Callable prog 84 := ⟨_, func84, by kernel_rfl, by kernel_rfl⟩
def bits_RotateLeft32_R (a0 : UInt32) (a1 : Int) (u : UInt32) : Slot := (.v (.int .u32) u)
def bits_RotateLeft32_O (a0 : UInt32) (a1 : Int) (u : UInt32) : List AObj := []
theorem bits_RotateLeft32_ok (a0 : UInt32) (a1 : Int) (u : UInt32) (h : bits_RotateLeft32 a0 a1 = some u) : CallC prog 84 [(.v (.int .u32) a0), (.v (.int .i64) a1)] [] (bits_RotateLeft32_R a0 a1 u) (bits_RotateLeft32_O a0 a1 u) := by
 unfold bits_RotateLeft32 at h
 obtain ⟨h1, h⟩ := need_some h
 obtain ⟨h2, h⟩ := need_some h
 injection h with h; subst h
 exact env.fun func84 can84 (its := []) (pos := s0) (.c h1 (.c h2 .n)) (by kernel_rfl)
theorem can82 : Callable prog 82 := ⟨_, func82, by kernel_rfl, by kernel_rfl⟩
def sha_right_R (a0 : UInt32) (a1 : Int) (u : UInt32) : Slot := (.v (.int .u32) u)
def sha_right_O (a0 : UInt32) (a1 : Int) (u : UInt32) : List AObj := []
theorem sha_right_ok (a0 : UInt32) (a1 : Int) (u : UInt32) (h : sha_right a0 a1 = some u) : CallC prog 82 [(.v (.int .u32) a0), (.v (.int .i64) a1)] [] (sha_right_R a0 a1 u) (sha_right_O a0 a1 u) := by
 unfold sha_right at h
 obtain ⟨u1, h2, h⟩ := andThen_some h
 injection h with h; subst h
 exact env.fun func82 can82 (its := [.call [none, none] [] [] true (bits_RotateLeft32_R a0 (w64 (0 - a1)) u1) (bits_RotateLeft32_O a0 (w64 (0 - a1)) u1)]) (pos := s0) (.c (bits_RotateLeft32_ok a0 (w64 (0 - a1)) u1 h2) .n) (by kernel_rfl)
theorem can81 : Callable prog 81 := ⟨_, func81, by kernel_rfl, by kernel_rfl⟩
def sha_spread_1_in (x0 : B8) (x1 : Int) (x2 : List UInt32) (x3 : List UInt32) : St := ⟨[(0, (.v Yb x0)), (2, (.ptr 0 [])), (3, (.ptr 1 [])), (8, (.v (.int .i64) x1))], [.box Y64 (.v Y64 x2) true, .box Y64 (.v Y64 x3) true], 89, 0⟩
def sha_spread_1_ex (o : List UInt32 × List UInt32) : Exit := (.exit 0)
def sha_spread_1_st (o : List UInt32 × List UInt32) : St := ⟨[(2, (.ptr 0 [])), (3, (.ptr 1 []))], [.box Y64 (.v Y64 o.1) true, .box Y64 (.v Y64 o.2) true], 89, 0⟩
theorem sha_spread_1_body (x0 : B8) (x1 : Int) (x2 : List UInt32) (x3 : List UInt32) : ∀ r, sha_spread_1_step x0 x1 x2 x3 = some r → (match r with | .inl s => CodeOK prog (codeAt (bodyOf f81) [1, 1, 0, 1, 0, 0]) (sha_spread_1_in x0 x1 x2 x3) .normal (sha_spread_1_in x0 s.1 x2 s.2) | .inr o => sha_spread_1_ex o ≠ .normal ∧ CodeOK prog (codeAt (bodyOf f81) [1, 1, 0, 1, 0, 0]) (sha_spread_1_in x0 x1 x2 x3) (sha_spread_1_ex o) (sha_spread_1_st o)) := by
 intro r h
 unfold sha_spread_1_step at h
 rcases fork_some h with ⟨h2, h⟩ | ⟨h2, h⟩
 ·obtain ⟨h3, h⟩ := need_some h
  obtain ⟨h4, h⟩ := need_some h
  obtain ⟨h5, h⟩ := need_some h
  obtain ⟨h6, h⟩ := need_some h
  obtain ⟨h7, h⟩ := need_some h
  injection h with h; subst h
  exact env.code (its := [b1, .pre p2, .sel [0, 2, 3, 8] [0, 1]]) (.c h2 (.c h3 (.c (of_decide_eq_true (p := (0 ≤ (24 : Int))) (by kernel_rfl)) (.c h4 (.c (of_decide_eq_true (p := (0 ≤ (16 : Int))) (by kernel_rfl)) (.c h5 (.c (of_decide_eq_true (p := (0 ≤ (8 : Int))) (by kernel_rfl)) (.c h6 (.c h7 .n))))))))) (by kernel_rfl)
 ·injection h with h; subst h
  exact ⟨by intro e; simp [sha_spread_1_ex] at e, env.code (its := [b0, .sel [2, 3] [0, 1]]) (.c h2 .n) (by kernel_rfl)⟩
theorem sha_spread_1_ok (x0 : B8) (x1 : Int) (x2 : List UInt32) (x3 : List UInt32) (o : List UInt32 × List UInt32) (h : sha_spread_1 x0 x1 x2 x3 = some o) : CodeOK prog (codeAt (bodyOf f81) [1, 1, 0, 1, 0]) (sha_spread_1_in x0 x1 x2 x3) (sha_spread_1_ex o) (sha_spread_1_st o) :=
 LoopOK.of_step (st := fun s => sha_spread_1_in x0 s.1 x2 s.2) (ex := sha_spread_1_ex) (stO := sha_spread_1_st) (fun s s2 hs => sha_spread_1_body x0 s.1 x2 s.2 (.inl s2) hs) (fun s r hs => sha_spread_1_body x0 s.1 x2 s.2 (.inr r) hs) _ o h
def sha_spread_2_in (x0 : Int) (x1 : List UInt32) (x2 : List UInt32) : St := ⟨[(2, (.ptr 0 [])), (3, (.ptr 1 [])), (5, (.v (.int .i64) x0))], [.box Y64 (.v Y64 x1) true, .box Y64 (.v Y64 x2) true], 89, 0⟩
def sha_spread_2_ex (o : List UInt32 × List UInt32) : Exit := (.exit 2)
def sha_spread_2_st (o : List UInt32 × List UInt32) : St := ⟨[(2, (.ptr 0 [])), (3, (.ptr 1 []))], [.box Y64 (.v Y64 o.1) true, .box Y64 (.v Y64 o.2) true], 89, 0⟩
theorem sha_spread_2_body (x0 : Int) (x1 : List UInt32) (x2 : List UInt32) : ∀ r, sha_spread_2_step x0 x1 x2 = some r → (match r with | .inl s => CodeOK prog (codeAt (bodyOf f81) [1, 1, 1, 0, 1, 0, 0]) (sha_spread_2_in x0 x1 x2) .normal (sha_spread_2_in s.1 x1 s.2) | .inr o => sha_spread_2_ex o ≠ .normal ∧ CodeOK prog (codeAt (bodyOf f81) [1, 1, 1, 0, 1, 0, 0]) (sha_spread_2_in x0 x1 x2) (sha_spread_2_ex o) (sha_spread_2_st o)) := by
 intro r h
 unfold sha_spread_2_step at h
 rcases fork_some h with ⟨h11, h⟩ | ⟨h11, h⟩
 ·obtain ⟨h12, h⟩ := need_some h
  obtain ⟨h13, h⟩ := need_some h
  obtain ⟨h14, h⟩ := need_some h
  obtain ⟨u15, h16, h⟩ := andThen_some h
  obtain ⟨u17, h18, h⟩ := andThen_some h
  obtain ⟨h19, h⟩ := need_some h
  obtain ⟨u20, h21, h⟩ := andThen_some h
  obtain ⟨u22, h23, h⟩ := andThen_some h
  obtain ⟨h24, h⟩ := need_some h
  injection h with h; subst h
  exact env.code (its := [b1, .pre p3, .pre p4, .asis, .call [none, none] [] [] true (sha_right_R (List.getD x2 (Int.toNat (w64 (x0 - (15 : Int)))) (0 : UInt32)) (7 : Int) u15) (sha_right_O (List.getD x2 (Int.toNat (w64 (x0 - (15 : Int)))) (0 : UInt32)) (7 : Int) u15), .asis, .call [none, none] [] [] true (sha_right_R (List.getD x2 (Int.toNat (w64 (x0 - (15 : Int)))) (0 : UInt32)) (18 : Int) u17) (sha_right_O (List.getD x2 (Int.toNat (w64 (x0 - (15 : Int)))) (0 : UInt32)) (18 : Int) u17), .asis, .call [none, none] [] [] true (sha_right_R (List.getD x2 (Int.toNat (w64 (x0 - (2 : Int)))) (0 : UInt32)) (17 : Int) u20) (sha_right_O (List.getD x2 (Int.toNat (w64 (x0 - (2 : Int)))) (0 : UInt32)) (17 : Int) u20), .asis, .call [none, none] [] [] true (sha_right_R (List.getD x2 (Int.toNat (w64 (x0 - (2 : Int)))) (0 : UInt32)) (19 : Int) u22) (sha_right_O (List.getD x2 (Int.toNat (w64 (x0 - (2 : Int)))) (0 : UInt32)) (19 : Int) u22), .sel [2, 3, 5] [0, 1]]) (.c h11 (.c h12 (.c h13 (.c h14 (.c rn (.c (sha_right_ok (List.getD x2 (Int.toNat (w64 (x0 - (15 : Int)))) (0 : UInt32)) (7 : Int) u15 h16) (.c rn (.c (sha_right_ok (List.getD x2 (Int.toNat (w64 (x0 - (15 : Int)))) (0 : UInt32)) (18 : Int) u17 h18) (.c (of_decide_eq_true (p := (0 ≤ (3 : Int))) (by kernel_rfl)) (.c h19 (.c rn (.c (sha_right_ok (List.getD x2 (Int.toNat (w64 (x0 - (2 : Int)))) (0 : UInt32)) (17 : Int) u20 h21) (.c rn (.c (sha_right_ok (List.getD x2 (Int.toNat (w64 (x0 - (2 : Int)))) (0 : UInt32)) (19 : Int) u22 h23) (.c (of_decide_eq_true (p := (0 ≤ (10 : Int))) (by kernel_rfl)) (.c h24 .n)))))))))))))))) (by kernel_rfl)
 ·injection h with h; subst h
  exact ⟨by intro e; simp [sha_spread_2_ex] at e, env.code (its := [b0, .sel [2, 3] [0, 1]]) (.c h11 .n) (by kernel_rfl)⟩
theorem sha_spread_2_ok (x0 : Int) (x1 : List UInt32) (x2 : List UInt32) (o : List UInt32 × List UInt32) (h : sha_spread_2 x0 x1 x2 = some o) : CodeOK prog (codeAt (bodyOf f81) [1, 1, 1, 0, 1, 0]) (sha_spread_2_in x0 x1 x2) (sha_spread_2_ex o) (sha_spread_2_st o) :=
 LoopOK.of_step (st := fun s => sha_spread_2_in s.1 x1 s.2) (ex := sha_spread_2_ex) (stO := sha_spread_2_st) (fun s s2 hs => sha_spread_2_body s.1 x1 s.2 (.inl s2) hs) (fun s r hs => sha_spread_2_body s.1 x1 s.2 (.inr r) hs) _ o h
def sha_spread_R (a0 : B8) (u : List UInt32) : Slot := (.v Y64 u)
def sha_spread_O (a0 : B8) (u : List UInt32) : List AObj := []
theorem sha_spread_ok (a0 : B8) (u : List UInt32) (h : sha_spread a0 = some u) : CallC prog 81 [(.v Yb a0)] [] (sha_spread_R a0 u) (sha_spread_O a0 u) := by
 unfold sha_spread at h
 obtain ⟨o8, h9, h⟩ := andThen_some h
 obtain ⟨o25, h26, h⟩ := andThen_some h
 injection h with h; subst h
 exact env.fun func81 can81 (its := [.dive, .sel [0, 2, 3, 8] [0, 1], .part (sha_spread_1_ex o8) (sha_spread_1_st o8), .dive, .sel [2, 3, 5] [0, 1], .part (sha_spread_2_ex o25) (sha_spread_2_st o25)]) (pos := s0) (.c (sha_spread_1_ok a0 (0 : Int) (List.replicate 64 (0 : UInt32)) (List.replicate 64 (0 : UInt32)) o8 h9) (.c (sha_spread_2_ok (16 : Int) o8.1 o8.2 o25 h26) .n)) (by kernel_rfl)
theorem can77 : Callable prog 77 := ⟨_, func77, by kernel_rfl, by kernel_rfl⟩
def sha_mix_655a_1_in (x0 : UInt32) (x1 : UInt32) (x2 : UInt32) (x3 : UInt32) (x4 : UInt32) (x5 : UInt32) (x6 : UInt32) (x7 : UInt32) (x8 : Int) (x9 : List UInt32) (x10 : List UInt32) (x11 : List UInt32) : St := ⟨[(0, (.ptr 0 [])), (1, (.ptr 1 [])), (6, (.ptr 2 [])), (7, (.v (.int .u32) x0)), (8, (.v (.int .u32) x1)), (9, (.v (.int .u32) x2)), (10, (.v (.int .u32) x3)), (11, (.v (.int .u32) x4)), (12, (.v (.int .u32) x5)), (13, (.v (.int .u32) x6)), (14, (.v (.int .u32) x7)), (56, (.v (.int .i64) x8))], [.box Y8 (.v Y8 x9) true, .box Y64 (.v Y64 x10) true, .box Y64 (.v Y64 x11) true], 146, 2⟩
def sha_mix_655a_1_ex (o : UInt32 × UInt32 × UInt32 × UInt32 × UInt32 × UInt32 × UInt32 × UInt32 × List UInt32 × List UInt32) : Exit := (.exit 0)
def sha_mix_655a_1_st (o : UInt32 × UInt32 × UInt32 × UInt32 × UInt32 × UInt32 × UInt32 × UInt32 × List UInt32 × List UInt32) : St := ⟨[(0, (.ptr 0 [])), (7, (.v (.int .u32) o.1)), (8, (.v (.int .u32) o.2.1)), (9, (.v (.int .u32) o.2.2.1)), (10, (.v (.int .u32) o.2.2.2.1)), (11, (.v (.int .u32) o.2.2.2.2.1)), (12, (.v (.int .u32) o.2.2.2.2.2.1)), (13, (.v (.int .u32) o.2.2.2.2.2.2.1)), (14, (.v (.int .u32) o.2.2.2.2.2.2.2.1))], [.box Y8 (.v Y8 o.2.2.2.2.2.2.2.2.1) true, .box Y64 (.v Y64 o.2.2.2.2.2.2.2.2.2) true], 146, 2⟩
theorem sha_mix_655a_1_body (x0 : UInt32) (x1 : UInt32) (x2 : UInt32) (x3 : UInt32) (x4 : UInt32) (x5 : UInt32) (x6 : UInt32) (x7 : UInt32) (x8 : Int) (x9 : List UInt32) (x10 : List UInt32) (x11 : List UInt32) : ∀ r, sha_mix_655a_1_step x0 x1 x2 x3 x4 x5 x6 x7 x8 x9 x10 x11 = some r → (match r with | .inl s => CodeOK prog (codeAt (bodyOf f77) [1, 1, 0, 1, 0, 0]) (sha_mix_655a_1_in x0 x1 x2 x3 x4 x5 x6 x7 x8 x9 x10 x11) .normal (sha_mix_655a_1_in s.1 s.2.1 s.2.2.1 s.2.2.2.1 s.2.2.2.2.1 s.2.2.2.2.2.1 s.2.2.2.2.2.2.1 s.2.2.2.2.2.2.2.1 s.2.2.2.2.2.2.2.2 x9 x10 x11) | .inr o => sha_mix_655a_1_ex o ≠ .normal ∧ CodeOK prog (codeAt (bodyOf f77) [1, 1, 0, 1, 0, 0]) (sha_mix_655a_1_in x0 x1 x2 x3 x4 x5 x6 x7 x8 x9 x10 x11) (sha_mix_655a_1_ex o) (sha_mix_655a_1_st o)) := by
 intro r h
 unfold sha_mix_655a_1_step at h
 rcases fork_some h with ⟨h4, h⟩ | ⟨h4, h⟩
 ·obtain ⟨u5, h6, h⟩ := andThen_some h
  obtain ⟨u7, h8, h⟩ := andThen_some h
  obtain ⟨u9, h10, h⟩ := andThen_some h
  obtain ⟨h11, h⟩ := need_some h
  obtain ⟨u12, h13, h⟩ := andThen_some h
  obtain ⟨u14, h15, h⟩ := andThen_some h
  obtain ⟨u16, h17, h⟩ := andThen_some h
  injection h with h; subst h
  exact env.code (its := [b1, .pre p5, .asis, .call [none, none] [] [] true (sha_right_R x4 (6 : Int) u5) (sha_right_O x4 (6 : Int) u5), .asis, .call [none, none] [] [] true (sha_right_R x4 (11 : Int) u7) (sha_right_O x4 (11 : Int) u7), .asis, .call [none, none] [] [] true (sha_right_R x4 (25 : Int) u9) (sha_right_O x4 (25 : Int) u9), .call [none, none] [] [] true (sha_right_R x0 (2 : Int) u12) (sha_right_O x0 (2 : Int) u12), .call [none, none] [] [] true (sha_right_R x0 (13 : Int) u14) (sha_right_O x0 (13 : Int) u14), .call [none, none] [] [] true (sha_right_R x0 (22 : Int) u16) (sha_right_O x0 (22 : Int) u16), .sel [0, 1, 6, 7, 8, 9, 10, 11, 12, 13, 14, 56] [0, 1, 2]]) (.c h4 (.c rn (.c (sha_right_ok x4 (6 : Int) u5 h6) (.c rn (.c (sha_right_ok x4 (11 : Int) u7 h8) (.c rn (.c (sha_right_ok x4 (25 : Int) u9 h10) (.c h11 (.c h11 (.c (sha_right_ok x0 (2 : Int) u12 h13) (.c (sha_right_ok x0 (13 : Int) u14 h15) (.c (sha_right_ok x0 (22 : Int) u16 h17) .n)))))))))))) (by kernel_rfl)
 ·injection h with h; subst h
  exact ⟨by intro e; simp [sha_mix_655a_1_ex] at e, env.code (its := [b0, .sel [0, 7, 8, 9, 10, 11, 12, 13, 14] [0, 1]]) (.c h4 .n) (by kernel_rfl)⟩
theorem sha_mix_655a_1_ok (x0 : UInt32) (x1 : UInt32) (x2 : UInt32) (x3 : UInt32) (x4 : UInt32) (x5 : UInt32) (x6 : UInt32) (x7 : UInt32) (x8 : Int) (x9 : List UInt32) (x10 : List UInt32) (x11 : List UInt32) (o : UInt32 × UInt32 × UInt32 × UInt32 × UInt32 × UInt32 × UInt32 × UInt32 × List UInt32 × List UInt32) (h : sha_mix_655a_1 x0 x1 x2 x3 x4 x5 x6 x7 x8 x9 x10 x11 = some o) : CodeOK prog (codeAt (bodyOf f77) [1, 1, 0, 1, 0]) (sha_mix_655a_1_in x0 x1 x2 x3 x4 x5 x6 x7 x8 x9 x10 x11) (sha_mix_655a_1_ex o) (sha_mix_655a_1_st o) :=
 LoopOK.of_step (st := fun s => sha_mix_655a_1_in s.1 s.2.1 s.2.2.1 s.2.2.2.1 s.2.2.2.2.1 s.2.2.2.2.2.1 s.2.2.2.2.2.2.1 s.2.2.2.2.2.2.2.1 s.2.2.2.2.2.2.2.2 x9 x10 x11) (ex := sha_mix_655a_1_ex) (stO := sha_mix_655a_1_st) (fun s s2 hs => sha_mix_655a_1_body s.1 s.2.1 s.2.2.1 s.2.2.2.1 s.2.2.2.2.1 s.2.2.2.2.2.1 s.2.2.2.2.2.2.1 s.2.2.2.2.2.2.2.1 s.2.2.2.2.2.2.2.2 x9 x10 x11 (.inl s2) hs) (fun s r hs => sha_mix_655a_1_body s.1 s.2.1 s.2.2.1 s.2.2.2.1 s.2.2.2.2.1 s.2.2.2.2.2.1 s.2.2.2.2.2.2.1 s.2.2.2.2.2.2.2.1 s.2.2.2.2.2.2.2.2 x9 x10 x11 (.inr r) hs) _ o h
def sha_mix_655a_2_in (x0 : List UInt32) (x1 : Int) (x2 : List UInt32) (x3 : List UInt32) : St := ⟨[(0, (.ptr 0 [])), (131, (.v Y8 x0)), (132, (.v (.int .i64) x1))], [.box Y8 (.v Y8 x2) true, .box Y64 (.v Y64 x3) true], 146, 2⟩
def sha_mix_655a_2_ex (o : List UInt32 × List UInt32) : Exit := (.exit 2)
def sha_mix_655a_2_st (o : List UInt32 × List UInt32) : St := ⟨[], [.box Y8 (.v Y8 o.1) true, .box Y64 (.v Y64 o.2) true], 146, 2⟩
theorem sha_mix_655a_2_body (x0 : List UInt32) (x1 : Int) (x2 : List UInt32) (x3 : List UInt32) : ∀ r, sha_mix_655a_2_step x0 x1 x2 x3 = some r → (match r with | .inl s => CodeOK prog (codeAt (bodyOf f77) [1, 1, 1, 1, 0, 0]) (sha_mix_655a_2_in x0 x1 x2 x3) .normal (sha_mix_655a_2_in x0 s.1 s.2 x3) | .inr o => sha_mix_655a_2_ex o ≠ .normal ∧ CodeOK prog (codeAt (bodyOf f77) [1, 1, 1, 1, 0, 0]) (sha_mix_655a_2_in x0 x1 x2 x3) (sha_mix_655a_2_ex o) (sha_mix_655a_2_st o)) := by
 intro r h
 unfold sha_mix_655a_2_step at h
 rcases fork_some h with ⟨h21, h⟩ | ⟨h21, h⟩
 ·obtain ⟨h22, h⟩ := need_some h
  injection h with h; subst h
  exact env.code (its := [b1, .pre p6, .sel [0, 131, 132] [0, 1]]) (.c h21 (.c h22 (.c h22 (.c h22 .n)))) (by kernel_rfl)
 ·injection h with h; subst h
  exact ⟨by intro e; simp [sha_mix_655a_2_ex] at e, env.code (its := [b0, .sel [] [0, 1]]) (.c h21 .n) (by kernel_rfl)⟩
theorem sha_mix_655a_2_ok (x0 : List UInt32) (x1 : Int) (x2 : List UInt32) (x3 : List UInt32) (o : List UInt32 × List UInt32) (h : sha_mix_655a_2 x0 x1 x2 x3 = some o) : CodeOK prog (codeAt (bodyOf f77) [1, 1, 1, 1, 0]) (sha_mix_655a_2_in x0 x1 x2 x3) (sha_mix_655a_2_ex o) (sha_mix_655a_2_st o) :=
 LoopOK.of_step (st := fun s => sha_mix_655a_2_in x0 s.1 s.2 x3) (ex := sha_mix_655a_2_ex) (stO := sha_mix_655a_2_st) (fun s s2 hs => sha_mix_655a_2_body x0 s.1 s.2 x3 (.inl s2) hs) (fun s r hs => sha_mix_655a_2_body x0 s.1 s.2 x3 (.inr r) hs) _ o h
def sha_mix_655a_R (a0 : B8) (a1 : List UInt32) (a2 : List UInt32) (u : List UInt32 × List UInt32) : Slot := .tnil
def sha_mix_655a_O (a0 : B8) (a1 : List UInt32) (a2 : List UInt32) (u : List UInt32 × List UInt32) : List AObj := [.box Y8 (.v Y8 u.1) true, .box Y64 (.v Y64 u.2) true]
theorem sha_mix_655a_ok (a0 : B8) (a1 : List UInt32) (a2 : List UInt32) (u : List UInt32 × List UInt32) (h : sha_mix_655a a0 a1 a2 = some u) : CallC prog 77 [(.ptr 0 []), (.ptr 1 []), (.v Yb a0)] [.box Y8 (.v Y8 a1) true, .box Y64 (.v Y64 a2) true] (sha_mix_655a_R a0 a1 a2 u) (sha_mix_655a_O a0 a1 a2 u) := by
 unfold sha_mix_655a at h
 obtain ⟨u1, h2, h⟩ := andThen_some h
 obtain ⟨o18, h19, h⟩ := andThen_some h
 obtain ⟨o23, h24, h⟩ := andThen_some h
 injection h with h; subst h
 exact env.fun func77 can77 (its := [.call [none] [] [] true (sha_spread_R a0 u1) (sha_spread_O a0 u1), .pre p7, .dive, .sel [0, 1, 6, 7, 8, 9, 10, 11, 12, 13, 14, 56] [0, 1, 2], .part (sha_mix_655a_1_ex o18) (sha_mix_655a_1_st o18), .dive, .sel [0, 131, 132] [0, 1], .part (sha_mix_655a_2_ex o23) (sha_mix_655a_2_st o23)]) (pos := [.sel [0, 1]]) (.c (sha_spread_ok a0 u1 h2) (.c (of_decide_eq_true (p := (0 ≤ (0 : Int) ∧ (0 : Int) < (8 : Int))) (by kernel_rfl)) (.c (of_decide_eq_true (p := (0 ≤ (1 : Int) ∧ (1 : Int) < (8 : Int))) (by kernel_rfl)) (.c (of_decide_eq_true (p := (0 ≤ (2 : Int) ∧ (2 : Int) < (8 : Int))) (by kernel_rfl)) (.c (of_decide_eq_true (p := (0 ≤ (3 : Int) ∧ (3 : Int) < (8 : Int))) (by kernel_rfl)) (.c (of_decide_eq_true (p := (0 ≤ (4 : Int) ∧ (4 : Int) < (8 : Int))) (by kernel_rfl)) (.c (of_decide_eq_true (p := (0 ≤ (5 : Int) ∧ (5 : Int) < (8 : Int))) (by kernel_rfl)) (.c (of_decide_eq_true (p := (0 ≤ (6 : Int) ∧ (6 : Int) < (8 : Int))) (by kernel_rfl)) (.c (of_decide_eq_true (p := (0 ≤ (7 : Int) ∧ (7 : Int) < (8 : Int))) (by kernel_rfl)) (.c (sha_mix_655a_1_ok (List.getD a1 (Int.toNat (0 : Int)) (0 : UInt32)) (List.getD a1 (Int.toNat (1 : Int)) (0 : UInt32)) (List.getD a1 (Int.toNat (2 : Int)) (0 : UInt32)) (List.getD a1 (Int.toNat (3 : Int)) (0 : UInt32)) (List.getD a1 (Int.toNat (4 : Int)) (0 : UInt32)) (List.getD a1 (Int.toNat (5 : Int)) (0 : UInt32)) (List.getD a1 (Int.toNat (6 : Int)) (0 : UInt32)) (List.getD a1 (Int.toNat (7 : Int)) (0 : UInt32)) (0 : Int) a1 a2 u1 o18 h19) (.c (sha_mix_655a_2_ok (List.set (List.set (List.set (List.set (List.set (List.set (List.set (List.set (List.replicate 8 (0 : UInt32)) 0 o18.1) 1 o18.2.1) 2 o18.2.2.1) 3 o18.2.2.2.1) 4 o18.2.2.2.2.1) 5 o18.2.2.2.2.2.1) 6 o18.2.2.2.2.2.2.1) 7 o18.2.2.2.2.2.2.2.1) (0 : Int) o18.2.2.2.2.2.2.2.2.1 o18.2.2.2.2.2.2.2.2.2 o23 h24) .n))))))))))) (by kernel_rfl)
theorem can59 : Callable prog 59 := ⟨_, func59, by kernel_rfl, by kernel_rfl⟩
def sha_Sum_1_in (x0 : B8) (x1 : B8) (x2 : List UInt32) (x3 : List UInt32) : St := ⟨[(2, (.ptr 0 [])), (3, (.ptr 1 [])), (4, (.ptr 2 [])), (5, (.v Yb x0))], [.box Yh (.v Yh x1) true, .box Y8 (.v Y8 x2) true, .box Y64 (.v Y64 x3) true], 44, 0⟩
def sha_Sum_1_ex (o : B8 × List UInt32) : Exit := (.exit 0)
def sha_Sum_1_st (o : B8 × List UInt32) : St := ⟨[(2, (.ptr 0 [])), (3, (.ptr 1 []))], [.box Yh (.v Yh o.1) true, .box Y8 (.v Y8 o.2) true], 44, 0⟩
theorem sha_Sum_1_body (x0 : B8) (x1 : B8) (x2 : List UInt32) (x3 : List UInt32) : ∀ r, sha_Sum_1_step x0 x1 x2 x3 = some r → (match r with | .inl s => CodeOK prog (codeAt (bodyOf f59) [1, 1, 0, 1, 0, 0]) (sha_Sum_1_in x0 x1 x2 x3) .normal (sha_Sum_1_in s.1 x1 s.2.1 s.2.2) | .inr o => sha_Sum_1_ex o ≠ .normal ∧ CodeOK prog (codeAt (bodyOf f59) [1, 1, 0, 1, 0, 0]) (sha_Sum_1_in x0 x1 x2 x3) (sha_Sum_1_ex o) (sha_Sum_1_st o)) := by
 intro r h
 unfold sha_Sum_1_step at h
 rcases fork_some h with ⟨h8, h⟩ | ⟨h8, h⟩
 ·obtain ⟨h9, h⟩ := need_some h
  obtain ⟨u10, h11, h⟩ := andThen_some h
  obtain ⟨h12, h⟩ := need_some h
  injection h with h; subst h
  exact env.code (its := [b1, b0, .call [none, none, none] [1, 2] [] true (sha_mix_655a_R (cutL x0 (0 : Int) (64 : Int)) x2 x3 u10) (sha_mix_655a_O (cutL x0 (0 : Int) (64 : Int)) x2 x3 u10), b0, .sel [2, 3, 4, 5] [0, 1, 2]]) (.c h8 (.c h9 (.c (sha_mix_655a_ok (cutL x0 (0 : Int) (64 : Int)) x2 x3 u10 h11) (.c h12 .n)))) (by kernel_rfl)
 ·injection h with h; subst h
  exact ⟨by intro e; simp [sha_Sum_1_ex] at e, env.code (its := [b0, .sel [2, 3] [0, 1]]) (.c h8 .n) (by kernel_rfl)⟩
theorem sha_Sum_1_ok (x0 : B8) (x1 : B8) (x2 : List UInt32) (x3 : List UInt32) (o : B8 × List UInt32) (h : sha_Sum_1 x0 x1 x2 x3 = some o) : CodeOK prog (codeAt (bodyOf f59) [1, 1, 0, 1, 0]) (sha_Sum_1_in x0 x1 x2 x3) (sha_Sum_1_ex o) (sha_Sum_1_st o) :=
 LoopOK.of_step (st := fun s => sha_Sum_1_in s.1 x1 s.2.1 s.2.2) (ex := sha_Sum_1_ex) (stO := sha_Sum_1_st) (fun s s2 hs => sha_Sum_1_body s.1 x1 s.2.1 s.2.2 (.inl s2) hs) (fun s r hs => sha_Sum_1_body s.1 x1 s.2.1 s.2.2 (.inr r) hs) _ o h
def sha_Sum_2_in (x0 : Int) (x1 : UInt32) (x2 : List UInt32) (x3 : Int) (x4 : Int) (x5 : B8) (x6 : B8) : St := ⟨[(2, (.ptr 0 [])), (6, (.ptr 1 [])), (7, (.v (.int .i64) x0)), (8, (.v (.int .u32) x1)), (22, (.v Y8 x2)), (23, (.v (.int .i64) x3)), (27, (.v (.int .i64) x4))], [.box Yh (.v Yh x5) true, .box Yh (.v Yh x6) true], 44, 0⟩
def sha_Sum_2_ex (o : List UInt32 × Int × B8 × B8) : Exit := (.exit 4)
def sha_Sum_2_st (o : List UInt32 × Int × B8 × B8) : St := ⟨[(2, (.ptr 0 [])), (6, (.ptr 1 [])), (22, (.v Y8 o.1)), (23, (.v (.int .i64) o.2.1))], [.box Yh (.v Yh o.2.2.1) true, .box Yh (.v Yh o.2.2.2) true], 44, 0⟩
theorem sha_Sum_2_body (x0 : Int) (x1 : UInt32) (x2 : List UInt32) (x3 : Int) (x4 : Int) (x5 : B8) (x6 : B8) : ∀ r, sha_Sum_2_step x0 x1 x2 x3 x4 x5 x6 = some r → (match r with | .inl s => CodeOK prog (codeAt (bodyOf f59) [1, 1, 1, 1, 0, 1, 0, 0, 1, 1, 0, 0, 1, 1, 0, 0]) (sha_Sum_2_in x0 x1 x2 x3 x4 x5 x6) .normal (sha_Sum_2_in x0 x1 x2 x3 s.1 x5 s.2) | .inr o => sha_Sum_2_ex o ≠ .normal ∧ CodeOK prog (codeAt (bodyOf f59) [1, 1, 1, 1, 0, 1, 0, 0, 1, 1, 0, 0, 1, 1, 0, 0]) (sha_Sum_2_in x0 x1 x2 x3 x4 x5 x6) (sha_Sum_2_ex o) (sha_Sum_2_st o)) := by
 intro r h
 unfold sha_Sum_2_step at h
 rcases fork_some h with ⟨h19, h⟩ | ⟨h19, h⟩
 ·obtain ⟨h20, h⟩ := need_some h
  obtain ⟨h21, h⟩ := need_some h
  injection h with h; subst h
  exact env.code (its := [b1, .dive, .sel [2, 6, 7, 8, 22, 23, 27] [0, 1]]) (.c h19 (.c h20 (.c h21 .n))) (by kernel_rfl)
 ·injection h with h; subst h
  exact ⟨by intro e; simp [sha_Sum_2_ex] at e, env.code (its := [b0, .sel [2, 6, 22, 23] [0, 1]]) (.c h19 .n) (by kernel_rfl)⟩
theorem sha_Sum_2_ok (x0 : Int) (x1 : UInt32) (x2 : List UInt32) (x3 : Int) (x4 : Int) (x5 : B8) (x6 : B8) (o : List UInt32 × Int × B8 × B8) (h : sha_Sum_2 x0 x1 x2 x3 x4 x5 x6 = some o) : CodeOK prog (codeAt (bodyOf f59) [1, 1, 1, 1, 0, 1, 0, 0, 1, 1, 0, 0, 1, 1, 0]) (sha_Sum_2_in x0 x1 x2 x3 x4 x5 x6) (sha_Sum_2_ex o) (sha_Sum_2_st o) :=
 LoopOK.of_step (st := fun s => sha_Sum_2_in x0 x1 x2 x3 s.1 x5 s.2) (ex := sha_Sum_2_ex) (stO := sha_Sum_2_st) (fun s s2 hs => sha_Sum_2_body x0 x1 x2 x3 s.1 x5 s.2 (.inl s2) hs) (fun s r hs => sha_Sum_2_body x0 x1 x2 x3 s.1 x5 s.2 (.inr r) hs) _ o h
def sha_Sum_3_in (x0 : List UInt32) (x1 : Int) (x2 : B8) (x3 : B8) : St := ⟨[(2, (.ptr 0 [])), (6, (.ptr 1 [])), (22, (.v Y8 x0)), (23, (.v (.int .i64) x1))], [.box Yh (.v Yh x2) true, .box Yh (.v Yh x3) true], 44, 0⟩
def sha_Sum_3_ex (o : B8 × B8) : Exit := (.exit 2)
def sha_Sum_3_st (o : B8 × B8) : St := ⟨[(2, (.ptr 0 [])), (6, (.ptr 1 []))], [.box Yh (.v Yh o.1) true, .box Yh (.v Yh o.2) true], 44, 0⟩
theorem sha_Sum_3_body (x0 : List UInt32) (x1 : Int) (x2 : B8) (x3 : B8) : ∀ r, sha_Sum_3_step x0 x1 x2 x3 = some r → (match r with | .inl s => CodeOK prog (codeAt (bodyOf f59) [1, 1, 1, 1, 0, 1, 0, 0]) (sha_Sum_3_in x0 x1 x2 x3) .normal (sha_Sum_3_in s.1 s.2.1 s.2.2.1 s.2.2.2) | .inr o => sha_Sum_3_ex o ≠ .normal ∧ CodeOK prog (codeAt (bodyOf f59) [1, 1, 1, 1, 0, 1, 0, 0]) (sha_Sum_3_in x0 x1 x2 x3) (sha_Sum_3_ex o) (sha_Sum_3_st o)) := by
 intro r h
 unfold sha_Sum_3_step at h
 rcases fork_some h with ⟨h16, h⟩ | ⟨h16, h⟩
 ·obtain ⟨h17, h⟩ := need_some h
  obtain ⟨o22, h23, h⟩ := andThen_some h
  injection h with h; subst h
  exact env.code (its := [b1, .dive, .dive, .sel [2, 6, 7, 8, 22, 23, 27] [0, 1], .part (sha_Sum_2_ex o22) (sha_Sum_2_st o22), .sel [2, 6, 22, 23] [0, 1]]) (.c h16 (.c h17 (.c (sha_Sum_2_ok x1 (List.getD x0 (Int.toNat x1) (0 : UInt32)) x0 x1 (0 : Int) x2 x3 o22 h23) .n))) (by kernel_rfl)
 ·injection h with h; subst h
  exact ⟨by intro e; simp [sha_Sum_3_ex] at e, env.code (its := [b0, .sel [2, 6] [0, 1]]) (.c h16 .n) (by kernel_rfl)⟩
theorem sha_Sum_3_ok (x0 : List UInt32) (x1 : Int) (x2 : B8) (x3 : B8) (o : B8 × B8) (h : sha_Sum_3 x0 x1 x2 x3 = some o) : CodeOK prog (codeAt (bodyOf f59) [1, 1, 1, 1, 0, 1, 0]) (sha_Sum_3_in x0 x1 x2 x3) (sha_Sum_3_ex o) (sha_Sum_3_st o) :=
 LoopOK.of_step (st := fun s => sha_Sum_3_in s.1 s.2.1 s.2.2.1 s.2.2.2) (ex := sha_Sum_3_ex) (stO := sha_Sum_3_st) (fun s s2 hs => sha_Sum_3_body s.1 s.2.1 s.2.2.1 s.2.2.2 (.inl s2) hs) (fun s r hs => sha_Sum_3_body s.1 s.2.1 s.2.2.1 s.2.2.2 (.inr r) hs) _ o h
def sha_Sum_R (a0 : B8) (u : B8) : Slot := (.v Yh u)
def sha_Sum_O (a0 : B8) (u : B8) : List AObj := []
theorem sha_Sum_ok (a0 : B8) (u : B8) (h : sha_Sum a0 = some u) : CallC prog 59 [(.v Yb a0)] [] (sha_Sum_R a0 u) (sha_Sum_O a0 u) := by
 unfold sha_Sum at h
 obtain ⟨u1, h2, h⟩ := andThen_some h
 obtain ⟨u3, h4, h⟩ := andThen_some h
 obtain ⟨u5, h6, h⟩ := andThen_some h
 obtain ⟨o13, h14, h⟩ := andThen_some h
 obtain ⟨o24, h25, h⟩ := andThen_some h
 injection h with h; subst h
 exact env.fun func59 can59 (its := [.call [] [] [] true (sha_first_R u1) (sha_first_O u1), .call [] [] [] true (sha_added_R u3) (sha_added_O u3), .call [none] [] [] true (sha_padded_R a0 u5) (sha_padded_O a0 u5), .dive, .val 5 Yb, .sel [2, 3, 4, 5] [0, 1, 2], .part (sha_Sum_1_ex o13) (sha_Sum_1_st o13), .dive, .sel [2, 6, 22, 23] [0, 2], .part (sha_Sum_3_ex o24) (sha_Sum_3_st o24)]) (pos := s0) (.c (sha_first_ok u1 h2) (.c (sha_added_ok u3 h4) (.c (sha_padded_ok a0 u5 h6) (.c (sha_Sum_1_ok u5 Z32 u1 u3 o13 h14) (.c (sha_Sum_3_ok o13.2 (0 : Int) o13.1 Z32 o24 h25) .n))))) (by kernel_rfl)
theorem can28 : Callable prog 28 := ⟨_, func28, by kernel_rfl, by kernel_rfl⟩
def sha_Tagged_1_in (x0 : List (B8)) (x1 : Int) (x2 : Int) (x3 : B8) (x4 : B8) : St := ⟨[(4, (.ptr 0 [])), (5, (.own 1 [])), (10, (.v Ybb x0)), (11, (.v (.int .i64) x1)), (12, (.v (.int .i64) x2))], [.box Yh (.v Yh x3) true, .row (.int .u8) x4 true], 22, 0⟩
def sha_Tagged_1_ex (o : B8 × B8) : Exit := (.exit 0)
def sha_Tagged_1_st (o : B8 × B8) : St := ⟨[(4, (.ptr 0 [])), (5, (.own 1 []))], [.box Yh (.v Yh o.1) true, .row (.int .u8) o.2 true], 22, 0⟩
theorem sha_Tagged_1_body (x0 : List (B8)) (x1 : Int) (x2 : Int) (x3 : B8) (x4 : B8) : ∀ r, sha_Tagged_1_step x0 x1 x2 x3 x4 = some r → (match r with | .inl s => CodeOK prog (codeAt (bodyOf f28) [1, 1, 0, 1, 0, 0]) (sha_Tagged_1_in x0 x1 x2 x3 x4) .normal (sha_Tagged_1_in x0 x1 s.1 x3 s.2) | .inr o => sha_Tagged_1_ex o ≠ .normal ∧ CodeOK prog (codeAt (bodyOf f28) [1, 1, 0, 1, 0, 0]) (sha_Tagged_1_in x0 x1 x2 x3 x4) (sha_Tagged_1_ex o) (sha_Tagged_1_st o)) := by
 intro r h
 unfold sha_Tagged_1_step at h
 rcases fork_some h with ⟨h2, h⟩ | ⟨h2, h⟩
 ·obtain ⟨h3, h⟩ := need_some h
  obtain ⟨h4, h⟩ := need_some h
  injection h with h; subst h
  exact env.code (its := [b1, .dive, .sel [4, 5, 10, 11, 12] [0, 2]]) (.c h2 (.c h3 (.c h4 .n))) (by kernel_rfl)
 ·injection h with h; subst h
  exact ⟨by intro e; simp [sha_Tagged_1_ex] at e, env.code (its := [b0, .sel [4, 5] [0, 1]]) (.c h2 .n) (by kernel_rfl)⟩
theorem sha_Tagged_1_ok (x0 : List (B8)) (x1 : Int) (x2 : Int) (x3 : B8) (x4 : B8) (o : B8 × B8) (h : sha_Tagged_1 x0 x1 x2 x3 x4 = some o) : CodeOK prog (codeAt (bodyOf f28) [1, 1, 0, 1, 0]) (sha_Tagged_1_in x0 x1 x2 x3 x4) (sha_Tagged_1_ex o) (sha_Tagged_1_st o) :=
 LoopOK.of_step (st := fun s => sha_Tagged_1_in x0 x1 s.1 x3 s.2) (ex := sha_Tagged_1_ex) (stO := sha_Tagged_1_st) (fun s s2 hs => sha_Tagged_1_body x0 x1 s.1 x3 s.2 (.inl s2) hs) (fun s r hs => sha_Tagged_1_body x0 x1 s.1 x3 s.2 (.inr r) hs) _ o h
def sha_Tagged_R (a0 : UInt8) (a1 : List (B8)) (u : B8) : Slot := (.v Yh u)
def sha_Tagged_O (a0 : UInt8) (a1 : List (B8)) (u : B8) : List AObj := []
theorem sha_Tagged_ok (a0 : UInt8) (a1 : List (B8)) (u : B8) (h : sha_Tagged a0 a1 = some u) : CallC prog 28 [(.v (.int .u8) a0), (.v Ybb a1)] [] (sha_Tagged_R a0 a1 u) (sha_Tagged_O a0 a1 u) := by
 unfold sha_Tagged at h
 obtain ⟨o5, h6, h⟩ := andThen_some h
 obtain ⟨u7, h8, h⟩ := andThen_some h
 injection h with h; subst h
 exact env.fun func28 can28 (its := [.dive, .sel [4, 5, 10, 11, 12] [0, 1], .part (sha_Tagged_1_ex o5) (sha_Tagged_1_st o5), .call [none] [] [1] true (sha_Sum_R o5.2 u7) (sha_Sum_O o5.2 u7)]) (pos := s0) (.c (sha_Tagged_1_ok a1 (List.length a1 : Int) (0 : Int) Z32 ([a0] : List (UInt8)) o5 h6) (.c (sha_Sum_ok o5.2 u7 h8) .n)) (by kernel_rfl)
theorem can57 : Callable prog 57 := ⟨_, func57, by kernel_rfl, by kernel_rfl⟩
def tree_left_1_in (x0 : Int) (x1 : Int) : St := ⟨[(0, (.v (.int .i64) x0)), (3, (.v (.int .i64) x1))], [], 11, 0⟩
def tree_left_1_ex (o : Int) : Exit := (.exit 0)
def tree_left_1_st (o : Int) : St := ⟨[(3, (.v (.int .i64) o))], [], 11, 0⟩
theorem tree_left_1_body (x0 : Int) (x1 : Int) : ∀ r, tree_left_1_step x0 x1 = some r → (match r with | .inl s => CodeOK prog (codeAt (bodyOf f57) [1, 1, 0, 0, 0]) (tree_left_1_in x0 x1) .normal (tree_left_1_in x0 s) | .inr o => tree_left_1_ex o ≠ .normal ∧ CodeOK prog (codeAt (bodyOf f57) [1, 1, 0, 0, 0]) (tree_left_1_in x0 x1) (tree_left_1_ex o) (tree_left_1_st o)) := by
 intro r h
 unfold tree_left_1_step at h
 rcases fork_some h with ⟨h2, h⟩ | ⟨h2, h⟩
 ·injection h with h; subst h
  exact env.code (its := [b1, .dive, .sel [0, 3] []]) (.c h2 .n) (by kernel_rfl)
 ·injection h with h; subst h
  exact ⟨by intro e; simp [tree_left_1_ex] at e, env.code (its := [b0, .sel [3] []]) (.c h2 .n) (by kernel_rfl)⟩
theorem tree_left_1_ok (x0 : Int) (x1 : Int) (o : Int) (h : tree_left_1 x0 x1 = some o) : CodeOK prog (codeAt (bodyOf f57) [1, 1, 0, 0]) (tree_left_1_in x0 x1) (tree_left_1_ex o) (tree_left_1_st o) :=
 LoopOK.of_step (st := fun s => tree_left_1_in x0 s) (ex := tree_left_1_ex) (stO := tree_left_1_st) (fun s s2 hs => tree_left_1_body x0 s (.inl s2) hs) (fun s r hs => tree_left_1_body x0 s (.inr r) hs) _ o h
def tree_left_R (a0 : Int) (u : Int) : Slot := (.v (.int .i64) u)
def tree_left_O (a0 : Int) (u : Int) : List AObj := []
theorem tree_left_ok (a0 : Int) (u : Int) (h : tree_left a0 = some u) : CallC prog 57 [(.v (.int .i64) a0)] [] (tree_left_R a0 u) (tree_left_O a0 u) := by
 unfold tree_left at h
 obtain ⟨o3, h4, h⟩ := andThen_some h
 injection h with h; subst h
 exact env.fun func57 can57 (its := [.dive, .sel [0, 3] [], .part (tree_left_1_ex o3) (tree_left_1_st o3)]) (pos := s0) (.c (tree_left_1_ok a0 (1 : Int) o3 h4) .n) (by kernel_rfl)
theorem can58 : Callable prog 58 := ⟨_, func58, by kernel_rfl, by kernel_rfl⟩
def tree_inner_R (a0 : B8) (a1 : B8) (u : B8) : Slot := (.v Yh u)
def tree_inner_O (a0 : B8) (a1 : B8) (u : B8) : List AObj := []
theorem tree_inner_ok (a0 : B8) (a1 : B8) (u : B8) (h : tree_inner a0 a1 = some u) : CallC prog 58 [(.v Yh a0), (.v Yh a1)] [] (tree_inner_R a0 a1 u) (tree_inner_O a0 a1 u) := by
 unfold tree_inner at h
 obtain ⟨u1, h2, h⟩ := andThen_some h
 injection h with h; subst h
 exact env.fun func58 can58 (its := [.pre p8, b1, b1, .asis, .call [none, none] [] [0] true (sha_Tagged_R (1 : UInt8) ([a0, a1] : List (B8)) u1) (sha_Tagged_O (1 : UInt8) ([a0, a1] : List (B8)) u1)]) (pos := s0) (.c (rfl : ([.row Yb ([a0, a1] : List (B8)) true] : List AObj) = [.row Yb ([a0, a1] : List (B8)) true]) (.c (sha_Tagged_ok (1 : UInt8) ([a0, a1] : List (B8)) u1 h2) .n)) (by kernel_rfl)
theorem can27 : Callable prog 27 := ⟨_, func27, by kernel_rfl, by kernel_rfl⟩
def tree_Root_R (a0 : List (B8)) (u : B8) : Slot := (.v Yh u)
def tree_Root_O (a0 : List (B8)) (u : B8) : List AObj := []
theorem tree_Root_f_ok : ∀ (k : Nat) (a0 : List (B8)) (u : B8) (h : tree_Root_f k a0 = some u), CallC prog 27 [(.v Ybb a0)] [] (tree_Root_R a0 u) (tree_Root_O a0 u)
 | 0, a0, u, h => by cases h
 | k + 1, a0, u, h => by
  unfold tree_Root_f at h
  rcases fork_some h with ⟨h1, h⟩ | ⟨h1, h⟩
  ·obtain ⟨u2, h3, h⟩ := andThen_some h
   injection h with h; subst h
   exact env.fun func27 can27 (its := [b1, .call [none, (some Yb)] [] [] true (sha_Tagged_R (2 : UInt8) ([] : List (B8)) u2) (sha_Tagged_O (2 : UInt8) ([] : List (B8)) u2)]) (pos := s0) (.c h1 (.c (sha_Tagged_ok (2 : UInt8) ([] : List (B8)) u2 h3) .n)) (by kernel_rfl)
  ·rcases fork_some h with ⟨h4, h⟩ | ⟨h4, h⟩
   ·obtain ⟨h5, h⟩ := need_some h
    obtain ⟨u6, h7, h⟩ := andThen_some h
    injection h with h; subst h
    exact env.fun func27 can27 (its := [b0, b1, .call [none, none] [] [1] true (sha_Tagged_R (0 : UInt8) ([(List.getD a0 (Int.toNat (0 : Int)) ([] : B8))] : List (B8)) u6) (sha_Tagged_O (0 : UInt8) ([(List.getD a0 (Int.toNat (0 : Int)) ([] : B8))] : List (B8)) u6)]) (pos := s0) (.c h1 (.c h4 (.c h5 (.c (sha_Tagged_ok (0 : UInt8) ([(List.getD a0 (Int.toNat (0 : Int)) ([] : B8))] : List (B8)) u6 h7) .n)))) (by kernel_rfl)
   ·obtain ⟨u8, h9, h⟩ := andThen_some h
    obtain ⟨h10, h⟩ := need_some h
    obtain ⟨u11, h12, h⟩ := andThen_some h
    obtain ⟨h13, h⟩ := need_some h
    obtain ⟨u14, h15, h⟩ := andThen_some h
    obtain ⟨u16, h17, h⟩ := andThen_some h
    injection h with h; subst h
    exact env.fun func27 can27 (its := [b0, b0, .call [none] [] [] true (tree_left_R (List.length a0 : Int) u8) (tree_left_O (List.length a0 : Int) u8), .pre p9, b0, .asis, .call [none] [] [] true (tree_Root_R (cutL a0 (0 : Int) u8) u11) (tree_Root_O (cutL a0 (0 : Int) u8) u11), b0, .asis, .call [none] [] [] true (tree_Root_R (cutL a0 u8 (List.length a0 : Int)) u14) (tree_Root_O (cutL a0 u8 (List.length a0 : Int)) u14), .asis, .call [none, none] [] [] true (tree_inner_R u11 u14 u16) (tree_inner_O u11 u14 u16)]) (pos := s0) (.c h1 (.c h4 (.c (tree_left_ok (List.length a0 : Int) u8 h9) (.c h10 (.c rn (.c (tree_Root_f_ok k (cutL a0 (0 : Int) u8) u11 h12) (.c h13 (.c rn (.c (tree_Root_f_ok k (cutL a0 u8 (List.length a0 : Int)) u14 h15) (.c rn (.c (tree_inner_ok u11 u14 u16 h17) .n))))))))))) (by kernel_rfl)
theorem tree_Root_ok (a0 : List (B8)) (u : B8) (h : tree_Root a0 = some u) : CallC prog 27 [(.v Ybb a0)] [] (tree_Root_R a0 u) (tree_Root_O a0 u) := tree_Root_f_ok 64 a0 u h
theorem can29 : Callable prog 29 := ⟨_, func29, by kernel_rfl, by kernel_rfl⟩
def vint_Put_1_in (x0 : List Int) (x1 : Int) (x2 : Int) (x3 : B8) : St := ⟨[(3, (.own 0 [])), (6, (.v (.slice (.int .i64)) x0)), (7, (.v (.int .i64) x1)), (8, (.v (.int .i64) x2))], [.row (.int .u8) x3 true], 18, 0⟩
def vint_Put_1_ex (o : B8) : Exit := (.exit 0)
def vint_Put_1_st (o : B8) : St := ⟨[(3, (.own 0 []))], [.row (.int .u8) o true], 18, 0⟩
theorem vint_Put_1_body (x0 : List Int) (x1 : Int) (x2 : Int) (x3 : B8) : ∀ r, vint_Put_1_step x0 x1 x2 x3 = some r → (match r with | .inl s => CodeOK prog (codeAt (bodyOf f29) [1, 1, 0, 1, 0, 0]) (vint_Put_1_in x0 x1 x2 x3) .normal (vint_Put_1_in x0 x1 s.1 s.2) | .inr o => vint_Put_1_ex o ≠ .normal ∧ CodeOK prog (codeAt (bodyOf f29) [1, 1, 0, 1, 0, 0]) (vint_Put_1_in x0 x1 x2 x3) (vint_Put_1_ex o) (vint_Put_1_st o)) := by
 intro r h
 unfold vint_Put_1_step at h
 rcases fork_some h with ⟨h2, h⟩ | ⟨h2, h⟩
 ·obtain ⟨h3, h⟩ := need_some h
  obtain ⟨u4, h5, h⟩ := andThen_some h
  obtain ⟨h6, h⟩ := need_some h
  injection h with h; subst h
  exact env.code (its := [b1, .call [none] [] [] true (vint_one_R (List.getD x0 (Int.toNat x2) (0 : Int)) u4) (vint_one_O (List.getD x0 (Int.toNat x2) (0 : Int)) u4), .sel [3, 6, 7, 8] [2]]) (.c h2 (.c h3 (.c (vint_one_ok (List.getD x0 (Int.toNat x2) (0 : Int)) u4 h5) (.c h6 .n)))) (by kernel_rfl)
 ·injection h with h; subst h
  exact ⟨by intro e; simp [vint_Put_1_ex] at e, env.code (its := [b0, .sel [3] [0]]) (.c h2 .n) (by kernel_rfl)⟩
theorem vint_Put_1_ok (x0 : List Int) (x1 : Int) (x2 : Int) (x3 : B8) (o : B8) (h : vint_Put_1 x0 x1 x2 x3 = some o) : CodeOK prog (codeAt (bodyOf f29) [1, 1, 0, 1, 0]) (vint_Put_1_in x0 x1 x2 x3) (vint_Put_1_ex o) (vint_Put_1_st o) :=
 LoopOK.of_step (st := fun s => vint_Put_1_in x0 x1 s.1 s.2) (ex := vint_Put_1_ex) (stO := vint_Put_1_st) (fun s s2 hs => vint_Put_1_body x0 x1 s.1 s.2 (.inl s2) hs) (fun s r hs => vint_Put_1_body x0 x1 s.1 s.2 (.inr r) hs) _ o h
def vint_Put_R (a0 : List Int) (u : B8) : Slot := (.own 0 [])
def vint_Put_O (a0 : List Int) (u : B8) : List AObj := [.row (.int .u8) u true]
theorem vint_Put_ok (a0 : List Int) (u : B8) (h : vint_Put a0 = some u) : CallC prog 29 [(.v (.slice (.int .i64)) a0)] [] (vint_Put_R a0 u) (vint_Put_O a0 u) := by
 unfold vint_Put at h
 obtain ⟨o7, h8, h⟩ := andThen_some h
 injection h with h; subst h
 exact env.fun func29 can29 (its := [.dive, .promote 3 (.int .u8), .sel [3, 6, 7, 8] [0], .part (vint_Put_1_ex o7) (vint_Put_1_st o7)]) (pos := s1) (.c (vint_Put_1_ok a0 (List.length a0 : Int) (0 : Int) ([] : List (UInt8)) o7 h8) .n) (by kernel_rfl)
theorem can7 : Callable prog 7 := ⟨_, func7, by kernel_rfl, by kernel_rfl⟩
def store_Root_1_in (x0 : List (T18c3)) (x1 : List (T18c3)) (x2 : Int) (x3 : Int) (x4 : B8) (x5 : List (B8)) : St := ⟨[(0, (.v (.slice Y18c3) x0)), (2, (.ptr 0 [])), (3, (.own 1 [])), (7, (.v (.slice Y18c3) x1)), (8, (.v (.int .i64) x2)), (9, (.v (.int .i64) x3))], [.box Yh (.v Yh x4) true, .row Yb x5 true], 28, 0⟩
def store_Root_1_ex (o : (List (T18c3)) × B8 × List (B8)) : Exit := (.exit 0)
def store_Root_1_st (o : (List (T18c3)) × B8 × List (B8)) : St := ⟨[(0, (.v (.slice Y18c3) o.1)), (2, (.ptr 0 [])), (3, (.own 1 []))], [.box Yh (.v Yh o.2.1) true, .row Yb o.2.2 true], 28, 0⟩
theorem store_Root_1_body (x0 : List (T18c3)) (x1 : List (T18c3)) (x2 : Int) (x3 : Int) (x4 : B8) (x5 : List (B8)) : ∀ r, store_Root_1_step x0 x1 x2 x3 x4 x5 = some r → (match r with | .inl s => CodeOK prog (codeAt (bodyOf f7) [1, 1, 0, 1, 0, 0]) (store_Root_1_in x0 x1 x2 x3 x4 x5) .normal (store_Root_1_in x0 x1 x2 s.1 x4 s.2) | .inr o => store_Root_1_ex o ≠ .normal ∧ CodeOK prog (codeAt (bodyOf f7) [1, 1, 0, 1, 0, 0]) (store_Root_1_in x0 x1 x2 x3 x4 x5) (store_Root_1_ex o) (store_Root_1_st o)) := by
 intro r h
 unfold store_Root_1_step at h
 rcases fork_some h with ⟨h2, h⟩ | ⟨h2, h⟩
 ·obtain ⟨h3, h⟩ := need_some h
  obtain ⟨u4, h5, h⟩ := andThen_some h
  obtain ⟨h6, h⟩ := need_some h
  injection h with h; subst h
  exact env.code (its := [b1, .call [none] [] [] true (kv_Leaf_R (List.getD x1 (Int.toNat x3) Z18c3) u4) (kv_Leaf_O (List.getD x1 (Int.toNat x3) Z18c3) u4), .sel [0, 2, 3, 7, 8, 9] [0, 5]]) (.c h2 (.c h3 (.c (kv_Leaf_ok (List.getD x1 (Int.toNat x3) Z18c3) u4 h5) (.c h6 .n)))) (by kernel_rfl)
 ·injection h with h; subst h
  exact ⟨by intro e; simp [store_Root_1_ex] at e, env.code (its := [b0, .sel [0, 2, 3] [0, 1]]) (.c h2 .n) (by kernel_rfl)⟩
theorem store_Root_1_ok (x0 : List (T18c3)) (x1 : List (T18c3)) (x2 : Int) (x3 : Int) (x4 : B8) (x5 : List (B8)) (o : (List (T18c3)) × B8 × List (B8)) (h : store_Root_1 x0 x1 x2 x3 x4 x5 = some o) : CodeOK prog (codeAt (bodyOf f7) [1, 1, 0, 1, 0]) (store_Root_1_in x0 x1 x2 x3 x4 x5) (store_Root_1_ex o) (store_Root_1_st o) :=
 LoopOK.of_step (st := fun s => store_Root_1_in x0 x1 x2 s.1 x4 s.2) (ex := store_Root_1_ex) (stO := store_Root_1_st) (fun s s2 hs => store_Root_1_body x0 x1 x2 s.1 x4 s.2 (.inl s2) hs) (fun s r hs => store_Root_1_body x0 x1 x2 s.1 x4 s.2 (.inr r) hs) _ o h
def store_Root_R (a0 : List (T18c3)) (u : B8) : Slot := (.v Yh u)
def store_Root_O (a0 : List (T18c3)) (u : B8) : List AObj := []
theorem store_Root_ok (a0 : List (T18c3)) (u : B8) (h : store_Root a0 = some u) : CallC prog 7 [(.v (.slice Y18c3) a0)] [] (store_Root_R a0 u) (store_Root_O a0 u) := by
 unfold store_Root at h
 obtain ⟨o7, h8, h⟩ := andThen_some h
 obtain ⟨u9, h10, h⟩ := andThen_some h
 obtain ⟨u11, h12, h⟩ := andThen_some h
 obtain ⟨u13, h14, h⟩ := andThen_some h
 injection h with h; subst h
 exact env.fun func7 can7 (its := [.dive, .promote 3 Yb, .sel [0, 2, 3, 7, 8, 9] [0, 1], .part (store_Root_1_ex o7) (store_Root_1_st o7), .call [none] [] [1] true (tree_Root_R o7.2.2 u9) (tree_Root_O o7.2.2 u9), .pre p10, .call [none] [] [0] true (vint_Put_R ([(List.length o7.1 : Int)] : List (Int)) u11) (vint_Put_O ([(List.length o7.1 : Int)] : List (Int)) u11), b1, .asis, .call [none, none] [] [0] true (sha_Tagged_R (83 : UInt8) ([u11, u9] : List (B8)) u13) (sha_Tagged_O (83 : UInt8) ([u11, u9] : List (B8)) u13)]) (pos := s0) (.c (store_Root_1_ok a0 a0 (List.length a0 : Int) (0 : Int) Z32 ([] : List (B8)) o7 h8) (.c (tree_Root_ok o7.2.2 u9 h10) (.c (vint_Put_ok ([(List.length o7.1 : Int)] : List (Int)) u11 h12) (.c (rfl : ([.row Yb ([u11, u9] : List (B8)) true] : List AObj) = [.row Yb ([u11, u9] : List (B8)) true]) (.c (sha_Tagged_ok (83 : UInt8) ([u11, u9] : List (B8)) u13 h14) .n))))) (by kernel_rfl)
theorem can30 : Callable prog 30 := ⟨_, func30, by kernel_rfl, by kernel_rfl⟩
def affiantref1_First_1_in (x0 : List (T18c3)) (x1 : B8) (x2 : Int) : St := ⟨[(0, (.v (.slice Y18c3) x0)), (1, (.v .str x1)), (5, (.v (.int .i64) x2))], [], 22, 0⟩
def affiantref1_First_1_ex (o : Int) : Exit := (.exit 0)
def affiantref1_First_1_st (o : Int) : St := ⟨[(5, (.v (.int .i64) o))], [], 22, 0⟩
theorem affiantref1_First_1_body (x0 : List (T18c3)) (x1 : B8) (x2 : Int) : ∀ r, affiantref1_First_1_step x0 x1 x2 = some r → (match r with | .inl s => CodeOK prog (codeAt (bodyOf f30) [1, 1, 0, 0, 0]) (affiantref1_First_1_in x0 x1 x2) .normal (affiantref1_First_1_in x0 x1 s) | .inr o => affiantref1_First_1_ex o ≠ .normal ∧ CodeOK prog (codeAt (bodyOf f30) [1, 1, 0, 0, 0]) (affiantref1_First_1_in x0 x1 x2) (affiantref1_First_1_ex o) (affiantref1_First_1_st o)) := by
 intro r h
 unfold affiantref1_First_1_step at h
 rcases fork_some h with ⟨h2, h⟩ | ⟨h2, h⟩
 ·obtain ⟨h3, h⟩ := need_some h
  rcases fork_some h with ⟨h4, h⟩ | ⟨h4, h⟩
  ·injection h with h; subst h
   exact env.code (its := [b1, b1, b1, b1, b1, b1, b1, b1, b1, .dive, .sel [0, 1, 5] []]) (.c h2 (.c h2 (.c h2 (.c h3 (.c h2 (.c h2 (.c h2 (.c h2 (.c h2 (.c h4 .n)))))))))) (by kernel_rfl)
  ·injection h with h; subst h
   exact ⟨by intro e; simp [affiantref1_First_1_ex] at e, env.code (its := [b1, b1, b1, b1, b1, b1, b1, b1, b0, .sel [5] []]) (.c h2 (.c h2 (.c h2 (.c h3 (.c h2 (.c h2 (.c h2 (.c h2 (.c h2 (.c h4 .n)))))))))) (by kernel_rfl)⟩
 ·injection h with h; subst h
  exact ⟨by intro e; simp [affiantref1_First_1_ex] at e, env.code (its := [b0, b0, b0, b0, b0, b0, b0, b0, b0, .sel [5] []]) (.c h2 (.c h2 (.c h2 (.c h2 (.c h2 (.c h2 (.c h2 (.c h2 (.c r0 .n))))))))) (by kernel_rfl)⟩
theorem affiantref1_First_1_ok (x0 : List (T18c3)) (x1 : B8) (x2 : Int) (o : Int) (h : affiantref1_First_1 x0 x1 x2 = some o) : CodeOK prog (codeAt (bodyOf f30) [1, 1, 0, 0]) (affiantref1_First_1_in x0 x1 x2) (affiantref1_First_1_ex o) (affiantref1_First_1_st o) :=
 LoopOK.of_step (st := fun s => affiantref1_First_1_in x0 x1 s) (ex := affiantref1_First_1_ex) (stO := affiantref1_First_1_st) (fun s s2 hs => affiantref1_First_1_body x0 x1 s (.inl s2) hs) (fun s r hs => affiantref1_First_1_body x0 x1 s (.inr r) hs) _ o h
def affiantref1_First_R (a0 : List (T18c3)) (a1 : B8) (u : Int) : Slot := (.v (.int .i64) u)
def affiantref1_First_O (a0 : List (T18c3)) (a1 : B8) (u : Int) : List AObj := []
theorem affiantref1_First_ok (a0 : List (T18c3)) (a1 : B8) (u : Int) (h : affiantref1_First a0 a1 = some u) : CallC prog 30 [(.v (.slice Y18c3) a0), (.v .str a1)] [] (affiantref1_First_R a0 a1 u) (affiantref1_First_O a0 a1 u) := by
 unfold affiantref1_First at h
 obtain ⟨o5, h6, h⟩ := andThen_some h
 injection h with h; subst h
 exact env.fun func30 can30 (its := [.dive, .sel [0, 1, 5] [], .part (affiantref1_First_1_ex o5) (affiantref1_First_1_st o5)]) (pos := s0) (.c (affiantref1_First_1_ok a0 a1 (0 : Int) o5 h6) .n) (by kernel_rfl)
theorem can45 : Callable prog 45 := ⟨_, func45, by kernel_rfl, by kernel_rfl⟩
def affiantref1_Put_R (a0 : Int) (u : B8) : Slot := (.own 0 [])
def affiantref1_Put_O (a0 : Int) (u : B8) : List AObj := [.row (.int .u8) u true]
theorem affiantref1_Put_f_ok : ∀ (k : Nat) (a0 : Int) (u : B8) (h : affiantref1_Put_f k a0 = some u), CallC prog 45 [(.v (.int .i64) a0)] [] (affiantref1_Put_R a0 u) (affiantref1_Put_O a0 u)
 | 0, a0, u, h => by cases h
 | k + 1, a0, u, h => by
  unfold affiantref1_Put_f at h
  rcases fork_some h with ⟨h1, h⟩ | ⟨h1, h⟩
  ·injection h with h; subst h
   exact env.fun func45 can45 (its := [b1, b1, b1, b1]) (pos := [.promote (.int .u8), .sel [0]]) (.c h1 (.c h1 (.c h1 (.c r1 .n)))) (by kernel_rfl)
  ·rcases fork_some h with ⟨h2, h⟩ | ⟨h2, h⟩
   ·injection h with h; subst h
    exact env.fun func45 can45 (its := [b0, b0, b0, b1]) (pos := [.promote (.int .u8), .sel [0]]) (.c h1 (.c h1 (.c h1 (.c h2 .n)))) (by kernel_rfl)
   ·rcases fork_some h with ⟨h3, h⟩ | ⟨h3, h⟩
    ·injection h with h; subst h
     exact env.fun func45 can45 (its := [b0, b0, b0, b0, b1]) (pos := s1) (.c h1 (.c h1 (.c h1 (.c h2 (.c h3 .n))))) (by kernel_rfl)
    ·obtain ⟨u4, h5, h⟩ := andThen_some h
     obtain ⟨h6, h⟩ := need_some h
     injection h with h; subst h
     exact env.fun func45 can45 (its := [b0, b0, b0, b0, b0, .call [none] [] [] true (affiantref1_Put_R (ishr a0 (Int.toNat (7 : Int))) u4) (affiantref1_Put_O (ishr a0 (Int.toNat (7 : Int))) u4)]) (pos := [.sel [2]]) (.c h1 (.c h1 (.c h1 (.c h2 (.c h3 (.c (of_decide_eq_true (p := (0 ≤ (7 : Int))) (by kernel_rfl)) (.c (affiantref1_Put_f_ok k (ishr a0 (Int.toNat (7 : Int))) u4 h5) (.c h6 .n)))))))) (by kernel_rfl)
theorem affiantref1_Put_ok (a0 : Int) (u : B8) (h : affiantref1_Put a0 = some u) : CallC prog 45 [(.v (.int .i64) a0)] [] (affiantref1_Put_R a0 u) (affiantref1_Put_O a0 u) := affiantref1_Put_f_ok 64 a0 u h
theorem can68 : Callable prog 68 := ⟨_, func68, by kernel_rfl, by kernel_rfl⟩
def affiantref1_Text_R (a0 : B8) (u : B8) : Slot := (.own 0 [])
def affiantref1_Text_O (a0 : B8) (u : B8) : List AObj := [.row (.int .u8) u true]
theorem affiantref1_Text_ok (a0 : B8) (u : B8) (h : affiantref1_Text a0 = some u) : CallC prog 68 [(.v .str a0)] [] (affiantref1_Text_R a0 u) (affiantref1_Text_O a0 u) := by
 unfold affiantref1_Text at h
 obtain ⟨u1, h2, h⟩ := andThen_some h
 obtain ⟨h3, h⟩ := need_some h
 injection h with h; subst h
 exact env.fun func68 can68 (its := [.call [none] [] [] true (affiantref1_Put_R (List.length a0 : Int) u1) (affiantref1_Put_O (List.length a0 : Int) u1)]) (pos := [.sel [1]]) (.c (affiantref1_Put_ok (List.length a0 : Int) u1 h2) (.c h3 .n)) (by kernel_rfl)
theorem can48 : Callable prog 48 := ⟨_, func48, by kernel_rfl, by kernel_rfl⟩
def affiantref1_Leaf_R (a0 : T18c3) (u : B8) : Slot := (.own 0 [])
def affiantref1_Leaf_O (a0 : T18c3) (u : B8) : List AObj := [.row (.int .u8) u true]
theorem affiantref1_Leaf_ok (a0 : T18c3) (u : B8) (h : affiantref1_Leaf a0 = some u) : CallC prog 48 [(.v Y18c3 a0)] [] (affiantref1_Leaf_R a0 u) (affiantref1_Leaf_O a0 u) := by
 unfold affiantref1_Leaf at h
 obtain ⟨u1, h2, h⟩ := andThen_some h
 obtain ⟨u3, h4, h⟩ := andThen_some h
 obtain ⟨h5, h⟩ := need_some h
 injection h with h; subst h
 exact env.fun func48 can48 (its := [.pre p11, .call [none] [] [] true (affiantref1_Text_R a0.1 u1) (affiantref1_Text_O a0.1 u1), .call [none] [] [] true (affiantref1_Text_R a0.2.1 u3) (affiantref1_Text_O a0.2.1 u3)]) (pos := [.sel [3]]) (.c (affiantref1_Text_ok a0.1 u1 h2) (.c (affiantref1_Text_ok a0.2.1 u3 h4) (.c h5 .n))) (by kernel_rfl)
theorem can43 : Callable prog 43 := ⟨_, func43, by kernel_rfl, by kernel_rfl⟩
def affiantref1_leaves_1_in (x0 : List (T18c3)) (x1 : Int) (x2 : Int) (x3 : List (B8)) : St := ⟨[(3, (.own 0 [])), (6, (.v (.slice Y18c3) x0)), (7, (.v (.int .i64) x1)), (8, (.v (.int .i64) x2))], [.row Yb x3 true], 19, 0⟩
def affiantref1_leaves_1_ex (o : List (B8)) : Exit := (.exit 0)
def affiantref1_leaves_1_st (o : List (B8)) : St := ⟨[(3, (.own 0 []))], [.row Yb o true], 19, 0⟩
theorem affiantref1_leaves_1_body (x0 : List (T18c3)) (x1 : Int) (x2 : Int) (x3 : List (B8)) : ∀ r, affiantref1_leaves_1_step x0 x1 x2 x3 = some r → (match r with | .inl s => CodeOK prog (codeAt (bodyOf f43) [1, 1, 0, 1, 0, 0]) (affiantref1_leaves_1_in x0 x1 x2 x3) .normal (affiantref1_leaves_1_in x0 x1 s.1 s.2) | .inr o => affiantref1_leaves_1_ex o ≠ .normal ∧ CodeOK prog (codeAt (bodyOf f43) [1, 1, 0, 1, 0, 0]) (affiantref1_leaves_1_in x0 x1 x2 x3) (affiantref1_leaves_1_ex o) (affiantref1_leaves_1_st o)) := by
 intro r h
 unfold affiantref1_leaves_1_step at h
 rcases fork_some h with ⟨h2, h⟩ | ⟨h2, h⟩
 ·obtain ⟨h3, h⟩ := need_some h
  obtain ⟨u4, h5, h⟩ := andThen_some h
  obtain ⟨h6, h⟩ := need_some h
  injection h with h; subst h
  exact env.code (its := [b1, .call [none] [] [] true (affiantref1_Leaf_R (List.getD x0 (Int.toNat x2) Z18c3) u4) (affiantref1_Leaf_O (List.getD x0 (Int.toNat x2) Z18c3) u4), .sel [3, 6, 7, 8] [4]]) (.c h2 (.c h3 (.c (affiantref1_Leaf_ok (List.getD x0 (Int.toNat x2) Z18c3) u4 h5) (.c h6 .n)))) (by kernel_rfl)
 ·injection h with h; subst h
  exact ⟨by intro e; simp [affiantref1_leaves_1_ex] at e, env.code (its := [b0, .sel [3] [0]]) (.c h2 .n) (by kernel_rfl)⟩
theorem affiantref1_leaves_1_ok (x0 : List (T18c3)) (x1 : Int) (x2 : Int) (x3 : List (B8)) (o : List (B8)) (h : affiantref1_leaves_1 x0 x1 x2 x3 = some o) : CodeOK prog (codeAt (bodyOf f43) [1, 1, 0, 1, 0]) (affiantref1_leaves_1_in x0 x1 x2 x3) (affiantref1_leaves_1_ex o) (affiantref1_leaves_1_st o) :=
 LoopOK.of_step (st := fun s => affiantref1_leaves_1_in x0 x1 s.1 s.2) (ex := affiantref1_leaves_1_ex) (stO := affiantref1_leaves_1_st) (fun s s2 hs => affiantref1_leaves_1_body x0 x1 s.1 s.2 (.inl s2) hs) (fun s r hs => affiantref1_leaves_1_body x0 x1 s.1 s.2 (.inr r) hs) _ o h
def affiantref1_leaves_R (a0 : List (T18c3)) (u : List (B8)) : Slot := (.own 0 [])
def affiantref1_leaves_O (a0 : List (T18c3)) (u : List (B8)) : List AObj := [.row Yb u true]
theorem affiantref1_leaves_ok (a0 : List (T18c3)) (u : List (B8)) (h : affiantref1_leaves a0 = some u) : CallC prog 43 [(.v (.slice Y18c3) a0)] [] (affiantref1_leaves_R a0 u) (affiantref1_leaves_O a0 u) := by
 unfold affiantref1_leaves at h
 obtain ⟨o7, h8, h⟩ := andThen_some h
 injection h with h; subst h
 exact env.fun func43 can43 (its := [.dive, .promote 3 Yb, .sel [3, 6, 7, 8] [0], .part (affiantref1_leaves_1_ex o7) (affiantref1_leaves_1_st o7)]) (pos := s1) (.c (affiantref1_leaves_1_ok a0 (List.length a0 : Int) (0 : Int) ([] : List (B8)) o7 h8) .n) (by kernel_rfl)
theorem can67 : Callable prog 67 := ⟨_, func67, by kernel_rfl, by kernel_rfl⟩
def affiantref1_half_1_in (x0 : Int) (x1 : Int) : St := ⟨[(0, (.v (.int .i64) x0)), (3, (.v (.int .i64) x1))], [], 11, 0⟩
def affiantref1_half_1_ex (o : Int) : Exit := (.exit 0)
def affiantref1_half_1_st (o : Int) : St := ⟨[(3, (.v (.int .i64) o))], [], 11, 0⟩
theorem affiantref1_half_1_body (x0 : Int) (x1 : Int) : ∀ r, affiantref1_half_1_step x0 x1 = some r → (match r with | .inl s => CodeOK prog (codeAt (bodyOf f67) [1, 1, 0, 0, 0]) (affiantref1_half_1_in x0 x1) .normal (affiantref1_half_1_in x0 s) | .inr o => affiantref1_half_1_ex o ≠ .normal ∧ CodeOK prog (codeAt (bodyOf f67) [1, 1, 0, 0, 0]) (affiantref1_half_1_in x0 x1) (affiantref1_half_1_ex o) (affiantref1_half_1_st o)) := by
 intro r h
 unfold affiantref1_half_1_step at h
 rcases fork_some h with ⟨h2, h⟩ | ⟨h2, h⟩
 ·injection h with h; subst h
  exact env.code (its := [b1, .dive, .sel [0, 3] []]) (.c h2 .n) (by kernel_rfl)
 ·injection h with h; subst h
  exact ⟨by intro e; simp [affiantref1_half_1_ex] at e, env.code (its := [b0, .sel [3] []]) (.c h2 .n) (by kernel_rfl)⟩
theorem affiantref1_half_1_ok (x0 : Int) (x1 : Int) (o : Int) (h : affiantref1_half_1 x0 x1 = some o) : CodeOK prog (codeAt (bodyOf f67) [1, 1, 0, 0]) (affiantref1_half_1_in x0 x1) (affiantref1_half_1_ex o) (affiantref1_half_1_st o) :=
 LoopOK.of_step (st := fun s => affiantref1_half_1_in x0 s) (ex := affiantref1_half_1_ex) (stO := affiantref1_half_1_st) (fun s s2 hs => affiantref1_half_1_body x0 s (.inl s2) hs) (fun s r hs => affiantref1_half_1_body x0 s (.inr r) hs) _ o h
def affiantref1_half_R (a0 : Int) (u : Int) : Slot := (.v (.int .i64) u)
def affiantref1_half_O (a0 : Int) (u : Int) : List AObj := []
theorem affiantref1_half_ok (a0 : Int) (u : Int) (h : affiantref1_half a0 = some u) : CallC prog 67 [(.v (.int .i64) a0)] [] (affiantref1_half_R a0 u) (affiantref1_half_O a0 u) := by
 unfold affiantref1_half at h
 obtain ⟨o3, h4, h⟩ := andThen_some h
 injection h with h; subst h
 exact env.fun func67 can67 (its := [.dive, .sel [0, 3] [], .part (affiantref1_half_1_ex o3) (affiantref1_half_1_st o3)]) (pos := s0) (.c (affiantref1_half_1_ok a0 (1 : Int) o3 h4) .n) (by kernel_rfl)
theorem can65 : Callable prog 65 := ⟨_, func65, by kernel_rfl, by kernel_rfl⟩
def affiantref1_constants_R  (u : List UInt32) : Slot := (.own 0 [])
def affiantref1_constants_O  (u : List UInt32) : List AObj := [.row (.int .u32) u true]
theorem affiantref1_constants_ok  (u : List UInt32) (h : affiantref1_constants  = some u) : CallC prog 65 [] [] (affiantref1_constants_R u) (affiantref1_constants_O u) := by
 unfold affiantref1_constants at h
 injection h with h; subst h
 exact env.fun func65 can65 (its := []) (pos := s1) .n (by kernel_rfl)
theorem can79 : Callable prog 79 := ⟨_, func79, by kernel_rfl, by kernel_rfl⟩
def affiantref1_turn_R (a0 : UInt32) (a1 : UInt64) (u : UInt32) : Slot := (.v (.int .u32) u)
def affiantref1_turn_O (a0 : UInt32) (a1 : UInt64) (u : UInt32) : List AObj := []
theorem affiantref1_turn_ok (a0 : UInt32) (a1 : UInt64) (u : UInt32) (h : affiantref1_turn a0 a1 = some u) : CallC prog 79 [(.v (.int .u32) a0), (.v (.int .u64) a1)] [] (affiantref1_turn_R a0 a1 u) (affiantref1_turn_O a0 a1 u) := by
 unfold affiantref1_turn at h
 obtain ⟨h1, h⟩ := need_some h
 obtain ⟨h2, h⟩ := need_some h
 injection h with h; subst h
 exact env.fun func79 can79 (its := []) (pos := s0) (.c h1 (.c h2 .n)) (by kernel_rfl)
theorem can66 : Callable prog 66 := ⟨_, func66, by kernel_rfl, by kernel_rfl⟩
def affiantref1_block_1_in (x0 : B8) (x1 : List UInt32) (x2 : Int) (x3 : List UInt32) (x4 : List UInt32) (x5 : List UInt32) : St := ⟨[(1, (.v Yb x0)), (2, (.v (.slice (.int .u32)) x1)), (3, (.ptr 0 [])), (6, (.ptr 1 [])), (7, (.ptr 2 [])), (20, (.v (.int .i64) x2))], [.box Y8 (.v Y8 x3) true, .box Y8 (.v Y8 x4) true, .box Y64 (.v Y64 x5) true], 207, 0⟩
def affiantref1_block_1_ex (o : List UInt32 × List UInt32 × List UInt32 × List UInt32) : Exit := (.exit 0)
def affiantref1_block_1_st (o : List UInt32 × List UInt32 × List UInt32 × List UInt32) : St := ⟨[(2, (.v (.slice (.int .u32)) o.1)), (3, (.ptr 0 [])), (6, (.ptr 1 [])), (7, (.ptr 2 []))], [.box Y8 (.v Y8 o.2.1) true, .box Y8 (.v Y8 o.2.2.1) true, .box Y64 (.v Y64 o.2.2.2) true], 207, 0⟩
theorem affiantref1_block_1_body (x0 : B8) (x1 : List UInt32) (x2 : Int) (x3 : List UInt32) (x4 : List UInt32) (x5 : List UInt32) : ∀ r, affiantref1_block_1_step x0 x1 x2 x3 x4 x5 = some r → (match r with | .inl s => CodeOK prog (codeAt (bodyOf f66) [1, 1, 0, 1, 0, 0]) (affiantref1_block_1_in x0 x1 x2 x3 x4 x5) .normal (affiantref1_block_1_in x0 x1 s.1 x3 x4 s.2) | .inr o => affiantref1_block_1_ex o ≠ .normal ∧ CodeOK prog (codeAt (bodyOf f66) [1, 1, 0, 1, 0, 0]) (affiantref1_block_1_in x0 x1 x2 x3 x4 x5) (affiantref1_block_1_ex o) (affiantref1_block_1_st o)) := by
 intro r h
 unfold affiantref1_block_1_step at h
 rcases fork_some h with ⟨h2, h⟩ | ⟨h2, h⟩
 ·obtain ⟨h3, h⟩ := need_some h
  obtain ⟨h4, h⟩ := need_some h
  obtain ⟨h5, h⟩ := need_some h
  obtain ⟨h6, h⟩ := need_some h
  obtain ⟨h7, h⟩ := need_some h
  injection h with h; subst h
  exact env.code (its := [b1, .pre p2, .sel [1, 2, 3, 6, 7, 20] [0, 1, 2]]) (.c h2 (.c h3 (.c (of_decide_eq_true (p := (0 ≤ (24 : Int))) (by kernel_rfl)) (.c h4 (.c (of_decide_eq_true (p := (0 ≤ (16 : Int))) (by kernel_rfl)) (.c h5 (.c (of_decide_eq_true (p := (0 ≤ (8 : Int))) (by kernel_rfl)) (.c h6 (.c h7 .n))))))))) (by kernel_rfl)
 ·injection h with h; subst h
  exact ⟨by intro e; simp [affiantref1_block_1_ex] at e, env.code (its := [b0, .sel [2, 3, 6, 7] [0, 1, 2]]) (.c h2 .n) (by kernel_rfl)⟩
theorem affiantref1_block_1_ok (x0 : B8) (x1 : List UInt32) (x2 : Int) (x3 : List UInt32) (x4 : List UInt32) (x5 : List UInt32) (o : List UInt32 × List UInt32 × List UInt32 × List UInt32) (h : affiantref1_block_1 x0 x1 x2 x3 x4 x5 = some o) : CodeOK prog (codeAt (bodyOf f66) [1, 1, 0, 1, 0]) (affiantref1_block_1_in x0 x1 x2 x3 x4 x5) (affiantref1_block_1_ex o) (affiantref1_block_1_st o) :=
 LoopOK.of_step (st := fun s => affiantref1_block_1_in x0 x1 s.1 x3 x4 s.2) (ex := affiantref1_block_1_ex) (stO := affiantref1_block_1_st) (fun s s2 hs => affiantref1_block_1_body x0 x1 s.1 x3 x4 s.2 (.inl s2) hs) (fun s r hs => affiantref1_block_1_body x0 x1 s.1 x3 x4 s.2 (.inr r) hs) _ o h
def affiantref1_block_2_in (x0 : List UInt32) (x1 : Int) (x2 : List UInt32) (x3 : List UInt32) (x4 : List UInt32) : St := ⟨[(2, (.v (.slice (.int .u32)) x0)), (3, (.ptr 0 [])), (6, (.ptr 1 [])), (7, (.ptr 2 [])), (9, (.v (.int .i64) x1))], [.box Y8 (.v Y8 x2) true, .box Y8 (.v Y8 x3) true, .box Y64 (.v Y64 x4) true], 207, 0⟩
def affiantref1_block_2_ex (o : List UInt32 × List UInt32 × List UInt32 × List UInt32) : Exit := (.exit 2)
def affiantref1_block_2_st (o : List UInt32 × List UInt32 × List UInt32 × List UInt32) : St := ⟨[(2, (.v (.slice (.int .u32)) o.1)), (3, (.ptr 0 [])), (6, (.ptr 1 [])), (7, (.ptr 2 []))], [.box Y8 (.v Y8 o.2.1) true, .box Y8 (.v Y8 o.2.2.1) true, .box Y64 (.v Y64 o.2.2.2) true], 207, 0⟩
theorem affiantref1_block_2_body (x0 : List UInt32) (x1 : Int) (x2 : List UInt32) (x3 : List UInt32) (x4 : List UInt32) : ∀ r, affiantref1_block_2_step x0 x1 x2 x3 x4 = some r → (match r with | .inl s => CodeOK prog (codeAt (bodyOf f66) [1, 1, 1, 0, 1, 0, 0]) (affiantref1_block_2_in x0 x1 x2 x3 x4) .normal (affiantref1_block_2_in x0 s.1 x2 x3 s.2) | .inr o => affiantref1_block_2_ex o ≠ .normal ∧ CodeOK prog (codeAt (bodyOf f66) [1, 1, 1, 0, 1, 0, 0]) (affiantref1_block_2_in x0 x1 x2 x3 x4) (affiantref1_block_2_ex o) (affiantref1_block_2_st o)) := by
 intro r h
 unfold affiantref1_block_2_step at h
 rcases fork_some h with ⟨h11, h⟩ | ⟨h11, h⟩
 ·obtain ⟨h12, h⟩ := need_some h
  obtain ⟨h13, h⟩ := need_some h
  obtain ⟨h14, h⟩ := need_some h
  obtain ⟨u15, h16, h⟩ := andThen_some h
  obtain ⟨u17, h18, h⟩ := andThen_some h
  obtain ⟨h19, h⟩ := need_some h
  obtain ⟨u20, h21, h⟩ := andThen_some h
  obtain ⟨u22, h23, h⟩ := andThen_some h
  obtain ⟨h24, h⟩ := need_some h
  injection h with h; subst h
  exact env.code (its := [b1, .pre p3, .pre p4, .asis, .call [none, none] [] [] true (affiantref1_turn_R (List.getD x4 (Int.toNat (w64 (x1 - (15 : Int)))) (0 : UInt32)) (7 : UInt64) u15) (affiantref1_turn_O (List.getD x4 (Int.toNat (w64 (x1 - (15 : Int)))) (0 : UInt32)) (7 : UInt64) u15), .asis, .call [none, none] [] [] true (affiantref1_turn_R (List.getD x4 (Int.toNat (w64 (x1 - (15 : Int)))) (0 : UInt32)) (18 : UInt64) u17) (affiantref1_turn_O (List.getD x4 (Int.toNat (w64 (x1 - (15 : Int)))) (0 : UInt32)) (18 : UInt64) u17), .asis, .call [none, none] [] [] true (affiantref1_turn_R (List.getD x4 (Int.toNat (w64 (x1 - (2 : Int)))) (0 : UInt32)) (17 : UInt64) u20) (affiantref1_turn_O (List.getD x4 (Int.toNat (w64 (x1 - (2 : Int)))) (0 : UInt32)) (17 : UInt64) u20), .asis, .call [none, none] [] [] true (affiantref1_turn_R (List.getD x4 (Int.toNat (w64 (x1 - (2 : Int)))) (0 : UInt32)) (19 : UInt64) u22) (affiantref1_turn_O (List.getD x4 (Int.toNat (w64 (x1 - (2 : Int)))) (0 : UInt32)) (19 : UInt64) u22), .sel [2, 3, 6, 7, 9] [0, 1, 2]]) (.c h11 (.c h12 (.c h13 (.c h14 (.c rn (.c (affiantref1_turn_ok (List.getD x4 (Int.toNat (w64 (x1 - (15 : Int)))) (0 : UInt32)) (7 : UInt64) u15 h16) (.c rn (.c (affiantref1_turn_ok (List.getD x4 (Int.toNat (w64 (x1 - (15 : Int)))) (0 : UInt32)) (18 : UInt64) u17 h18) (.c (of_decide_eq_true (p := (0 ≤ (3 : Int))) (by kernel_rfl)) (.c h19 (.c rn (.c (affiantref1_turn_ok (List.getD x4 (Int.toNat (w64 (x1 - (2 : Int)))) (0 : UInt32)) (17 : UInt64) u20 h21) (.c rn (.c (affiantref1_turn_ok (List.getD x4 (Int.toNat (w64 (x1 - (2 : Int)))) (0 : UInt32)) (19 : UInt64) u22 h23) (.c (of_decide_eq_true (p := (0 ≤ (10 : Int))) (by kernel_rfl)) (.c h24 .n)))))))))))))))) (by kernel_rfl)
 ·injection h with h; subst h
  exact ⟨by intro e; simp [affiantref1_block_2_ex] at e, env.code (its := [b0, .sel [2, 3, 6, 7] [0, 1, 2]]) (.c h11 .n) (by kernel_rfl)⟩
theorem affiantref1_block_2_ok (x0 : List UInt32) (x1 : Int) (x2 : List UInt32) (x3 : List UInt32) (x4 : List UInt32) (o : List UInt32 × List UInt32 × List UInt32 × List UInt32) (h : affiantref1_block_2 x0 x1 x2 x3 x4 = some o) : CodeOK prog (codeAt (bodyOf f66) [1, 1, 1, 0, 1, 0]) (affiantref1_block_2_in x0 x1 x2 x3 x4) (affiantref1_block_2_ex o) (affiantref1_block_2_st o) :=
 LoopOK.of_step (st := fun s => affiantref1_block_2_in x0 s.1 x2 x3 s.2) (ex := affiantref1_block_2_ex) (stO := affiantref1_block_2_st) (fun s s2 hs => affiantref1_block_2_body x0 s.1 x2 x3 s.2 (.inl s2) hs) (fun s r hs => affiantref1_block_2_body x0 s.1 x2 x3 s.2 (.inr r) hs) _ o h
def affiantref1_block_3_in (x0 : List UInt32) (x1 : Int) (x2 : List UInt32) (x3 : List UInt32) (x4 : List UInt32) (x5 : List UInt32) : St := ⟨[(2, (.v (.slice (.int .u32)) x0)), (3, (.ptr 0 [])), (6, (.ptr 1 [])), (7, (.ptr 2 [])), (12, (.ptr 3 [])), (101, (.v (.int .i64) x1))], [.box Y8 (.v Y8 x2) true, .box Y8 (.v Y8 x3) true, .box Y64 (.v Y64 x4) true, .box Y8 (.v Y8 x5) true], 207, 0⟩
def affiantref1_block_3_ex (o : List UInt32 × List UInt32 × List UInt32) : Exit := (.exit 4)
def affiantref1_block_3_st (o : List UInt32 × List UInt32 × List UInt32) : St := ⟨[(3, (.ptr 0 [])), (6, (.ptr 1 [])), (12, (.ptr 2 []))], [.box Y8 (.v Y8 o.1) true, .box Y8 (.v Y8 o.2.1) true, .box Y8 (.v Y8 o.2.2) true], 207, 0⟩
theorem affiantref1_block_3_body (x0 : List UInt32) (x1 : Int) (x2 : List UInt32) (x3 : List UInt32) (x4 : List UInt32) (x5 : List UInt32) : ∀ r, affiantref1_block_3_step x0 x1 x2 x3 x4 x5 = some r → (match r with | .inl s => CodeOK prog (codeAt (bodyOf f66) [1, 1, 1, 1, 1, 0, 1, 0, 0]) (affiantref1_block_3_in x0 x1 x2 x3 x4 x5) .normal (affiantref1_block_3_in x0 s.1 x2 x3 x4 s.2) | .inr o => affiantref1_block_3_ex o ≠ .normal ∧ CodeOK prog (codeAt (bodyOf f66) [1, 1, 1, 1, 1, 0, 1, 0, 0]) (affiantref1_block_3_in x0 x1 x2 x3 x4 x5) (affiantref1_block_3_ex o) (affiantref1_block_3_st o)) := by
 intro r h
 unfold affiantref1_block_3_step at h
 rcases fork_some h with ⟨h28, h⟩ | ⟨h28, h⟩
 ·obtain ⟨u29, h30, h⟩ := andThen_some h
  obtain ⟨u31, h32, h⟩ := andThen_some h
  obtain ⟨u33, h34, h⟩ := andThen_some h
  obtain ⟨h35, h⟩ := need_some h
  obtain ⟨h36, h⟩ := need_some h
  obtain ⟨u37, h38, h⟩ := andThen_some h
  obtain ⟨u39, h40, h⟩ := andThen_some h
  obtain ⟨u41, h42, h⟩ := andThen_some h
  injection h with h; subst h
  exact env.code (its := [b1, .pre p12, .asis, .call [none, none] [] [] true (affiantref1_turn_R (List.getD x5 (Int.toNat (4 : Int)) (0 : UInt32)) (6 : UInt64) u29) (affiantref1_turn_O (List.getD x5 (Int.toNat (4 : Int)) (0 : UInt32)) (6 : UInt64) u29), .asis, .call [none, none] [] [] true (affiantref1_turn_R (List.getD x5 (Int.toNat (4 : Int)) (0 : UInt32)) (11 : UInt64) u31) (affiantref1_turn_O (List.getD x5 (Int.toNat (4 : Int)) (0 : UInt32)) (11 : UInt64) u31), .asis, .call [none, none] [] [] true (affiantref1_turn_R (List.getD x5 (Int.toNat (4 : Int)) (0 : UInt32)) (25 : UInt64) u33) (affiantref1_turn_O (List.getD x5 (Int.toNat (4 : Int)) (0 : UInt32)) (25 : UInt64) u33), .pre p13, .pre p12, .asis, .call [none, none] [] [] true (affiantref1_turn_R (List.getD x5 (Int.toNat (0 : Int)) (0 : UInt32)) (2 : UInt64) u37) (affiantref1_turn_O (List.getD x5 (Int.toNat (0 : Int)) (0 : UInt32)) (2 : UInt64) u37), .asis, .call [none, none] [] [] true (affiantref1_turn_R (List.getD x5 (Int.toNat (0 : Int)) (0 : UInt32)) (13 : UInt64) u39) (affiantref1_turn_O (List.getD x5 (Int.toNat (0 : Int)) (0 : UInt32)) (13 : UInt64) u39), .asis, .call [none, none] [] [] true (affiantref1_turn_R (List.getD x5 (Int.toNat (0 : Int)) (0 : UInt32)) (22 : UInt64) u41) (affiantref1_turn_O (List.getD x5 (Int.toNat (0 : Int)) (0 : UInt32)) (22 : UInt64) u41), .sel [2, 3, 6, 7, 12, 101] [0, 1, 2, 3]]) (.c h28 (.c (of_decide_eq_true (p := (0 ≤ (4 : Int) ∧ (4 : Int) < (8 : Int))) (by kernel_rfl)) (.c rn (.c (affiantref1_turn_ok (List.getD x5 (Int.toNat (4 : Int)) (0 : UInt32)) (6 : UInt64) u29 h30) (.c (of_decide_eq_true (p := (0 ≤ (4 : Int) ∧ (4 : Int) < (8 : Int))) (by kernel_rfl)) (.c rn (.c (affiantref1_turn_ok (List.getD x5 (Int.toNat (4 : Int)) (0 : UInt32)) (11 : UInt64) u31 h32) (.c (of_decide_eq_true (p := (0 ≤ (4 : Int) ∧ (4 : Int) < (8 : Int))) (by kernel_rfl)) (.c rn (.c (affiantref1_turn_ok (List.getD x5 (Int.toNat (4 : Int)) (0 : UInt32)) (25 : UInt64) u33 h34) (.c (of_decide_eq_true (p := (0 ≤ (4 : Int) ∧ (4 : Int) < (8 : Int))) (by kernel_rfl)) (.c (of_decide_eq_true (p := (0 ≤ (5 : Int) ∧ (5 : Int) < (8 : Int))) (by kernel_rfl)) (.c (of_decide_eq_true (p := (0 ≤ (4 : Int) ∧ (4 : Int) < (8 : Int))) (by kernel_rfl)) (.c (of_decide_eq_true (p := (0 ≤ (6 : Int) ∧ (6 : Int) < (8 : Int))) (by kernel_rfl)) (.c (of_decide_eq_true (p := (0 ≤ (7 : Int) ∧ (7 : Int) < (8 : Int))) (by kernel_rfl)) (.c h35 (.c h36 (.c (of_decide_eq_true (p := (0 ≤ (0 : Int) ∧ (0 : Int) < (8 : Int))) (by kernel_rfl)) (.c rn (.c (affiantref1_turn_ok (List.getD x5 (Int.toNat (0 : Int)) (0 : UInt32)) (2 : UInt64) u37 h38) (.c (of_decide_eq_true (p := (0 ≤ (0 : Int) ∧ (0 : Int) < (8 : Int))) (by kernel_rfl)) (.c rn (.c (affiantref1_turn_ok (List.getD x5 (Int.toNat (0 : Int)) (0 : UInt32)) (13 : UInt64) u39 h40) (.c (of_decide_eq_true (p := (0 ≤ (0 : Int) ∧ (0 : Int) < (8 : Int))) (by kernel_rfl)) (.c rn (.c (affiantref1_turn_ok (List.getD x5 (Int.toNat (0 : Int)) (0 : UInt32)) (22 : UInt64) u41 h42) (.c (of_decide_eq_true (p := (0 ≤ (0 : Int) ∧ (0 : Int) < (8 : Int))) (by kernel_rfl)) (.c (of_decide_eq_true (p := (0 ≤ (1 : Int) ∧ (1 : Int) < (8 : Int))) (by kernel_rfl)) (.c (of_decide_eq_true (p := (0 ≤ (0 : Int) ∧ (0 : Int) < (8 : Int))) (by kernel_rfl)) (.c (of_decide_eq_true (p := (0 ≤ (2 : Int) ∧ (2 : Int) < (8 : Int))) (by kernel_rfl)) (.c (of_decide_eq_true (p := (0 ≤ (1 : Int) ∧ (1 : Int) < (8 : Int))) (by kernel_rfl)) (.c (of_decide_eq_true (p := (0 ≤ (2 : Int) ∧ (2 : Int) < (8 : Int))) (by kernel_rfl)) (.c (of_decide_eq_true (p := (0 ≤ (0 : Int) ∧ (0 : Int) < (8 : Int))) (by kernel_rfl)) (.c (of_decide_eq_true (p := (0 ≤ (1 : Int) ∧ (1 : Int) < (8 : Int))) (by kernel_rfl)) (.c (of_decide_eq_true (p := (0 ≤ (2 : Int) ∧ (2 : Int) < (8 : Int))) (by kernel_rfl)) (.c (of_decide_eq_true (p := (0 ≤ (3 : Int) ∧ (3 : Int) < (8 : Int))) (by kernel_rfl)) (.c (of_decide_eq_true (p := (0 ≤ (4 : Int) ∧ (4 : Int) < (8 : Int))) (by kernel_rfl)) (.c (of_decide_eq_true (p := (0 ≤ (5 : Int) ∧ (5 : Int) < (8 : Int))) (by kernel_rfl)) (.c (of_decide_eq_true (p := (0 ≤ (6 : Int) ∧ (6 : Int) < (8 : Int))) (by kernel_rfl)) .n))))))))))))))))))))))))))))))))))))))) (by kernel_rfl)
 ·injection h with h; subst h
  exact ⟨by intro e; simp [affiantref1_block_3_ex] at e, env.code (its := [b0, .sel [3, 6, 12] [0, 1, 3]]) (.c h28 .n) (by kernel_rfl)⟩
theorem affiantref1_block_3_ok (x0 : List UInt32) (x1 : Int) (x2 : List UInt32) (x3 : List UInt32) (x4 : List UInt32) (x5 : List UInt32) (o : List UInt32 × List UInt32 × List UInt32) (h : affiantref1_block_3 x0 x1 x2 x3 x4 x5 = some o) : CodeOK prog (codeAt (bodyOf f66) [1, 1, 1, 1, 1, 0, 1, 0]) (affiantref1_block_3_in x0 x1 x2 x3 x4 x5) (affiantref1_block_3_ex o) (affiantref1_block_3_st o) :=
 LoopOK.of_step (st := fun s => affiantref1_block_3_in x0 s.1 x2 x3 x4 s.2) (ex := affiantref1_block_3_ex) (stO := affiantref1_block_3_st) (fun s s2 hs => affiantref1_block_3_body x0 s.1 x2 x3 x4 s.2 (.inl s2) hs) (fun s r hs => affiantref1_block_3_body x0 s.1 x2 x3 x4 s.2 (.inr r) hs) _ o h
def affiantref1_block_4_in (x0 : Int) (x1 : List UInt32) (x2 : List UInt32) (x3 : List UInt32) : St := ⟨[(3, (.ptr 0 [])), (6, (.ptr 1 [])), (12, (.ptr 2 [])), (193, (.v (.int .i64) x0))], [.box Y8 (.v Y8 x1) true, .box Y8 (.v Y8 x2) true, .box Y8 (.v Y8 x3) true], 207, 0⟩
def affiantref1_block_4_ex (o : List UInt32 × List UInt32) : Exit := (.exit 6)
def affiantref1_block_4_st (o : List UInt32 × List UInt32) : St := ⟨[(3, (.ptr 0 [])), (6, (.ptr 1 []))], [.box Y8 (.v Y8 o.1) true, .box Y8 (.v Y8 o.2) true], 207, 0⟩
theorem affiantref1_block_4_body (x0 : Int) (x1 : List UInt32) (x2 : List UInt32) (x3 : List UInt32) : ∀ r, affiantref1_block_4_step x0 x1 x2 x3 = some r → (match r with | .inl s => CodeOK prog (codeAt (bodyOf f66) [1, 1, 1, 1, 1, 1, 0, 1, 0, 0]) (affiantref1_block_4_in x0 x1 x2 x3) .normal (affiantref1_block_4_in s.1 s.2 x2 x3) | .inr o => affiantref1_block_4_ex o ≠ .normal ∧ CodeOK prog (codeAt (bodyOf f66) [1, 1, 1, 1, 1, 1, 0, 1, 0, 0]) (affiantref1_block_4_in x0 x1 x2 x3) (affiantref1_block_4_ex o) (affiantref1_block_4_st o)) := by
 intro r h
 unfold affiantref1_block_4_step at h
 rcases fork_some h with ⟨h46, h⟩ | ⟨h46, h⟩
 ·obtain ⟨h47, h⟩ := need_some h
  injection h with h; subst h
  exact env.code (its := [b1, .pre p14, .sel [3, 6, 12, 193] [0, 1, 2]]) (.c h46 (.c h47 (.c h47 (.c h47 .n)))) (by kernel_rfl)
 ·injection h with h; subst h
  exact ⟨by intro e; simp [affiantref1_block_4_ex] at e, env.code (its := [b0, .sel [3, 6] [0, 1]]) (.c h46 .n) (by kernel_rfl)⟩
theorem affiantref1_block_4_ok (x0 : Int) (x1 : List UInt32) (x2 : List UInt32) (x3 : List UInt32) (o : List UInt32 × List UInt32) (h : affiantref1_block_4 x0 x1 x2 x3 = some o) : CodeOK prog (codeAt (bodyOf f66) [1, 1, 1, 1, 1, 1, 0, 1, 0]) (affiantref1_block_4_in x0 x1 x2 x3) (affiantref1_block_4_ex o) (affiantref1_block_4_st o) :=
 LoopOK.of_step (st := fun s => affiantref1_block_4_in s.1 s.2 x2 x3) (ex := affiantref1_block_4_ex) (stO := affiantref1_block_4_st) (fun s s2 hs => affiantref1_block_4_body s.1 s.2 x2 x3 (.inl s2) hs) (fun s r hs => affiantref1_block_4_body s.1 s.2 x2 x3 (.inr r) hs) _ o h
def affiantref1_block_R (a0 : List UInt32) (a1 : B8) (a2 : List UInt32) (u : List UInt32) : Slot := (.v Y8 u)
def affiantref1_block_O (a0 : List UInt32) (a1 : B8) (a2 : List UInt32) (u : List UInt32) : List AObj := []
theorem affiantref1_block_ok (a0 : List UInt32) (a1 : B8) (a2 : List UInt32) (u : List UInt32) (h : affiantref1_block a0 a1 a2 = some u) : CallC prog 66 [(.v Y8 a0), (.v Yb a1), (.v (.slice (.int .u32)) a2)] [] (affiantref1_block_R a0 a1 a2 u) (affiantref1_block_O a0 a1 a2 u) := by
 unfold affiantref1_block at h
 obtain ⟨o8, h9, h⟩ := andThen_some h
 obtain ⟨o25, h26, h⟩ := andThen_some h
 obtain ⟨o43, h44, h⟩ := andThen_some h
 obtain ⟨o48, h49, h⟩ := andThen_some h
 injection h with h; subst h
 exact env.fun func66 can66 (its := [.dive, .sel [1, 2, 3, 6, 7, 20] [0, 1, 2], .part (affiantref1_block_1_ex o8) (affiantref1_block_1_st o8), .dive, .sel [2, 3, 6, 7, 9] [0, 1, 2], .part (affiantref1_block_2_ex o25) (affiantref1_block_2_st o25), .dive, .sel [2, 3, 6, 7, 12, 101] [0, 1, 2, 3], .part (affiantref1_block_3_ex o43) (affiantref1_block_3_st o43), .dive, .sel [3, 6, 12, 193] [0, 1, 2], .part (affiantref1_block_4_ex o48) (affiantref1_block_4_st o48)]) (pos := s0) (.c (affiantref1_block_1_ok a1 a2 (0 : Int) a0 (List.replicate 8 (0 : UInt32)) (List.replicate 64 (0 : UInt32)) o8 h9) (.c (affiantref1_block_2_ok o8.1 (16 : Int) o8.2.1 o8.2.2.1 o8.2.2.2 o25 h26) (.c (affiantref1_block_3_ok o25.1 (0 : Int) o25.2.1 o25.2.2.1 o25.2.2.2 o25.2.1 o43 h44) (.c (affiantref1_block_4_ok (0 : Int) o43.1 o43.2.1 o43.2.2 o48 h49) .n)))) (by kernel_rfl)
theorem can41 : Callable prog 41 := ⟨_, func41, by kernel_rfl, by kernel_rfl⟩
def affiantref1_Sum_1_in (x0 : B8) (x1 : B8) (x2 : List UInt32) (x3 : List UInt32) (x4 : B8) : St := ⟨[(0, (.v Yb x0)), (2, (.ptr 0 [])), (3, (.own 1 [])), (4, (.ptr 2 [])), (5, (.own 3 []))], [.box Yh (.v Yh x1) true, .row (.int .u32) x2 true, .box Y8 (.v Y8 x3) true, .row (.int .u8) x4 true], 88, 0⟩
def affiantref1_Sum_1_ex (o : B8 × B8 × List UInt32 × List UInt32 × B8) : Exit := (.exit 0)
def affiantref1_Sum_1_st (o : B8 × B8 × List UInt32 × List UInt32 × B8) : St := ⟨[(0, (.v Yb o.1)), (2, (.ptr 0 [])), (3, (.own 1 [])), (4, (.ptr 2 [])), (5, (.own 3 []))], [.box Yh (.v Yh o.2.1) true, .row (.int .u32) o.2.2.1 true, .box Y8 (.v Y8 o.2.2.2.1) true, .row (.int .u8) o.2.2.2.2 true], 88, 0⟩
theorem affiantref1_Sum_1_body (x0 : B8) (x1 : B8) (x2 : List UInt32) (x3 : List UInt32) (x4 : B8) : ∀ r, affiantref1_Sum_1_step x0 x1 x2 x3 x4 = some r → (match r with | .inl s => CodeOK prog (codeAt (bodyOf f41) [1, 1, 1, 1, 0, 0, 0]) (affiantref1_Sum_1_in x0 x1 x2 x3 x4) .normal (affiantref1_Sum_1_in x0 x1 x2 x3 s) | .inr o => affiantref1_Sum_1_ex o ≠ .normal ∧ CodeOK prog (codeAt (bodyOf f41) [1, 1, 1, 1, 0, 0, 0]) (affiantref1_Sum_1_in x0 x1 x2 x3 x4) (affiantref1_Sum_1_ex o) (affiantref1_Sum_1_st o)) := by
 intro r h
 unfold affiantref1_Sum_1_step at h
 rcases fork_some h with ⟨h6, h⟩ | ⟨h6, h⟩
 ·obtain ⟨h7, h⟩ := need_some h
  injection h with h; subst h
  exact env.code (its := [b1, .dive, .sel [0, 2, 3, 4, 5] [0, 1, 2, 5]]) (.c (of_decide_eq_true (p := ((64 : Int) ≠ 0)) (by kernel_rfl)) (.c h6 (.c h7 .n))) (by kernel_rfl)
 ·injection h with h; subst h
  exact ⟨by intro e; simp [affiantref1_Sum_1_ex] at e, env.code (its := [b0, .sel [0, 2, 3, 4, 5] [0, 1, 2, 3]]) (.c (of_decide_eq_true (p := ((64 : Int) ≠ 0)) (by kernel_rfl)) (.c h6 .n)) (by kernel_rfl)⟩
theorem affiantref1_Sum_1_ok (x0 : B8) (x1 : B8) (x2 : List UInt32) (x3 : List UInt32) (x4 : B8) (o : B8 × B8 × List UInt32 × List UInt32 × B8) (h : affiantref1_Sum_1 x0 x1 x2 x3 x4 = some o) : CodeOK prog (codeAt (bodyOf f41) [1, 1, 1, 1, 0, 0]) (affiantref1_Sum_1_in x0 x1 x2 x3 x4) (affiantref1_Sum_1_ex o) (affiantref1_Sum_1_st o) :=
 LoopOK.of_step (st := fun s => affiantref1_Sum_1_in x0 x1 x2 x3 s) (ex := affiantref1_Sum_1_ex) (stO := affiantref1_Sum_1_st) (fun s s2 hs => affiantref1_Sum_1_body x0 x1 x2 x3 s (.inl s2) hs) (fun s r hs => affiantref1_Sum_1_body x0 x1 x2 x3 s (.inr r) hs) _ o h
def affiantref1_Sum_2_in (x0 : B8) (x1 : Int) (x2 : B8) (x3 : List UInt32) (x4 : List UInt32) (x5 : B8) : St := ⟨[(0, (.v Yb x0)), (2, (.ptr 0 [])), (3, (.own 1 [])), (4, (.ptr 2 [])), (5, (.own 3 [])), (6, (.v (.int .i64) x1))], [.box Yh (.v Yh x2) true, .row (.int .u32) x3 true, .box Y8 (.v Y8 x4) true, .row (.int .u8) x5 true], 88, 0⟩
def affiantref1_Sum_2_ex (o : B8 × List UInt32 × List UInt32 × B8) : Exit := (.exit 2)
def affiantref1_Sum_2_st (o : B8 × List UInt32 × List UInt32 × B8) : St := ⟨[(2, (.ptr 0 [])), (3, (.own 1 [])), (4, (.ptr 2 [])), (5, (.own 3 []))], [.box Yh (.v Yh o.1) true, .row (.int .u32) o.2.1 true, .box Y8 (.v Y8 o.2.2.1) true, .row (.int .u8) o.2.2.2 true], 88, 0⟩
theorem affiantref1_Sum_2_body (x0 : B8) (x1 : Int) (x2 : B8) (x3 : List UInt32) (x4 : List UInt32) (x5 : B8) : ∀ r, affiantref1_Sum_2_step x0 x1 x2 x3 x4 x5 = some r → (match r with | .inl s => CodeOK prog (codeAt (bodyOf f41) [1, 1, 1, 1, 1, 0, 1, 0, 0]) (affiantref1_Sum_2_in x0 x1 x2 x3 x4 x5) .normal (affiantref1_Sum_2_in x0 s.1 x2 x3 x4 s.2) | .inr o => affiantref1_Sum_2_ex o ≠ .normal ∧ CodeOK prog (codeAt (bodyOf f41) [1, 1, 1, 1, 1, 0, 1, 0, 0]) (affiantref1_Sum_2_in x0 x1 x2 x3 x4 x5) (affiantref1_Sum_2_ex o) (affiantref1_Sum_2_st o)) := by
 intro r h
 unfold affiantref1_Sum_2_step at h
 rcases fork_some h with ⟨h11, h⟩ | ⟨h11, h⟩
 ·obtain ⟨h12, h⟩ := need_some h
  obtain ⟨h13, h⟩ := need_some h
  injection h with h; subst h
  exact env.code (its := [b1, .dive, .sel [0, 2, 3, 4, 5, 6] [0, 1, 2, 5]]) (.c h11 (.c h12 (.c h13 .n))) (by kernel_rfl)
 ·injection h with h; subst h
  exact ⟨by intro e; simp [affiantref1_Sum_2_ex] at e, env.code (its := [b0, .sel [2, 3, 4, 5] [0, 1, 2, 3]]) (.c h11 .n) (by kernel_rfl)⟩
theorem affiantref1_Sum_2_ok (x0 : B8) (x1 : Int) (x2 : B8) (x3 : List UInt32) (x4 : List UInt32) (x5 : B8) (o : B8 × List UInt32 × List UInt32 × B8) (h : affiantref1_Sum_2 x0 x1 x2 x3 x4 x5 = some o) : CodeOK prog (codeAt (bodyOf f41) [1, 1, 1, 1, 1, 0, 1, 0]) (affiantref1_Sum_2_in x0 x1 x2 x3 x4 x5) (affiantref1_Sum_2_ex o) (affiantref1_Sum_2_st o) :=
 LoopOK.of_step (st := fun s => affiantref1_Sum_2_in x0 s.1 x2 x3 x4 s.2) (ex := affiantref1_Sum_2_ex) (stO := affiantref1_Sum_2_st) (fun s s2 hs => affiantref1_Sum_2_body x0 s.1 x2 x3 x4 s.2 (.inl s2) hs) (fun s r hs => affiantref1_Sum_2_body x0 s.1 x2 x3 x4 s.2 (.inr r) hs) _ o h
def affiantref1_Sum_3_in (x0 : B8) (x1 : Int) (x2 : B8) (x3 : List UInt32) (x4 : List UInt32) : St := ⟨[(2, (.ptr 0 [])), (3, (.own 1 [])), (4, (.ptr 2 [])), (5, (.v Yb x0)), (7, (.v (.int .i64) x1))], [.box Yh (.v Yh x2) true, .row (.int .u32) x3 true, .box Y8 (.v Y8 x4) true], 88, 0⟩
def affiantref1_Sum_3_ex (o : B8 × List UInt32) : Exit := (.exit 4)
def affiantref1_Sum_3_st (o : B8 × List UInt32) : St := ⟨[(2, (.ptr 0 [])), (4, (.ptr 1 []))], [.box Yh (.v Yh o.1) true, .box Y8 (.v Y8 o.2) true], 88, 0⟩
theorem affiantref1_Sum_3_body (x0 : B8) (x1 : Int) (x2 : B8) (x3 : List UInt32) (x4 : List UInt32) : ∀ r, affiantref1_Sum_3_step x0 x1 x2 x3 x4 = some r → (match r with | .inl s => CodeOK prog (codeAt (bodyOf f41) [1, 1, 1, 1, 1, 1, 0, 1, 0, 0]) (affiantref1_Sum_3_in x0 x1 x2 x3 x4) .normal (affiantref1_Sum_3_in x0 s.1 x2 x3 s.2) | .inr o => affiantref1_Sum_3_ex o ≠ .normal ∧ CodeOK prog (codeAt (bodyOf f41) [1, 1, 1, 1, 1, 1, 0, 1, 0, 0]) (affiantref1_Sum_3_in x0 x1 x2 x3 x4) (affiantref1_Sum_3_ex o) (affiantref1_Sum_3_st o)) := by
 intro r h
 unfold affiantref1_Sum_3_step at h
 rcases fork_some h with ⟨h17, h⟩ | ⟨h17, h⟩
 ·obtain ⟨h18, h⟩ := need_some h
  obtain ⟨u19, h20, h⟩ := andThen_some h
  injection h with h; subst h
  exact env.code (its := [b1, .pre p15, b0, .asis, .call [none, none, none] [] [0] true (affiantref1_block_R x4 (cutL x0 x1 (w64 (x1 + (64 : Int)))) x3 u19) (affiantref1_block_O x4 (cutL x0 x1 (w64 (x1 + (64 : Int)))) x3 u19), .sel [2, 3, 4, 5, 7] [0, 1, 2]]) (.c h17 (.c h18 (.c (rfl : ([.row (.int .u32) x3 true] : List AObj) = [.row (.int .u32) x3 true]) (.c (affiantref1_block_ok x4 (cutL x0 x1 (w64 (x1 + (64 : Int)))) x3 u19 h20) .n)))) (by kernel_rfl)
 ·injection h with h; subst h
  exact ⟨by intro e; simp [affiantref1_Sum_3_ex] at e, env.code (its := [b0, .sel [2, 4] [0, 2]]) (.c h17 .n) (by kernel_rfl)⟩
theorem affiantref1_Sum_3_ok (x0 : B8) (x1 : Int) (x2 : B8) (x3 : List UInt32) (x4 : List UInt32) (o : B8 × List UInt32) (h : affiantref1_Sum_3 x0 x1 x2 x3 x4 = some o) : CodeOK prog (codeAt (bodyOf f41) [1, 1, 1, 1, 1, 1, 0, 1, 0]) (affiantref1_Sum_3_in x0 x1 x2 x3 x4) (affiantref1_Sum_3_ex o) (affiantref1_Sum_3_st o) :=
 LoopOK.of_step (st := fun s => affiantref1_Sum_3_in x0 s.1 x2 x3 s.2) (ex := affiantref1_Sum_3_ex) (stO := affiantref1_Sum_3_st) (fun s s2 hs => affiantref1_Sum_3_body x0 s.1 x2 x3 s.2 (.inl s2) hs) (fun s r hs => affiantref1_Sum_3_body x0 s.1 x2 x3 s.2 (.inr r) hs) _ o h
def affiantref1_Sum_4_in (x0 : List UInt32) (x1 : Int) (x2 : B8) (x3 : B8) : St := ⟨[(2, (.ptr 0 [])), (8, (.ptr 1 [])), (55, (.v Y8 x0)), (56, (.v (.int .i64) x1))], [.box Yh (.v Yh x2) true, .box Yh (.v Yh x3) true], 88, 0⟩
def affiantref1_Sum_4_ex (o : B8 × B8) : Exit := (.exit 6)
def affiantref1_Sum_4_st (o : B8 × B8) : St := ⟨[(2, (.ptr 0 [])), (8, (.ptr 1 []))], [.box Yh (.v Yh o.1) true, .box Yh (.v Yh o.2) true], 88, 0⟩
theorem affiantref1_Sum_4_body (x0 : List UInt32) (x1 : Int) (x2 : B8) (x3 : B8) : ∀ r, affiantref1_Sum_4_step x0 x1 x2 x3 = some r → (match r with | .inl s => CodeOK prog (codeAt (bodyOf f41) [1, 1, 1, 1, 1, 1, 1, 1, 0, 1, 0, 0]) (affiantref1_Sum_4_in x0 x1 x2 x3) .normal (affiantref1_Sum_4_in x0 s.1 x2 s.2) | .inr o => affiantref1_Sum_4_ex o ≠ .normal ∧ CodeOK prog (codeAt (bodyOf f41) [1, 1, 1, 1, 1, 1, 1, 1, 0, 1, 0, 0]) (affiantref1_Sum_4_in x0 x1 x2 x3) (affiantref1_Sum_4_ex o) (affiantref1_Sum_4_st o)) := by
 intro r h
 unfold affiantref1_Sum_4_step at h
 rcases fork_some h with ⟨h24, h⟩ | ⟨h24, h⟩
 ·obtain ⟨h25, h⟩ := need_some h
  obtain ⟨h26, h⟩ := need_some h
  obtain ⟨h27, h⟩ := need_some h
  obtain ⟨h28, h⟩ := need_some h
  obtain ⟨h29, h⟩ := need_some h
  injection h with h; subst h
  exact env.code (its := [b1, .dive, .sel [2, 8, 55, 56] [0, 1]]) (.c h24 (.c h25 (.c (of_decide_eq_true (p := (0 ≤ (24 : Int))) (by kernel_rfl)) (.c (of_decide_eq_true (p := (0 ≤ (16 : Int))) (by kernel_rfl)) (.c (of_decide_eq_true (p := (0 ≤ (8 : Int))) (by kernel_rfl)) (.c h26 (.c h27 (.c h28 (.c h29 .n))))))))) (by kernel_rfl)
 ·injection h with h; subst h
  exact ⟨by intro e; simp [affiantref1_Sum_4_ex] at e, env.code (its := [b0, .sel [2, 8] [0, 1]]) (.c h24 .n) (by kernel_rfl)⟩
theorem affiantref1_Sum_4_ok (x0 : List UInt32) (x1 : Int) (x2 : B8) (x3 : B8) (o : B8 × B8) (h : affiantref1_Sum_4 x0 x1 x2 x3 = some o) : CodeOK prog (codeAt (bodyOf f41) [1, 1, 1, 1, 1, 1, 1, 1, 0, 1, 0]) (affiantref1_Sum_4_in x0 x1 x2 x3) (affiantref1_Sum_4_ex o) (affiantref1_Sum_4_st o) :=
 LoopOK.of_step (st := fun s => affiantref1_Sum_4_in x0 s.1 x2 s.2) (ex := affiantref1_Sum_4_ex) (stO := affiantref1_Sum_4_st) (fun s s2 hs => affiantref1_Sum_4_body x0 s.1 x2 s.2 (.inl s2) hs) (fun s r hs => affiantref1_Sum_4_body x0 s.1 x2 s.2 (.inr r) hs) _ o h
def affiantref1_Sum_R (a0 : B8) (u : B8) : Slot := (.v Yh u)
def affiantref1_Sum_O (a0 : B8) (u : B8) : List AObj := []
theorem affiantref1_Sum_ok (a0 : B8) (u : B8) (h : affiantref1_Sum a0 = some u) : CallC prog 41 [(.v Yb a0)] [] (affiantref1_Sum_R a0 u) (affiantref1_Sum_O a0 u) := by
 unfold affiantref1_Sum at h
 obtain ⟨u1, h2, h⟩ := andThen_some h
 obtain ⟨h3, h⟩ := need_some h
 obtain ⟨h4, h⟩ := need_some h
 obtain ⟨o8, h9, h⟩ := andThen_some h
 obtain ⟨o14, h15, h⟩ := andThen_some h
 obtain ⟨o21, h22, h⟩ := andThen_some h
 obtain ⟨o30, h31, h⟩ := andThen_some h
 injection h with h; subst h
 exact env.fun func41 can41 (its := [.call [] [] [] true (affiantref1_constants_R u1) (affiantref1_constants_O u1), .dive, .sel [0, 2, 3, 4, 5] [0, 1, 2, 6], .part (affiantref1_Sum_1_ex o8) (affiantref1_Sum_1_st o8), .dive, .sel [0, 2, 3, 4, 5, 6] [0, 1, 2, 3], .part (affiantref1_Sum_2_ex o14) (affiantref1_Sum_2_st o14), .dive, .val 5 Yb, .sel [2, 3, 4, 5, 7] [0, 1, 2], .part (affiantref1_Sum_3_ex o21) (affiantref1_Sum_3_st o21), .dive, .sel [2, 8, 55, 56] [0, 2], .part (affiantref1_Sum_4_ex o30) (affiantref1_Sum_4_st o30)]) (pos := s0) (.c (affiantref1_constants_ok u1 h2) (.c h3 (.c h4 (.c (affiantref1_Sum_1_ok a0 Z32 u1 (List.set (List.set (List.set (List.set (List.set (List.set (List.set (List.set (List.replicate 8 (0 : UInt32)) 0 (1779033703 : UInt32)) 1 (3144134277 : UInt32)) 2 (1013904242 : UInt32)) 3 (2773480762 : UInt32)) 4 (1359893119 : UInt32)) 5 (2600822924 : UInt32)) 6 (528734635 : UInt32)) 7 (1541459225 : UInt32)) ((([] : List (UInt8)) ++ a0) ++ ([(128 : UInt8)] : List (UInt8))) o8 h9) (.c (affiantref1_Sum_2_ok o8.1 (7 : Int) o8.2.1 o8.2.2.1 o8.2.2.2.1 o8.2.2.2.2 o14 h15) (.c (affiantref1_Sum_3_ok o14.2.2.2 (0 : Int) o14.1 o14.2.1 o14.2.2.1 o21 h22) (.c (affiantref1_Sum_4_ok o21.2 (0 : Int) o21.1 Z32 o30 h31) .n))))))) (by kernel_rfl)
theorem can46 : Callable prog 46 := ⟨_, func46, by kernel_rfl, by kernel_rfl⟩
def affiantref1_Tagged_1_in (x0 : List (B8)) (x1 : Int) (x2 : Int) (x3 : B8) (x4 : B8) : St := ⟨[(4, (.ptr 0 [])), (5, (.own 1 [])), (10, (.v Ybb x0)), (11, (.v (.int .i64) x1)), (12, (.v (.int .i64) x2))], [.box Yh (.v Yh x3) true, .row (.int .u8) x4 true], 22, 0⟩
def affiantref1_Tagged_1_ex (o : B8 × B8) : Exit := (.exit 0)
def affiantref1_Tagged_1_st (o : B8 × B8) : St := ⟨[(4, (.ptr 0 [])), (5, (.own 1 []))], [.box Yh (.v Yh o.1) true, .row (.int .u8) o.2 true], 22, 0⟩
theorem affiantref1_Tagged_1_body (x0 : List (B8)) (x1 : Int) (x2 : Int) (x3 : B8) (x4 : B8) : ∀ r, affiantref1_Tagged_1_step x0 x1 x2 x3 x4 = some r → (match r with | .inl s => CodeOK prog (codeAt (bodyOf f46) [1, 1, 0, 1, 0, 0]) (affiantref1_Tagged_1_in x0 x1 x2 x3 x4) .normal (affiantref1_Tagged_1_in x0 x1 s.1 x3 s.2) | .inr o => affiantref1_Tagged_1_ex o ≠ .normal ∧ CodeOK prog (codeAt (bodyOf f46) [1, 1, 0, 1, 0, 0]) (affiantref1_Tagged_1_in x0 x1 x2 x3 x4) (affiantref1_Tagged_1_ex o) (affiantref1_Tagged_1_st o)) := by
 intro r h
 unfold affiantref1_Tagged_1_step at h
 rcases fork_some h with ⟨h2, h⟩ | ⟨h2, h⟩
 ·obtain ⟨h3, h⟩ := need_some h
  obtain ⟨h4, h⟩ := need_some h
  injection h with h; subst h
  exact env.code (its := [b1, .dive, .sel [4, 5, 10, 11, 12] [0, 2]]) (.c h2 (.c h3 (.c h4 .n))) (by kernel_rfl)
 ·injection h with h; subst h
  exact ⟨by intro e; simp [affiantref1_Tagged_1_ex] at e, env.code (its := [b0, .sel [4, 5] [0, 1]]) (.c h2 .n) (by kernel_rfl)⟩
theorem affiantref1_Tagged_1_ok (x0 : List (B8)) (x1 : Int) (x2 : Int) (x3 : B8) (x4 : B8) (o : B8 × B8) (h : affiantref1_Tagged_1 x0 x1 x2 x3 x4 = some o) : CodeOK prog (codeAt (bodyOf f46) [1, 1, 0, 1, 0]) (affiantref1_Tagged_1_in x0 x1 x2 x3 x4) (affiantref1_Tagged_1_ex o) (affiantref1_Tagged_1_st o) :=
 LoopOK.of_step (st := fun s => affiantref1_Tagged_1_in x0 x1 s.1 x3 s.2) (ex := affiantref1_Tagged_1_ex) (stO := affiantref1_Tagged_1_st) (fun s s2 hs => affiantref1_Tagged_1_body x0 x1 s.1 x3 s.2 (.inl s2) hs) (fun s r hs => affiantref1_Tagged_1_body x0 x1 s.1 x3 s.2 (.inr r) hs) _ o h
def affiantref1_Tagged_R (a0 : UInt8) (a1 : List (B8)) (u : B8) : Slot := (.v Yh u)
def affiantref1_Tagged_O (a0 : UInt8) (a1 : List (B8)) (u : B8) : List AObj := []
theorem affiantref1_Tagged_ok (a0 : UInt8) (a1 : List (B8)) (u : B8) (h : affiantref1_Tagged a0 a1 = some u) : CallC prog 46 [(.v (.int .u8) a0), (.v Ybb a1)] [] (affiantref1_Tagged_R a0 a1 u) (affiantref1_Tagged_O a0 a1 u) := by
 unfold affiantref1_Tagged at h
 obtain ⟨o5, h6, h⟩ := andThen_some h
 obtain ⟨u7, h8, h⟩ := andThen_some h
 injection h with h; subst h
 exact env.fun func46 can46 (its := [.dive, .sel [4, 5, 10, 11, 12] [0, 1], .part (affiantref1_Tagged_1_ex o5) (affiantref1_Tagged_1_st o5), .call [none] [] [1] true (affiantref1_Sum_R o5.2 u7) (affiantref1_Sum_O o5.2 u7)]) (pos := s0) (.c (affiantref1_Tagged_1_ok a1 (List.length a1 : Int) (0 : Int) Z32 ([a0] : List (UInt8)) o5 h6) (.c (affiantref1_Sum_ok o5.2 u7 h8) .n)) (by kernel_rfl)
theorem can42 : Callable prog 42 := ⟨_, func42, by kernel_rfl, by kernel_rfl⟩
def affiantref1_Root_R (a0 : List (B8)) (u : B8) : Slot := (.v Yh u)
def affiantref1_Root_O (a0 : List (B8)) (u : B8) : List AObj := []
theorem affiantref1_Root_f_ok : ∀ (k : Nat) (a0 : List (B8)) (u : B8) (h : affiantref1_Root_f k a0 = some u), CallC prog 42 [(.v Ybb a0)] [] (affiantref1_Root_R a0 u) (affiantref1_Root_O a0 u)
 | 0, a0, u, h => by cases h
 | k + 1, a0, u, h => by
  unfold affiantref1_Root_f at h
  rcases fork_some h with ⟨h1, h⟩ | ⟨h1, h⟩
  ·obtain ⟨u2, h3, h⟩ := andThen_some h
   injection h with h; subst h
   exact env.fun func42 can42 (its := [b1, .call [none, (some Yb)] [] [] true (affiantref1_Tagged_R (2 : UInt8) ([] : List (B8)) u2) (affiantref1_Tagged_O (2 : UInt8) ([] : List (B8)) u2)]) (pos := s0) (.c h1 (.c (affiantref1_Tagged_ok (2 : UInt8) ([] : List (B8)) u2 h3) .n)) (by kernel_rfl)
  ·rcases fork_some h with ⟨h4, h⟩ | ⟨h4, h⟩
   ·obtain ⟨h5, h⟩ := need_some h
    obtain ⟨u6, h7, h⟩ := andThen_some h
    injection h with h; subst h
    exact env.fun func42 can42 (its := [b0, b1, .call [none, none] [] [1] true (affiantref1_Tagged_R (0 : UInt8) ([(List.getD a0 (Int.toNat (0 : Int)) ([] : B8))] : List (B8)) u6) (affiantref1_Tagged_O (0 : UInt8) ([(List.getD a0 (Int.toNat (0 : Int)) ([] : B8))] : List (B8)) u6)]) (pos := s0) (.c h1 (.c h4 (.c h5 (.c (affiantref1_Tagged_ok (0 : UInt8) ([(List.getD a0 (Int.toNat (0 : Int)) ([] : B8))] : List (B8)) u6 h7) .n)))) (by kernel_rfl)
   ·obtain ⟨u8, h9, h⟩ := andThen_some h
    obtain ⟨h10, h⟩ := need_some h
    obtain ⟨u11, h12, h⟩ := andThen_some h
    obtain ⟨h13, h⟩ := need_some h
    obtain ⟨u14, h15, h⟩ := andThen_some h
    obtain ⟨u16, h17, h⟩ := andThen_some h
    injection h with h; subst h
    exact env.fun func42 can42 (its := [b0, b0, .call [none] [] [] true (affiantref1_half_R (List.length a0 : Int) u8) (affiantref1_half_O (List.length a0 : Int) u8), .pre p16, b0, .asis, .call [none] [] [] true (affiantref1_Root_R (cutL a0 (0 : Int) u8) u11) (affiantref1_Root_O (cutL a0 (0 : Int) u8) u11), b0, .asis, .call [none] [] [] true (affiantref1_Root_R (cutL a0 u8 (List.length a0 : Int)) u14) (affiantref1_Root_O (cutL a0 u8 (List.length a0 : Int)) u14), .pre p8, b1, b1, .asis, .call [none, none] [] [0] true (affiantref1_Tagged_R (1 : UInt8) ([u11, u14] : List (B8)) u16) (affiantref1_Tagged_O (1 : UInt8) ([u11, u14] : List (B8)) u16)]) (pos := s0) (.c h1 (.c h4 (.c (affiantref1_half_ok (List.length a0 : Int) u8 h9) (.c h10 (.c rn (.c (affiantref1_Root_f_ok k (cutL a0 (0 : Int) u8) u11 h12) (.c h13 (.c rn (.c (affiantref1_Root_f_ok k (cutL a0 u8 (List.length a0 : Int)) u14 h15) (.c (rfl : ([.row Yb ([u11, u14] : List (B8)) true] : List AObj) = [.row Yb ([u11, u14] : List (B8)) true]) (.c (affiantref1_Tagged_ok (1 : UInt8) ([u11, u14] : List (B8)) u16 h17) .n))))))))))) (by kernel_rfl)
theorem affiantref1_Root_ok (a0 : List (B8)) (u : B8) (h : affiantref1_Root a0 = some u) : CallC prog 42 [(.v Ybb a0)] [] (affiantref1_Root_R a0 u) (affiantref1_Root_O a0 u) := affiantref1_Root_f_ok 64 a0 u h
theorem can61 : Callable prog 61 := ⟨_, func61, by kernel_rfl, by kernel_rfl⟩
def affiantref1_Path_R (a0 : List (B8)) (a1 : Int) (u : List (B8)) : Slot := (.own 0 [])
def affiantref1_Path_O (a0 : List (B8)) (a1 : Int) (u : List (B8)) : List AObj := [.row Yh u true]
theorem affiantref1_Path_f_ok : ∀ (k : Nat) (a0 : List (B8)) (a1 : Int) (u : List (B8)) (h : affiantref1_Path_f k a0 a1 = some u), CallC prog 61 [(.v Ybb a0), (.v (.int .i64) a1)] [] (affiantref1_Path_R a0 a1 u) (affiantref1_Path_O a0 a1 u)
 | 0, a0, a1, u, h => by cases h
 | k + 1, a0, a1, u, h => by
  unfold affiantref1_Path_f at h
  rcases fork_some h with ⟨h1, h⟩ | ⟨h1, h⟩
  ·injection h with h; subst h
   exact env.fun func61 can61 (its := [b1, b1, b1, b1, b1, b1, b1, b1, b1, b1]) (pos := [.promote Yh, .sel [0]]) (.c h1 (.c h1 (.c h1 (.c h1 (.c h1 (.c r1 (.c r1 (.c r1 (.c r1 (.c r1 .n)))))))))) (by kernel_rfl)
  ·rcases fork_some h with ⟨h2, h⟩ | ⟨h2, h⟩
   ·injection h with h; subst h
    exact env.fun func61 can61 (its := [b0, b0, b0, b0, b0, b1, b1, b1, b1, b1]) (pos := [.promote Yh, .sel [0]]) (.c h1 (.c h1 (.c h1 (.c h1 (.c h1 (.c h2 (.c h2 (.c h2 (.c h2 (.c r1 .n)))))))))) (by kernel_rfl)
   ·rcases fork_some h with ⟨h3, h⟩ | ⟨h3, h⟩
    ·injection h with h; subst h
     exact env.fun func61 can61 (its := [b0, b0, b0, b0, b0, b0, b0, b0, b0, b1]) (pos := [.promote Yh, .sel [0]]) (.c h1 (.c h1 (.c h1 (.c h1 (.c h1 (.c h2 (.c h2 (.c h2 (.c h2 (.c h3 .n)))))))))) (by kernel_rfl)
    ·obtain ⟨u4, h5, h⟩ := andThen_some h
     rcases fork_some h with ⟨h6, h⟩ | ⟨h6, h⟩
     ·obtain ⟨h7, h⟩ := need_some h
      obtain ⟨u8, h9, h⟩ := andThen_some h
      obtain ⟨h10, h⟩ := need_some h
      obtain ⟨u11, h12, h⟩ := andThen_some h
      obtain ⟨h13, h⟩ := need_some h
      injection h with h; subst h
      exact env.fun func61 can61 (its := [b0, b0, b0, b0, b0, b0, b0, b0, b0, b0, .call [none] [] [] true (affiantref1_half_R (List.length a0 : Int) u4) (affiantref1_half_O (List.length a0 : Int) u4), b1, .pre p17, b0, .call [none, none] [] [] true (affiantref1_Path_R (cutL a0 (0 : Int) u4) a1 u8) (affiantref1_Path_O (cutL a0 (0 : Int) u4) a1 u8), b0, .asis, .call [none] [] [] true (affiantref1_Root_R (cutL a0 u4 (List.length a0 : Int)) u11) (affiantref1_Root_O (cutL a0 u4 (List.length a0 : Int)) u11)]) (pos := [.sel [2]]) (.c h1 (.c h1 (.c h1 (.c h1 (.c h1 (.c h2 (.c h2 (.c h2 (.c h2 (.c h3 (.c (affiantref1_half_ok (List.length a0 : Int) u4 h5) (.c h6 (.c h7 (.c (affiantref1_Path_f_ok k (cutL a0 (0 : Int) u4) a1 u8 h9) (.c h10 (.c rn (.c (affiantref1_Root_ok (cutL a0 u4 (List.length a0 : Int)) u11 h12) (.c h13 .n)))))))))))))))))) (by kernel_rfl)
     ·obtain ⟨h14, h⟩ := need_some h
      obtain ⟨u15, h16, h⟩ := andThen_some h
      obtain ⟨h17, h⟩ := need_some h
      obtain ⟨u18, h19, h⟩ := andThen_some h
      obtain ⟨h20, h⟩ := need_some h
      injection h with h; subst h
      exact env.fun func61 can61 (its := [b0, b0, b0, b0, b0, b0, b0, b0, b0, b0, .call [none] [] [] true (affiantref1_half_R (List.length a0 : Int) u4) (affiantref1_half_O (List.length a0 : Int) u4), b0, .pre p18, b0, .call [none, none] [] [] true (affiantref1_Path_R (cutL a0 u4 (List.length a0 : Int)) (w64 (a1 - u4)) u15) (affiantref1_Path_O (cutL a0 u4 (List.length a0 : Int)) (w64 (a1 - u4)) u15), b0, .asis, .call [none] [] [] true (affiantref1_Root_R (cutL a0 (0 : Int) u4) u18) (affiantref1_Root_O (cutL a0 (0 : Int) u4) u18)]) (pos := [.sel [2]]) (.c h1 (.c h1 (.c h1 (.c h1 (.c h1 (.c h2 (.c h2 (.c h2 (.c h2 (.c h3 (.c (affiantref1_half_ok (List.length a0 : Int) u4 h5) (.c h6 (.c h14 (.c (affiantref1_Path_f_ok k (cutL a0 u4 (List.length a0 : Int)) (w64 (a1 - u4)) u15 h16) (.c h17 (.c rn (.c (affiantref1_Root_ok (cutL a0 (0 : Int) u4) u18 h19) (.c h20 .n)))))))))))))))))) (by kernel_rfl)
theorem affiantref1_Path_ok (a0 : List (B8)) (a1 : Int) (u : List (B8)) (h : affiantref1_Path a0 a1 = some u) : CallC prog 61 [(.v Ybb a0), (.v (.int .i64) a1)] [] (affiantref1_Path_R a0 a1 u) (affiantref1_Path_O a0 a1 u) := affiantref1_Path_f_ok 64 a0 a1 u h
theorem can31 : Callable prog 31 := ⟨_, func31, by kernel_rfl, by kernel_rfl⟩
def affiantref1_Prove_1_in (x0 : List (T18c3)) (x1 : Int) (x2 : Int) (x3 : Int) (x4 : Int) (x5 : Unit) (x6 : Int) (x7 : Int) (x8 : Unit) (x9 : List (T18c3)) (x10 : List (List (B8))) : St := ⟨[(0, (.v (.slice Y18c3) x0)), (2, (.v (.int .i64) x1)), (6, (.ptr 0 [])), (7, (.ptr 1 [])), (8, (.v (.int .i64) x2))], [.box Y20c7 (.node (.v (.int .i64) x3) (.node (.v (.int .i64) x4) (.node .nil (.node .nil (.v .unit x5))))) true, .box Y20c7 (.node (.v (.int .i64) x6) (.node (.v (.int .i64) x7) (.node (.own 2 []) (.node (.own 3 []) (.v .unit x8))))) true, .row Y18c3 x9 true, .row (.slice Yh) x10 true], 43, 0⟩
def affiantref1_Prove_1_ex (o : Int × Int × Unit × Int × Int × Unit × (List (T18c3)) × List (List (B8))) : Exit := (.exit 0)
def affiantref1_Prove_1_st (o : Int × Int × Unit × Int × Int × Unit × (List (T18c3)) × List (List (B8))) : St := ⟨[(6, (.ptr 0 [])), (7, (.ptr 1 []))], [.box Y20c7 (.node (.v (.int .i64) o.1) (.node (.v (.int .i64) o.2.1) (.node .nil (.node .nil (.v .unit o.2.2.1))))) true, .box Y20c7 (.node (.v (.int .i64) o.2.2.2.1) (.node (.v (.int .i64) o.2.2.2.2.1) (.node (.own 2 []) (.node (.own 3 []) (.v .unit o.2.2.2.2.2.1))))) true, .row Y18c3 o.2.2.2.2.2.2.1 true, .row (.slice Yh) o.2.2.2.2.2.2.2 true], 43, 0⟩
theorem affiantref1_Prove_1_body (x0 : List (T18c3)) (x1 : Int) (x2 : Int) (x3 : Int) (x4 : Int) (x5 : Unit) (x6 : Int) (x7 : Int) (x8 : Unit) (x9 : List (T18c3)) (x10 : List (List (B8))) : ∀ r, affiantref1_Prove_1_step x0 x1 x2 x3 x4 x5 x6 x7 x8 x9 x10 = some r → (match r with | .inl s => CodeOK prog (codeAt (bodyOf f31) [1, 1, 1, 0, 1, 0, 0]) (affiantref1_Prove_1_in x0 x1 x2 x3 x4 x5 x6 x7 x8 x9 x10) .normal (affiantref1_Prove_1_in x0 x1 s.1 x3 x4 x5 x6 x7 x8 s.2.1 s.2.2) | .inr o => affiantref1_Prove_1_ex o ≠ .normal ∧ CodeOK prog (codeAt (bodyOf f31) [1, 1, 1, 0, 1, 0, 0]) (affiantref1_Prove_1_in x0 x1 x2 x3 x4 x5 x6 x7 x8 x9 x10) (affiantref1_Prove_1_ex o) (affiantref1_Prove_1_st o)) := by
 intro r h
 unfold affiantref1_Prove_1_step at h
 rcases fork_some h with ⟨h3, h⟩ | ⟨h3, h⟩
 ·obtain ⟨h4, h⟩ := need_some h
  obtain ⟨h5, h⟩ := need_some h
  obtain ⟨u6, h7, h⟩ := andThen_some h
  obtain ⟨u8, h9, h⟩ := andThen_some h
  obtain ⟨h10, h⟩ := need_some h
  injection h with h; subst h
  exact env.code (its := [b1, .pre p19, .pre p20, .call [none] [] [] false (affiantref1_leaves_R x0 u6) (affiantref1_leaves_O x0 u6), .call [none, none] [] [0] true (affiantref1_Path_R u6 x2 u8) (affiantref1_Path_O u6 x2 u8), .sel [0, 2, 6, 7, 8] [0, 1, 5, 9]]) (.c h3 (.c h4 (.c h5 (.c (affiantref1_leaves_ok x0 u6 h7) (.c (affiantref1_Path_ok u6 x2 u8 h9) (.c h10 .n)))))) (by kernel_rfl)
 ·injection h with h; subst h
  exact ⟨by intro e; simp [affiantref1_Prove_1_ex] at e, env.code (its := [b0, .sel [6, 7] [0, 1, 2, 3]]) (.c h3 .n) (by kernel_rfl)⟩
theorem affiantref1_Prove_1_ok (x0 : List (T18c3)) (x1 : Int) (x2 : Int) (x3 : Int) (x4 : Int) (x5 : Unit) (x6 : Int) (x7 : Int) (x8 : Unit) (x9 : List (T18c3)) (x10 : List (List (B8))) (o : Int × Int × Unit × Int × Int × Unit × (List (T18c3)) × List (List (B8))) (h : affiantref1_Prove_1 x0 x1 x2 x3 x4 x5 x6 x7 x8 x9 x10 = some o) : CodeOK prog (codeAt (bodyOf f31) [1, 1, 1, 0, 1, 0]) (affiantref1_Prove_1_in x0 x1 x2 x3 x4 x5 x6 x7 x8 x9 x10) (affiantref1_Prove_1_ex o) (affiantref1_Prove_1_st o) :=
 LoopOK.of_step (st := fun s => affiantref1_Prove_1_in x0 x1 s.1 x3 x4 x5 x6 x7 x8 s.2.1 s.2.2) (ex := affiantref1_Prove_1_ex) (stO := affiantref1_Prove_1_st) (fun s s2 hs => affiantref1_Prove_1_body x0 x1 s.1 x3 x4 x5 x6 x7 x8 s.2.1 s.2.2 (.inl s2) hs) (fun s r hs => affiantref1_Prove_1_body x0 x1 s.1 x3 x4 x5 x6 x7 x8 s.2.1 s.2.2 (.inr r) hs) _ o h
def affiantref1_Prove_R (a0 : List (T18c3)) (a1 : Int) (a2 : Int) (u : T20c7) : Slot := (.v Y20c7 u)
def affiantref1_Prove_O (a0 : List (T18c3)) (a1 : Int) (a2 : Int) (u : T20c7) : List AObj := []
theorem affiantref1_Prove_ok (a0 : List (T18c3)) (a1 : Int) (a2 : Int) (u : T20c7) (h : affiantref1_Prove a0 a1 a2 = some u) : CallC prog 31 [(.v (.slice Y18c3) a0), (.v (.int .i64) a1), (.v (.int .i64) a2)] [] (affiantref1_Prove_R a0 a1 a2 u) (affiantref1_Prove_O a0 a1 a2 u) := by
 unfold affiantref1_Prove at h
 rcases fork_some h with ⟨h1, h⟩ | ⟨h1, h⟩
 ·injection h with h; subst h
  exact env.fun func31 can31 (its := [.asis, b1]) (pos := s0) (.c h1 .n) (by kernel_rfl)
 ·obtain ⟨o11, h12, h⟩ := andThen_some h
  injection h with h; subst h
  exact env.fun func31 can31 (its := [.asis, b0, .dive, .promoteObj 1 [.fld 2], .promoteObj 1 [.fld 3], .sel [0, 2, 6, 7, 8] [0, 1, 2, 3], .part (affiantref1_Prove_1_ex o11) (affiantref1_Prove_1_st o11)]) (pos := s0) (.c h1 (.c (affiantref1_Prove_1_ok a0 a2 a1 (0 : Int) (0 : Int) (()) (List.length a0 : Int) a1 (()) ([] : List (T18c3)) ([] : List (List (B8))) o11 h12) .n)) (by kernel_rfl)
theorem can32 : Callable prog 32 := ⟨_, func32, by kernel_rfl, by kernel_rfl⟩
def affiantref1_Cover_R (a0 : List (T18c3)) (a1 : B8) (a2 : B8) (u : T20c7) : Slot := (.v Y20c7 u)
def affiantref1_Cover_O (a0 : List (T18c3)) (a1 : B8) (a2 : B8) (u : T20c7) : List AObj := []
theorem affiantref1_Cover_ok (a0 : List (T18c3)) (a1 : B8) (a2 : B8) (u : T20c7) (h : affiantref1_Cover a0 a1 a2 = some u) : CallC prog 32 [(.v (.slice Y18c3) a0), (.v .str a1), (.v .str a2)] [] (affiantref1_Cover_R a0 a1 a2 u) (affiantref1_Cover_O a0 a1 a2 u) := by
 unfold affiantref1_Cover at h
 obtain ⟨u1, h2, h⟩ := andThen_some h
 obtain ⟨u3, h4, h⟩ := andThen_some h
 rcases fork_some h with ⟨h5, h⟩ | ⟨h5, h⟩
 ·obtain ⟨u6, h7, h⟩ := andThen_some h
  injection h with h; subst h
  exact env.fun func32 can32 (its := [.call [none, none] [] [] true (affiantref1_First_R a0 a1 u1) (affiantref1_First_O a0 a1 u1), .call [none, none] [] [] true (affiantref1_First_R a0 a2 u3) (affiantref1_First_O a0 a2 u3), b1, .call [none, none, none] [] [] false (affiantref1_Prove_R a0 (max (w64 (u1 - (1 : Int))) (0 : Int)) (min (w64 (u1 + (1 : Int))) (List.length a0 : Int)) u6) (affiantref1_Prove_O a0 (max (w64 (u1 - (1 : Int))) (0 : Int)) (min (w64 (u1 + (1 : Int))) (List.length a0 : Int)) u6)]) (pos := s0) (.c (affiantref1_First_ok a0 a1 u1 h2) (.c (affiantref1_First_ok a0 a2 u3 h4) (.c h5 (.c (affiantref1_Prove_ok a0 (max (w64 (u1 - (1 : Int))) (0 : Int)) (min (w64 (u1 + (1 : Int))) (List.length a0 : Int)) u6 h7) .n)))) (by kernel_rfl)
 ·obtain ⟨u8, h9, h⟩ := andThen_some h
  injection h with h; subst h
  exact env.fun func32 can32 (its := [.call [none, none] [] [] true (affiantref1_First_R a0 a1 u1) (affiantref1_First_O a0 a1 u1), .call [none, none] [] [] true (affiantref1_First_R a0 a2 u3) (affiantref1_First_O a0 a2 u3), b0, .call [none, none, none] [] [] false (affiantref1_Prove_R a0 (max (w64 (u1 - (1 : Int))) (0 : Int)) (min (w64 (u3 + (1 : Int))) (List.length a0 : Int)) u8) (affiantref1_Prove_O a0 (max (w64 (u1 - (1 : Int))) (0 : Int)) (min (w64 (u3 + (1 : Int))) (List.length a0 : Int)) u8)]) (pos := s0) (.c (affiantref1_First_ok a0 a1 u1 h2) (.c (affiantref1_First_ok a0 a2 u3 h4) (.c h5 (.c (affiantref1_Prove_ok a0 (max (w64 (u1 - (1 : Int))) (0 : Int)) (min (w64 (u3 + (1 : Int))) (List.length a0 : Int)) u8 h9) .n)))) (by kernel_rfl)
theorem can8 : Callable prog 8 := ⟨_, func8, by kernel_rfl, by kernel_rfl⟩
def affiantref16_Answer_1_in (x0 : List (T18c3)) (x1 : B8) (x2 : List (T18c3)) (x3 : Int) (x4 : Int) (x5 : T011a) (x6 : Int) (x7 : Int) (x8 : Int) (x9 : Int) (x10 : Unit) (x11 : Unit) (x12 : Int) (x13 : Int) (x14 : (T20c7) × Unit) (x15 : List (T18c3)) : St := ⟨[(3, (.v (.slice Y18c3) x0)), (5, (.ptr 0 [])), (8, (.ptr 1 [])), (9, (.ptr 2 [])), (11, (.v .str x1)), (61, (.v (.slice Y18c3) x2)), (62, (.v (.int .i64) x3)), (63, (.v (.int .i64) x4))], [.box Y011a (.v Y011a x5) true, .box Y1f7e (.node (.v (.int .i64) x6) (.node (.v (.int .i64) x7) (.node .nil (.node (.node (.v (.int .i64) x8) (.node (.v (.int .i64) x9) (.node .nil (.node .nil (.v .unit x10))))) (.v .unit x11))))) true, .box Y1f7e (.node (.v (.int .i64) x12) (.node (.v (.int .i64) x13) (.node (.own 3 []) (.v (.fld Y20c7 .unit) x14)))) true, .row Y18c3 x15 true], 94, 0⟩
def affiantref16_Answer_1_ex (o : (List (T18c3)) × B8 × (T011a) × Int × Int × Int × Int × Unit × Unit × Int × Int × ((T20c7) × Unit) × List (T18c3)) : Exit := (.exit 0)
def affiantref16_Answer_1_st (o : (List (T18c3)) × B8 × (T011a) × Int × Int × Int × Int × Unit × Unit × Int × Int × ((T20c7) × Unit) × List (T18c3)) : St := ⟨[(3, (.v (.slice Y18c3) o.1)), (5, (.ptr 0 [])), (8, (.ptr 1 [])), (9, (.ptr 2 [])), (11, (.v .str o.2.1))], [.box Y011a (.v Y011a o.2.2.1) true, .box Y1f7e (.node (.v (.int .i64) o.2.2.2.1) (.node (.v (.int .i64) o.2.2.2.2.1) (.node .nil (.node (.node (.v (.int .i64) o.2.2.2.2.2.1) (.node (.v (.int .i64) o.2.2.2.2.2.2.1) (.node .nil (.node .nil (.v .unit o.2.2.2.2.2.2.2.1))))) (.v .unit o.2.2.2.2.2.2.2.2.1))))) true, .box Y1f7e (.node (.v (.int .i64) o.2.2.2.2.2.2.2.2.2.1) (.node (.v (.int .i64) o.2.2.2.2.2.2.2.2.2.2.1) (.node (.own 3 []) (.v (.fld Y20c7 .unit) o.2.2.2.2.2.2.2.2.2.2.2.1)))) true, .row Y18c3 o.2.2.2.2.2.2.2.2.2.2.2.2 true], 94, 0⟩
theorem affiantref16_Answer_1_body (x0 : List (T18c3)) (x1 : B8) (x2 : List (T18c3)) (x3 : Int) (x4 : Int) (x5 : T011a) (x6 : Int) (x7 : Int) (x8 : Int) (x9 : Int) (x10 : Unit) (x11 : Unit) (x12 : Int) (x13 : Int) (x14 : (T20c7) × Unit) (x15 : List (T18c3)) : ∀ r, affiantref16_Answer_1_step x0 x1 x2 x3 x4 x5 x6 x7 x8 x9 x10 x11 x12 x13 x14 x15 = some r → (match r with | .inl s => CodeOK prog (codeAt (bodyOf f8) [1, 1, 1, 1, 1, 1, 1, 0, 1, 0, 0]) (affiantref16_Answer_1_in x0 x1 x2 x3 x4 x5 x6 x7 x8 x9 x10 x11 x12 x13 x14 x15) .normal (affiantref16_Answer_1_in x0 x1 x2 x3 s.1 x5 x6 x7 x8 x9 x10 x11 x12 x13 x14 s.2) | .inr o => affiantref16_Answer_1_ex o ≠ .normal ∧ CodeOK prog (codeAt (bodyOf f8) [1, 1, 1, 1, 1, 1, 1, 0, 1, 0, 0]) (affiantref16_Answer_1_in x0 x1 x2 x3 x4 x5 x6 x7 x8 x9 x10 x11 x12 x13 x14 x15) (affiantref16_Answer_1_ex o) (affiantref16_Answer_1_st o)) := by
 intro r h
 unfold affiantref16_Answer_1_step at h
 rcases fork_some h with ⟨h11, h⟩ | ⟨h11, h⟩
 ·obtain ⟨h12, h⟩ := need_some h
  rcases fork_some h with ⟨h13, h⟩ | ⟨h13, h⟩
  ·rcases fork_some h with ⟨h14, h⟩ | ⟨h14, h⟩
   ·obtain ⟨h15, h⟩ := need_some h
    obtain ⟨h16, h⟩ := need_some h
    injection h with h; subst h
    exact env.code (its := [b1, b1, b1, b1, b1, b1, b1, .pre p21, .sel [3, 5, 8, 9, 11, 61, 62, 63] [0, 1, 2, 8]]) (.c h11 (.c h12 (.c h13 (.c h13 (.c h13 (.c h13 (.c h13 (.c h14 (.c h15 (.c h16 .n)))))))))) (by kernel_rfl)
   ·injection h with h; subst h
    exact env.code (its := [b1, b1, b1, b1, b1, b1, b0, .sel [3, 5, 8, 9, 11, 61, 62, 63] [0, 1, 2, 3]]) (.c h11 (.c h12 (.c h13 (.c h13 (.c h13 (.c h13 (.c h13 (.c h14 .n)))))))) (by kernel_rfl)
  ·injection h with h; subst h
   exact env.code (its := [b1, b0, b0, b0, b0, b0, b0, .sel [3, 5, 8, 9, 11, 61, 62, 63] [0, 1, 2, 3]]) (.c h11 (.c h12 (.c h13 (.c h13 (.c h13 (.c h13 (.c h13 (.c r0 .n)))))))) (by kernel_rfl)
 ·injection h with h; subst h
  exact ⟨by intro e; simp [affiantref16_Answer_1_ex] at e, env.code (its := [b0, .sel [3, 5, 8, 9, 11] [0, 1, 2, 3]]) (.c h11 .n) (by kernel_rfl)⟩
theorem affiantref16_Answer_1_ok (x0 : List (T18c3)) (x1 : B8) (x2 : List (T18c3)) (x3 : Int) (x4 : Int) (x5 : T011a) (x6 : Int) (x7 : Int) (x8 : Int) (x9 : Int) (x10 : Unit) (x11 : Unit) (x12 : Int) (x13 : Int) (x14 : (T20c7) × Unit) (x15 : List (T18c3)) (o : (List (T18c3)) × B8 × (T011a) × Int × Int × Int × Int × Unit × Unit × Int × Int × ((T20c7) × Unit) × List (T18c3)) (h : affiantref16_Answer_1 x0 x1 x2 x3 x4 x5 x6 x7 x8 x9 x10 x11 x12 x13 x14 x15 = some o) : CodeOK prog (codeAt (bodyOf f8) [1, 1, 1, 1, 1, 1, 1, 0, 1, 0]) (affiantref16_Answer_1_in x0 x1 x2 x3 x4 x5 x6 x7 x8 x9 x10 x11 x12 x13 x14 x15) (affiantref16_Answer_1_ex o) (affiantref16_Answer_1_st o) :=
 LoopOK.of_step (st := fun s => affiantref16_Answer_1_in x0 x1 x2 x3 s.1 x5 x6 x7 x8 x9 x10 x11 x12 x13 x14 s.2) (ex := affiantref16_Answer_1_ex) (stO := affiantref16_Answer_1_st) (fun s s2 hs => affiantref16_Answer_1_body x0 x1 x2 x3 s.1 x5 x6 x7 x8 x9 x10 x11 x12 x13 x14 s.2 (.inl s2) hs) (fun s r hs => affiantref16_Answer_1_body x0 x1 x2 x3 s.1 x5 x6 x7 x8 x9 x10 x11 x12 x13 x14 s.2 (.inr r) hs) _ o h
def affiantref16_Answer_2_in (x0 : List (T18c3)) (x1 : B8) (x2 : List (T18c3)) (x3 : Int) (x4 : Int) (x5 : T011a) (x6 : Int) (x7 : Int) (x8 : Int) (x9 : Int) (x10 : Unit) (x11 : Unit) (x12 : Int) (x13 : Int) (x14 : (T20c7) × Unit) (x15 : List (T18c3)) : St := ⟨[(3, (.v (.slice Y18c3) x0)), (5, (.ptr 0 [])), (8, (.ptr 1 [])), (9, (.ptr 2 [])), (11, (.v .str x1)), (61, (.v (.slice Y18c3) x2)), (62, (.v (.int .i64) x3)), (63, (.v (.int .i64) x4))], [.box Y011a (.v Y011a x5) true, .box Y1f7e (.node (.v (.int .i64) x6) (.node (.v (.int .i64) x7) (.node .nil (.node (.node (.v (.int .i64) x8) (.node (.v (.int .i64) x9) (.node .nil (.node .nil (.v .unit x10))))) (.v .unit x11))))) true, .box Y1f7e (.node (.v (.int .i64) x12) (.node (.v (.int .i64) x13) (.node (.own 3 []) (.v (.fld Y20c7 .unit) x14)))) true, .row Y18c3 x15 true], 94, 0⟩
def affiantref16_Answer_2_ex (o : (List (T18c3)) × B8 × (T011a) × Int × Int × Int × Int × Unit × Unit × Int × Int × ((T20c7) × Unit) × List (T18c3)) : Exit := (.exit 0)
def affiantref16_Answer_2_st (o : (List (T18c3)) × B8 × (T011a) × Int × Int × Int × Int × Unit × Unit × Int × Int × ((T20c7) × Unit) × List (T18c3)) : St := ⟨[(3, (.v (.slice Y18c3) o.1)), (5, (.ptr 0 [])), (8, (.ptr 1 [])), (9, (.ptr 2 [])), (11, (.v .str o.2.1))], [.box Y011a (.v Y011a o.2.2.1) true, .box Y1f7e (.node (.v (.int .i64) o.2.2.2.1) (.node (.v (.int .i64) o.2.2.2.2.1) (.node .nil (.node (.node (.v (.int .i64) o.2.2.2.2.2.1) (.node (.v (.int .i64) o.2.2.2.2.2.2.1) (.node .nil (.node .nil (.v .unit o.2.2.2.2.2.2.2.1))))) (.v .unit o.2.2.2.2.2.2.2.2.1))))) true, .box Y1f7e (.node (.v (.int .i64) o.2.2.2.2.2.2.2.2.2.1) (.node (.v (.int .i64) o.2.2.2.2.2.2.2.2.2.2.1) (.node (.own 3 []) (.v (.fld Y20c7 .unit) o.2.2.2.2.2.2.2.2.2.2.2.1)))) true, .row Y18c3 o.2.2.2.2.2.2.2.2.2.2.2.2 true], 94, 0⟩
theorem affiantref16_Answer_2_body (x0 : List (T18c3)) (x1 : B8) (x2 : List (T18c3)) (x3 : Int) (x4 : Int) (x5 : T011a) (x6 : Int) (x7 : Int) (x8 : Int) (x9 : Int) (x10 : Unit) (x11 : Unit) (x12 : Int) (x13 : Int) (x14 : (T20c7) × Unit) (x15 : List (T18c3)) : ∀ r, affiantref16_Answer_2_step x0 x1 x2 x3 x4 x5 x6 x7 x8 x9 x10 x11 x12 x13 x14 x15 = some r → (match r with | .inl s => CodeOK prog (codeAt (bodyOf f8) [1, 1, 1, 1, 1, 1, 1, 0, 1, 0, 0]) (affiantref16_Answer_2_in x0 x1 x2 x3 x4 x5 x6 x7 x8 x9 x10 x11 x12 x13 x14 x15) .normal (affiantref16_Answer_2_in x0 x1 x2 x3 s.1 x5 x6 x7 x8 x9 x10 x11 x12 x13 x14 s.2) | .inr o => affiantref16_Answer_2_ex o ≠ .normal ∧ CodeOK prog (codeAt (bodyOf f8) [1, 1, 1, 1, 1, 1, 1, 0, 1, 0, 0]) (affiantref16_Answer_2_in x0 x1 x2 x3 x4 x5 x6 x7 x8 x9 x10 x11 x12 x13 x14 x15) (affiantref16_Answer_2_ex o) (affiantref16_Answer_2_st o)) := by
 intro r h
 unfold affiantref16_Answer_2_step at h
 rcases fork_some h with ⟨h22, h⟩ | ⟨h22, h⟩
 ·obtain ⟨h23, h⟩ := need_some h
  rcases fork_some h with ⟨h24, h⟩ | ⟨h24, h⟩
  ·rcases fork_some h with ⟨h25, h⟩ | ⟨h25, h⟩
   ·obtain ⟨h26, h⟩ := need_some h
    obtain ⟨h27, h⟩ := need_some h
    injection h with h; subst h
    exact env.code (its := [b1, b1, b1, b1, b1, b1, b1, .pre p21, .sel [3, 5, 8, 9, 11, 61, 62, 63] [0, 1, 2, 8]]) (.c h22 (.c h23 (.c h24 (.c h24 (.c h24 (.c h24 (.c h24 (.c h25 (.c h26 (.c h27 .n)))))))))) (by kernel_rfl)
   ·injection h with h; subst h
    exact env.code (its := [b1, b1, b1, b1, b1, b1, b0, .sel [3, 5, 8, 9, 11, 61, 62, 63] [0, 1, 2, 3]]) (.c h22 (.c h23 (.c h24 (.c h24 (.c h24 (.c h24 (.c h24 (.c h25 .n)))))))) (by kernel_rfl)
  ·injection h with h; subst h
   exact env.code (its := [b1, b0, b0, b0, b0, b0, b0, .sel [3, 5, 8, 9, 11, 61, 62, 63] [0, 1, 2, 3]]) (.c h22 (.c h23 (.c h24 (.c h24 (.c h24 (.c h24 (.c h24 (.c r0 .n)))))))) (by kernel_rfl)
 ·injection h with h; subst h
  exact ⟨by intro e; simp [affiantref16_Answer_2_ex] at e, env.code (its := [b0, .sel [3, 5, 8, 9, 11] [0, 1, 2, 3]]) (.c h22 .n) (by kernel_rfl)⟩
theorem affiantref16_Answer_2_ok (x0 : List (T18c3)) (x1 : B8) (x2 : List (T18c3)) (x3 : Int) (x4 : Int) (x5 : T011a) (x6 : Int) (x7 : Int) (x8 : Int) (x9 : Int) (x10 : Unit) (x11 : Unit) (x12 : Int) (x13 : Int) (x14 : (T20c7) × Unit) (x15 : List (T18c3)) (o : (List (T18c3)) × B8 × (T011a) × Int × Int × Int × Int × Unit × Unit × Int × Int × ((T20c7) × Unit) × List (T18c3)) (h : affiantref16_Answer_2 x0 x1 x2 x3 x4 x5 x6 x7 x8 x9 x10 x11 x12 x13 x14 x15 = some o) : CodeOK prog (codeAt (bodyOf f8) [1, 1, 1, 1, 1, 1, 1, 0, 1, 0]) (affiantref16_Answer_2_in x0 x1 x2 x3 x4 x5 x6 x7 x8 x9 x10 x11 x12 x13 x14 x15) (affiantref16_Answer_2_ex o) (affiantref16_Answer_2_st o) :=
 LoopOK.of_step (st := fun s => affiantref16_Answer_2_in x0 x1 x2 x3 s.1 x5 x6 x7 x8 x9 x10 x11 x12 x13 x14 s.2) (ex := affiantref16_Answer_2_ex) (stO := affiantref16_Answer_2_st) (fun s s2 hs => affiantref16_Answer_2_body x0 x1 x2 x3 s.1 x5 x6 x7 x8 x9 x10 x11 x12 x13 x14 s.2 (.inl s2) hs) (fun s r hs => affiantref16_Answer_2_body x0 x1 x2 x3 s.1 x5 x6 x7 x8 x9 x10 x11 x12 x13 x14 s.2 (.inr r) hs) _ o h
def affiantref16_Answer_3_in (x0 : List (T18c3)) (x1 : B8) (x2 : List (T18c3)) (x3 : Int) (x4 : Int) (x5 : T011a) (x6 : Int) (x7 : Int) (x8 : Int) (x9 : Int) (x10 : Unit) (x11 : Unit) (x12 : Int) (x13 : Int) (x14 : (T20c7) × Unit) (x15 : List (T18c3)) : St := ⟨[(3, (.v (.slice Y18c3) x0)), (5, (.ptr 0 [])), (8, (.ptr 1 [])), (9, (.ptr 2 [])), (11, (.v .str x1)), (61, (.v (.slice Y18c3) x2)), (62, (.v (.int .i64) x3)), (63, (.v (.int .i64) x4))], [.box Y011a (.v Y011a x5) true, .box Y1f7e (.node (.v (.int .i64) x6) (.node (.v (.int .i64) x7) (.node .nil (.node (.node (.v (.int .i64) x8) (.node (.v (.int .i64) x9) (.node .nil (.node .nil (.v .unit x10))))) (.v .unit x11))))) true, .box Y1f7e (.node (.v (.int .i64) x12) (.node (.v (.int .i64) x13) (.node (.own 3 []) (.v (.fld Y20c7 .unit) x14)))) true, .row Y18c3 x15 true], 94, 0⟩
def affiantref16_Answer_3_ex (o : (List (T18c3)) × B8 × (T011a) × Int × Int × Int × Int × Unit × Unit × Int × Int × ((T20c7) × Unit) × List (T18c3)) : Exit := (.exit 0)
def affiantref16_Answer_3_st (o : (List (T18c3)) × B8 × (T011a) × Int × Int × Int × Int × Unit × Unit × Int × Int × ((T20c7) × Unit) × List (T18c3)) : St := ⟨[(3, (.v (.slice Y18c3) o.1)), (5, (.ptr 0 [])), (8, (.ptr 1 [])), (9, (.ptr 2 [])), (11, (.v .str o.2.1))], [.box Y011a (.v Y011a o.2.2.1) true, .box Y1f7e (.node (.v (.int .i64) o.2.2.2.1) (.node (.v (.int .i64) o.2.2.2.2.1) (.node .nil (.node (.node (.v (.int .i64) o.2.2.2.2.2.1) (.node (.v (.int .i64) o.2.2.2.2.2.2.1) (.node .nil (.node .nil (.v .unit o.2.2.2.2.2.2.2.1))))) (.v .unit o.2.2.2.2.2.2.2.2.1))))) true, .box Y1f7e (.node (.v (.int .i64) o.2.2.2.2.2.2.2.2.2.1) (.node (.v (.int .i64) o.2.2.2.2.2.2.2.2.2.2.1) (.node (.own 3 []) (.v (.fld Y20c7 .unit) o.2.2.2.2.2.2.2.2.2.2.2.1)))) true, .row Y18c3 o.2.2.2.2.2.2.2.2.2.2.2.2 true], 94, 0⟩
theorem affiantref16_Answer_3_body (x0 : List (T18c3)) (x1 : B8) (x2 : List (T18c3)) (x3 : Int) (x4 : Int) (x5 : T011a) (x6 : Int) (x7 : Int) (x8 : Int) (x9 : Int) (x10 : Unit) (x11 : Unit) (x12 : Int) (x13 : Int) (x14 : (T20c7) × Unit) (x15 : List (T18c3)) : ∀ r, affiantref16_Answer_3_step x0 x1 x2 x3 x4 x5 x6 x7 x8 x9 x10 x11 x12 x13 x14 x15 = some r → (match r with | .inl s => CodeOK prog (codeAt (bodyOf f8) [1, 1, 1, 1, 1, 1, 1, 0, 1, 0, 0]) (affiantref16_Answer_3_in x0 x1 x2 x3 x4 x5 x6 x7 x8 x9 x10 x11 x12 x13 x14 x15) .normal (affiantref16_Answer_3_in x0 x1 x2 x3 s.1 x5 x6 x7 x8 x9 x10 x11 x12 x13 x14 s.2) | .inr o => affiantref16_Answer_3_ex o ≠ .normal ∧ CodeOK prog (codeAt (bodyOf f8) [1, 1, 1, 1, 1, 1, 1, 0, 1, 0, 0]) (affiantref16_Answer_3_in x0 x1 x2 x3 x4 x5 x6 x7 x8 x9 x10 x11 x12 x13 x14 x15) (affiantref16_Answer_3_ex o) (affiantref16_Answer_3_st o)) := by
 intro r h
 unfold affiantref16_Answer_3_step at h
 rcases fork_some h with ⟨h33, h⟩ | ⟨h33, h⟩
 ·obtain ⟨h34, h⟩ := need_some h
  rcases fork_some h with ⟨h35, h⟩ | ⟨h35, h⟩
  ·rcases fork_some h with ⟨h36, h⟩ | ⟨h36, h⟩
   ·obtain ⟨h37, h⟩ := need_some h
    obtain ⟨h38, h⟩ := need_some h
    injection h with h; subst h
    exact env.code (its := [b1, b1, b1, b1, b1, b1, b1, .pre p21, .sel [3, 5, 8, 9, 11, 61, 62, 63] [0, 1, 2, 8]]) (.c h33 (.c h34 (.c h35 (.c h35 (.c h35 (.c h35 (.c h35 (.c h36 (.c h37 (.c h38 .n)))))))))) (by kernel_rfl)
   ·injection h with h; subst h
    exact env.code (its := [b1, b1, b1, b1, b1, b1, b0, .sel [3, 5, 8, 9, 11, 61, 62, 63] [0, 1, 2, 3]]) (.c h33 (.c h34 (.c h35 (.c h35 (.c h35 (.c h35 (.c h35 (.c h36 .n)))))))) (by kernel_rfl)
  ·injection h with h; subst h
   exact env.code (its := [b1, b0, b0, b0, b0, b0, b0, .sel [3, 5, 8, 9, 11, 61, 62, 63] [0, 1, 2, 3]]) (.c h33 (.c h34 (.c h35 (.c h35 (.c h35 (.c h35 (.c h35 (.c r0 .n)))))))) (by kernel_rfl)
 ·injection h with h; subst h
  exact ⟨by intro e; simp [affiantref16_Answer_3_ex] at e, env.code (its := [b0, .sel [3, 5, 8, 9, 11] [0, 1, 2, 3]]) (.c h33 .n) (by kernel_rfl)⟩
theorem affiantref16_Answer_3_ok (x0 : List (T18c3)) (x1 : B8) (x2 : List (T18c3)) (x3 : Int) (x4 : Int) (x5 : T011a) (x6 : Int) (x7 : Int) (x8 : Int) (x9 : Int) (x10 : Unit) (x11 : Unit) (x12 : Int) (x13 : Int) (x14 : (T20c7) × Unit) (x15 : List (T18c3)) (o : (List (T18c3)) × B8 × (T011a) × Int × Int × Int × Int × Unit × Unit × Int × Int × ((T20c7) × Unit) × List (T18c3)) (h : affiantref16_Answer_3 x0 x1 x2 x3 x4 x5 x6 x7 x8 x9 x10 x11 x12 x13 x14 x15 = some o) : CodeOK prog (codeAt (bodyOf f8) [1, 1, 1, 1, 1, 1, 1, 0, 1, 0]) (affiantref16_Answer_3_in x0 x1 x2 x3 x4 x5 x6 x7 x8 x9 x10 x11 x12 x13 x14 x15) (affiantref16_Answer_3_ex o) (affiantref16_Answer_3_st o) :=
 LoopOK.of_step (st := fun s => affiantref16_Answer_3_in x0 x1 x2 x3 s.1 x5 x6 x7 x8 x9 x10 x11 x12 x13 x14 s.2) (ex := affiantref16_Answer_3_ex) (stO := affiantref16_Answer_3_st) (fun s s2 hs => affiantref16_Answer_3_body x0 x1 x2 x3 s.1 x5 x6 x7 x8 x9 x10 x11 x12 x13 x14 s.2 (.inl s2) hs) (fun s r hs => affiantref16_Answer_3_body x0 x1 x2 x3 s.1 x5 x6 x7 x8 x9 x10 x11 x12 x13 x14 s.2 (.inr r) hs) _ o h
def affiantref16_Answer_R (a0 : Int) (a1 : T011a) (a2 : Int) (a3 : List (T18c3)) (u : T1f7e) : Slot := (.v Y1f7e u)
def affiantref16_Answer_O (a0 : Int) (a1 : T011a) (a2 : Int) (a3 : List (T18c3)) (u : T1f7e) : List AObj := []
theorem affiantref16_Answer_ok (a0 : Int) (a1 : T011a) (a2 : Int) (a3 : List (T18c3)) (u : T1f7e) (h : affiantref16_Answer a0 a1 a2 a3 = some u) : CallC prog 8 [(.v (.int .i64) a0), (.v Y011a a1), (.v (.int .i64) a2), (.v (.slice Y18c3) a3)] [] (affiantref16_Answer_R a0 a1 a2 a3 u) (affiantref16_Answer_O a0 a1 a2 a3 u) := by
 unfold affiantref16_Answer at h
 obtain ⟨u1, h2, h⟩ := andThen_some h
 rcases fork_some h with ⟨h3, h⟩ | ⟨h3, h⟩
 ·rcases fork_some h with ⟨h4, h⟩ | ⟨h4, h⟩
  ·obtain ⟨h5, h⟩ := need_some h
   rcases fork_some h with ⟨h6, h⟩ | ⟨h6, h⟩
   ·obtain ⟨h7, h⟩ := need_some h
    obtain ⟨u8, h9, h⟩ := andThen_some h
    injection h with h; subst h
    exact env.fun func8 can8 (its := [.call [none, none] [] [] true (affiantref1_First_R a3 a1.2.1 u1) (affiantref1_First_O a3 a1.2.1 u1), .pre p22, b1, b1, b1, b1, b1, b1, b1, b1, b1, b1, b1, b1, b1, b1, b1, .pre p23, b0, .asis, .call [none, none, none] [] [] false (affiantref1_Prove_R a3 u1 (w64 (u1 + (1 : Int))) u8) (affiantref1_Prove_O a3 u1 (w64 (u1 + (1 : Int))) u8)]) (pos := s0) (.c (affiantref1_First_ok a3 a1.2.1 u1 h2) (.c h3 (.c h3 (.c h3 (.c h3 (.c h3 (.c h4 (.c h4 (.c h4 (.c h5 (.c h4 (.c h4 (.c h4 (.c h4 (.c h4 (.c h4 (.c h6 (.c h7 (.c rn (.c (affiantref1_Prove_ok a3 u1 (w64 (u1 + (1 : Int))) u8 h9) .n)))))))))))))))))))) (by kernel_rfl)
   ·obtain ⟨o17, h18, h⟩ := andThen_some h
    obtain ⟨u19, h20, h⟩ := andThen_some h
    injection h with h; subst h
    exact env.fun func8 can8 (its := [.call [none, none] [] [] true (affiantref1_First_R a3 a1.2.1 u1) (affiantref1_First_O a3 a1.2.1 u1), .pre p22, b1, b1, b1, b1, b1, b1, b1, b1, b1, b1, b1, b1, b1, b1, b0, b1, .dive, .promoteObj 2 [.fld 2], .sel [3, 5, 8, 9, 11, 61, 62, 63] [0, 1, 2, 3], .part (affiantref16_Answer_1_ex o17) (affiantref16_Answer_1_st o17), .call [none, none, none] [] [] false (affiantref1_Cover_R o17.1 o17.2.2.1.2.1 o17.2.1 u19) (affiantref1_Cover_O o17.1 o17.2.2.1.2.1 o17.2.1 u19)]) (pos := s0) (.c (affiantref1_First_ok a3 a1.2.1 u1 h2) (.c h3 (.c h3 (.c h3 (.c h3 (.c h3 (.c h4 (.c h4 (.c h4 (.c h5 (.c h4 (.c h4 (.c h4 (.c h4 (.c h4 (.c h4 (.c h6 (.c h3 (.c (affiantref16_Answer_1_ok a3 a1.2.1 a3 (List.length a3 : Int) (0 : Int) a1 (0 : Int) (0 : Int) (0 : Int) (0 : Int) (()) (()) a0 a2 (Z20c7, ()) ([] : List (T18c3)) o17 h18) (.c (affiantref1_Cover_ok o17.1 o17.2.2.1.2.1 o17.2.1 u19 h20) .n)))))))))))))))))))) (by kernel_rfl)
  ·obtain ⟨o28, h29, h⟩ := andThen_some h
   obtain ⟨u30, h31, h⟩ := andThen_some h
   injection h with h; subst h
   exact env.fun func8 can8 (its := [.call [none, none] [] [] true (affiantref1_First_R a3 a1.2.1 u1) (affiantref1_First_O a3 a1.2.1 u1), .pre p22, b1, b1, b1, b1, b1, b0, b0, b0, b0, b0, b0, b0, b0, b0, b0, b1, .dive, .promoteObj 2 [.fld 2], .sel [3, 5, 8, 9, 11, 61, 62, 63] [0, 1, 2, 3], .part (affiantref16_Answer_2_ex o28) (affiantref16_Answer_2_st o28), .call [none, none, none] [] [] false (affiantref1_Cover_R o28.1 o28.2.2.1.2.1 o28.2.1 u30) (affiantref1_Cover_O o28.1 o28.2.2.1.2.1 o28.2.1 u30)]) (pos := s0) (.c (affiantref1_First_ok a3 a1.2.1 u1 h2) (.c h3 (.c h3 (.c h3 (.c h3 (.c h3 (.c h4 (.c h4 (.c h4 (.c h4 (.c h4 (.c h4 (.c h4 (.c h4 (.c h4 (.c r0 (.c h3 (.c (affiantref16_Answer_2_ok a3 a1.2.1 a3 (List.length a3 : Int) (0 : Int) a1 (0 : Int) (0 : Int) (0 : Int) (0 : Int) (()) (()) a0 a2 (Z20c7, ()) ([] : List (T18c3)) o28 h29) (.c (affiantref1_Cover_ok o28.1 o28.2.2.1.2.1 o28.2.1 u30 h31) .n))))))))))))))))))) (by kernel_rfl)
 ·obtain ⟨o39, h40, h⟩ := andThen_some h
  obtain ⟨u41, h42, h⟩ := andThen_some h
  injection h with h; subst h
  exact env.fun func8 can8 (its := [.call [none, none] [] [] true (affiantref1_First_R a3 a1.2.1 u1) (affiantref1_First_O a3 a1.2.1 u1), .pre p22, b0, b0, b0, b0, b0, b0, b0, b0, b0, b0, b0, b0, b0, b0, b0, b0, .dive, .promoteObj 2 [.fld 2], .sel [3, 5, 8, 9, 11, 61, 62, 63] [0, 1, 2, 3], .part (affiantref16_Answer_3_ex o39) (affiantref16_Answer_3_st o39), .call [none, none, none] [] [] false (affiantref1_Cover_R o39.1 o39.2.2.1.2.1 o39.2.1 u41) (affiantref1_Cover_O o39.1 o39.2.2.1.2.1 o39.2.1 u41)]) (pos := s0) (.c (affiantref1_First_ok a3 a1.2.1 u1 h2) (.c h3 (.c h3 (.c h3 (.c h3 (.c h3 (.c r0 (.c r0 (.c r0 (.c r0 (.c r0 (.c r0 (.c r0 (.c r0 (.c r0 (.c r0 (.c h3 (.c (affiantref16_Answer_3_ok a3 a1.2.2.1 a3 (List.length a3 : Int) (0 : Int) a1 (0 : Int) (0 : Int) (0 : Int) (0 : Int) (()) (()) a0 a2 (Z20c7, ()) ([] : List (T18c3)) o39 h40) (.c (affiantref1_Cover_ok o39.1 o39.2.2.1.2.1 o39.2.1 u41 h42) .n))))))))))))))))))) (by kernel_rfl)
theorem can70 : Callable prog 70 := ⟨_, func70, by kernel_rfl, by kernel_rfl⟩
def kv_may_R (a0 : T18c3) (u : Bool) : Slot := (.v .bool u)
def kv_may_O (a0 : T18c3) (u : Bool) : List AObj := []
theorem kv_may_ok (a0 : T18c3) (u : Bool) (h : kv_may a0 = some u) : CallC prog 70 [(.v Y18c3 a0)] [] (kv_may_R a0 u) (kv_may_O a0 u) := by
 unfold kv_may at h
 rcases fork_some h with ⟨h1, h⟩ | ⟨h1, h⟩
 ·rcases fork_some h with ⟨h2, h⟩ | ⟨h2, h⟩
  ·injection h with h; subst h
   exact env.fun func70 can70 (its := [b1, b1, b1, b1, b1, b1, b1, b1, b1, b1]) (pos := s0) (.c h1 (.c h1 (.c h1 (.c h1 (.c h1 (.c h2 (.c h2 (.c h2 (.c h2 (.c h2 .n)))))))))) (by kernel_rfl)
  ·injection h with h; subst h
   exact env.fun func70 can70 (its := [b1, b1, b1, b1, b1, b0, b0, b0, b0, b0]) (pos := s0) (.c h1 (.c h1 (.c h1 (.c h1 (.c h1 (.c h2 (.c h2 (.c h2 (.c h2 (.c h2 .n)))))))))) (by kernel_rfl)
 ·injection h with h; subst h
  exact env.fun func70 can70 (its := [b0, b0, b0, b0, b0, b0, b0, b0, b0, b0]) (pos := s0) (.c h1 (.c h1 (.c h1 (.c h1 (.c h1 (.c r0 (.c r0 (.c r0 (.c r0 (.c r0 .n)))))))))) (by kernel_rfl)
theorem can52 : Callable prog 52 := ⟨_, func52, by kernel_rfl, by kernel_rfl⟩
def kv_Right_1_in (x0 : List (T18c3)) (x1 : List (T18c3)) (x2 : Int) (x3 : Int) : St := ⟨[(0, (.v (.slice Y18c3) x0)), (5, (.v (.slice Y18c3) x1)), (6, (.v (.int .i64) x2)), (7, (.v (.int .i64) x3))], [], 34, 0⟩
def kv_Right_1_ex (o : (Bool) ⊕ (List (T18c3))) : Exit := match o with | (.inl o) => .ret | (.inr o) => (.exit 0)
def kv_Right_1_st (o : (Bool) ⊕ (List (T18c3))) : St := match o with | (.inl o) => ⟨[(2, (.v .bool o))], [], 34, 0⟩ | (.inr o) => ⟨[(0, (.v (.slice Y18c3) o))], [], 34, 0⟩
theorem kv_Right_1_body (x0 : List (T18c3)) (x1 : List (T18c3)) (x2 : Int) (x3 : Int) : ∀ r, kv_Right_1_step x0 x1 x2 x3 = some r → (match r with | .inl s => CodeOK prog (codeAt (bodyOf f52) [1, 0, 1, 0, 0]) (kv_Right_1_in x0 x1 x2 x3) .normal (kv_Right_1_in x0 x1 x2 s) | .inr o => kv_Right_1_ex o ≠ .normal ∧ CodeOK prog (codeAt (bodyOf f52) [1, 0, 1, 0, 0]) (kv_Right_1_in x0 x1 x2 x3) (kv_Right_1_ex o) (kv_Right_1_st o)) := by
 intro r h
 unfold kv_Right_1_step at h
 rcases fork_some h with ⟨h2, h⟩ | ⟨h2, h⟩
 ·obtain ⟨h3, h⟩ := need_some h
  obtain ⟨u4, h5, h⟩ := andThen_some h
  rcases fork_some h with ⟨h6, h⟩ | ⟨h6, h⟩
  ·injection h with h; subst h
   exact ⟨by intro e; simp [kv_Right_1_ex] at e, env.code (its := [b1, .pre p24, .asis, .call [none] [] [] true (kv_may_R (List.getD x1 (Int.toNat x3) Z18c3) u4) (kv_may_O (List.getD x1 (Int.toNat x3) Z18c3) u4), b1, b1, b1, b1, b1, b1, .sel [2] []]) (.c h2 (.c h3 (.c rn (.c (kv_may_ok (List.getD x1 (Int.toNat x3) Z18c3) u4 h5) (.c h6 (.c h6 (.c h6 (.c h6 (.c h6 (.c r1 .n)))))))))) (by kernel_rfl)⟩
  ·rcases fork_some h with ⟨h7, h⟩ | ⟨h7, h⟩
   ·obtain ⟨h8, h⟩ := need_some h
    rcases fork_some h with ⟨h9, h⟩ | ⟨h9, h⟩
    ·injection h with h; subst h
     exact ⟨by intro e; simp [kv_Right_1_ex] at e, env.code (its := [b1, .pre p24, .asis, .call [none] [] [] true (kv_may_R (List.getD x1 (Int.toNat x3) Z18c3) u4) (kv_may_O (List.getD x1 (Int.toNat x3) Z18c3) u4), b0, b0, b0, b1, b1, b1, b1, b1, b1, b1, b1, b1, b0, b1, b0, b1, .sel [2] []]) (.c h2 (.c h3 (.c rn (.c (kv_may_ok (List.getD x1 (Int.toNat x3) Z18c3) u4 h5) (.c h6 (.c h6 (.c h6 (.c h7 (.c h7 (.c h7 (.c h7 (.c h8 (.c h7 (.c h7 (.c h7 (.c h7 (.c h7 (.c h6 (.c h7 (.c h6 (.c h9 .n))))))))))))))))))))) (by kernel_rfl)⟩
    ·injection h with h; subst h
     exact env.code (its := [b1, .pre p24, .asis, .call [none] [] [] true (kv_may_R (List.getD x1 (Int.toNat x3) Z18c3) u4) (kv_may_O (List.getD x1 (Int.toNat x3) Z18c3) u4), b0, b0, b0, b1, b1, b1, b1, b1, b1, b1, b1, b1, b0, b1, b0, b0, .sel [0, 5, 6, 7] []]) (.c h2 (.c h3 (.c rn (.c (kv_may_ok (List.getD x1 (Int.toNat x3) Z18c3) u4 h5) (.c h6 (.c h6 (.c h6 (.c h7 (.c h7 (.c h7 (.c h7 (.c h8 (.c h7 (.c h7 (.c h7 (.c h7 (.c h7 (.c h6 (.c h7 (.c h6 (.c h9 .n))))))))))))))))))))) (by kernel_rfl)
   ·injection h with h; subst h
    exact env.code (its := [b1, .pre p24, .asis, .call [none] [] [] true (kv_may_R (List.getD x1 (Int.toNat x3) Z18c3) u4) (kv_may_O (List.getD x1 (Int.toNat x3) Z18c3) u4), b0, b0, b0, b0, b0, b0, b0, b0, b0, b0, b0, b0, b0, b0, b0, b0, .sel [0, 5, 6, 7] []]) (.c h2 (.c h3 (.c rn (.c (kv_may_ok (List.getD x1 (Int.toNat x3) Z18c3) u4 h5) (.c h6 (.c h6 (.c h6 (.c h7 (.c h7 (.c h7 (.c h7 (.c h7 (.c h7 (.c h7 (.c h7 (.c h7 (.c h6 (.c h7 (.c h6 (.c r0 .n)))))))))))))))))))) (by kernel_rfl)
 ·injection h with h; subst h
  exact ⟨by intro e; simp [kv_Right_1_ex] at e, env.code (its := [b0, .sel [0] []]) (.c h2 .n) (by kernel_rfl)⟩
theorem kv_Right_1_ok (x0 : List (T18c3)) (x1 : List (T18c3)) (x2 : Int) (x3 : Int) (o : (Bool) ⊕ (List (T18c3))) (h : kv_Right_1 x0 x1 x2 x3 = some o) : CodeOK prog (codeAt (bodyOf f52) [1, 0, 1, 0]) (kv_Right_1_in x0 x1 x2 x3) (kv_Right_1_ex o) (kv_Right_1_st o) :=
 LoopOK.of_step (st := fun s => kv_Right_1_in x0 x1 x2 s) (ex := kv_Right_1_ex) (stO := kv_Right_1_st) (fun s s2 hs => kv_Right_1_body x0 x1 x2 s (.inl s2) hs) (fun s r hs => kv_Right_1_body x0 x1 x2 s (.inr r) hs) _ o h
def kv_Right_R (a0 : List (T18c3)) (u : Bool) : Slot := (.v .bool u)
def kv_Right_O (a0 : List (T18c3)) (u : Bool) : List AObj := []
theorem kv_Right_ok (a0 : List (T18c3)) (u : Bool) (h : kv_Right a0 = some u) : CallC prog 52 [(.v (.slice Y18c3) a0)] [] (kv_Right_R a0 u) (kv_Right_O a0 u) := by
 unfold kv_Right at h
 obtain ⟨o10, h11, h⟩ := andThen_some h
 rcases o10 with o12 | o13
 ·injection h with h; subst h
  exact env.fun func52 can52 (its := [.dive, .sel [0, 5, 6, 7] [], .part (kv_Right_1_ex (.inl o12)) (kv_Right_1_st (.inl o12))]) (pos := s0) (.c (kv_Right_1_ok a0 a0 (List.length a0 : Int) (0 : Int) (.inl o12) h11) .n) (by kernel_rfl)
 ·injection h with h; subst h
  exact env.fun func52 can52 (its := [.dive, .sel [0, 5, 6, 7] [], .part (kv_Right_1_ex (.inr o13)) (kv_Right_1_st (.inr o13))]) (pos := s0) (.c (kv_Right_1_ok a0 a0 (List.length a0 : Int) (0 : Int) (.inr o13) h11) .n) (by kernel_rfl)
theorem can33 : Callable prog 33 := ⟨_, func33, by kernel_rfl, by kernel_rfl⟩
def admit_Right_R (a0 : T1f7e) (u : Bool) : Slot := (.v .bool u)
def admit_Right_O (a0 : T1f7e) (u : Bool) : List AObj := []
theorem admit_Right_ok (a0 : T1f7e) (u : Bool) (h : admit_Right a0 = some u) : CallC prog 33 [(.v Y1f7e a0)] [] (admit_Right_R a0 u) (admit_Right_O a0 u) := by
 unfold admit_Right at h
 rcases fork_some h with ⟨h1, h⟩ | ⟨h1, h⟩
 ·rcases fork_some h with ⟨h2, h⟩ | ⟨h2, h⟩
  ·obtain ⟨u3, h4, h⟩ := andThen_some h
   injection h with h; subst h
   exact env.fun func33 can33 (its := [b1, b1, b1, b1, b1, b1, b1, .call [none] [] [] true (kv_Right_R a0.2.2.1 u3) (kv_Right_O a0.2.2.1 u3), b1]) (pos := s0) (.c h1 (.c h1 (.c h1 (.c h1 (.c h2 (.c h2 (.c h2 (.c (kv_Right_ok a0.2.2.1 u3 h4) (.c h2 .n))))))))) (by kernel_rfl)
  ·injection h with h; subst h
   exact env.fun func33 can33 (its := [b1, b1, b1, b1, b0, b0, b0, b0]) (pos := s0) (.c h1 (.c h1 (.c h1 (.c h1 (.c h2 (.c h2 (.c h2 (.c h2 .n)))))))) (by kernel_rfl)
 ·injection h with h; subst h
  exact env.fun func33 can33 (its := [b0, b0, b0, b0, b0, b0, b0, b0]) (pos := s0) (.c h1 (.c h1 (.c h1 (.c h1 (.c r0 (.c r0 (.c r0 (.c r0 .n)))))))) (by kernel_rfl)
theorem can71 : Callable prog 71 := ⟨_, func71, by kernel_rfl, by kernel_rfl⟩
def tree_is_R (a0 : Int) (a1 : Int) (u : Bool) : Slot := (.v .bool u)
def tree_is_O (a0 : Int) (a1 : Int) (u : Bool) : List AObj := []
theorem tree_is_ok (a0 : Int) (a1 : Int) (u : Bool) (h : tree_is a0 a1 = some u) : CallC prog 71 [(.v (.int .i64) a0), (.v (.int .i64) a1)] [] (tree_is_R a0 a1 u) (tree_is_O a0 a1 u) := by
 unfold tree_is at h
 rcases fork_some h with ⟨h1, h⟩ | ⟨h1, h⟩
 ·rcases fork_some h with ⟨h2, h⟩ | ⟨h2, h⟩
  ·injection h with h; subst h
   exact env.fun func71 can71 (its := [b1, b1, b1, b1, b1, b1, b1]) (pos := s0) (.c h1 (.c h1 (.c h1 (.c h1 (.c h2 (.c h2 (.c h2 .n))))))) (by kernel_rfl)
  ·injection h with h; subst h
   exact env.fun func71 can71 (its := [b1, b1, b1, b1, b0, b0, b0]) (pos := s0) (.c h1 (.c h1 (.c h1 (.c h1 (.c h2 (.c h2 (.c h2 .n))))))) (by kernel_rfl)
 ·injection h with h; subst h
  exact env.fun func71 can71 (its := [b0, b0, b0, b0, b0, b0, b0]) (pos := s0) (.c h1 (.c h1 (.c h1 (.c h1 (.c r0 (.c r0 (.c r0 .n))))))) (by kernel_rfl)
theorem can73 : Callable prog 73 := ⟨_, func73, by kernel_rfl, by kernel_rfl⟩
def tree_sides_1_in (x0 : Int) (x1 : Int) (x2 : List Bool) : St := ⟨[(0, (.v (.int .i64) x0)), (1, (.v (.int .i64) x1)), (5, (.own 0 []))], [.row .bool x2 true], 28, 0⟩
def tree_sides_1_ex (o : List Bool) : Exit := (.exit 0)
def tree_sides_1_st (o : List Bool) : St := ⟨[(5, (.own 0 []))], [.row .bool o true], 28, 0⟩
theorem tree_sides_1_body (x0 : Int) (x1 : Int) (x2 : List Bool) : ∀ r, tree_sides_1_step x0 x1 x2 = some r → (match r with | .inl s => CodeOK prog (codeAt (bodyOf f73) [1, 1, 0, 0, 0]) (tree_sides_1_in x0 x1 x2) .normal (tree_sides_1_in s.1 s.2.1 s.2.2) | .inr o => tree_sides_1_ex o ≠ .normal ∧ CodeOK prog (codeAt (bodyOf f73) [1, 1, 0, 0, 0]) (tree_sides_1_in x0 x1 x2) (tree_sides_1_ex o) (tree_sides_1_st o)) := by
 intro r h
 unfold tree_sides_1_step at h
 rcases fork_some h with ⟨h2, h⟩ | ⟨h2, h⟩
 ·obtain ⟨u3, h4, h⟩ := andThen_some h
  obtain ⟨h5, h⟩ := need_some h
  rcases fork_some h with ⟨h6, h⟩ | ⟨h6, h⟩
  ·injection h with h; subst h
   exact env.code (its := [b1, .call [none] [] [] true (tree_left_R x1 u3) (tree_left_O x1 u3), b1, .sel [0, 1, 5] [2]]) (.c h2 (.c (tree_left_ok x1 u3 h4) (.c h5 (.c h6 .n)))) (by kernel_rfl)
  ·injection h with h; subst h
   exact env.code (its := [b1, .call [none] [] [] true (tree_left_R x1 u3) (tree_left_O x1 u3), b0, .sel [0, 1, 5] [2]]) (.c h2 (.c (tree_left_ok x1 u3 h4) (.c h5 (.c h6 .n)))) (by kernel_rfl)
 ·injection h with h; subst h
  exact ⟨by intro e; simp [tree_sides_1_ex] at e, env.code (its := [b0, .sel [5] [0]]) (.c h2 .n) (by kernel_rfl)⟩
theorem tree_sides_1_ok (x0 : Int) (x1 : Int) (x2 : List Bool) (o : List Bool) (h : tree_sides_1 x0 x1 x2 = some o) : CodeOK prog (codeAt (bodyOf f73) [1, 1, 0, 0]) (tree_sides_1_in x0 x1 x2) (tree_sides_1_ex o) (tree_sides_1_st o) :=
 LoopOK.of_step (st := fun s => tree_sides_1_in s.1 s.2.1 s.2.2) (ex := tree_sides_1_ex) (stO := tree_sides_1_st) (fun s s2 hs => tree_sides_1_body s.1 s.2.1 s.2.2 (.inl s2) hs) (fun s r hs => tree_sides_1_body s.1 s.2.1 s.2.2 (.inr r) hs) _ o h
def tree_sides_R (a0 : Int) (a1 : Int) (u : List Bool) : Slot := (.own 0 [])
def tree_sides_O (a0 : Int) (a1 : Int) (u : List Bool) : List AObj := [.row .bool u true]
theorem tree_sides_ok (a0 : Int) (a1 : Int) (u : List Bool) (h : tree_sides a0 a1 = some u) : CallC prog 73 [(.v (.int .i64) a0), (.v (.int .i64) a1)] [] (tree_sides_R a0 a1 u) (tree_sides_O a0 a1 u) := by
 unfold tree_sides at h
 obtain ⟨o7, h8, h⟩ := andThen_some h
 injection h with h; subst h
 exact env.fun func73 can73 (its := [.dive, .promote 5 .bool, .sel [0, 1, 5] [0], .part (tree_sides_1_ex o7) (tree_sides_1_st o7)]) (pos := s1) (.c (tree_sides_1_ok a0 a1 ([] : List (Bool)) o7 h8) .n) (by kernel_rfl)
theorem can72 : Callable prog 72 := ⟨_, func72, by kernel_rfl, by kernel_rfl⟩
def tree_Depth_R (a0 : Int) (a1 : Int) (u : Int) : Slot := (.v (.int .i64) u)
def tree_Depth_O (a0 : Int) (a1 : Int) (u : Int) : List AObj := []
theorem tree_Depth_ok (a0 : Int) (a1 : Int) (u : Int) (h : tree_Depth a0 a1 = some u) : CallC prog 72 [(.v (.int .i64) a0), (.v (.int .i64) a1)] [] (tree_Depth_R a0 a1 u) (tree_Depth_O a0 a1 u) := by
 unfold tree_Depth at h
 obtain ⟨u1, h2, h⟩ := andThen_some h
 rcases fork_some h with ⟨h3, h⟩ | ⟨h3, h⟩
 ·injection h with h; subst h
  exact env.fun func72 can72 (its := [.call [none, none] [] [] true (tree_is_R a0 a1 u1) (tree_is_O a0 a1 u1), b1]) (pos := s0) (.c (tree_is_ok a0 a1 u1 h2) (.c h3 .n)) (by kernel_rfl)
 ·obtain ⟨u4, h5, h⟩ := andThen_some h
  injection h with h; subst h
  exact env.fun func72 can72 (its := [.call [none, none] [] [] true (tree_is_R a0 a1 u1) (tree_is_O a0 a1 u1), b0, .call [none, none] [] [] true (tree_sides_R a0 a1 u4) (tree_sides_O a0 a1 u4)]) (pos := s0) (.c (tree_is_ok a0 a1 u1 h2) (.c h3 (.c (tree_sides_ok a0 a1 u4 h5) .n))) (by kernel_rfl)
theorem can53 : Callable prog 53 := ⟨_, func53, by kernel_rfl, by kernel_rfl⟩
def tree_Up_1_in (x0 : List (B8)) (x1 : Int) (x2 : Int) (x3 : B8) (x4 : B8) (x5 : List Bool) : St := ⟨[(8, (.ptr 0 [])), (10, (.ptr 1 [])), (11, (.own 2 [])), (33, (.v (.slice Yh) x0)), (34, (.v (.int .i64) x1)), (35, (.v (.int .i64) x2))], [.box Yh (.v Yh x3) true, .box Yh (.v Yh x4) true, .row .bool x5 true], 56, 0⟩
def tree_Up_1_ex (o : B8 × B8) : Exit := (.exit 0)
def tree_Up_1_st (o : B8 × B8) : St := ⟨[(8, (.ptr 0 [])), (10, (.ptr 1 []))], [.box Yh (.v Yh o.1) true, .box Yh (.v Yh o.2) true], 56, 0⟩
theorem tree_Up_1_body (x0 : List (B8)) (x1 : Int) (x2 : Int) (x3 : B8) (x4 : B8) (x5 : List Bool) : ∀ r, tree_Up_1_step x0 x1 x2 x3 x4 x5 = some r → (match r with | .inl s => CodeOK prog (codeAt (bodyOf f53) [1, 1, 1, 1, 0, 1, 0, 0]) (tree_Up_1_in x0 x1 x2 x3 x4 x5) .normal (tree_Up_1_in x0 x1 s.1 x3 s.2 x5) | .inr o => tree_Up_1_ex o ≠ .normal ∧ CodeOK prog (codeAt (bodyOf f53) [1, 1, 1, 1, 0, 1, 0, 0]) (tree_Up_1_in x0 x1 x2 x3 x4 x5) (tree_Up_1_ex o) (tree_Up_1_st o)) := by
 intro r h
 unfold tree_Up_1_step at h
 rcases fork_some h with ⟨h12, h⟩ | ⟨h12, h⟩
 ·obtain ⟨h13, h⟩ := need_some h
  obtain ⟨h14, h⟩ := need_some h
  rcases fork_some h with ⟨h15, h⟩ | ⟨h15, h⟩
  ·obtain ⟨u16, h17, h⟩ := andThen_some h
   injection h with h; subst h
   exact env.code (its := [b1, b1, .call [none, none] [] [] true (tree_inner_R x4 (List.getD x0 (Int.toNat x2) Z32) u16) (tree_inner_O x4 (List.getD x0 (Int.toNat x2) Z32) u16), .sel [8, 10, 11, 33, 34, 35] [0, 1, 2]]) (.c h12 (.c h13 (.c h14 (.c h15 (.c (tree_inner_ok x4 (List.getD x0 (Int.toNat x2) Z32) u16 h17) .n))))) (by kernel_rfl)
  ·obtain ⟨u18, h19, h⟩ := andThen_some h
   injection h with h; subst h
   exact env.code (its := [b1, b0, .call [none, none] [] [] true (tree_inner_R (List.getD x0 (Int.toNat x2) Z32) x4 u18) (tree_inner_O (List.getD x0 (Int.toNat x2) Z32) x4 u18), .sel [8, 10, 11, 33, 34, 35] [0, 1, 2]]) (.c h12 (.c h13 (.c h14 (.c h15 (.c (tree_inner_ok (List.getD x0 (Int.toNat x2) Z32) x4 u18 h19) .n))))) (by kernel_rfl)
 ·injection h with h; subst h
  exact ⟨by intro e; simp [tree_Up_1_ex] at e, env.code (its := [b0, .sel [8, 10] [0, 1]]) (.c h12 .n) (by kernel_rfl)⟩
theorem tree_Up_1_ok (x0 : List (B8)) (x1 : Int) (x2 : Int) (x3 : B8) (x4 : B8) (x5 : List Bool) (o : B8 × B8) (h : tree_Up_1 x0 x1 x2 x3 x4 x5 = some o) : CodeOK prog (codeAt (bodyOf f53) [1, 1, 1, 1, 0, 1, 0]) (tree_Up_1_in x0 x1 x2 x3 x4 x5) (tree_Up_1_ex o) (tree_Up_1_st o) :=
 LoopOK.of_step (st := fun s => tree_Up_1_in x0 x1 s.1 x3 s.2 x5) (ex := tree_Up_1_ex) (stO := tree_Up_1_st) (fun s s2 hs => tree_Up_1_body x0 x1 s.1 x3 s.2 x5 (.inl s2) hs) (fun s r hs => tree_Up_1_body x0 x1 s.1 x3 s.2 x5 (.inr r) hs) _ o h
def tree_Up_R (a0 : B8) (a1 : Int) (a2 : Int) (a3 : List (B8)) (u : B8 × Bool) : Slot := (.tup (.v Yh u.1) (.tup (.v .bool u.2) .tnil))
def tree_Up_O (a0 : B8) (a1 : Int) (a2 : Int) (a3 : List (B8)) (u : B8 × Bool) : List AObj := []
theorem tree_Up_ok (a0 : B8) (a1 : Int) (a2 : Int) (a3 : List (B8)) (u : B8 × Bool) (h : tree_Up a0 a1 a2 a3 = some u) : CallC prog 53 [(.v Yb a0), (.v (.int .i64) a1), (.v (.int .i64) a2), (.v (.slice Yh) a3)] [] (tree_Up_R a0 a1 a2 a3 u) (tree_Up_O a0 a1 a2 a3 u) := by
 unfold tree_Up at h
 obtain ⟨u1, h2, h⟩ := andThen_some h
 rcases fork_some h with ⟨h3, h⟩ | ⟨h3, h⟩
 ·injection h with h; subst h
  exact env.fun func53 can53 (its := [.call [none, none] [] [] true (tree_is_R a1 a2 u1) (tree_is_O a1 a2 u1), b1, b1, b1, b1, b1, b1, b1, b1]) (pos := s0) (.c (tree_is_ok a1 a2 u1 h2) (.c h3 (.c h3 (.c h3 (.c h3 (.c h3 (.c h3 (.c h3 (.c r1 .n))))))))) (by kernel_rfl)
 ·obtain ⟨u4, h5, h⟩ := andThen_some h
  rcases fork_some h with ⟨h6, h⟩ | ⟨h6, h⟩
  ·injection h with h; subst h
   exact env.fun func53 can53 (its := [.call [none, none] [] [] true (tree_is_R a1 a2 u1) (tree_is_O a1 a2 u1), b0, b0, b0, b0, b0, .call [none, none] [] [] true (tree_Depth_R a1 a2 u4) (tree_Depth_O a1 a2 u4), b0, b0, b1]) (pos := s0) (.c (tree_is_ok a1 a2 u1 h2) (.c h3 (.c h3 (.c h3 (.c h3 (.c h3 (.c (tree_Depth_ok a1 a2 u4 h5) (.c h3 (.c h3 (.c h6 .n)))))))))) (by kernel_rfl)
  ·obtain ⟨u7, h8, h⟩ := andThen_some h
   obtain ⟨u9, h10, h⟩ := andThen_some h
   obtain ⟨o20, h21, h⟩ := andThen_some h
   injection h with h; subst h
   exact env.fun func53 can53 (its := [.call [none, none] [] [] true (tree_is_R a1 a2 u1) (tree_is_O a1 a2 u1), b0, b0, b0, b0, b0, .call [none, none] [] [] true (tree_Depth_R a1 a2 u4) (tree_Depth_O a1 a2 u4), b0, b0, b0, .call [none] [] [1] true (tree_Root_R ([a0] : List (B8)) u7) (tree_Root_O ([a0] : List (B8)) u7), .call [none, none] [] [] true (tree_sides_R a1 a2 u9) (tree_sides_O a1 a2 u9), .dive, .sel [8, 10, 11, 33, 34, 35] [0, 2, 3], .part (tree_Up_1_ex o20) (tree_Up_1_st o20)]) (pos := s0) (.c (tree_is_ok a1 a2 u1 h2) (.c h3 (.c h3 (.c h3 (.c h3 (.c h3 (.c (tree_Depth_ok a1 a2 u4 h5) (.c h3 (.c h3 (.c h6 (.c (tree_Root_ok ([a0] : List (B8)) u7 h8) (.c (tree_sides_ok a1 a2 u9 h10) (.c (tree_Up_1_ok a3 (List.length a3 : Int) (0 : Int) Z32 u7 u9 o20 h21) .n))))))))))))) (by kernel_rfl)
theorem can54 : Callable prog 54 := ⟨_, func54, by kernel_rfl, by kernel_rfl⟩
def check_whole_R (a0 : Int) (a1 : B8) (u : B8) : Slot := (.v Yh u)
def check_whole_O (a0 : Int) (a1 : B8) (u : B8) : List AObj := []
theorem check_whole_ok (a0 : Int) (a1 : B8) (u : B8) (h : check_whole a0 a1 = some u) : CallC prog 54 [(.v (.int .i64) a0), (.v Yh a1)] [] (check_whole_R a0 a1 u) (check_whole_O a0 a1 u) := by
 unfold check_whole at h
 obtain ⟨u1, h2, h⟩ := andThen_some h
 obtain ⟨u3, h4, h⟩ := andThen_some h
 injection h with h; subst h
 exact env.fun func54 can54 (its := [.pre p25, .call [none] [] [0] true (vint_Put_R ([a0] : List (Int)) u1) (vint_Put_O ([a0] : List (Int)) u1), b1, .asis, .call [none, none] [] [0] true (sha_Tagged_R (83 : UInt8) ([u1, a1] : List (B8)) u3) (sha_Tagged_O (83 : UInt8) ([u1, a1] : List (B8)) u3)]) (pos := s0) (.c (vint_Put_ok ([a0] : List (Int)) u1 h2) (.c (rfl : ([.row Yb ([u1, a1] : List (B8)) true] : List AObj) = [.row Yb ([u1, a1] : List (B8)) true]) (.c (sha_Tagged_ok (83 : UInt8) ([u1, a1] : List (B8)) u3 h4) .n))) (by kernel_rfl)
theorem can21 : Callable prog 21 := ⟨_, func21, by kernel_rfl, by kernel_rfl⟩
def check_Sound_1_in (x0 : List (T18c3)) (x1 : Int) (x2 : Int) (x3 : B8) (x4 : T20c7) : St := ⟨[(2, (.ptr 0 [])), (3, (.ptr 1 [])), (57, (.v (.slice Y18c3) x0)), (58, (.v (.int .i64) x1)), (59, (.v (.int .i64) x2))], [.box Yh (.v Yh x3) true, .box Y20c7 (.v Y20c7 x4) true], 92, 0⟩
def check_Sound_1_ex (o : (Unit) ⊕ (Unit)) : Exit := match o with | (.inl o) => (.goto 0) | (.inr o) => (.exit 0)
def check_Sound_1_st (o : (Unit) ⊕ (Unit)) : St := match o with | (.inl o) => ⟨[], [], 92, 0⟩ | (.inr o) => ⟨[], [], 92, 0⟩
theorem check_Sound_1_body (x0 : List (T18c3)) (x1 : Int) (x2 : Int) (x3 : B8) (x4 : T20c7) : ∀ r, check_Sound_1_step x0 x1 x2 x3 x4 = some r → (match r with | .inl s => CodeOK prog (codeAt (bodyOf f21) [1, 0, 1, 1, 1, 1, 0, 1, 0, 0]) (check_Sound_1_in x0 x1 x2 x3 x4) .normal (check_Sound_1_in x0 x1 s x3 x4) | .inr o => check_Sound_1_ex o ≠ .normal ∧ CodeOK prog (codeAt (bodyOf f21) [1, 0, 1, 1, 1, 1, 0, 1, 0, 0]) (check_Sound_1_in x0 x1 x2 x3 x4) (check_Sound_1_ex o) (check_Sound_1_st o)) := by
 intro r h
 unfold check_Sound_1_step at h
 rcases fork_some h with ⟨h14, h⟩ | ⟨h14, h⟩
 ·obtain ⟨h15, h⟩ := need_some h
  obtain ⟨u16, h17, h⟩ := andThen_some h
  obtain ⟨h18, h⟩ := need_some h
  obtain ⟨u19, h20, h⟩ := andThen_some h
  rcases fork_some h with ⟨h21, h⟩ | ⟨h21, h⟩
  ·injection h with h; subst h
   exact ⟨by intro e; simp [check_Sound_1_ex] at e, env.code (its := [b1, .pre p26, .call [none] [] [] true (kv_Leaf_R (List.getD x0 (Int.toNat x2) Z18c3) u16) (kv_Leaf_O (List.getD x0 (Int.toNat x2) Z18c3) u16), .asis, .call [none, none, none, none] [] [0] true (tree_Up_R u16 (w64 (x4.2.1 + x2)) x4.1 (List.getD x4.2.2.2.1 (Int.toNat x2) ([] : List (B8))) u19) (tree_Up_O u16 (w64 (x4.2.1 + x2)) x4.1 (List.getD x4.2.2.2.1 (Int.toNat x2) ([] : List (B8))) u19), .pre p27, b1, b1, b1, b1, b1, b1, b1, b1, .sel [] []]) (.c h14 (.c h15 (.c (kv_Leaf_ok (List.getD x0 (Int.toNat x2) Z18c3) u16 h17) (.c h18 (.c (rfl : ([.row (.int .u8) u16 true] : List AObj) = [.row (.int .u8) u16 true]) (.c (tree_Up_ok u16 (w64 (x4.2.1 + x2)) x4.1 (List.getD x4.2.2.2.1 (Int.toNat x2) ([] : List (B8))) u19 h20) (.c h21 (.c h21 (.c h21 (.c h21 (.c h21 (.c h21 (.c h21 (.c r1 .n)))))))))))))) (by kernel_rfl)⟩
  ·obtain ⟨u22, h23, h⟩ := andThen_some h
   rcases fork_some h with ⟨h24, h⟩ | ⟨h24, h⟩
   ·injection h with h; subst h
    exact ⟨by intro e; simp [check_Sound_1_ex] at e, env.code (its := [b1, .pre p26, .call [none] [] [] true (kv_Leaf_R (List.getD x0 (Int.toNat x2) Z18c3) u16) (kv_Leaf_O (List.getD x0 (Int.toNat x2) Z18c3) u16), .asis, .call [none, none, none, none] [] [0] true (tree_Up_R u16 (w64 (x4.2.1 + x2)) x4.1 (List.getD x4.2.2.2.1 (Int.toNat x2) ([] : List (B8))) u19) (tree_Up_O u16 (w64 (x4.2.1 + x2)) x4.1 (List.getD x4.2.2.2.1 (Int.toNat x2) ([] : List (B8))) u19), .pre p27, b0, b0, b0, b0, .asis, .call [none, none] [] [] true (check_whole_R x4.1 u19.1 u22) (check_whole_O x4.1 u19.1 u22), b0, b0, b0, b1, .sel [] []]) (.c h14 (.c h15 (.c (kv_Leaf_ok (List.getD x0 (Int.toNat x2) Z18c3) u16 h17) (.c h18 (.c (rfl : ([.row (.int .u8) u16 true] : List AObj) = [.row (.int .u8) u16 true]) (.c (tree_Up_ok u16 (w64 (x4.2.1 + x2)) x4.1 (List.getD x4.2.2.2.1 (Int.toNat x2) ([] : List (B8))) u19 h20) (.c h21 (.c h21 (.c h21 (.c h21 (.c rn (.c (check_whole_ok x4.1 u19.1 u22 h23) (.c h21 (.c h21 (.c h21 (.c h24 .n)))))))))))))))) (by kernel_rfl)⟩
   ·injection h with h; subst h
    exact env.code (its := [b1, .pre p26, .call [none] [] [] true (kv_Leaf_R (List.getD x0 (Int.toNat x2) Z18c3) u16) (kv_Leaf_O (List.getD x0 (Int.toNat x2) Z18c3) u16), .asis, .call [none, none, none, none] [] [0] true (tree_Up_R u16 (w64 (x4.2.1 + x2)) x4.1 (List.getD x4.2.2.2.1 (Int.toNat x2) ([] : List (B8))) u19) (tree_Up_O u16 (w64 (x4.2.1 + x2)) x4.1 (List.getD x4.2.2.2.1 (Int.toNat x2) ([] : List (B8))) u19), .pre p27, b0, b0, b0, b0, .asis, .call [none, none] [] [] true (check_whole_R x4.1 u19.1 u22) (check_whole_O x4.1 u19.1 u22), b0, b0, b0, b0, .sel [2, 3, 57, 58, 59] [0, 1]]) (.c h14 (.c h15 (.c (kv_Leaf_ok (List.getD x0 (Int.toNat x2) Z18c3) u16 h17) (.c h18 (.c (rfl : ([.row (.int .u8) u16 true] : List AObj) = [.row (.int .u8) u16 true]) (.c (tree_Up_ok u16 (w64 (x4.2.1 + x2)) x4.1 (List.getD x4.2.2.2.1 (Int.toNat x2) ([] : List (B8))) u19 h20) (.c h21 (.c h21 (.c h21 (.c h21 (.c rn (.c (check_whole_ok x4.1 u19.1 u22 h23) (.c h21 (.c h21 (.c h21 (.c h24 .n)))))))))))))))) (by kernel_rfl)
 ·injection h with h; subst h
  exact ⟨by intro e; simp [check_Sound_1_ex] at e, env.code (its := [b0, .sel [] []]) (.c h14 .n) (by kernel_rfl)⟩
theorem check_Sound_1_ok (x0 : List (T18c3)) (x1 : Int) (x2 : Int) (x3 : B8) (x4 : T20c7) (o : (Unit) ⊕ (Unit)) (h : check_Sound_1 x0 x1 x2 x3 x4 = some o) : CodeOK prog (codeAt (bodyOf f21) [1, 0, 1, 1, 1, 1, 0, 1, 0]) (check_Sound_1_in x0 x1 x2 x3 x4) (check_Sound_1_ex o) (check_Sound_1_st o) :=
 LoopOK.of_step (st := fun s => check_Sound_1_in x0 x1 s x3 x4) (ex := check_Sound_1_ex) (stO := check_Sound_1_st) (fun s s2 hs => check_Sound_1_body x0 x1 s x3 x4 (.inl s2) hs) (fun s r hs => check_Sound_1_body x0 x1 s x3 x4 (.inr r) hs) _ o h
def check_Sound_R (a0 : B8) (a1 : T20c7) (u : Bool) : Slot := (.v .bool u)
def check_Sound_O (a0 : B8) (a1 : T20c7) (u : Bool) : List AObj := []
theorem check_Sound_ok (a0 : B8) (a1 : T20c7) (u : Bool) (h : check_Sound a0 a1 = some u) : CallC prog 21 [(.v Yh a0), (.v Y20c7 a1)] [] (check_Sound_R a0 a1 u) (check_Sound_O a0 a1 u) := by
 unfold check_Sound at h
 rcases fork_some h with ⟨h1, h⟩ | ⟨h1, h⟩
 ·injection h with h; subst h
  exact env.fun func21 can21 (its := [b1, b1, b1, b1, b1, b1, b1, b1, b1, b1, b1, b1, b1, b1, b1, b1, b1, b1, b1, b1, b1, b1, b1, b1, b1, b1, b1, b1]) (pos := s0) (.c h1 (.c h1 (.c h1 (.c h1 (.c r1 (.c r1 (.c r1 (.c r1 (.c r1 (.c r1 (.c r1 (.c r1 (.c r1 (.c r1 (.c r1 (.c r1 (.c r1 (.c r1 (.c r1 (.c r1 (.c r1 (.c r1 (.c r1 (.c r1 (.c r1 (.c r1 (.c r1 (.c r1 .n)))))))))))))))))))))))))))) (by kernel_rfl)
 ·rcases fork_some h with ⟨h2, h⟩ | ⟨h2, h⟩
  ·injection h with h; subst h
   exact env.fun func21 can21 (its := [b0, b0, b0, b0, b1, b1, b1, b1, b1, b1, b1, b1, b1, b1, b1, b1, b1, b1, b1, b1, b1, b1, b1, b1, b1, b1, b1, b1]) (pos := s0) (.c h1 (.c h1 (.c h1 (.c h1 (.c h2 (.c h2 (.c h2 (.c h2 (.c h2 (.c h2 (.c r1 (.c r1 (.c r1 (.c r1 (.c r1 (.c r1 (.c r1 (.c r1 (.c r1 (.c r1 (.c r1 (.c r1 (.c r1 (.c r1 (.c r1 (.c r1 (.c r1 (.c r1 .n)))))))))))))))))))))))))))) (by kernel_rfl)
  ·rcases fork_some h with ⟨h3, h⟩ | ⟨h3, h⟩
   ·injection h with h; subst h
    exact env.fun func21 can21 (its := [b0, b0, b0, b0, b0, b0, b0, b0, b0, b0, b1, b1, b1, b1, b1, b1, b1, b1, b1, b1, b1, b1, b1, b1, b1, b1, b1, b1]) (pos := s0) (.c h1 (.c h1 (.c h1 (.c h1 (.c h2 (.c h2 (.c h2 (.c h2 (.c h2 (.c h2 (.c h3 (.c h3 (.c h3 (.c h3 (.c h3 (.c r1 (.c r1 (.c r1 (.c r1 (.c r1 (.c r1 (.c r1 (.c r1 (.c r1 (.c r1 (.c r1 (.c r1 (.c r1 .n)))))))))))))))))))))))))))) (by kernel_rfl)
   ·obtain ⟨u4, h5, h⟩ := andThen_some h
    rcases fork_some h with ⟨h6, h⟩ | ⟨h6, h⟩
    ·injection h with h; subst h
     exact env.fun func21 can21 (its := [b0, b0, b0, b0, b0, b0, b0, b0, b0, b0, b0, b0, b0, .call [none] [] [] true (kv_Right_R a1.2.2.1 u4) (kv_Right_O a1.2.2.1 u4), b0, b0, b1, b1, b1, b1, b1, b1, b1, b1, b1, b1, b1, b1, b1]) (pos := s0) (.c h1 (.c h1 (.c h1 (.c h1 (.c h2 (.c h2 (.c h2 (.c h2 (.c h2 (.c h2 (.c h3 (.c h3 (.c h3 (.c (kv_Right_ok a1.2.2.1 u4 h5) (.c h3 (.c h3 (.c h6 (.c h6 (.c h6 (.c h6 (.c r1 (.c r1 (.c r1 (.c r1 (.c r1 (.c r1 (.c r1 (.c r1 (.c r1 .n))))))))))))))))))))))))))))) (by kernel_rfl)
    ·rcases fork_some h with ⟨h7, h⟩ | ⟨h7, h⟩
     ·injection h with h; subst h
      exact env.fun func21 can21 (its := [b0, b0, b0, b0, b0, b0, b0, b0, b0, b0, b0, b0, b0, .call [none] [] [] true (kv_Right_R a1.2.2.1 u4) (kv_Right_O a1.2.2.1 u4), b0, b0, b0, b0, b0, b0, b1, b1, b1, b1, b1, b1, b1, b1, b1]) (pos := s0) (.c h1 (.c h1 (.c h1 (.c h1 (.c h2 (.c h2 (.c h2 (.c h2 (.c h2 (.c h2 (.c h3 (.c h3 (.c h3 (.c (kv_Right_ok a1.2.2.1 u4 h5) (.c h3 (.c h3 (.c h6 (.c h6 (.c h6 (.c h6 (.c h7 (.c h7 (.c h7 (.c h7 (.c h7 (.c h7 (.c h7 (.c h7 (.c r1 .n))))))))))))))))))))))))))))) (by kernel_rfl)
     ·rcases fork_some h with ⟨h8, h⟩ | ⟨h8, h⟩
      ·injection h with h; subst h
       exact env.fun func21 can21 (its := [b0, b0, b0, b0, b0, b0, b0, b0, b0, b0, b0, b0, b0, .call [none] [] [] true (kv_Right_R a1.2.2.1 u4) (kv_Right_O a1.2.2.1 u4), b0, b0, b0, b0, b0, b0, b0, b0, b0, b0, b0, b0, b0, b0, b1]) (pos := s0) (.c h1 (.c h1 (.c h1 (.c h1 (.c h2 (.c h2 (.c h2 (.c h2 (.c h2 (.c h2 (.c h3 (.c h3 (.c h3 (.c (kv_Right_ok a1.2.2.1 u4 h5) (.c h3 (.c h3 (.c h6 (.c h6 (.c h6 (.c h6 (.c h7 (.c h7 (.c h7 (.c h7 (.c h7 (.c h7 (.c h7 (.c h7 (.c h8 .n))))))))))))))))))))))))))))) (by kernel_rfl)
      ·rcases fork_some h with ⟨h9, h⟩ | ⟨h9, h⟩
       ·obtain ⟨u10, h11, h⟩ := andThen_some h
        injection h with h; subst h
        exact env.fun func21 can21 (its := [b0, b0, b0, b0, b0, b0, b0, b0, b0, b0, b0, b0, b0, .call [none] [] [] true (kv_Right_R a1.2.2.1 u4) (kv_Right_O a1.2.2.1 u4), b0, b0, b0, b0, b0, b0, b0, b0, b0, b0, b0, b0, b0, b0, b0, b1, .pre p28, .asis, .call [(some Y18c3)] [] [] true (store_Root_R ([] : List (T18c3)) u10) (store_Root_O ([] : List (T18c3)) u10)]) (pos := s0) (.c h1 (.c h1 (.c h1 (.c h1 (.c h2 (.c h2 (.c h2 (.c h2 (.c h2 (.c h2 (.c h3 (.c h3 (.c h3 (.c (kv_Right_ok a1.2.2.1 u4 h5) (.c h3 (.c h3 (.c h6 (.c h6 (.c h6 (.c h6 (.c h7 (.c h7 (.c h7 (.c h7 (.c h7 (.c h7 (.c h7 (.c h7 (.c h8 (.c h9 (.c rn (.c (store_Root_ok ([] : List (T18c3)) u10 h11) .n)))))))))))))))))))))))))))))))) (by kernel_rfl)
       ·rcases fork_some h with ⟨h12, h⟩ | ⟨h12, h⟩
        ·injection h with h; subst h
         exact env.fun func21 can21 (its := [b0, b0, b0, b0, b0, b0, b0, b0, b0, b0, b0, b0, b0, .call [none] [] [] true (kv_Right_R a1.2.2.1 u4) (kv_Right_O a1.2.2.1 u4), b0, b0, b0, b0, b0, b0, b0, b0, b0, b0, b0, b0, b0, b0, b0, b0, b1]) (pos := s0) (.c h1 (.c h1 (.c h1 (.c h1 (.c h2 (.c h2 (.c h2 (.c h2 (.c h2 (.c h2 (.c h3 (.c h3 (.c h3 (.c (kv_Right_ok a1.2.2.1 u4 h5) (.c h3 (.c h3 (.c h6 (.c h6 (.c h6 (.c h6 (.c h7 (.c h7 (.c h7 (.c h7 (.c h7 (.c h7 (.c h7 (.c h7 (.c h8 (.c h9 (.c h12 .n))))))))))))))))))))))))))))))) (by kernel_rfl)
        ·obtain ⟨o25, h26, h⟩ := andThen_some h
         rcases o25 with o27 | o28
         ·injection h with h; subst h
          exact env.fun func21 can21 (its := [b0, b0, b0, b0, b0, b0, b0, b0, b0, b0, b0, b0, b0, .call [none] [] [] true (kv_Right_R a1.2.2.1 u4) (kv_Right_O a1.2.2.1 u4), b0, b0, b0, b0, b0, b0, b0, b0, b0, b0, b0, b0, b0, b0, b0, b0, b0, .dive, .sel [2, 3, 57, 58, 59] [0, 1], .part (check_Sound_1_ex (.inl o27)) (check_Sound_1_st (.inl o27))]) (pos := s0) (.c h1 (.c h1 (.c h1 (.c h1 (.c h2 (.c h2 (.c h2 (.c h2 (.c h2 (.c h2 (.c h3 (.c h3 (.c h3 (.c (kv_Right_ok a1.2.2.1 u4 h5) (.c h3 (.c h3 (.c h6 (.c h6 (.c h6 (.c h6 (.c h7 (.c h7 (.c h7 (.c h7 (.c h7 (.c h7 (.c h7 (.c h7 (.c h8 (.c h9 (.c h12 (.c (check_Sound_1_ok a1.2.2.1 (List.length a1.2.2.1 : Int) (0 : Int) a0 a1 (.inl o27) h26) .n)))))))))))))))))))))))))))))))) (by kernel_rfl)
         ·injection h with h; subst h
          exact env.fun func21 can21 (its := [b0, b0, b0, b0, b0, b0, b0, b0, b0, b0, b0, b0, b0, .call [none] [] [] true (kv_Right_R a1.2.2.1 u4) (kv_Right_O a1.2.2.1 u4), b0, b0, b0, b0, b0, b0, b0, b0, b0, b0, b0, b0, b0, b0, b0, b0, b0, .dive, .sel [2, 3, 57, 58, 59] [0, 1], .part (check_Sound_1_ex (.inr o28)) (check_Sound_1_st (.inr o28))]) (pos := s0) (.c h1 (.c h1 (.c h1 (.c h1 (.c h2 (.c h2 (.c h2 (.c h2 (.c h2 (.c h2 (.c h3 (.c h3 (.c h3 (.c (kv_Right_ok a1.2.2.1 u4 h5) (.c h3 (.c h3 (.c h6 (.c h6 (.c h6 (.c h6 (.c h7 (.c h7 (.c h7 (.c h7 (.c h7 (.c h7 (.c h7 (.c h7 (.c h8 (.c h9 (.c h12 (.c (check_Sound_1_ok a1.2.2.1 (List.length a1.2.2.1 : Int) (0 : Int) a0 a1 (.inr o28) h26) .n)))))))))))))))))))))))))))))))) (by kernel_rfl)
def bytealg_cmpstring_R (a0 a1 : B8) (u : Int) : Slot := .v (.int .i64) u
def bytealg_cmpstring_O (a0 a1 : B8) (u : Int) : List AObj := []
theorem bytealg_cmpstring_ok (a0 a1 : B8) (u : Int) (h : bytealg_cmpstring a0 a1 = some u) : CallC prog 83 [.v .str a0, .v .str a1] [] (bytealg_cmpstring_R a0 a1 u) (bytealg_cmpstring_O a0 a1 u) := by
 injection h with h; subst h
 exact CallC.cmp ⟨func83, by kernel_rfl, by kernel_rfl, by kernel_rfl, by kernel_rfl⟩ a0 a1
theorem can78 : Callable prog 78 := ⟨_, func78, by kernel_rfl, by kernel_rfl⟩
def bytealg_CompareString_R (a0 : B8) (a1 : B8) (u : Int) : Slot := (.v (.int .i64) u)
def bytealg_CompareString_O (a0 : B8) (a1 : B8) (u : Int) : List AObj := []
theorem bytealg_CompareString_ok (a0 : B8) (a1 : B8) (u : Int) (h : bytealg_CompareString a0 a1 = some u) : CallC prog 78 [(.v .str a0), (.v .str a1)] [] (bytealg_CompareString_R a0 a1 u) (bytealg_CompareString_O a0 a1 u) := by
 unfold bytealg_CompareString at h
 obtain ⟨u1, h2, h⟩ := andThen_some h
 injection h with h; subst h
 exact env.fun func78 can78 (its := [.call [none, none] [] [] true (bytealg_cmpstring_R a0 a1 u1) (bytealg_cmpstring_O a0 a1 u1)]) (pos := s0) (.c (bytealg_cmpstring_ok a0 a1 u1 h2) .n) (by kernel_rfl)
theorem can64 : Callable prog 64 := ⟨_, func64, by kernel_rfl, by kernel_rfl⟩
def strings_Compare_R (a0 : B8) (a1 : B8) (u : Int) : Slot := (.v (.int .i64) u)
def strings_Compare_O (a0 : B8) (a1 : B8) (u : Int) : List AObj := []
theorem strings_Compare_ok (a0 : B8) (a1 : B8) (u : Int) (h : strings_Compare a0 a1 = some u) : CallC prog 64 [(.v .str a0), (.v .str a1)] [] (strings_Compare_R a0 a1 u) (strings_Compare_O a0 a1 u) := by
 unfold strings_Compare at h
 obtain ⟨u1, h2, h⟩ := andThen_some h
 injection h with h; subst h
 exact env.fun func64 can64 (its := [.call [none, none] [] [] true (bytealg_CompareString_R a0 a1 u1) (bytealg_CompareString_O a0 a1 u1)]) (pos := s0) (.c (bytealg_CompareString_ok a0 a1 u1 h2) .n) (by kernel_rfl)
theorem can63 : Callable prog 63 := ⟨_, func63, by kernel_rfl, by kernel_rfl⟩
def kv_placeF1_R (a0 : T18c3) (a1 : B8) (u : Int) : Slot := (.v (.int .i64) u)
def kv_placeF1_O (a0 : T18c3) (a1 : B8) (u : Int) : List AObj := []
theorem kv_placeF1_ok (a0 : T18c3) (a1 : B8) (u : Int) (h : kv_placeF1 a0 a1 = some u) : CallC prog 63 [(.v Y18c3 a0), (.v .str a1)] [] (kv_placeF1_R a0 a1 u) (kv_placeF1_O a0 a1 u) := by
 unfold kv_placeF1 at h
 obtain ⟨u1, h2, h⟩ := andThen_some h
 injection h with h; subst h
 exact env.fun func63 can63 (its := [.call [none, none] [] [] true (strings_Compare_R a0.1 a1 u1) (strings_Compare_O a0.1 a1 u1)]) (pos := s0) (.c (strings_Compare_ok a0.1 a1 u1 h2) .n) (by kernel_rfl)
theorem can62 : Callable prog 62 := ⟨_, func62, by kernel_rfl, by kernel_rfl⟩
def slices_BinarySearchFunc_LPair_Pair_string_1a7a_1_in (x0 : List (T18c3)) (x1 : B8) (x2 : Int) (x3 : Int) (x4 : Int) : St := ⟨[(0, (.v (.slice Y18c3) x0)), (1, (.v .str x1)), (2, (.fn 63 .tnil)), (8, (.v (.int .i64) x2)), (9, (.v (.int .i64) x3)), (10, (.v (.int .i64) x4))], [], 49, 0⟩
def slices_BinarySearchFunc_LPair_Pair_string_1a7a_1_ex (o : (List (T18c3)) × B8 × Int × Int) : Exit := (.exit 0)
def slices_BinarySearchFunc_LPair_Pair_string_1a7a_1_st (o : (List (T18c3)) × B8 × Int × Int) : St := ⟨[(0, (.v (.slice Y18c3) o.1)), (1, (.v .str o.2.1)), (2, (.fn 63 .tnil)), (8, (.v (.int .i64) o.2.2.1)), (9, (.v (.int .i64) o.2.2.2))], [], 49, 0⟩
theorem slices_BinarySearchFunc_LPair_Pair_string_1a7a_1_body (x0 : List (T18c3)) (x1 : B8) (x2 : Int) (x3 : Int) (x4 : Int) : ∀ r, slices_BinarySearchFunc_LPair_Pair_string_1a7a_1_step x0 x1 x2 x3 x4 = some r → (match r with | .inl s => CodeOK prog (codeAt (bodyOf f62) [1, 1, 1, 0, 0, 0]) (slices_BinarySearchFunc_LPair_Pair_string_1a7a_1_in x0 x1 x2 x3 x4) .normal (slices_BinarySearchFunc_LPair_Pair_string_1a7a_1_in x0 x1 x2 s.1 s.2) | .inr o => slices_BinarySearchFunc_LPair_Pair_string_1a7a_1_ex o ≠ .normal ∧ CodeOK prog (codeAt (bodyOf f62) [1, 1, 1, 0, 0, 0]) (slices_BinarySearchFunc_LPair_Pair_string_1a7a_1_in x0 x1 x2 x3 x4) (slices_BinarySearchFunc_LPair_Pair_string_1a7a_1_ex o) (slices_BinarySearchFunc_LPair_Pair_string_1a7a_1_st o)) := by
 intro r h
 unfold slices_BinarySearchFunc_LPair_Pair_string_1a7a_1_step at h
 rcases fork_some h with ⟨h2, h⟩ | ⟨h2, h⟩
 ·obtain ⟨h3, h⟩ := need_some h
  obtain ⟨u4, h5, h⟩ := andThen_some h
  rcases fork_some h with ⟨h6, h⟩ | ⟨h6, h⟩
  ·injection h with h; subst h
   exact env.code (its := [b1, .call [none, none] [] [] true (kv_placeF1_R (List.getD x0 (Int.toNat (w64 ((UInt64.toNat (UInt64.ofNat (UInt64.toNat (UInt64.ofNat (Int.toNat ((w64 (x3 + x4)) % 18446744073709551616))) >>> (Int.toNat (1 : Int)))) : Nat) : Int))) Z18c3) x1 u4) (kv_placeF1_O (List.getD x0 (Int.toNat (w64 ((UInt64.toNat (UInt64.ofNat (UInt64.toNat (UInt64.ofNat (Int.toNat ((w64 (x3 + x4)) % 18446744073709551616))) >>> (Int.toNat (1 : Int)))) : Nat) : Int))) Z18c3) x1 u4), b1, .sel [0, 1, 2, 8, 9, 10] []]) (.c h2 (.c (of_decide_eq_true (p := (0 ≤ (1 : Int))) (by kernel_rfl)) (.c h3 (.c (kv_placeF1_ok (List.getD x0 (Int.toNat (w64 ((UInt64.toNat (UInt64.ofNat (UInt64.toNat (UInt64.ofNat (Int.toNat ((w64 (x3 + x4)) % 18446744073709551616))) >>> (Int.toNat (1 : Int)))) : Nat) : Int))) Z18c3) x1 u4 h5) (.c h6 .n))))) (by kernel_rfl)
  ·injection h with h; subst h
   exact env.code (its := [b1, .call [none, none] [] [] true (kv_placeF1_R (List.getD x0 (Int.toNat (w64 ((UInt64.toNat (UInt64.ofNat (UInt64.toNat (UInt64.ofNat (Int.toNat ((w64 (x3 + x4)) % 18446744073709551616))) >>> (Int.toNat (1 : Int)))) : Nat) : Int))) Z18c3) x1 u4) (kv_placeF1_O (List.getD x0 (Int.toNat (w64 ((UInt64.toNat (UInt64.ofNat (UInt64.toNat (UInt64.ofNat (Int.toNat ((w64 (x3 + x4)) % 18446744073709551616))) >>> (Int.toNat (1 : Int)))) : Nat) : Int))) Z18c3) x1 u4), b0, .sel [0, 1, 2, 8, 9, 10] []]) (.c h2 (.c (of_decide_eq_true (p := (0 ≤ (1 : Int))) (by kernel_rfl)) (.c h3 (.c (kv_placeF1_ok (List.getD x0 (Int.toNat (w64 ((UInt64.toNat (UInt64.ofNat (UInt64.toNat (UInt64.ofNat (Int.toNat ((w64 (x3 + x4)) % 18446744073709551616))) >>> (Int.toNat (1 : Int)))) : Nat) : Int))) Z18c3) x1 u4 h5) (.c h6 .n))))) (by kernel_rfl)
 ·injection h with h; subst h
  exact ⟨by intro e; simp [slices_BinarySearchFunc_LPair_Pair_string_1a7a_1_ex] at e, env.code (its := [b0, .sel [0, 1, 2, 8, 9] []]) (.c h2 .n) (by kernel_rfl)⟩
theorem slices_BinarySearchFunc_LPair_Pair_string_1a7a_1_ok (x0 : List (T18c3)) (x1 : B8) (x2 : Int) (x3 : Int) (x4 : Int) (o : (List (T18c3)) × B8 × Int × Int) (h : slices_BinarySearchFunc_LPair_Pair_string_1a7a_1 x0 x1 x2 x3 x4 = some o) : CodeOK prog (codeAt (bodyOf f62) [1, 1, 1, 0, 0]) (slices_BinarySearchFunc_LPair_Pair_string_1a7a_1_in x0 x1 x2 x3 x4) (slices_BinarySearchFunc_LPair_Pair_string_1a7a_1_ex o) (slices_BinarySearchFunc_LPair_Pair_string_1a7a_1_st o) :=
 LoopOK.of_step (st := fun s => slices_BinarySearchFunc_LPair_Pair_string_1a7a_1_in x0 x1 x2 s.1 s.2) (ex := slices_BinarySearchFunc_LPair_Pair_string_1a7a_1_ex) (stO := slices_BinarySearchFunc_LPair_Pair_string_1a7a_1_st) (fun s s2 hs => slices_BinarySearchFunc_LPair_Pair_string_1a7a_1_body x0 x1 x2 s.1 s.2 (.inl s2) hs) (fun s r hs => slices_BinarySearchFunc_LPair_Pair_string_1a7a_1_body x0 x1 x2 s.1 s.2 (.inr r) hs) _ o h
def slices_BinarySearchFunc_LPair_Pair_string_1a7a_R (a0 : List (T18c3)) (a1 : B8) (u : Int × Bool) : Slot := (.tup (.v (.int .i64) u.1) (.tup (.v .bool u.2) .tnil))
def slices_BinarySearchFunc_LPair_Pair_string_1a7a_O (a0 : List (T18c3)) (a1 : B8) (u : Int × Bool) : List AObj := []
theorem slices_BinarySearchFunc_LPair_Pair_string_1a7a_ok (a0 : List (T18c3)) (a1 : B8) (u : Int × Bool) (h : slices_BinarySearchFunc_LPair_Pair_string_1a7a a0 a1 = some u) : CallC prog 62 [(.v (.slice Y18c3) a0), (.v .str a1), (.fn 63 .tnil)] [] (slices_BinarySearchFunc_LPair_Pair_string_1a7a_R a0 a1 u) (slices_BinarySearchFunc_LPair_Pair_string_1a7a_O a0 a1 u) := by
 unfold slices_BinarySearchFunc_LPair_Pair_string_1a7a at h
 obtain ⟨o7, h8, h⟩ := andThen_some h
 rcases fork_some h with ⟨h9, h⟩ | ⟨h9, h⟩
 ·obtain ⟨h10, h⟩ := need_some h
  obtain ⟨u11, h12, h⟩ := andThen_some h
  injection h with h; subst h
  exact env.fun func62 can62 (its := [.dive, .sel [0, 1, 2, 8, 9, 10] [], .part (slices_BinarySearchFunc_LPair_Pair_string_1a7a_1_ex o7) (slices_BinarySearchFunc_LPair_Pair_string_1a7a_1_st o7), b1, b1, b1, b1, b1, b1, b1, .call [none, none] [] [] true (kv_placeF1_R (List.getD o7.1 (Int.toNat o7.2.2.2) Z18c3) o7.2.1 u11) (kv_placeF1_O (List.getD o7.1 (Int.toNat o7.2.2.2) Z18c3) o7.2.1 u11), b1, b1]) (pos := s0) (.c (slices_BinarySearchFunc_LPair_Pair_string_1a7a_1_ok a0 a1 (List.length a0 : Int) (0 : Int) (List.length a0 : Int) o7 h8) (.c h9 (.c h9 (.c h9 (.c h9 (.c h10 (.c h9 (.c h9 (.c h9 (.c (kv_placeF1_ok (List.getD o7.1 (Int.toNat o7.2.2.2) Z18c3) o7.2.1 u11 h12) (.c h9 (.c h9 .n)))))))))))) (by kernel_rfl)
 ·injection h with h; subst h
  exact env.fun func62 can62 (its := [.dive, .sel [0, 1, 2, 8, 9, 10] [], .part (slices_BinarySearchFunc_LPair_Pair_string_1a7a_1_ex o7) (slices_BinarySearchFunc_LPair_Pair_string_1a7a_1_st o7), b0, b0, b0, b0, b0, b0, b0, b0, b0]) (pos := s0) (.c (slices_BinarySearchFunc_LPair_Pair_string_1a7a_1_ok a0 a1 (List.length a0 : Int) (0 : Int) (List.length a0 : Int) o7 h8) (.c h9 (.c h9 (.c h9 (.c h9 (.c h9 (.c h9 (.c h9 (.c h9 (.c h9 .n)))))))))) (by kernel_rfl)
theorem can40 : Callable prog 40 := ⟨_, func40, by kernel_rfl, by kernel_rfl⟩
def kv_place_R (a0 : List (T18c3)) (a1 : B8) (u : Int × Bool) : Slot := (.tup (.v (.int .i64) u.1) (.tup (.v .bool u.2) .tnil))
def kv_place_O (a0 : List (T18c3)) (a1 : B8) (u : Int × Bool) : List AObj := []
theorem kv_place_ok (a0 : List (T18c3)) (a1 : B8) (u : Int × Bool) (h : kv_place a0 a1 = some u) : CallC prog 40 [(.v (.slice Y18c3) a0), (.v .str a1)] [] (kv_place_R a0 a1 u) (kv_place_O a0 a1 u) := by
 unfold kv_place at h
 obtain ⟨u1, h2, h⟩ := andThen_some h
 injection h with h; subst h
 exact env.fun func40 can40 (its := [.call [none, none, none] [] [] true (slices_BinarySearchFunc_LPair_Pair_string_1a7a_R a0 a1 u1) (slices_BinarySearchFunc_LPair_Pair_string_1a7a_O a0 a1 u1)]) (pos := s0) (.c (slices_BinarySearchFunc_LPair_Pair_string_1a7a_ok a0 a1 u1 h2) .n) (by kernel_rfl)
theorem can38 : Callable prog 38 := ⟨_, func38, by kernel_rfl, by kernel_rfl⟩
def kv_First_R (a0 : List (T18c3)) (a1 : B8) (u : Int) : Slot := (.v (.int .i64) u)
def kv_First_O (a0 : List (T18c3)) (a1 : B8) (u : Int) : List AObj := []
theorem kv_First_ok (a0 : List (T18c3)) (a1 : B8) (u : Int) (h : kv_First a0 a1 = some u) : CallC prog 38 [(.v (.slice Y18c3) a0), (.v .str a1)] [] (kv_First_R a0 a1 u) (kv_First_O a0 a1 u) := by
 unfold kv_First at h
 obtain ⟨u1, h2, h⟩ := andThen_some h
 injection h with h; subst h
 exact env.fun func38 can38 (its := [.call [none, none] [] [] true (kv_place_R a0 a1 u1) (kv_place_O a0 a1 u1)]) (pos := s0) (.c (kv_place_ok a0 a1 u1 h2) .n) (by kernel_rfl)
theorem can39 : Callable prog 39 := ⟨_, func39, by kernel_rfl, by kernel_rfl⟩
def slices_Clone_LPair_Pair_R (a0 : List (T18c3)) (u : List (T18c3)) : Slot := .own 0 []
def slices_Clone_LPair_Pair_O (a0 : List (T18c3)) (u : List (T18c3)) : List AObj := [.row Y18c3 u true]
theorem slices_Clone_LPair_Pair_ok (a0 : List (T18c3)) (u : List (T18c3)) (h : slices_Clone_LPair_Pair a0 = some u) : CallC prog 39 [.v (.slice Y18c3) a0] [] (slices_Clone_LPair_Pair_R a0 u) (slices_Clone_LPair_Pair_O a0 u) := by
 unfold slices_Clone_LPair_Pair at h
 obtain ⟨h1, h⟩ := need_some h
 injection h with h; subst h
 rcases a0 with _ | ⟨x0, a0⟩
 ·exact env.funAny (r0 := codeAt (bodyOf f39) [0]) (r1 := codeAt (bodyOf f39) [1, 0, 0]) (x := codeAt (bodyOf f39) [1, 0, 1, 0]) (z := codeAt (bodyOf f39) [1, 1]) (t := 4) (r := (.own 0 [])) func39 can39 (i0 := [.sel [0] []]) (i1 := [.sel [0, 4] []]) (i2 := [.promote 2 Y18c3, .sel [2] [0]]) (i3 := [.sel [2] [1]]) (pos := s1) (st1 := ⟨[(0, (.v (.slice Y18c3) ([] : List (T18c3))))], [], 8, 0⟩) (st2 := ⟨[(0, (.v (.slice Y18c3) ([] : List (T18c3)))), (4, .anyb)], [], 8, 0⟩) (st3 := ⟨[(2, (.own 0 []))], [.row Y18c3 ([] : List (T18c3)) true], 8, 0⟩) (by kernel_rfl) (by kernel_rfl) (by kernel_rfl) (by kernel_rfl) (by kernel_rfl) (by kernel_rfl) (.c (show List.length ([] : List (T18c3)) + List.length ([] : List (T18c3)) ≤ 2147483648 from by first | decide | (simp at h1 ⊢; try omega)) .n) (by kernel_rfl) (by kernel_rfl) (by kernel_rfl)
 ·exact env.fun func39 can39 (its := [b0]) (pos := [.sel [1]]) (.c r0 (.c (show List.length ([] : List (T18c3)) + List.length (x0 :: a0) ≤ 2147483648 from by first | decide | (simp at h1 ⊢; try omega)) .n)) (by kernel_rfl)
theorem can12 : Callable prog 12 := ⟨_, func12, by kernel_rfl, by kernel_rfl⟩
def kv_Range_R (a0 : List (T18c3)) (a1 : B8) (a2 : B8) (u : List (T18c3)) : Slot := (.own 0 [])
def kv_Range_O (a0 : List (T18c3)) (a1 : B8) (a2 : B8) (u : List (T18c3)) : List AObj := [.row Y18c3 u true]
theorem kv_Range_ok (a0 : List (T18c3)) (a1 : B8) (a2 : B8) (u : List (T18c3)) (h : kv_Range a0 a1 a2 = some u) : CallC prog 12 [(.v (.slice Y18c3) a0), (.v .str a1), (.v .str a2)] [] (kv_Range_R a0 a1 a2 u) (kv_Range_O a0 a1 a2 u) := by
 unfold kv_Range at h
 obtain ⟨u1, h2, h⟩ := andThen_some h
 obtain ⟨u3, h4, h⟩ := andThen_some h
 obtain ⟨h5, h⟩ := need_some h
 obtain ⟨u6, h7, h⟩ := andThen_some h
 injection h with h; subst h
 exact env.fun func12 can12 (its := [.call [none, none] [] [] true (kv_First_R a0 a1 u1) (kv_First_O a0 a1 u1), .call [none, none] [] [] true (kv_First_R a0 a2 u3) (kv_First_O a0 a2 u3), b0, .call [none] [] [] true (slices_Clone_LPair_Pair_R (cutL a0 u1 (max u1 u3)) u6) (slices_Clone_LPair_Pair_O (cutL a0 u1 (max u1 u3)) u6)]) (pos := s1) (.c (kv_First_ok a0 a1 u1 h2) (.c (kv_First_ok a0 a2 u3 h4) (.c h5 (.c (slices_Clone_LPair_Pair_ok (cutL a0 u1 (max u1 u3)) u6 h7) .n)))) (by kernel_rfl)
theorem can34 : Callable prog 34 := ⟨_, func34, by kernel_rfl, by kernel_rfl⟩
def check_Range_R (a0 : B8) (a1 : B8) (a2 : B8) (a3 : T20c7) (u : (List (T18c3)) × Bool) : Slot := (.tup (.v (.slice Y18c3) u.1) (.tup (.v .bool u.2) .tnil))
def check_Range_O (a0 : B8) (a1 : B8) (a2 : B8) (a3 : T20c7) (u : (List (T18c3)) × Bool) : List AObj := []
theorem check_Range_ok (a0 : B8) (a1 : B8) (a2 : B8) (a3 : T20c7) (u : (List (T18c3)) × Bool) (h : check_Range a0 a1 a2 a3 = some u) : CallC prog 34 [(.v Yh a0), (.v .str a1), (.v .str a2), (.v Y20c7 a3)] [] (check_Range_R a0 a1 a2 a3 u) (check_Range_O a0 a1 a2 a3 u) := by
 unfold check_Range at h
 obtain ⟨u1, h2, h⟩ := andThen_some h
 rcases fork_some h with ⟨h3, h⟩ | ⟨h3, h⟩
 ·injection h with h; subst h
  exact env.fun func34 can34 (its := [.call [none, none] [] [] true (check_Sound_R a0 a3 u1) (check_Sound_O a0 a3 u1), b1]) (pos := [.vals (.slice Y18c3) [.bool], .sel []]) (.c (check_Sound_ok a0 a3 u1 h2) (.c h3 .n)) (by kernel_rfl)
 ·rcases fork_some h with ⟨h4, h⟩ | ⟨h4, h⟩
  ·injection h with h; subst h
   exact env.fun func34 can34 (its := [.call [none, none] [] [] true (check_Sound_R a0 a3 u1) (check_Sound_O a0 a3 u1), b0, b1]) (pos := [.vals (.slice Y18c3) [.bool], .sel []]) (.c (check_Sound_ok a0 a3 u1 h2) (.c h3 (.c h4 .n))) (by kernel_rfl)
  ·rcases fork_some h with ⟨h5, h⟩ | ⟨h5, h⟩
   ·rcases fork_some h with ⟨h6, h⟩ | ⟨h6, h⟩
    ·obtain ⟨u7, h8, h⟩ := andThen_some h
     injection h with h; subst h
     exact env.fun func34 can34 (its := [.call [none, none] [] [] true (check_Sound_R a0 a3 u1) (check_Sound_O a0 a3 u1), b0, b0, b1, b1, b1, b1, b1, b1, b1, b1, b1, b1, b1, b1, b1, b1, b1, b1, b1, b1, b1, b1, b0, b0, b0, b0, .call [none, none, none] [] [] true (kv_Range_R a3.2.2.1 a1 a2 u7) (kv_Range_O a3.2.2.1 a1 a2 u7)]) (pos := [.vals (.slice Y18c3) [.bool], .sel []]) (.c (check_Sound_ok a0 a3 u1 h2) (.c h3 (.c h4 (.c h5 (.c h5 (.c h5 (.c h5 (.c h5 (.c h5 (.c h5 (.c h5 (.c h6 (.c h6 (.c h6 (.c h6 (.c h6 (.c h6 (.c h6 (.c h6 (.c h6 (.c h6 (.c h6 (.c h6 (.c r0 (.c r0 (.c r0 (.c r0 (.c (kv_Range_ok a3.2.2.1 a1 a2 u7 h8) .n)))))))))))))))))))))))))))) (by kernel_rfl)
    ·obtain ⟨h9, h⟩ := need_some h
     rcases fork_some h with ⟨h10, h⟩ | ⟨h10, h⟩
     ·injection h with h; subst h
      exact env.fun func34 can34 (its := [.call [none, none] [] [] true (check_Sound_R a0 a3 u1) (check_Sound_O a0 a3 u1), b0, b0, b1, b1, b1, b1, b1, b1, b1, b1, b0, b0, b0, b0, b0, b0, b0, b0, b0, b0, b0, b0, b0, b0, b0, b1]) (pos := [.vals (.slice Y18c3) [.bool], .sel []]) (.c (check_Sound_ok a0 a3 u1 h2) (.c h3 (.c h4 (.c h5 (.c h5 (.c h5 (.c h5 (.c h5 (.c h5 (.c h5 (.c h5 (.c h6 (.c h6 (.c h6 (.c h6 (.c h6 (.c h9 (.c h6 (.c h6 (.c h6 (.c h6 (.c h6 (.c h6 (.c h6 (.c r0 (.c r0 (.c r0 (.c h10 .n)))))))))))))))))))))))))))) (by kernel_rfl)
     ·obtain ⟨u11, h12, h⟩ := andThen_some h
      injection h with h; subst h
      exact env.fun func34 can34 (its := [.call [none, none] [] [] true (check_Sound_R a0 a3 u1) (check_Sound_O a0 a3 u1), b0, b0, b1, b1, b1, b1, b1, b1, b1, b1, b0, b0, b0, b0, b0, b0, b0, b0, b0, b0, b0, b0, b0, b0, b0, b0, .call [none, none, none] [] [] true (kv_Range_R a3.2.2.1 a1 a2 u11) (kv_Range_O a3.2.2.1 a1 a2 u11)]) (pos := [.vals (.slice Y18c3) [.bool], .sel []]) (.c (check_Sound_ok a0 a3 u1 h2) (.c h3 (.c h4 (.c h5 (.c h5 (.c h5 (.c h5 (.c h5 (.c h5 (.c h5 (.c h5 (.c h6 (.c h6 (.c h6 (.c h6 (.c h6 (.c h9 (.c h6 (.c h6 (.c h6 (.c h6 (.c h6 (.c h6 (.c h6 (.c r0 (.c r0 (.c r0 (.c h10 (.c (kv_Range_ok a3.2.2.1 a1 a2 u11 h12) .n))))))))))))))))))))))))))))) (by kernel_rfl)
   ·obtain ⟨h13, h⟩ := need_some h
    rcases fork_some h with ⟨h14, h⟩ | ⟨h14, h⟩
    ·rcases fork_some h with ⟨h15, h⟩ | ⟨h15, h⟩
     ·injection h with h; subst h
      exact env.fun func34 can34 (its := [.call [none, none] [] [] true (check_Sound_R a0 a3 u1) (check_Sound_O a0 a3 u1), b0, b0, b0, b0, b0, b0, b0, b0, b0, b0, b1, b1, b1, b1, b1, b1, b1, b1, b1, b1, b1, b1, b1, b1, b1, b1]) (pos := [.vals (.slice Y18c3) [.bool], .sel []]) (.c (check_Sound_ok a0 a3 u1 h2) (.c h3 (.c h4 (.c h5 (.c h5 (.c h5 (.c h13 (.c h5 (.c h5 (.c h5 (.c h5 (.c h5 (.c h14 (.c h14 (.c h14 (.c h14 (.c h14 (.c h14 (.c h14 (.c h14 (.c h14 (.c h14 (.c h14 (.c h14 (.c h15 (.c h15 (.c h15 (.c r1 .n)))))))))))))))))))))))))))) (by kernel_rfl)
     ·obtain ⟨u16, h17, h⟩ := andThen_some h
      injection h with h; subst h
      exact env.fun func34 can34 (its := [.call [none, none] [] [] true (check_Sound_R a0 a3 u1) (check_Sound_O a0 a3 u1), b0, b0, b0, b0, b0, b0, b0, b0, b0, b0, b1, b1, b1, b1, b1, b1, b1, b1, b1, b1, b1, b1, b0, b0, b0, b0, .call [none, none, none] [] [] true (kv_Range_R a3.2.2.1 a1 a2 u16) (kv_Range_O a3.2.2.1 a1 a2 u16)]) (pos := [.vals (.slice Y18c3) [.bool], .sel []]) (.c (check_Sound_ok a0 a3 u1 h2) (.c h3 (.c h4 (.c h5 (.c h5 (.c h5 (.c h13 (.c h5 (.c h5 (.c h5 (.c h5 (.c h5 (.c h14 (.c h14 (.c h14 (.c h14 (.c h14 (.c h14 (.c h14 (.c h14 (.c h14 (.c h14 (.c h14 (.c h14 (.c h15 (.c h15 (.c h15 (.c r0 (.c (kv_Range_ok a3.2.2.1 a1 a2 u16 h17) .n))))))))))))))))))))))))))))) (by kernel_rfl)
    ·obtain ⟨h18, h⟩ := need_some h
     rcases fork_some h with ⟨h19, h⟩ | ⟨h19, h⟩
     ·injection h with h; subst h
      exact env.fun func34 can34 (its := [.call [none, none] [] [] true (check_Sound_R a0 a3 u1) (check_Sound_O a0 a3 u1), b0, b0, b0, b0, b0, b0, b0, b0, b0, b0, b0, b0, b0, b0, b0, b0, b0, b0, b0, b0, b0, b0, b1, b1, b1, b1]) (pos := [.vals (.slice Y18c3) [.bool], .sel []]) (.c (check_Sound_ok a0 a3 u1 h2) (.c h3 (.c h4 (.c h5 (.c h5 (.c h5 (.c h13 (.c h5 (.c h5 (.c h5 (.c h5 (.c h5 (.c h14 (.c h14 (.c h14 (.c h14 (.c h14 (.c h18 (.c h14 (.c h14 (.c h14 (.c h14 (.c h14 (.c h14 (.c h14 (.c h19 (.c h19 (.c h19 (.c r1 .n))))))))))))))))))))))))))))) (by kernel_rfl)
     ·rcases fork_some h with ⟨h20, h⟩ | ⟨h20, h⟩
      ·injection h with h; subst h
       exact env.fun func34 can34 (its := [.call [none, none] [] [] true (check_Sound_R a0 a3 u1) (check_Sound_O a0 a3 u1), b0, b0, b0, b0, b0, b0, b0, b0, b0, b0, b0, b0, b0, b0, b0, b0, b0, b0, b0, b0, b0, b0, b0, b0, b0, b1]) (pos := [.vals (.slice Y18c3) [.bool], .sel []]) (.c (check_Sound_ok a0 a3 u1 h2) (.c h3 (.c h4 (.c h5 (.c h5 (.c h5 (.c h13 (.c h5 (.c h5 (.c h5 (.c h5 (.c h5 (.c h14 (.c h14 (.c h14 (.c h14 (.c h14 (.c h18 (.c h14 (.c h14 (.c h14 (.c h14 (.c h14 (.c h14 (.c h14 (.c h19 (.c h19 (.c h19 (.c h20 .n))))))))))))))))))))))))))))) (by kernel_rfl)
      ·obtain ⟨u21, h22, h⟩ := andThen_some h
       injection h with h; subst h
       exact env.fun func34 can34 (its := [.call [none, none] [] [] true (check_Sound_R a0 a3 u1) (check_Sound_O a0 a3 u1), b0, b0, b0, b0, b0, b0, b0, b0, b0, b0, b0, b0, b0, b0, b0, b0, b0, b0, b0, b0, b0, b0, b0, b0, b0, b0, .call [none, none, none] [] [] true (kv_Range_R a3.2.2.1 a1 a2 u21) (kv_Range_O a3.2.2.1 a1 a2 u21)]) (pos := [.vals (.slice Y18c3) [.bool], .sel []]) (.c (check_Sound_ok a0 a3 u1 h2) (.c h3 (.c h4 (.c h5 (.c h5 (.c h5 (.c h13 (.c h5 (.c h5 (.c h5 (.c h5 (.c h5 (.c h14 (.c h14 (.c h14 (.c h14 (.c h14 (.c h18 (.c h14 (.c h14 (.c h14 (.c h14 (.c h14 (.c h14 (.c h14 (.c h19 (.c h19 (.c h19 (.c h20 (.c (kv_Range_ok a3.2.2.1 a1 a2 u21 h22) .n)))))))))))))))))))))))))))))) (by kernel_rfl)
theorem can35 : Callable prog 35 := ⟨_, func35, by kernel_rfl, by kernel_rfl⟩
def slices_Equal_LPair_Pair_1_in (x0 : List (T18c3)) (x1 : List (T18c3)) (x2 : Int) (x3 : Int) : St := ⟨[(0, (.v (.slice Y18c3) x0)), (1, (.v (.slice Y18c3) x1)), (12, (.v (.int .i64) x2)), (13, (.v (.int .i64) x3))], [], 26, 0⟩
def slices_Equal_LPair_Pair_1_ex (o : (Bool) ⊕ (Unit)) : Exit := match o with | (.inl o) => .ret | (.inr o) => (.exit 0)
def slices_Equal_LPair_Pair_1_st (o : (Bool) ⊕ (Unit)) : St := match o with | (.inl o) => ⟨[(4, (.v .bool o))], [], 26, 0⟩ | (.inr o) => ⟨[], [], 26, 0⟩
theorem slices_Equal_LPair_Pair_1_body (x0 : List (T18c3)) (x1 : List (T18c3)) (x2 : Int) (x3 : Int) : ∀ r, slices_Equal_LPair_Pair_1_step x0 x1 x2 x3 = some r → (match r with | .inl s => CodeOK prog (codeAt (bodyOf f35) [1, 1, 0, 1, 0, 0]) (slices_Equal_LPair_Pair_1_in x0 x1 x2 x3) .normal (slices_Equal_LPair_Pair_1_in x0 x1 x2 s) | .inr o => slices_Equal_LPair_Pair_1_ex o ≠ .normal ∧ CodeOK prog (codeAt (bodyOf f35) [1, 1, 0, 1, 0, 0]) (slices_Equal_LPair_Pair_1_in x0 x1 x2 x3) (slices_Equal_LPair_Pair_1_ex o) (slices_Equal_LPair_Pair_1_st o)) := by
 intro r h
 unfold slices_Equal_LPair_Pair_1_step at h
 rcases fork_some h with ⟨h3, h⟩ | ⟨h3, h⟩
 ·obtain ⟨h4, h⟩ := need_some h
  obtain ⟨h5, h⟩ := need_some h
  rcases fork_some h with ⟨h6, h⟩ | ⟨h6, h⟩
  ·injection h with h; subst h
   exact ⟨by intro e; simp [slices_Equal_LPair_Pair_1_ex] at e, env.code (its := [b1, .pre p29, b1, .sel [4] []]) (.c h3 (.c h4 (.c h5 (.c h6 .n)))) (by kernel_rfl)⟩
  ·injection h with h; subst h
   exact env.code (its := [b1, .pre p29, b0, .sel [0, 1, 12, 13] []]) (.c h3 (.c h4 (.c h5 (.c h6 .n)))) (by kernel_rfl)
 ·injection h with h; subst h
  exact ⟨by intro e; simp [slices_Equal_LPair_Pair_1_ex] at e, env.code (its := [b0, .sel [] []]) (.c h3 .n) (by kernel_rfl)⟩
theorem slices_Equal_LPair_Pair_1_ok (x0 : List (T18c3)) (x1 : List (T18c3)) (x2 : Int) (x3 : Int) (o : (Bool) ⊕ (Unit)) (h : slices_Equal_LPair_Pair_1 x0 x1 x2 x3 = some o) : CodeOK prog (codeAt (bodyOf f35) [1, 1, 0, 1, 0]) (slices_Equal_LPair_Pair_1_in x0 x1 x2 x3) (slices_Equal_LPair_Pair_1_ex o) (slices_Equal_LPair_Pair_1_st o) :=
 LoopOK.of_step (st := fun s => slices_Equal_LPair_Pair_1_in x0 x1 x2 s) (ex := slices_Equal_LPair_Pair_1_ex) (stO := slices_Equal_LPair_Pair_1_st) (fun s s2 hs => slices_Equal_LPair_Pair_1_body x0 x1 x2 s (.inl s2) hs) (fun s r hs => slices_Equal_LPair_Pair_1_body x0 x1 x2 s (.inr r) hs) _ o h
def slices_Equal_LPair_Pair_R (a0 : List (T18c3)) (a1 : List (T18c3)) (u : Bool) : Slot := (.v .bool u)
def slices_Equal_LPair_Pair_O (a0 : List (T18c3)) (a1 : List (T18c3)) (u : Bool) : List AObj := []
theorem slices_Equal_LPair_Pair_ok (a0 : List (T18c3)) (a1 : List (T18c3)) (u : Bool) (h : slices_Equal_LPair_Pair a0 a1 = some u) : CallC prog 35 [(.v (.slice Y18c3) a0), (.v (.slice Y18c3) a1)] [] (slices_Equal_LPair_Pair_R a0 a1 u) (slices_Equal_LPair_Pair_O a0 a1 u) := by
 unfold slices_Equal_LPair_Pair at h
 rcases fork_some h with ⟨h1, h⟩ | ⟨h1, h⟩
 ·injection h with h; subst h
  exact env.fun func35 can35 (its := [b1]) (pos := s0) (.c h1 .n) (by kernel_rfl)
 ·obtain ⟨o7, h8, h⟩ := andThen_some h
  rcases o7 with o9 | o10
  ·injection h with h; subst h
   exact env.fun func35 can35 (its := [b0, .dive, .sel [0, 1, 12, 13] [], .part (slices_Equal_LPair_Pair_1_ex (.inl o9)) (slices_Equal_LPair_Pair_1_st (.inl o9))]) (pos := s0) (.c h1 (.c (slices_Equal_LPair_Pair_1_ok a0 a1 (List.length a0 : Int) (0 : Int) (.inl o9) h8) .n)) (by kernel_rfl)
  ·injection h with h; subst h
   exact env.fun func35 can35 (its := [b0, .dive, .sel [0, 1, 12, 13] [], .part (slices_Equal_LPair_Pair_1_ex (.inr o10)) (slices_Equal_LPair_Pair_1_st (.inr o10))]) (pos := s0) (.c h1 (.c (slices_Equal_LPair_Pair_1_ok a0 a1 (List.length a0 : Int) (0 : Int) (.inr o10) h8) .n)) (by kernel_rfl)
theorem can13 : Callable prog 13 := ⟨_, func13, by kernel_rfl, by kernel_rfl⟩
def kv_Get_R (a0 : List (T18c3)) (a1 : B8) (u : B8 × Bool) : Slot := (.tup (.v .str u.1) (.tup (.v .bool u.2) .tnil))
def kv_Get_O (a0 : List (T18c3)) (a1 : B8) (u : B8 × Bool) : List AObj := []
theorem kv_Get_ok (a0 : List (T18c3)) (a1 : B8) (u : B8 × Bool) (h : kv_Get a0 a1 = some u) : CallC prog 13 [(.v (.slice Y18c3) a0), (.v .str a1)] [] (kv_Get_R a0 a1 u) (kv_Get_O a0 a1 u) := by
 unfold kv_Get at h
 obtain ⟨u1, h2, h⟩ := andThen_some h
 rcases fork_some h with ⟨h3, h⟩ | ⟨h3, h⟩
 ·injection h with h; subst h
  exact env.fun func13 can13 (its := [.call [none, none] [] [] true (kv_place_R a0 a1 u1) (kv_place_O a0 a1 u1), b1]) (pos := s0) (.c (kv_place_ok a0 a1 u1 h2) (.c h3 .n)) (by kernel_rfl)
 ·obtain ⟨h4, h⟩ := need_some h
  injection h with h; subst h
  exact env.fun func13 can13 (its := [.call [none, none] [] [] true (kv_place_R a0 a1 u1) (kv_place_O a0 a1 u1), b0]) (pos := s0) (.c (kv_place_ok a0 a1 u1 h2) (.c h3 (.c h4 .n))) (by kernel_rfl)
theorem can36 : Callable prog 36 := ⟨_, func36, by kernel_rfl, by kernel_rfl⟩
def check_Absent_R (a0 : B8) (a1 : B8) (a2 : T20c7) (u : Bool) : Slot := (.v .bool u)
def check_Absent_O (a0 : B8) (a1 : B8) (a2 : T20c7) (u : Bool) : List AObj := []
theorem check_Absent_ok (a0 : B8) (a1 : B8) (a2 : T20c7) (u : Bool) (h : check_Absent a0 a1 a2 = some u) : CallC prog 36 [(.v Yh a0), (.v .str a1), (.v Y20c7 a2)] [] (check_Absent_R a0 a1 a2 u) (check_Absent_O a0 a1 a2 u) := by
 unfold check_Absent at h
 obtain ⟨u1, h2, h⟩ := andThen_some h
 rcases fork_some h with ⟨h3, h⟩ | ⟨h3, h⟩
 ·injection h with h; subst h
  exact env.fun func36 can36 (its := [.call [none, none, none, none] [] [] false (check_Range_R a0 a1 a1 a2 u1) (check_Range_O a0 a1 a1 a2 u1), b1]) (pos := s0) (.c (check_Range_ok a0 a1 a1 a2 u1 h2) (.c h3 .n)) (by kernel_rfl)
 ·obtain ⟨u4, h5, h⟩ := andThen_some h
  injection h with h; subst h
  exact env.fun func36 can36 (its := [.call [none, none, none, none] [] [] false (check_Range_R a0 a1 a1 a2 u1) (check_Range_O a0 a1 a1 a2 u1), b0, .call [none, none] [] [] true (kv_Get_R a2.2.2.1 a1 u4) (kv_Get_O a2.2.2.1 a1 u4)]) (pos := s0) (.c (check_Range_ok a0 a1 a1 a2 u1 h2) (.c h3 (.c (kv_Get_ok a2.2.2.1 a1 u4 h5) .n))) (by kernel_rfl)
theorem can37 : Callable prog 37 := ⟨_, func37, by kernel_rfl, by kernel_rfl⟩
def check_Exist_R (a0 : B8) (a1 : T18c3) (a2 : T20c7) (u : Bool) : Slot := (.v .bool u)
def check_Exist_O (a0 : B8) (a1 : T18c3) (a2 : T20c7) (u : Bool) : List AObj := []
theorem check_Exist_ok (a0 : B8) (a1 : T18c3) (a2 : T20c7) (u : Bool) (h : check_Exist a0 a1 a2 = some u) : CallC prog 37 [(.v Yh a0), (.v Y18c3 a1), (.v Y20c7 a2)] [] (check_Exist_R a0 a1 a2 u) (check_Exist_O a0 a1 a2 u) := by
 unfold check_Exist at h
 obtain ⟨u1, h2, h⟩ := andThen_some h
 rcases fork_some h with ⟨h3, h⟩ | ⟨h3, h⟩
 ·obtain ⟨u4, h5, h⟩ := andThen_some h
  injection h with h; subst h
  exact env.fun func37 can37 (its := [.call [none, none] [] [] true (check_Sound_R a0 a2 u1) (check_Sound_O a0 a2 u1), b1, b1, b1, b1, b1, .call [none, none] [] [3] true (slices_Equal_LPair_Pair_R a2.2.2.1 ([a1] : List (T18c3)) u4) (slices_Equal_LPair_Pair_O a2.2.2.1 ([a1] : List (T18c3)) u4), b1]) (pos := s0) (.c (check_Sound_ok a0 a2 u1 h2) (.c h3 (.c h3 (.c h3 (.c h3 (.c h3 (.c (slices_Equal_LPair_Pair_ok a2.2.2.1 ([a1] : List (T18c3)) u4 h5) (.c h3 .n)))))))) (by kernel_rfl)
 ·injection h with h; subst h
  exact env.fun func37 can37 (its := [.call [none, none] [] [] true (check_Sound_R a0 a2 u1) (check_Sound_O a0 a2 u1), b0, b0, b0, b0, b0, b0]) (pos := s0) (.c (check_Sound_ok a0 a2 u1 h2) (.c h3 (.c h3 (.c h3 (.c h3 (.c h3 (.c h3 .n))))))) (by kernel_rfl)
theorem can9 : Callable prog 9 := ⟨_, func9, by kernel_rfl, by kernel_rfl⟩
def admit_Check_R (a0 : T011a) (a1 : B8) (a2 : T1f7e) (u : Int) : Slot := (.v (.int .i64) u)
def admit_Check_O (a0 : T011a) (a1 : B8) (a2 : T1f7e) (u : Int) : List AObj := []
theorem admit_Check_ok (a0 : T011a) (a1 : B8) (a2 : T1f7e) (u : Int) (h : admit_Check a0 a1 a2 = some u) : CallC prog 9 [(.v Y011a a0), (.v Yh a1), (.v Y1f7e a2)] [] (admit_Check_R a0 a1 a2 u) (admit_Check_O a0 a1 a2 u) := by
 unfold admit_Check at h
 obtain ⟨u1, h2, h⟩ := andThen_some h
 rcases fork_some h with ⟨h3, h⟩ | ⟨h3, h⟩
 ·injection h with h; subst h
  exact env.fun func9 can9 (its := [.call [none] [] [] true (admit_Right_R a2 u1) (admit_Right_O a2 u1), b1]) (pos := s0) (.c (admit_Right_ok a2 u1 h2) (.c h3 .n)) (by kernel_rfl)
 ·rcases fork_some h with ⟨h4, h⟩ | ⟨h4, h⟩
  ·obtain ⟨u5, h6, h⟩ := andThen_some h
   rcases fork_some h with ⟨h7, h⟩ | ⟨h7, h⟩
   ·injection h with h; subst h
    exact env.fun func9 can9 (its := [.call [none] [] [] true (admit_Right_R a2 u1) (admit_Right_O a2 u1), b0, b1, .call [none, none, none, none] [] [] false (check_Range_R a1 a0.2.1 a0.2.2.1 a2.2.2.2.1 u5) (check_Range_O a1 a0.2.1 a0.2.2.1 a2.2.2.2.1 u5), b1, b1, b1, b1, b1, b1, b1]) (pos := s0) (.c (admit_Right_ok a2 u1 h2) (.c h3 (.c h4 (.c (check_Range_ok a1 a0.2.1 a0.2.2.1 a2.2.2.2.1 u5 h6) (.c h7 (.c h7 (.c h7 (.c h7 (.c h7 (.c h7 (.c r1 .n))))))))))) (by kernel_rfl)
   ·obtain ⟨u8, h9, h⟩ := andThen_some h
    rcases fork_some h with ⟨h10, h⟩ | ⟨h10, h⟩
    ·injection h with h; subst h
     exact env.fun func9 can9 (its := [.call [none] [] [] true (admit_Right_R a2 u1) (admit_Right_O a2 u1), b0, b1, .call [none, none, none, none] [] [] false (check_Range_R a1 a0.2.1 a0.2.2.1 a2.2.2.2.1 u5) (check_Range_O a1 a0.2.1 a0.2.2.1 a2.2.2.2.1 u5), b0, b0, b0, b0, .call [none, none] [] [] true (slices_Equal_LPair_Pair_R u5.1 a2.2.2.1 u8) (slices_Equal_LPair_Pair_O u5.1 a2.2.2.1 u8), b0, b0, b1]) (pos := s0) (.c (admit_Right_ok a2 u1 h2) (.c h3 (.c h4 (.c (check_Range_ok a1 a0.2.1 a0.2.2.1 a2.2.2.2.1 u5 h6) (.c h7 (.c h7 (.c h7 (.c h7 (.c (slices_Equal_LPair_Pair_ok u5.1 a2.2.2.1 u8 h9) (.c h7 (.c h7 (.c h10 .n)))))))))))) (by kernel_rfl)
    ·injection h with h; subst h
     exact env.fun func9 can9 (its := [.call [none] [] [] true (admit_Right_R a2 u1) (admit_Right_O a2 u1), b0, b1, .call [none, none, none, none] [] [] false (check_Range_R a1 a0.2.1 a0.2.2.1 a2.2.2.2.1 u5) (check_Range_O a1 a0.2.1 a0.2.2.1 a2.2.2.2.1 u5), b0, b0, b0, b0, .call [none, none] [] [] true (slices_Equal_LPair_Pair_R u5.1 a2.2.2.1 u8) (slices_Equal_LPair_Pair_O u5.1 a2.2.2.1 u8), b0, b0, b0]) (pos := s0) (.c (admit_Right_ok a2 u1 h2) (.c h3 (.c h4 (.c (check_Range_ok a1 a0.2.1 a0.2.2.1 a2.2.2.2.1 u5 h6) (.c h7 (.c h7 (.c h7 (.c h7 (.c (slices_Equal_LPair_Pair_ok u5.1 a2.2.2.1 u8 h9) (.c h7 (.c h7 (.c h10 .n)))))))))))) (by kernel_rfl)
  ·rcases fork_some h with ⟨h11, h⟩ | ⟨h11, h⟩
   ·obtain ⟨u12, h13, h⟩ := andThen_some h
    rcases fork_some h with ⟨h14, h⟩ | ⟨h14, h⟩
    ·injection h with h; subst h
     exact env.fun func9 can9 (its := [.call [none] [] [] true (admit_Right_R a2 u1) (admit_Right_O a2 u1), b0, b0, b1, .call [none, none, none] [] [] true (check_Absent_R a1 a0.2.1 a2.2.2.2.1 u12) (check_Absent_O a1 a0.2.1 a2.2.2.2.1 u12), b1]) (pos := s0) (.c (admit_Right_ok a2 u1 h2) (.c h3 (.c h4 (.c h11 (.c (check_Absent_ok a1 a0.2.1 a2.2.2.2.1 u12 h13) (.c h14 .n)))))) (by kernel_rfl)
    ·injection h with h; subst h
     exact env.fun func9 can9 (its := [.call [none] [] [] true (admit_Right_R a2 u1) (admit_Right_O a2 u1), b0, b0, b1, .call [none, none, none] [] [] true (check_Absent_R a1 a0.2.1 a2.2.2.2.1 u12) (check_Absent_O a1 a0.2.1 a2.2.2.2.1 u12), b0]) (pos := s0) (.c (admit_Right_ok a2 u1 h2) (.c h3 (.c h4 (.c h11 (.c (check_Absent_ok a1 a0.2.1 a2.2.2.2.1 u12 h13) (.c h14 .n)))))) (by kernel_rfl)
   ·rcases fork_some h with ⟨h15, h⟩ | ⟨h15, h⟩
    ·obtain ⟨h16, h⟩ := need_some h
     rcases fork_some h with ⟨h17, h⟩ | ⟨h17, h⟩
     ·obtain ⟨u18, h19, h⟩ := andThen_some h
      rcases fork_some h with ⟨h20, h⟩ | ⟨h20, h⟩
      ·injection h with h; subst h
       exact env.fun func9 can9 (its := [.call [none] [] [] true (admit_Right_R a2 u1) (admit_Right_O a2 u1), b0, b0, b0, b1, .pre p30, b1, b1, b1, b1, b1, b1, b1, b1, .asis, .call [none, none, none] [] [] true (check_Exist_R a1 (List.getD a2.2.2.1 (Int.toNat (0 : Int)) Z18c3) a2.2.2.2.1 u18) (check_Exist_O a1 (List.getD a2.2.2.1 (Int.toNat (0 : Int)) Z18c3) a2.2.2.2.1 u18), b1, b1]) (pos := s0) (.c (admit_Right_ok a2 u1 h2) (.c h3 (.c h4 (.c h11 (.c h15 (.c h16 (.c h17 (.c h17 (.c h17 (.c h17 (.c h16 (.c h17 (.c h17 (.c h17 (.c h17 (.c rn (.c (check_Exist_ok a1 (List.getD a2.2.2.1 (Int.toNat (0 : Int)) Z18c3) a2.2.2.2.1 u18 h19) (.c h17 (.c h20 .n))))))))))))))))))) (by kernel_rfl)
      ·injection h with h; subst h
       exact env.fun func9 can9 (its := [.call [none] [] [] true (admit_Right_R a2 u1) (admit_Right_O a2 u1), b0, b0, b0, b1, .pre p30, b1, b1, b1, b1, b1, b1, b1, b1, .asis, .call [none, none, none] [] [] true (check_Exist_R a1 (List.getD a2.2.2.1 (Int.toNat (0 : Int)) Z18c3) a2.2.2.2.1 u18) (check_Exist_O a1 (List.getD a2.2.2.1 (Int.toNat (0 : Int)) Z18c3) a2.2.2.2.1 u18), b1, b0]) (pos := s0) (.c (admit_Right_ok a2 u1 h2) (.c h3 (.c h4 (.c h11 (.c h15 (.c h16 (.c h17 (.c h17 (.c h17 (.c h17 (.c h16 (.c h17 (.c h17 (.c h17 (.c h17 (.c rn (.c (check_Exist_ok a1 (List.getD a2.2.2.1 (Int.toNat (0 : Int)) Z18c3) a2.2.2.2.1 u18 h19) (.c h17 (.c h20 .n))))))))))))))))))) (by kernel_rfl)
     ·injection h with h; subst h
      exact env.fun func9 can9 (its := [.call [none] [] [] true (admit_Right_R a2 u1) (admit_Right_O a2 u1), b0, b0, b0, b1, .pre p30, b0, b0, b0, b0, b0, b0, b0, b0, b0, b0]) (pos := s0) (.c (admit_Right_ok a2 u1 h2) (.c h3 (.c h4 (.c h11 (.c h15 (.c h16 (.c h17 (.c h17 (.c h17 (.c h17 (.c h17 (.c h17 (.c h17 (.c h17 (.c h17 (.c r0 .n)))))))))))))))) (by kernel_rfl)
    ·injection h with h; subst h
     exact env.fun func9 can9 (its := [.call [none] [] [] true (admit_Right_R a2 u1) (admit_Right_O a2 u1), b0, b0, b0, b0]) (pos := s0) (.c (admit_Right_ok a2 u1 h2) (.c h3 (.c h4 (.c h11 (.c h15 .n))))) (by kernel_rfl)
end
end Go.Proofs.Ytnckmagemlajeaa.admitBinds
