/-
  The functions, walked through: each call comes to what the pure text says.
-/
import Derived.Test.YtdiacaflcfiomaaProg
import Derived.Test.YtdiacaflcfiomaaAxC
import Derived.Test.YtdiacaflcfiomaaCValsTellsP
namespace Go.Proofs.Ytdiacaflcfiomaa.valsTells
open Go.Ax Go.Ax.V Go.Proofs.Try
set_option maxRecDepth 100000
set_option linter.unusedVariables false
noncomputable section
abbrev Y18c3 : Ty := (.fld .str (.fld .str .unit))
abbrev Z32 := (List.replicate 32 (0 : UInt8))
abbrev Y484d : Ty := (.fld .str (.fld (.int .i64) (.fld (.arr 32 (.int .u8)) .unit)))
abbrev Z484d := (([] : B8), (0 : Int), Z32, ())
abbrev Y5e52 : Ty := (.fld (.slice Y18c3) (.fld (.int .i64) (.fld (.slice (.slice Y18c3)) .unit)))
abbrev Y20c7 : Ty := (.fld (.int .i64) (.fld (.int .i64) (.fld (.slice Y18c3) (.fld (.slice (.slice (.arr 32 (.int .u8)))) .unit))))
abbrev rg := List.range
abbrev b0 : It := .br false
abbrev b1 : It := .br true
theorem r0 : (false : Bool) = false := rfl
theorem r1 : (true : Bool) = true := rfl
theorem rn : ([] : List AObj) = [] := rfl
abbrev p0 : List (List Nat) := [[], [0], [0, 1], [0, 1, 2], (rg 4), (rg 5), (rg 6), (rg 7), (rg 8), (rg 9), (rg 10), (rg 11), (rg 12), (rg 13), (rg 14), (rg 15), (rg 16), (rg 17), (rg 18), (rg 19), (rg 20), (rg 21), (rg 22), (rg 23), (rg 24), (rg 24), [0, 1, 2, 3, 4, 5, 6, 7, 8, 9, 10, 11, 12, 13, 14, 15, 16, 17, 18, 19, 20, 21, 22, 23, 25], (rg 27), (rg 28), (rg 29), (rg 24), [0, 1, 2, 3, 4, 5, 6, 7, 8, 9, 10, 11, 12, 13, 14, 15, 16, 17, 18, 19, 20, 21, 22, 23, 30], (rg 32), (rg 33), (rg 34)]
abbrev p1 : List (List Nat) := [[], [0], [0, 1], [0, 1, 2], (rg 4), (rg 5), (rg 6), (rg 7), (rg 7), [0, 1, 2, 3, 4, 5, 6, 8], (rg 10), (rg 11), (rg 12), (rg 7), [0, 1, 2, 3, 4, 5, 6, 13], (rg 15), (rg 16), (rg 17)]
abbrev p2 : List (List Nat) := [[], [], [], [2], [1, 2, 3], [1, 2, 3, 4], [1, 2, 3, 4, 5], [1, 2, 3, 4, 5, 6], [], [], [9], [9, 10], [8, 9, 10, 11], [8, 9, 10, 11, 12], [8, 9, 10, 11, 12, 13], [8, 9, 10, 11, 12, 13, 14], [1, 2, 3, 4, 5, 6, 7, 8, 9, 10, 11, 12, 13, 14, 15], [], [], [18], [18, 19], [17, 18, 19, 20], [17, 18, 19, 20, 21], [17, 18, 19, 20, 21, 22], [17, 18, 19, 20, 21, 22, 23], [1, 2, 3, 4, 5, 6, 7, 8, 9, 10, 11, 12, 13, 14, 15, 16, 17, 18, 19, 20, 21, 22, 23, 24], [], [], [27], [27, 28], [26, 27, 28, 29], [26, 27, 28, 29, 30], [26, 27, 28, 29, 30, 31], [1, 2, 3, 4, 5, 6, 7, 8, 9, 10, 11, 12, 13, 14, 15, 16, 17, 18, 19, 20, 21, 22, 23, 24, 25, 26, 27, 28, 29, 30, 31, 32], (rg 34), (rg 35)]
abbrev p3 : List (List Nat) := [[], [0], [0, 1], [0, 1, 2], [], [4], [4, 5], [4, 5, 6], (rg 4), (rg 9)]
abbrev p4 : List (List Nat) := [[], [], [1], [1, 2], [1, 2, 3], [], [5], [], [5, 6, 7], [5, 6, 7, 8], [], [10], [5, 6, 7, 8, 9, 10, 11], [1, 2, 3, 4, 5, 6, 7, 8, 9, 10, 11, 12], [], [14], [14, 15], [14, 15, 16], [1, 2, 3, 4, 5, 6, 7, 8, 9, 10, 11, 12, 13, 14, 15, 16, 17], [], [5, 6, 7, 8, 19], [], [5, 6, 7, 8, 19, 20, 21], [5, 6, 7, 8, 19, 20, 21, 22], [], [24], [5, 6, 7, 8, 19, 20, 21, 22, 23, 24, 25], [1, 2, 3, 4, 5, 6, 7, 8, 9, 10, 11, 12, 13, 14, 15, 16, 17, 18, 19, 20, 21, 22, 23, 24, 25, 26], (rg 28), (rg 29)]
abbrev p5 : List (List Nat) := [[], [], [1], [], [1, 2, 3], [1, 2, 3, 4], [], [1, 2, 3, 4, 6], [1, 2, 3, 4, 5, 6, 7], (rg 9), [], (rg 11), [], [], [12], [12, 13, 14], [12, 13, 14, 15], (rg 17), [], [18], [18, 19], (rg 21), (rg 22)]
abbrev p6 : List (List Nat) := [[], [], [0], [0, 1, 2], (rg 4), [], (rg 6), [0], (rg 8), (rg 9)]
abbrev p7 : List (List Nat) := [[], [0], [0, 1], [0, 1, 2], [], [4], [4, 5], [4, 5, 6], [], [8], [8, 9], [8, 9, 10], [], [12], [12, 13], [12, 13, 14], [], [16], [16, 17], [16, 17, 18], [], [20], [20, 21], [20, 21, 22], [], [24], [24, 25], [24, 25, 26], [], [28], [28, 29], [28, 29, 30], (rg 4), [0, 1, 2, 3, 4, 5, 6, 7, 32], [0, 1, 2, 3, 4, 5, 6, 7, 8, 9, 10, 11, 32, 33], [0, 1, 2, 3, 4, 5, 6, 7, 8, 9, 10, 11, 12, 13, 14, 15, 32, 33, 34], [0, 1, 2, 3, 4, 5, 6, 7, 8, 9, 10, 11, 12, 13, 14, 15, 16, 17, 18, 19, 32, 33, 34, 35], [0, 1, 2, 3, 4, 5, 6, 7, 8, 9, 10, 11, 12, 13, 14, 15, 16, 17, 18, 19, 20, 21, 22, 23, 32, 33, 34, 35, 36], [0, 1, 2, 3, 4, 5, 6, 7, 8, 9, 10, 11, 12, 13, 14, 15, 16, 17, 18, 19, 20, 21, 22, 23, 24, 25, 26, 27, 32, 33, 34, 35, 36, 37], (rg 39)]
abbrev p8 : List (List Nat) := [[], [], [1], [1, 2], [1, 2, 3], [], [5], [5, 6], [1, 2, 3, 4, 5, 6, 7], [], [9], [9, 10], [1, 2, 3, 4, 5, 6, 7, 8, 9, 10, 11], (rg 13), (rg 14), (rg 15)]
abbrev p9 : List (List Nat) := [[], [0], [0, 1], [], [3], (rg 5), (rg 6), [], [7], [0, 1, 2, 3, 4, 5, 7, 8], (rg 10), (rg 11)]
abbrev p10 : List (List Nat) := [[], [0], [], [0, 1, 2], [], (rg 5), [], [], [6, 7], [6, 7, 8], (rg 10), [], [11], [11, 12], (rg 14), (rg 15)]
abbrev p11 : List (List Nat) := [[], [], [1], [1, 2], [], [4], [4, 5], [1, 2, 3, 4, 5, 6], (rg 8), (rg 9)]
abbrev p12 : List (List Nat) := [[], [], [], [], [3], [1, 2, 3, 4], [], (rg 7), (rg 8)]
abbrev p13 : List (List Nat) := [[], [], [1], [1, 2], (rg 4), [], [5], (rg 7), (rg 8), [], [9], (rg 11), (rg 12)]
def T : Tab := [(3, (.int .i64), 8), (4, .bool, 1), (5, (.int .u8), 1), (9, .str, 16), (22, .ptr, 8), (26, Y18c3, 32), (29, (.slice Y18c3), 24), (33, (.slice Y484d), 24), (34, (.slice (.int .i64)), 24), (37, (.slice .str), 24), (38, .mp, 8), (40, (.arr 32 (.int .u8)), 32), (42, Y484d, 56), (46, .cplx, 16), (50, .flt, 8), (56, (.slice (.slice (.arr 32 (.int .u8)))), 24), (58, Y20c7, 64), (66, (.slice (.arr 32 (.int .u8))), 24), (68, (.slice (.slice (.int .u8))), 24), (76, (.slice (.slice Y18c3)), 24), (78, Y5e52, 56), (87, (.slice (.int .u8)), 24), (97, .mp, 8), (109, (.int .u64), 8), (116, (.int .u32), 4), (117, (.arr 8 (.int .u32)), 32), (119, (.arr 64 (.int .u32)), 256), (125, (.slice (.int .u32)), 24), (127, (.int .u64), 8)]
theorem tab : TabOK prog T := tab_of_b (by kernel_rfl)
theorem bytes : bytesB T = true := by kernel_rfl
theorem mix : prog.follows .mixedOrders = true := by kernel_rfl
theorem eqs : eqTypes prog T [26, 40, 42] = true := by kernel_rfl
theorem env : Env prog T [26, 40, 42] := ⟨tab, eqs, mix⟩
theorem can52 : Callable prog 52 := ⟨_, func52, by kernel_rfl, by kernel_rfl⟩
def affiantkeep_Names_R  (u : List (B8)) : Slot := (.own 0 [])
def affiantkeep_Names_O  (u : List (B8)) : List AObj := [.row .str u true]
theorem affiantkeep_Names_ok  (u : List (B8)) (h : affiantkeep_Names  = some u) : CallC prog 52 [] [] (affiantkeep_Names_R u) (affiantkeep_Names_O u) := by
 unfold affiantkeep_Names at h
 injection h with h; subst h
 exact env.fun func52 can52 (its := []) (pos := [.sel [0]]) .n (by kernel_rfl)
theorem can21 : Callable prog 21 := ⟨_, func21, by kernel_rfl, by kernel_rfl⟩
def affiantbook_Within_R (a0 : Int) (a1 : Int) (a2 : Int) (u : Int) : Slot := (.v (.int .i64) u)
def affiantbook_Within_O (a0 : Int) (a1 : Int) (a2 : Int) (u : Int) : List AObj := []
theorem affiantbook_Within_ok (a0 : Int) (a1 : Int) (a2 : Int) (u : Int) (h : affiantbook_Within a0 a1 a2 = some u) : CallC prog 21 [(.v (.int .i64) a0), (.v (.int .i64) a1), (.v (.int .i64) a2)] [] (affiantbook_Within_R a0 a1 a2 u) (affiantbook_Within_O a0 a1 a2 u) := by
 unfold affiantbook_Within at h
 obtain ⟨h1, h⟩ := need_some h
 rcases fork_some h with ⟨h2, h⟩ | ⟨h2, h⟩
 ·injection h with h; subst h
  exact env.fun func21 can21 (its := [b1]) (pos := [.sel []]) (.c h1 (.c h2 .n)) (by kernel_rfl)
 ·injection h with h; subst h
  exact env.fun func21 can21 (its := [b0]) (pos := [.sel []]) (.c h1 (.c h2 .n)) (by kernel_rfl)
theorem can17 : Callable prog 17 := ⟨_, func17, by kernel_rfl, by kernel_rfl⟩
def affiantkeep_Set_1_in (x0 : List Int) (x1 : Int) (x2 : Int) (x3 : List (T484d)) (x4 : List (B8)) : St := ⟨[(0, (.v (.slice (.int .i64)) x0)), (3, (.own 0 [])), (7, (.own 1 [])), (8, (.v (.int .i64) x1)), (9, (.v (.int .i64) x2))], [.row Y484d x3 true, .row .str x4 true], 43, 0⟩
def affiantkeep_Set_1_ex (o : List (T484d)) : Exit := (.exit 0)
def affiantkeep_Set_1_st (o : List (T484d)) : St := ⟨[(3, (.own 0 []))], [.row Y484d o true], 43, 0⟩
theorem affiantkeep_Set_1_body (x0 : List Int) (x1 : Int) (x2 : Int) (x3 : List (T484d)) (x4 : List (B8)) : ∀ r, affiantkeep_Set_1_step x0 x1 x2 x3 x4 = some r → (match r with | .inl s => CodeOK prog (codeAt (bodyOf f17) [1, 1, 0, 1, 0, 0]) (affiantkeep_Set_1_in x0 x1 x2 x3 x4) .normal (affiantkeep_Set_1_in x0 x1 s.1 s.2 x4) | .inr o => affiantkeep_Set_1_ex o ≠ .normal ∧ CodeOK prog (codeAt (bodyOf f17) [1, 1, 0, 1, 0, 0]) (affiantkeep_Set_1_in x0 x1 x2 x3 x4) (affiantkeep_Set_1_ex o) (affiantkeep_Set_1_st o)) := by
 intro r h
 unfold affiantkeep_Set_1_step at h
 rcases fork_some h with ⟨h4, h⟩ | ⟨h4, h⟩
 ·obtain ⟨h5, h⟩ := need_some h
  rcases fork_some h with ⟨h6, h⟩ | ⟨h6, h⟩
  ·rcases fork_some h with ⟨h7, h⟩ | ⟨h7, h⟩
   ·obtain ⟨h8, h⟩ := need_some h
    obtain ⟨u9, h10, h⟩ := andThen_some h
    obtain ⟨h11, h⟩ := need_some h
    injection h with h; subst h
    exact env.code (its := [b1, b1, b1, b1, b1, b1, b1, b1, .call [none, none, none] [] [] true (affiantbook_Within_R (List.getD x0 (Int.toNat x2) (0 : Int)) (1 : Int) (9 : Int) u9) (affiantbook_Within_O (List.getD x0 (Int.toNat x2) (0 : Int)) (1 : Int) (9 : Int) u9), .sel [0, 3, 7, 8, 9] [3, 1]]) (.c h4 (.c h5 (.c h6 (.c h6 (.c h6 (.c h6 (.c h6 (.c r1 (.c h7 (.c h8 (.c (affiantbook_Within_ok (List.getD x0 (Int.toNat x2) (0 : Int)) (1 : Int) (9 : Int) u9 h10) (.c h11 .n)))))))))))) (by kernel_rfl)
   ·obtain ⟨h12, h⟩ := need_some h
    injection h with h; subst h
    exact env.code (its := [b1, b1, b1, b1, b1, b1, b1, b0, .sel [0, 3, 7, 8, 9] [3, 1]]) (.c h4 (.c h5 (.c h6 (.c h6 (.c h6 (.c h6 (.c h6 (.c r1 (.c h7 (.c h12 .n)))))))))) (by kernel_rfl)
  ·rcases fork_some h with ⟨h13, h⟩ | ⟨h13, h⟩
   ·obtain ⟨h14, h⟩ := need_some h
    obtain ⟨u15, h16, h⟩ := andThen_some h
    obtain ⟨h17, h⟩ := need_some h
    injection h with h; subst h
    exact env.code (its := [b1, b0, b0, b0, b0, b0, b1, b1, .call [none, none, none] [] [] true (affiantbook_Within_R (List.getD x0 (Int.toNat x2) (0 : Int)) (1 : Int) (9 : Int) u15) (affiantbook_Within_O (List.getD x0 (Int.toNat x2) (0 : Int)) (1 : Int) (9 : Int) u15), .sel [0, 3, 7, 8, 9] [3, 1]]) (.c h4 (.c h5 (.c h6 (.c h6 (.c h6 (.c h6 (.c h6 (.c h13 (.c h13 (.c h14 (.c (affiantbook_Within_ok (List.getD x0 (Int.toNat x2) (0 : Int)) (1 : Int) (9 : Int) u15 h16) (.c h17 .n)))))))))))) (by kernel_rfl)
   ·injection h with h; subst h
    exact env.code (its := [b1, b0, b0, b0, b0, b0, b0, .sel [0, 3, 7, 8, 9] [0, 1]]) (.c h4 (.c h5 (.c h6 (.c h6 (.c h6 (.c h6 (.c h6 (.c h13 .n)))))))) (by kernel_rfl)
 ·injection h with h; subst h
  exact ⟨by intro e; simp [affiantkeep_Set_1_ex] at e, env.code (its := [b0, .sel [3] [0]]) (.c h4 .n) (by kernel_rfl)⟩
theorem affiantkeep_Set_1_ok (x0 : List Int) (x1 : Int) (x2 : Int) (x3 : List (T484d)) (x4 : List (B8)) (o : List (T484d)) (h : affiantkeep_Set_1 x0 x1 x2 x3 x4 = some o) : CodeOK prog (codeAt (bodyOf f17) [1, 1, 0, 1, 0]) (affiantkeep_Set_1_in x0 x1 x2 x3 x4) (affiantkeep_Set_1_ex o) (affiantkeep_Set_1_st o) :=
 LoopOK.of_step (st := fun s => affiantkeep_Set_1_in x0 x1 s.1 s.2 x4) (ex := affiantkeep_Set_1_ex) (stO := affiantkeep_Set_1_st) (fun s s2 hs => affiantkeep_Set_1_body x0 x1 s.1 s.2 x4 (.inl s2) hs) (fun s r hs => affiantkeep_Set_1_body x0 x1 s.1 s.2 x4 (.inr r) hs) _ o h
def affiantkeep_Set_R (a0 : List Int) (u : List (T484d)) : Slot := (.own 0 [])
def affiantkeep_Set_O (a0 : List Int) (u : List (T484d)) : List AObj := [.row Y484d u true]
theorem affiantkeep_Set_ok (a0 : List Int) (u : List (T484d)) (h : affiantkeep_Set a0 = some u) : CallC prog 17 [(.v (.slice (.int .i64)) a0)] [] (affiantkeep_Set_R a0 u) (affiantkeep_Set_O a0 u) := by
 unfold affiantkeep_Set at h
 obtain ⟨u1, h2, h⟩ := andThen_some h
 obtain ⟨o18, h19, h⟩ := andThen_some h
 injection h with h; subst h
 exact env.fun func17 can17 (its := [.call [] [] [] true (affiantkeep_Names_R u1) (affiantkeep_Names_O u1), .dive, .promote 3 Y484d, .sel [0, 3, 7, 8, 9] [1, 0], .part (affiantkeep_Set_1_ex o18) (affiantkeep_Set_1_st o18)]) (pos := [.sel [0]]) (.c (affiantkeep_Names_ok u1 h2) (.c (affiantkeep_Set_1_ok a0 (List.length u1 : Int) (0 : Int) ([] : List (T484d)) u1 o18 h19) .n)) (by kernel_rfl)
theorem can18 : Callable prog 18 := ⟨_, func18, by kernel_rfl, by kernel_rfl⟩
def affiantref10_RightSet_1_in (x0 : List (T484d)) (x1 : List (T484d)) (x2 : Int) (x3 : Int) : St := ⟨[(0, (.v (.slice Y484d) x0)), (5, (.v (.slice Y484d) x1)), (6, (.v (.int .i64) x2)), (7, (.v (.int .i64) x3))], [], 56, 0⟩
def affiantref10_RightSet_1_ex (o : (Bool) ⊕ (List (T484d))) : Exit := match o with | (.inl o) => .ret | (.inr o) => (.exit 0)
def affiantref10_RightSet_1_st (o : (Bool) ⊕ (List (T484d))) : St := match o with | (.inl o) => ⟨[(2, (.v .bool o))], [], 56, 0⟩ | (.inr o) => ⟨[(0, (.v (.slice Y484d) o))], [], 56, 0⟩
theorem affiantref10_RightSet_1_body (x0 : List (T484d)) (x1 : List (T484d)) (x2 : Int) (x3 : Int) : ∀ r, affiantref10_RightSet_1_step x0 x1 x2 x3 = some r → (match r with | .inl s => CodeOK prog (codeAt (bodyOf f18) [1, 0, 1, 0, 0]) (affiantref10_RightSet_1_in x0 x1 x2 x3) .normal (affiantref10_RightSet_1_in x0 x1 x2 s) | .inr o => affiantref10_RightSet_1_ex o ≠ .normal ∧ CodeOK prog (codeAt (bodyOf f18) [1, 0, 1, 0, 0]) (affiantref10_RightSet_1_in x0 x1 x2 x3) (affiantref10_RightSet_1_ex o) (affiantref10_RightSet_1_st o)) := by
 intro r h
 unfold affiantref10_RightSet_1_step at h
 rcases fork_some h with ⟨h2, h⟩ | ⟨h2, h⟩
 ·obtain ⟨h3, h⟩ := need_some h
  rcases fork_some h with ⟨h4, h⟩ | ⟨h4, h⟩
  ·injection h with h; subst h
   exact ⟨by intro e; simp [affiantref10_RightSet_1_ex] at e, env.code (its := [b1, .pre p0, b1, b1, b1, b1, b1, b1, b1, b1, b1, b1, b1, b1, b1, b1, b1, b1, b1, b1, b1, .sel [2] []]) (.c h2 (.c h3 (.c h4 (.c h4 (.c h4 (.c h4 (.c h4 (.c r1 (.c r1 (.c r1 (.c r1 (.c r1 (.c r1 (.c r1 (.c r1 (.c r1 (.c r1 (.c r1 (.c r1 (.c r1 (.c r1 .n))))))))))))))))))))) (by kernel_rfl)⟩
  ·rcases fork_some h with ⟨h5, h⟩ | ⟨h5, h⟩
   ·injection h with h; subst h
    exact ⟨by intro e; simp [affiantref10_RightSet_1_ex] at e, env.code (its := [b1, .pre p0, b0, b0, b0, b0, b0, b1, b1, b1, b1, b1, b1, b1, b1, b1, b1, b1, b1, b1, b1, .sel [2] []]) (.c h2 (.c h3 (.c h4 (.c h4 (.c h4 (.c h4 (.c h4 (.c h5 (.c h5 (.c h5 (.c h5 (.c r1 (.c r1 (.c r1 (.c r1 (.c r1 (.c r1 (.c r1 (.c r1 (.c r1 (.c r1 .n))))))))))))))))))))) (by kernel_rfl)⟩
   ·rcases fork_some h with ⟨h6, h⟩ | ⟨h6, h⟩
    ·injection h with h; subst h
     exact ⟨by intro e; simp [affiantref10_RightSet_1_ex] at e, env.code (its := [b1, .pre p0, b0, b0, b0, b0, b0, b0, b0, b0, b0, b1, b1, b1, b1, b1, b1, b1, b1, b1, b1, .sel [2] []]) (.c h2 (.c h3 (.c h4 (.c h4 (.c h4 (.c h4 (.c h4 (.c h5 (.c h5 (.c h5 (.c h5 (.c h6 (.c h6 (.c h6 (.c h6 (.c r1 (.c r1 (.c r1 (.c r1 (.c r1 (.c r1 .n))))))))))))))))))))) (by kernel_rfl)⟩
    ·rcases fork_some h with ⟨h7, h⟩ | ⟨h7, h⟩
     ·injection h with h; subst h
      exact ⟨by intro e; simp [affiantref10_RightSet_1_ex] at e, env.code (its := [b1, .pre p0, b0, b0, b0, b0, b0, b0, b0, b0, b0, b0, b0, b0, b0, b1, b1, b1, b1, b1, b1, .sel [2] []]) (.c h2 (.c h3 (.c h4 (.c h4 (.c h4 (.c h4 (.c h4 (.c h5 (.c h5 (.c h5 (.c h5 (.c h6 (.c h6 (.c h6 (.c h6 (.c h7 (.c h7 (.c h7 (.c h7 (.c h7 (.c r1 .n))))))))))))))))))))) (by kernel_rfl)⟩
     ·rcases fork_some h with ⟨h8, h⟩ | ⟨h8, h⟩
      ·obtain ⟨h9, h⟩ := need_some h
       rcases fork_some h with ⟨h10, h⟩ | ⟨h10, h⟩
       ·injection h with h; subst h
        exact ⟨by intro e; simp [affiantref10_RightSet_1_ex] at e, env.code (its := [b1, .pre p0, b0, b0, b0, b0, b0, b0, b0, b0, b0, b0, b0, b0, b0, b0, b0, b0, b1, b1, b1, b1, b1, b1, b1, b1, b1, b0, b1, b0, b1, .sel [2] []]) (.c h2 (.c h3 (.c h4 (.c h4 (.c h4 (.c h4 (.c h4 (.c h5 (.c h5 (.c h5 (.c h5 (.c h6 (.c h6 (.c h6 (.c h6 (.c h7 (.c h7 (.c h7 (.c h8 (.c h8 (.c h8 (.c h8 (.c h9 (.c h8 (.c h8 (.c h8 (.c h8 (.c h8 (.c h7 (.c h8 (.c h7 (.c h10 .n)))))))))))))))))))))))))))))))) (by kernel_rfl)⟩
       ·injection h with h; subst h
        exact env.code (its := [b1, .pre p0, b0, b0, b0, b0, b0, b0, b0, b0, b0, b0, b0, b0, b0, b0, b0, b0, b1, b1, b1, b1, b1, b1, b1, b1, b1, b0, b1, b0, b0, .sel [0, 5, 6, 7] []]) (.c h2 (.c h3 (.c h4 (.c h4 (.c h4 (.c h4 (.c h4 (.c h5 (.c h5 (.c h5 (.c h5 (.c h6 (.c h6 (.c h6 (.c h6 (.c h7 (.c h7 (.c h7 (.c h8 (.c h8 (.c h8 (.c h8 (.c h9 (.c h8 (.c h8 (.c h8 (.c h8 (.c h8 (.c h7 (.c h8 (.c h7 (.c h10 .n)))))))))))))))))))))))))))))))) (by kernel_rfl)
      ·injection h with h; subst h
       exact env.code (its := [b1, .pre p0, b0, b0, b0, b0, b0, b0, b0, b0, b0, b0, b0, b0, b0, b0, b0, b0, b0, b0, b0, b0, b0, b0, b0, b0, b0, b0, b0, b0, b0, .sel [0, 5, 6, 7] []]) (.c h2 (.c h3 (.c h4 (.c h4 (.c h4 (.c h4 (.c h4 (.c h5 (.c h5 (.c h5 (.c h5 (.c h6 (.c h6 (.c h6 (.c h6 (.c h7 (.c h7 (.c h7 (.c h8 (.c h8 (.c h8 (.c h8 (.c h8 (.c h8 (.c h8 (.c h8 (.c h8 (.c h7 (.c h8 (.c h7 (.c r0 .n))))))))))))))))))))))))))))))) (by kernel_rfl)
 ·injection h with h; subst h
  exact ⟨by intro e; simp [affiantref10_RightSet_1_ex] at e, env.code (its := [b0, .sel [0] []]) (.c h2 .n) (by kernel_rfl)⟩
theorem affiantref10_RightSet_1_ok (x0 : List (T484d)) (x1 : List (T484d)) (x2 : Int) (x3 : Int) (o : (Bool) ⊕ (List (T484d))) (h : affiantref10_RightSet_1 x0 x1 x2 x3 = some o) : CodeOK prog (codeAt (bodyOf f18) [1, 0, 1, 0]) (affiantref10_RightSet_1_in x0 x1 x2 x3) (affiantref10_RightSet_1_ex o) (affiantref10_RightSet_1_st o) :=
 LoopOK.of_step (st := fun s => affiantref10_RightSet_1_in x0 x1 x2 s) (ex := affiantref10_RightSet_1_ex) (stO := affiantref10_RightSet_1_st) (fun s s2 hs => affiantref10_RightSet_1_body x0 x1 x2 s (.inl s2) hs) (fun s r hs => affiantref10_RightSet_1_body x0 x1 x2 s (.inr r) hs) _ o h
def affiantref10_RightSet_R (a0 : List (T484d)) (u : Bool) : Slot := (.v .bool u)
def affiantref10_RightSet_O (a0 : List (T484d)) (u : Bool) : List AObj := []
theorem affiantref10_RightSet_ok (a0 : List (T484d)) (u : Bool) (h : affiantref10_RightSet a0 = some u) : CallC prog 18 [(.v (.slice Y484d) a0)] [] (affiantref10_RightSet_R a0 u) (affiantref10_RightSet_O a0 u) := by
 unfold affiantref10_RightSet at h
 obtain ⟨o11, h12, h⟩ := andThen_some h
 rcases o11 with o13 | o14
 ·injection h with h; subst h
  exact env.fun func18 can18 (its := [.dive, .sel [0, 5, 6, 7] [], .part (affiantref10_RightSet_1_ex (.inl o13)) (affiantref10_RightSet_1_st (.inl o13))]) (pos := [.sel []]) (.c (affiantref10_RightSet_1_ok a0 a0 (List.length a0 : Int) (0 : Int) (.inl o13) h12) .n) (by kernel_rfl)
 ·rcases fork_some h with ⟨h15, h⟩ | ⟨h15, h⟩
  ·injection h with h; subst h
   exact env.fun func18 can18 (its := [.dive, .sel [0, 5, 6, 7] [], .part (affiantref10_RightSet_1_ex (.inr o14)) (affiantref10_RightSet_1_st (.inr o14)), b1, b1, b1, b1]) (pos := [.sel []]) (.c (affiantref10_RightSet_1_ok a0 a0 (List.length a0 : Int) (0 : Int) (.inr o14) h12) (.c h15 (.c h15 (.c h15 (.c h15 .n))))) (by kernel_rfl)
  ·injection h with h; subst h
   exact env.fun func18 can18 (its := [.dive, .sel [0, 5, 6, 7] [], .part (affiantref10_RightSet_1_ex (.inr o14)) (affiantref10_RightSet_1_st (.inr o14)), b0, b0, b0, b0]) (pos := [.sel []]) (.c (affiantref10_RightSet_1_ok a0 a0 (List.length a0 : Int) (0 : Int) (.inr o14) h12) (.c h15 (.c h15 (.c h15 (.c h15 .n))))) (by kernel_rfl)
theorem can53 : Callable prog 53 := ⟨_, func53, by kernel_rfl, by kernel_rfl⟩
def vals_may_R (a0 : T484d) (u : Bool) : Slot := (.v .bool u)
def vals_may_O (a0 : T484d) (u : Bool) : List AObj := []
theorem vals_may_ok (a0 : T484d) (u : Bool) (h : vals_may a0 = some u) : CallC prog 53 [(.v Y484d a0)] [] (vals_may_R a0 u) (vals_may_O a0 u) := by
 unfold vals_may at h
 rcases fork_some h with ⟨h1, h⟩ | ⟨h1, h⟩
 ·rcases fork_some h with ⟨h2, h⟩ | ⟨h2, h⟩
  ·rcases fork_some h with ⟨h3, h⟩ | ⟨h3, h⟩
   ·injection h with h; subst h
    exact env.fun func53 can53 (its := [b1, b1, b1, b1, b1, b1, b1, b1, b1, b1, b1, b1, b1]) (pos := [.sel []]) (.c h1 (.c h1 (.c h1 (.c h1 (.c h1 (.c h2 (.c h2 (.c h2 (.c h2 (.c h3 (.c h3 (.c h3 (.c h3 .n))))))))))))) (by kernel_rfl)
   ·injection h with h; subst h
    exact env.fun func53 can53 (its := [b1, b1, b1, b1, b1, b1, b1, b1, b1, b0, b0, b0, b0]) (pos := [.sel []]) (.c h1 (.c h1 (.c h1 (.c h1 (.c h1 (.c h2 (.c h2 (.c h2 (.c h2 (.c h3 (.c h3 (.c h3 (.c h3 .n))))))))))))) (by kernel_rfl)
  ·injection h with h; subst h
   exact env.fun func53 can53 (its := [b1, b1, b1, b1, b1, b0, b0, b0, b0, b0, b0, b0, b0]) (pos := [.sel []]) (.c h1 (.c h1 (.c h1 (.c h1 (.c h1 (.c h2 (.c h2 (.c h2 (.c h2 (.c r0 (.c r0 (.c r0 (.c r0 .n))))))))))))) (by kernel_rfl)
 ·injection h with h; subst h
  exact env.fun func53 can53 (its := [b0, b0, b0, b0, b0, b0, b0, b0, b0, b0, b0, b0, b0]) (pos := [.sel []]) (.c h1 (.c h1 (.c h1 (.c h1 (.c h1 (.c r0 (.c r0 (.c r0 (.c r0 (.c r0 (.c r0 (.c r0 (.c r0 .n))))))))))))) (by kernel_rfl)
theorem can19 : Callable prog 19 := ⟨_, func19, by kernel_rfl, by kernel_rfl⟩
def vals_Right_1_in (x0 : List (T484d)) (x1 : List (T484d)) (x2 : Int) (x3 : Int) : St := ⟨[(0, (.v (.slice Y484d) x0)), (5, (.v (.slice Y484d) x1)), (6, (.v (.int .i64) x2)), (7, (.v (.int .i64) x3))], [], 39, 0⟩
def vals_Right_1_ex (o : (Bool) ⊕ (List (T484d))) : Exit := match o with | (.inl o) => .ret | (.inr o) => (.exit 0)
def vals_Right_1_st (o : (Bool) ⊕ (List (T484d))) : St := match o with | (.inl o) => ⟨[(2, (.v .bool o))], [], 39, 0⟩ | (.inr o) => ⟨[(0, (.v (.slice Y484d) o))], [], 39, 0⟩
theorem vals_Right_1_body (x0 : List (T484d)) (x1 : List (T484d)) (x2 : Int) (x3 : Int) : ∀ r, vals_Right_1_step x0 x1 x2 x3 = some r → (match r with | .inl s => CodeOK prog (codeAt (bodyOf f19) [1, 0, 1, 0, 0]) (vals_Right_1_in x0 x1 x2 x3) .normal (vals_Right_1_in x0 x1 x2 s) | .inr o => vals_Right_1_ex o ≠ .normal ∧ CodeOK prog (codeAt (bodyOf f19) [1, 0, 1, 0, 0]) (vals_Right_1_in x0 x1 x2 x3) (vals_Right_1_ex o) (vals_Right_1_st o)) := by
 intro r h
 unfold vals_Right_1_step at h
 rcases fork_some h with ⟨h2, h⟩ | ⟨h2, h⟩
 ·obtain ⟨h3, h⟩ := need_some h
  obtain ⟨u4, h5, h⟩ := andThen_some h
  rcases fork_some h with ⟨h6, h⟩ | ⟨h6, h⟩
  ·injection h with h; subst h
   exact ⟨by intro e; simp [vals_Right_1_ex] at e, env.code (its := [b1, .pre p1, .asis, .call [none] [] [] true (vals_may_R (List.getD x1 (Int.toNat x3) Z484d) u4) (vals_may_O (List.getD x1 (Int.toNat x3) Z484d) u4), b1, b1, b1, b1, b1, b1, .sel [2] []]) (.c h2 (.c h3 (.c rn (.c (vals_may_ok (List.getD x1 (Int.toNat x3) Z484d) u4 h5) (.c h6 (.c h6 (.c h6 (.c h6 (.c h6 (.c r1 .n)))))))))) (by kernel_rfl)⟩
  ·rcases fork_some h with ⟨h7, h⟩ | ⟨h7, h⟩
   ·obtain ⟨h8, h⟩ := need_some h
    rcases fork_some h with ⟨h9, h⟩ | ⟨h9, h⟩
    ·injection h with h; subst h
     exact ⟨by intro e; simp [vals_Right_1_ex] at e, env.code (its := [b1, .pre p1, .asis, .call [none] [] [] true (vals_may_R (List.getD x1 (Int.toNat x3) Z484d) u4) (vals_may_O (List.getD x1 (Int.toNat x3) Z484d) u4), b0, b0, b0, b1, b1, b1, b1, b1, b1, b1, b1, b1, b0, b1, b0, b1, .sel [2] []]) (.c h2 (.c h3 (.c rn (.c (vals_may_ok (List.getD x1 (Int.toNat x3) Z484d) u4 h5) (.c h6 (.c h6 (.c h6 (.c h7 (.c h7 (.c h7 (.c h7 (.c h8 (.c h7 (.c h7 (.c h7 (.c h7 (.c h7 (.c h6 (.c h7 (.c h6 (.c h9 .n))))))))))))))))))))) (by kernel_rfl)⟩
    ·injection h with h; subst h
     exact env.code (its := [b1, .pre p1, .asis, .call [none] [] [] true (vals_may_R (List.getD x1 (Int.toNat x3) Z484d) u4) (vals_may_O (List.getD x1 (Int.toNat x3) Z484d) u4), b0, b0, b0, b1, b1, b1, b1, b1, b1, b1, b1, b1, b0, b1, b0, b0, .sel [0, 5, 6, 7] []]) (.c h2 (.c h3 (.c rn (.c (vals_may_ok (List.getD x1 (Int.toNat x3) Z484d) u4 h5) (.c h6 (.c h6 (.c h6 (.c h7 (.c h7 (.c h7 (.c h7 (.c h8 (.c h7 (.c h7 (.c h7 (.c h7 (.c h7 (.c h6 (.c h7 (.c h6 (.c h9 .n))))))))))))))))))))) (by kernel_rfl)
   ·injection h with h; subst h
    exact env.code (its := [b1, .pre p1, .asis, .call [none] [] [] true (vals_may_R (List.getD x1 (Int.toNat x3) Z484d) u4) (vals_may_O (List.getD x1 (Int.toNat x3) Z484d) u4), b0, b0, b0, b0, b0, b0, b0, b0, b0, b0, b0, b0, b0, b0, b0, b0, .sel [0, 5, 6, 7] []]) (.c h2 (.c h3 (.c rn (.c (vals_may_ok (List.getD x1 (Int.toNat x3) Z484d) u4 h5) (.c h6 (.c h6 (.c h6 (.c h7 (.c h7 (.c h7 (.c h7 (.c h7 (.c h7 (.c h7 (.c h7 (.c h7 (.c h6 (.c h7 (.c h6 (.c r0 .n)))))))))))))))))))) (by kernel_rfl)
 ·injection h with h; subst h
  exact ⟨by intro e; simp [vals_Right_1_ex] at e, env.code (its := [b0, .sel [0] []]) (.c h2 .n) (by kernel_rfl)⟩
theorem vals_Right_1_ok (x0 : List (T484d)) (x1 : List (T484d)) (x2 : Int) (x3 : Int) (o : (Bool) ⊕ (List (T484d))) (h : vals_Right_1 x0 x1 x2 x3 = some o) : CodeOK prog (codeAt (bodyOf f19) [1, 0, 1, 0]) (vals_Right_1_in x0 x1 x2 x3) (vals_Right_1_ex o) (vals_Right_1_st o) :=
 LoopOK.of_step (st := fun s => vals_Right_1_in x0 x1 x2 s) (ex := vals_Right_1_ex) (stO := vals_Right_1_st) (fun s s2 hs => vals_Right_1_body x0 x1 x2 s (.inl s2) hs) (fun s r hs => vals_Right_1_body x0 x1 x2 s (.inr r) hs) _ o h
def vals_Right_R (a0 : List (T484d)) (u : Bool) : Slot := (.v .bool u)
def vals_Right_O (a0 : List (T484d)) (u : Bool) : List AObj := []
theorem vals_Right_ok (a0 : List (T484d)) (u : Bool) (h : vals_Right a0 = some u) : CallC prog 19 [(.v (.slice Y484d) a0)] [] (vals_Right_R a0 u) (vals_Right_O a0 u) := by
 unfold vals_Right at h
 obtain ⟨o10, h11, h⟩ := andThen_some h
 rcases o10 with o12 | o13
 ·injection h with h; subst h
  exact env.fun func19 can19 (its := [.dive, .sel [0, 5, 6, 7] [], .part (vals_Right_1_ex (.inl o12)) (vals_Right_1_st (.inl o12))]) (pos := [.sel []]) (.c (vals_Right_1_ok a0 a0 (List.length a0 : Int) (0 : Int) (.inl o12) h11) .n) (by kernel_rfl)
 ·rcases fork_some h with ⟨h14, h⟩ | ⟨h14, h⟩
  ·injection h with h; subst h
   exact env.fun func19 can19 (its := [.dive, .sel [0, 5, 6, 7] [], .part (vals_Right_1_ex (.inr o13)) (vals_Right_1_st (.inr o13)), b1, b1, b1, b1]) (pos := [.sel []]) (.c (vals_Right_1_ok a0 a0 (List.length a0 : Int) (0 : Int) (.inr o13) h11) (.c h14 (.c h14 (.c h14 (.c h14 .n))))) (by kernel_rfl)
  ·injection h with h; subst h
   exact env.fun func19 can19 (its := [.dive, .sel [0, 5, 6, 7] [], .part (vals_Right_1_ex (.inr o13)) (vals_Right_1_st (.inr o13)), b0, b0, b0, b0]) (pos := [.sel []]) (.c (vals_Right_1_ok a0 a0 (List.length a0 : Int) (0 : Int) (.inr o13) h11) (.c h14 (.c h14 (.c h14 (.c h14 .n))))) (by kernel_rfl)
theorem can22 : Callable prog 22 := ⟨_, func22, by kernel_rfl, by kernel_rfl⟩
def vals_Find_1_in (x0 : B8) (x1 : List (T484d)) (x2 : Int) (x3 : Int) (x4 : T484d) : St := ⟨[(1, (.v .str x0)), (4, (.ptr 0 [])), (8, (.v (.slice Y484d) x1)), (9, (.v (.int .i64) x2)), (10, (.v (.int .i64) x3))], [.box Y484d (.v Y484d x4) true], 21, 0⟩
def vals_Find_1_ex (o : (Bool × T484d) ⊕ (T484d)) : Exit := match o with | (.inl o) => .ret | (.inr o) => (.exit 0)
def vals_Find_1_st (o : (Bool × T484d) ⊕ (T484d)) : St := match o with | (.inl o) => ⟨[(4, (.ptr 0 [])), (5, (.v .bool o.1))], [.box Y484d (.v Y484d o.2) true], 21, 0⟩ | (.inr o) => ⟨[(4, (.ptr 0 []))], [.box Y484d (.v Y484d o) true], 21, 0⟩
theorem vals_Find_1_body (x0 : B8) (x1 : List (T484d)) (x2 : Int) (x3 : Int) (x4 : T484d) : ∀ r, vals_Find_1_step x0 x1 x2 x3 x4 = some r → (match r with | .inl s => CodeOK prog (codeAt (bodyOf f22) [1, 0, 1, 0, 0]) (vals_Find_1_in x0 x1 x2 x3 x4) .normal (vals_Find_1_in x0 x1 x2 s x4) | .inr o => vals_Find_1_ex o ≠ .normal ∧ CodeOK prog (codeAt (bodyOf f22) [1, 0, 1, 0, 0]) (vals_Find_1_in x0 x1 x2 x3 x4) (vals_Find_1_ex o) (vals_Find_1_st o)) := by
 intro r h
 unfold vals_Find_1_step at h
 rcases fork_some h with ⟨h2, h⟩ | ⟨h2, h⟩
 ·obtain ⟨h3, h⟩ := need_some h
  rcases fork_some h with ⟨h4, h⟩ | ⟨h4, h⟩
  ·injection h with h; subst h
   exact ⟨by intro e; simp [vals_Find_1_ex] at e, env.code (its := [b1, b1, .sel [4, 5] [0]]) (.c h2 (.c h3 (.c h4 .n))) (by kernel_rfl)⟩
  ·injection h with h; subst h
   exact env.code (its := [b1, b0, .sel [1, 4, 8, 9, 10] [0]]) (.c h2 (.c h3 (.c h4 .n))) (by kernel_rfl)
 ·injection h with h; subst h
  exact ⟨by intro e; simp [vals_Find_1_ex] at e, env.code (its := [b0, .sel [4] [0]]) (.c h2 .n) (by kernel_rfl)⟩
theorem vals_Find_1_ok (x0 : B8) (x1 : List (T484d)) (x2 : Int) (x3 : Int) (x4 : T484d) (o : (Bool × T484d) ⊕ (T484d)) (h : vals_Find_1 x0 x1 x2 x3 x4 = some o) : CodeOK prog (codeAt (bodyOf f22) [1, 0, 1, 0]) (vals_Find_1_in x0 x1 x2 x3 x4) (vals_Find_1_ex o) (vals_Find_1_st o) :=
 LoopOK.of_step (st := fun s => vals_Find_1_in x0 x1 x2 s x4) (ex := vals_Find_1_ex) (stO := vals_Find_1_st) (fun s s2 hs => vals_Find_1_body x0 x1 x2 s x4 (.inl s2) hs) (fun s r hs => vals_Find_1_body x0 x1 x2 s x4 (.inr r) hs) _ o h
def vals_Find_R (a0 : List (T484d)) (a1 : B8) (u : (T484d) × Bool) : Slot := (.tup (.v Y484d u.1) (.tup (.v .bool u.2) .tnil))
def vals_Find_O (a0 : List (T484d)) (a1 : B8) (u : (T484d) × Bool) : List AObj := []
theorem vals_Find_ok (a0 : List (T484d)) (a1 : B8) (u : (T484d) × Bool) (h : vals_Find a0 a1 = some u) : CallC prog 22 [(.v (.slice Y484d) a0), (.v .str a1)] [] (vals_Find_R a0 a1 u) (vals_Find_O a0 a1 u) := by
 unfold vals_Find at h
 obtain ⟨o5, h6, h⟩ := andThen_some h
 rcases o5 with o7 | o8
 ·injection h with h; subst h
  exact env.fun func22 can22 (its := [.dive, .sel [1, 4, 8, 9, 10] [0], .part (vals_Find_1_ex (.inl o7)) (vals_Find_1_st (.inl o7))]) (pos := [.sel []]) (.c (vals_Find_1_ok a1 a0 (List.length a0 : Int) (0 : Int) Z484d (.inl o7) h6) .n) (by kernel_rfl)
 ·injection h with h; subst h
  exact env.fun func22 can22 (its := [.dive, .sel [1, 4, 8, 9, 10] [0], .part (vals_Find_1_ex (.inr o8)) (vals_Find_1_st (.inr o8))]) (pos := [.sel []]) (.c (vals_Find_1_ok a1 a0 (List.length a0 : Int) (0 : Int) Z484d (.inr o8) h6) .n) (by kernel_rfl)
theorem can78 : Callable prog 78 := ⟨_, func78, by kernel_rfl, by kernel_rfl⟩
def slices_Index_Lstring_string_1_in (x0 : List (B8)) (x1 : B8) (x2 : Int) (x3 : Int) : St := ⟨[(0, (.v (.slice .str) x0)), (1, (.v .str x1)), (7, (.v (.int .i64) x2)), (8, (.v (.int .i64) x3))], [], 19, 0⟩
def slices_Index_Lstring_string_1_ex (o : (Int) ⊕ (Unit)) : Exit := match o with | (.inl o) => .ret | (.inr o) => (.exit 0)
def slices_Index_Lstring_string_1_st (o : (Int) ⊕ (Unit)) : St := match o with | (.inl o) => ⟨[(4, (.v (.int .i64) o))], [], 19, 0⟩ | (.inr o) => ⟨[], [], 19, 0⟩
theorem slices_Index_Lstring_string_1_body (x0 : List (B8)) (x1 : B8) (x2 : Int) (x3 : Int) : ∀ r, slices_Index_Lstring_string_1_step x0 x1 x2 x3 = some r → (match r with | .inl s => CodeOK prog (codeAt (bodyOf f78) [1, 0, 1, 0, 0]) (slices_Index_Lstring_string_1_in x0 x1 x2 x3) .normal (slices_Index_Lstring_string_1_in x0 x1 x2 s) | .inr o => slices_Index_Lstring_string_1_ex o ≠ .normal ∧ CodeOK prog (codeAt (bodyOf f78) [1, 0, 1, 0, 0]) (slices_Index_Lstring_string_1_in x0 x1 x2 x3) (slices_Index_Lstring_string_1_ex o) (slices_Index_Lstring_string_1_st o)) := by
 intro r h
 unfold slices_Index_Lstring_string_1_step at h
 rcases fork_some h with ⟨h2, h⟩ | ⟨h2, h⟩
 ·obtain ⟨h3, h⟩ := need_some h
  rcases fork_some h with ⟨h4, h⟩ | ⟨h4, h⟩
  ·injection h with h; subst h
   exact ⟨by intro e; simp [slices_Index_Lstring_string_1_ex] at e, env.code (its := [b1, b1, .sel [4] []]) (.c h2 (.c h3 (.c h4 .n))) (by kernel_rfl)⟩
  ·injection h with h; subst h
   exact env.code (its := [b1, b0, .sel [0, 1, 7, 8] []]) (.c h2 (.c h3 (.c h4 .n))) (by kernel_rfl)
 ·injection h with h; subst h
  exact ⟨by intro e; simp [slices_Index_Lstring_string_1_ex] at e, env.code (its := [b0, .sel [] []]) (.c h2 .n) (by kernel_rfl)⟩
theorem slices_Index_Lstring_string_1_ok (x0 : List (B8)) (x1 : B8) (x2 : Int) (x3 : Int) (o : (Int) ⊕ (Unit)) (h : slices_Index_Lstring_string_1 x0 x1 x2 x3 = some o) : CodeOK prog (codeAt (bodyOf f78) [1, 0, 1, 0]) (slices_Index_Lstring_string_1_in x0 x1 x2 x3) (slices_Index_Lstring_string_1_ex o) (slices_Index_Lstring_string_1_st o) :=
 LoopOK.of_step (st := fun s => slices_Index_Lstring_string_1_in x0 x1 x2 s) (ex := slices_Index_Lstring_string_1_ex) (stO := slices_Index_Lstring_string_1_st) (fun s s2 hs => slices_Index_Lstring_string_1_body x0 x1 x2 s (.inl s2) hs) (fun s r hs => slices_Index_Lstring_string_1_body x0 x1 x2 s (.inr r) hs) _ o h
def slices_Index_Lstring_string_R (a0 : List (B8)) (a1 : B8) (u : Int) : Slot := (.v (.int .i64) u)
def slices_Index_Lstring_string_O (a0 : List (B8)) (a1 : B8) (u : Int) : List AObj := []
theorem slices_Index_Lstring_string_ok (a0 : List (B8)) (a1 : B8) (u : Int) (h : slices_Index_Lstring_string a0 a1 = some u) : CallC prog 78 [(.v (.slice .str) a0), (.v .str a1)] [] (slices_Index_Lstring_string_R a0 a1 u) (slices_Index_Lstring_string_O a0 a1 u) := by
 unfold slices_Index_Lstring_string at h
 obtain ⟨o5, h6, h⟩ := andThen_some h
 rcases o5 with o7 | o8
 ·injection h with h; subst h
  exact env.fun func78 can78 (its := [.dive, .sel [0, 1, 7, 8] [], .part (slices_Index_Lstring_string_1_ex (.inl o7)) (slices_Index_Lstring_string_1_st (.inl o7))]) (pos := [.sel []]) (.c (slices_Index_Lstring_string_1_ok a0 a1 (List.length a0 : Int) (0 : Int) (.inl o7) h6) .n) (by kernel_rfl)
 ·injection h with h; subst h
  exact env.fun func78 can78 (its := [.dive, .sel [0, 1, 7, 8] [], .part (slices_Index_Lstring_string_1_ex (.inr o8)) (slices_Index_Lstring_string_1_st (.inr o8))]) (pos := [.sel []]) (.c (slices_Index_Lstring_string_1_ok a0 a1 (List.length a0 : Int) (0 : Int) (.inr o8) h6) .n) (by kernel_rfl)
theorem can54 : Callable prog 54 := ⟨_, func54, by kernel_rfl, by kernel_rfl⟩
def slices_Contains_Lstring_string_R (a0 : List (B8)) (a1 : B8) (u : Bool) : Slot := (.v .bool u)
def slices_Contains_Lstring_string_O (a0 : List (B8)) (a1 : B8) (u : Bool) : List AObj := []
theorem slices_Contains_Lstring_string_ok (a0 : List (B8)) (a1 : B8) (u : Bool) (h : slices_Contains_Lstring_string a0 a1 = some u) : CallC prog 54 [(.v (.slice .str) a0), (.v .str a1)] [] (slices_Contains_Lstring_string_R a0 a1 u) (slices_Contains_Lstring_string_O a0 a1 u) := by
 unfold slices_Contains_Lstring_string at h
 obtain ⟨u1, h2, h⟩ := andThen_some h
 injection h with h; subst h
 exact env.fun func54 can54 (its := [.call [none, none] [] [] true (slices_Index_Lstring_string_R a0 a1 u1) (slices_Index_Lstring_string_O a0 a1 u1)]) (pos := [.sel []]) (.c (slices_Index_Lstring_string_ok a0 a1 u1 h2) .n) (by kernel_rfl)
theorem can26 : Callable prog 26 := ⟨_, func26, by kernel_rfl, by kernel_rfl⟩
def vals_Total_1_in (x0 : Int) (x1 : List (T484d)) (x2 : Int) (x3 : Int) : St := ⟨[(3, (.v (.int .i64) x0)), (6, (.v (.slice Y484d) x1)), (7, (.v (.int .i64) x2)), (8, (.v (.int .i64) x3))], [], 18, 0⟩
def vals_Total_1_ex (o : Int) : Exit := (.exit 0)
def vals_Total_1_st (o : Int) : St := ⟨[(3, (.v (.int .i64) o))], [], 18, 0⟩
theorem vals_Total_1_body (x0 : Int) (x1 : List (T484d)) (x2 : Int) (x3 : Int) : ∀ r, vals_Total_1_step x0 x1 x2 x3 = some r → (match r with | .inl s => CodeOK prog (codeAt (bodyOf f26) [1, 1, 0, 1, 0, 0]) (vals_Total_1_in x0 x1 x2 x3) .normal (vals_Total_1_in s.1 x1 x2 s.2) | .inr o => vals_Total_1_ex o ≠ .normal ∧ CodeOK prog (codeAt (bodyOf f26) [1, 1, 0, 1, 0, 0]) (vals_Total_1_in x0 x1 x2 x3) (vals_Total_1_ex o) (vals_Total_1_st o)) := by
 intro r h
 unfold vals_Total_1_step at h
 rcases fork_some h with ⟨h2, h⟩ | ⟨h2, h⟩
 ·obtain ⟨h3, h⟩ := need_some h
  injection h with h; subst h
  exact env.code (its := [b1, .dive, .sel [3, 6, 7, 8] []]) (.c h2 (.c h3 .n)) (by kernel_rfl)
 ·injection h with h; subst h
  exact ⟨by intro e; simp [vals_Total_1_ex] at e, env.code (its := [b0, .sel [3] []]) (.c h2 .n) (by kernel_rfl)⟩
theorem vals_Total_1_ok (x0 : Int) (x1 : List (T484d)) (x2 : Int) (x3 : Int) (o : Int) (h : vals_Total_1 x0 x1 x2 x3 = some o) : CodeOK prog (codeAt (bodyOf f26) [1, 1, 0, 1, 0]) (vals_Total_1_in x0 x1 x2 x3) (vals_Total_1_ex o) (vals_Total_1_st o) :=
 LoopOK.of_step (st := fun s => vals_Total_1_in s.1 x1 x2 s.2) (ex := vals_Total_1_ex) (stO := vals_Total_1_st) (fun s s2 hs => vals_Total_1_body s.1 x1 x2 s.2 (.inl s2) hs) (fun s r hs => vals_Total_1_body s.1 x1 x2 s.2 (.inr r) hs) _ o h
def vals_Total_R (a0 : List (T484d)) (u : Int) : Slot := (.v (.int .i64) u)
def vals_Total_O (a0 : List (T484d)) (u : Int) : List AObj := []
theorem vals_Total_ok (a0 : List (T484d)) (u : Int) (h : vals_Total a0 = some u) : CallC prog 26 [(.v (.slice Y484d) a0)] [] (vals_Total_R a0 u) (vals_Total_O a0 u) := by
 unfold vals_Total at h
 obtain ⟨o4, h5, h⟩ := andThen_some h
 injection h with h; subst h
 exact env.fun func26 can26 (its := [.dive, .sel [3, 6, 7, 8] [], .part (vals_Total_1_ex o4) (vals_Total_1_st o4)]) (pos := [.sel []]) (.c (vals_Total_1_ok (0 : Int) a0 (List.length a0 : Int) (0 : Int) o4 h5) .n) (by kernel_rfl)
theorem can23 : Callable prog 23 := ⟨_, func23, by kernel_rfl, by kernel_rfl⟩
def vals_Tally_1_in (x0 : List (T484d)) (x1 : List (B8)) (x2 : Int) (x3 : List (T484d)) (x4 : Int) (x5 : Int) : St := ⟨[(0, (.v (.slice Y484d) x0)), (1, (.v (.slice .str) x1)), (5, (.v (.int .i64) x2)), (8, (.v (.slice Y484d) x3)), (9, (.v (.int .i64) x4)), (10, (.v (.int .i64) x5))], [], 29, 0⟩
def vals_Tally_1_ex (o : (List (T484d)) × Int) : Exit := (.exit 0)
def vals_Tally_1_st (o : (List (T484d)) × Int) : St := ⟨[(0, (.v (.slice Y484d) o.1)), (5, (.v (.int .i64) o.2))], [], 29, 0⟩
theorem vals_Tally_1_body (x0 : List (T484d)) (x1 : List (B8)) (x2 : Int) (x3 : List (T484d)) (x4 : Int) (x5 : Int) : ∀ r, vals_Tally_1_step x0 x1 x2 x3 x4 x5 = some r → (match r with | .inl s => CodeOK prog (codeAt (bodyOf f23) [1, 1, 0, 1, 0, 0]) (vals_Tally_1_in x0 x1 x2 x3 x4 x5) .normal (vals_Tally_1_in x0 x1 s.1 x3 x4 s.2) | .inr o => vals_Tally_1_ex o ≠ .normal ∧ CodeOK prog (codeAt (bodyOf f23) [1, 1, 0, 1, 0, 0]) (vals_Tally_1_in x0 x1 x2 x3 x4 x5) (vals_Tally_1_ex o) (vals_Tally_1_st o)) := by
 intro r h
 unfold vals_Tally_1_step at h
 rcases fork_some h with ⟨h2, h⟩ | ⟨h2, h⟩
 ·obtain ⟨h3, h⟩ := need_some h
  obtain ⟨u4, h5, h⟩ := andThen_some h
  rcases fork_some h with ⟨h6, h⟩ | ⟨h6, h⟩
  ·injection h with h; subst h
   exact env.code (its := [b1, .call [none, none] [] [] true (slices_Contains_Lstring_string_R x1 ((List.getD x3 (Int.toNat x5) Z484d).1) u4) (slices_Contains_Lstring_string_O x1 ((List.getD x3 (Int.toNat x5) Z484d).1) u4), b1, .sel [0, 1, 5, 8, 9, 10] []]) (.c h2 (.c h3 (.c (slices_Contains_Lstring_string_ok x1 ((List.getD x3 (Int.toNat x5) Z484d).1) u4 h5) (.c h6 .n)))) (by kernel_rfl)
  ·injection h with h; subst h
   exact env.code (its := [b1, .call [none, none] [] [] true (slices_Contains_Lstring_string_R x1 ((List.getD x3 (Int.toNat x5) Z484d).1) u4) (slices_Contains_Lstring_string_O x1 ((List.getD x3 (Int.toNat x5) Z484d).1) u4), b0, .sel [0, 1, 5, 8, 9, 10] []]) (.c h2 (.c h3 (.c (slices_Contains_Lstring_string_ok x1 ((List.getD x3 (Int.toNat x5) Z484d).1) u4 h5) (.c h6 .n)))) (by kernel_rfl)
 ·injection h with h; subst h
  exact ⟨by intro e; simp [vals_Tally_1_ex] at e, env.code (its := [b0, .sel [0, 5] []]) (.c h2 .n) (by kernel_rfl)⟩
theorem vals_Tally_1_ok (x0 : List (T484d)) (x1 : List (B8)) (x2 : Int) (x3 : List (T484d)) (x4 : Int) (x5 : Int) (o : (List (T484d)) × Int) (h : vals_Tally_1 x0 x1 x2 x3 x4 x5 = some o) : CodeOK prog (codeAt (bodyOf f23) [1, 1, 0, 1, 0]) (vals_Tally_1_in x0 x1 x2 x3 x4 x5) (vals_Tally_1_ex o) (vals_Tally_1_st o) :=
 LoopOK.of_step (st := fun s => vals_Tally_1_in x0 x1 s.1 x3 x4 s.2) (ex := vals_Tally_1_ex) (stO := vals_Tally_1_st) (fun s s2 hs => vals_Tally_1_body x0 x1 s.1 x3 x4 s.2 (.inl s2) hs) (fun s r hs => vals_Tally_1_body x0 x1 s.1 x3 x4 s.2 (.inr r) hs) _ o h
def vals_Tally_R (a0 : List (T484d)) (a1 : List (B8)) (u : Int × Int) : Slot := (.v .cplx u)
def vals_Tally_O (a0 : List (T484d)) (a1 : List (B8)) (u : Int × Int) : List AObj := []
theorem vals_Tally_ok (a0 : List (T484d)) (a1 : List (B8)) (u : Int × Int) (h : vals_Tally a0 a1 = some u) : CallC prog 23 [(.v (.slice Y484d) a0), (.v (.slice .str) a1)] [] (vals_Tally_R a0 a1 u) (vals_Tally_O a0 a1 u) := by
 unfold vals_Tally at h
 obtain ⟨o7, h8, h⟩ := andThen_some h
 obtain ⟨h9, h⟩ := need_some h
 obtain ⟨u10, h11, h⟩ := andThen_some h
 obtain ⟨h12, h⟩ := need_some h
 injection h with h; subst h
 exact env.fun func23 can23 (its := [.dive, .sel [0, 1, 5, 8, 9, 10] [], .part (vals_Tally_1_ex o7) (vals_Tally_1_st o7), .call [none] [] [] true (vals_Total_R o7.1 u10) (vals_Total_O o7.1 u10)]) (pos := [.sel []]) (.c (vals_Tally_1_ok a0 a1 (0 : Int) a0 (List.length a0 : Int) (0 : Int) o7 h8) (.c h9 (.c (vals_Total_ok o7.1 u10 h11) (.c h12 .n)))) (by kernel_rfl)
theorem can79 : Callable prog 79 := ⟨_, func79, by kernel_rfl, by kernel_rfl⟩
def vint_one_1_in (x0 : Int) (x1 : B8) : St := ⟨[(0, (.v (.int .i64) x0)), (3, (.own 0 []))], [.row (.int .u8) x1 true], 26, 0⟩
def vint_one_1_ex (o : Int × B8) : Exit := (.exit 0)
def vint_one_1_st (o : Int × B8) : St := ⟨[(0, (.v (.int .i64) o.1)), (3, (.own 0 []))], [.row (.int .u8) o.2 true], 26, 0⟩
theorem vint_one_1_body (x0 : Int) (x1 : B8) : ∀ r, vint_one_1_step x0 x1 = some r → (match r with | .inl s => CodeOK prog (codeAt (bodyOf f79) [1, 1, 1, 0, 0, 0]) (vint_one_1_in x0 x1) .normal (vint_one_1_in s.1 s.2) | .inr o => vint_one_1_ex o ≠ .normal ∧ CodeOK prog (codeAt (bodyOf f79) [1, 1, 1, 0, 0, 0]) (vint_one_1_in x0 x1) (vint_one_1_ex o) (vint_one_1_st o)) := by
 intro r h
 unfold vint_one_1_step at h
 rcases fork_some h with ⟨h4, h⟩ | ⟨h4, h⟩
 ·obtain ⟨h5, h⟩ := need_some h
  injection h with h; subst h
  exact env.code (its := [b1, .dive, .sel [0, 3] [2]]) (.c h4 (.c h5 (.c (of_decide_eq_true (p := (0 ≤ (7 : Int))) (by kernel_rfl)) .n))) (by kernel_rfl)
 ·injection h with h; subst h
  exact ⟨by intro e; simp [vint_one_1_ex] at e, env.code (its := [b0, .sel [0, 3] [0]]) (.c h4 .n) (by kernel_rfl)⟩
theorem vint_one_1_ok (x0 : Int) (x1 : B8) (o : Int × B8) (h : vint_one_1 x0 x1 = some o) : CodeOK prog (codeAt (bodyOf f79) [1, 1, 1, 0, 0]) (vint_one_1_in x0 x1) (vint_one_1_ex o) (vint_one_1_st o) :=
 LoopOK.of_step (st := fun s => vint_one_1_in s.1 s.2) (ex := vint_one_1_ex) (stO := vint_one_1_st) (fun s s2 hs => vint_one_1_body s.1 s.2 (.inl s2) hs) (fun s r hs => vint_one_1_body s.1 s.2 (.inr r) hs) _ o h
def vint_one_R (a0 : Int) (u : B8) : Slot := (.own 0 [])
def vint_one_O (a0 : Int) (u : B8) : List AObj := [.row (.int .u8) u true]
theorem vint_one_ok (a0 : Int) (u : B8) (h : vint_one a0 = some u) : CallC prog 79 [(.v (.int .i64) a0)] [] (vint_one_R a0 u) (vint_one_O a0 u) := by
 unfold vint_one at h
 rcases fork_some h with ⟨h1, h⟩ | ⟨h1, h⟩
 ·injection h with h; subst h
  exact env.fun func79 can79 (its := [b1, b1, b1, b1]) (pos := [.promote (.int .u8), .sel [0]]) (.c h1 (.c h1 (.c h1 (.c r1 .n)))) (by kernel_rfl)
 ·rcases fork_some h with ⟨h2, h⟩ | ⟨h2, h⟩
  ·injection h with h; subst h
   exact env.fun func79 can79 (its := [b0, b0, b0, b1]) (pos := [.promote (.int .u8), .sel [0]]) (.c h1 (.c h1 (.c h1 (.c h2 .n)))) (by kernel_rfl)
  ·obtain ⟨o6, h7, h⟩ := andThen_some h
   obtain ⟨h8, h⟩ := need_some h
   injection h with h; subst h
   exact env.fun func79 can79 (its := [b0, b0, b0, b0, .dive, .promote 3 (.int .u8), .sel [0, 3] [0], .part (vint_one_1_ex o6) (vint_one_1_st o6)]) (pos := [.sel [2]]) (.c h1 (.c h1 (.c h1 (.c h2 (.c (vint_one_1_ok a0 ([] : List (UInt8)) o6 h7) (.c h8 .n)))))) (by kernel_rfl)
theorem can55 : Callable prog 55 := ⟨_, func55, by kernel_rfl, by kernel_rfl⟩
def vint_Put_1_in (x0 : List Int) (x1 : Int) (x2 : Int) (x3 : B8) : St := ⟨[(3, (.own 0 [])), (6, (.v (.slice (.int .i64)) x0)), (7, (.v (.int .i64) x1)), (8, (.v (.int .i64) x2))], [.row (.int .u8) x3 true], 18, 0⟩
def vint_Put_1_ex (o : B8) : Exit := (.exit 0)
def vint_Put_1_st (o : B8) : St := ⟨[(3, (.own 0 []))], [.row (.int .u8) o true], 18, 0⟩
theorem vint_Put_1_body (x0 : List Int) (x1 : Int) (x2 : Int) (x3 : B8) : ∀ r, vint_Put_1_step x0 x1 x2 x3 = some r → (match r with | .inl s => CodeOK prog (codeAt (bodyOf f55) [1, 1, 0, 1, 0, 0]) (vint_Put_1_in x0 x1 x2 x3) .normal (vint_Put_1_in x0 x1 s.1 s.2) | .inr o => vint_Put_1_ex o ≠ .normal ∧ CodeOK prog (codeAt (bodyOf f55) [1, 1, 0, 1, 0, 0]) (vint_Put_1_in x0 x1 x2 x3) (vint_Put_1_ex o) (vint_Put_1_st o)) := by
 intro r h
 unfold vint_Put_1_step at h
 rcases fork_some h with ⟨h2, h⟩ | ⟨h2, h⟩
 ·obtain ⟨h3, h⟩ := need_some h
  obtain ⟨u4, h5, h⟩ := andThen_some h
  obtain ⟨h6, h⟩ := need_some h
  injection h with h; subst h
  exact env.code (its := [b1, .call [none] [] [] true (vint_one_R (List.getD x0 (Int.toNat x2) (0 : Int)) u4) (vint_one_O (List.getD x0 (Int.toNat x2) (0 : Int)) u4), .sel [3, 6, 7, 8] [2]]) (.c h2 (.c h3 (.c (vint_one_ok (List.getD x0 (Int.toNat x2) (0 : Int)) u4 h5) (.c h6 .n)))) (by kernel_rfl)
 ·injection h with h; subst h
  exact ⟨by intro e; simp [vint_Put_1_ex] at e, env.code (its := [b0, .sel [3] [0]]) (.c h2 .n) (by kernel_rfl)⟩
theorem vint_Put_1_ok (x0 : List Int) (x1 : Int) (x2 : Int) (x3 : B8) (o : B8) (h : vint_Put_1 x0 x1 x2 x3 = some o) : CodeOK prog (codeAt (bodyOf f55) [1, 1, 0, 1, 0]) (vint_Put_1_in x0 x1 x2 x3) (vint_Put_1_ex o) (vint_Put_1_st o) :=
 LoopOK.of_step (st := fun s => vint_Put_1_in x0 x1 s.1 s.2) (ex := vint_Put_1_ex) (stO := vint_Put_1_st) (fun s s2 hs => vint_Put_1_body x0 x1 s.1 s.2 (.inl s2) hs) (fun s r hs => vint_Put_1_body x0 x1 s.1 s.2 (.inr r) hs) _ o h
def vint_Put_R (a0 : List Int) (u : B8) : Slot := (.own 0 [])
def vint_Put_O (a0 : List Int) (u : B8) : List AObj := [.row (.int .u8) u true]
theorem vint_Put_ok (a0 : List Int) (u : B8) (h : vint_Put a0 = some u) : CallC prog 55 [(.v (.slice (.int .i64)) a0)] [] (vint_Put_R a0 u) (vint_Put_O a0 u) := by
 unfold vint_Put at h
 obtain ⟨o7, h8, h⟩ := andThen_some h
 injection h with h; subst h
 exact env.fun func55 can55 (its := [.dive, .promote 3 (.int .u8), .sel [3, 6, 7, 8] [0], .part (vint_Put_1_ex o7) (vint_Put_1_st o7)]) (pos := [.sel [0]]) (.c (vint_Put_1_ok a0 (List.length a0 : Int) (0 : Int) ([] : List (UInt8)) o7 h8) .n) (by kernel_rfl)
theorem can57 : Callable prog 57 := ⟨_, func57, by kernel_rfl, by kernel_rfl⟩
def vint_Text_1_in (x0 : List (B8)) (x1 : Int) (x2 : Int) (x3 : B8) : St := ⟨[(3, (.own 0 [])), (6, (.v (.slice .str) x0)), (7, (.v (.int .i64) x1)), (8, (.v (.int .i64) x2))], [.row (.int .u8) x3 true], 21, 0⟩
def vint_Text_1_ex (o : B8) : Exit := (.exit 0)
def vint_Text_1_st (o : B8) : St := ⟨[(3, (.own 0 []))], [.row (.int .u8) o true], 21, 0⟩
theorem vint_Text_1_body (x0 : List (B8)) (x1 : Int) (x2 : Int) (x3 : B8) : ∀ r, vint_Text_1_step x0 x1 x2 x3 = some r → (match r with | .inl s => CodeOK prog (codeAt (bodyOf f57) [1, 1, 0, 1, 0, 0]) (vint_Text_1_in x0 x1 x2 x3) .normal (vint_Text_1_in x0 x1 s.1 s.2) | .inr o => vint_Text_1_ex o ≠ .normal ∧ CodeOK prog (codeAt (bodyOf f57) [1, 1, 0, 1, 0, 0]) (vint_Text_1_in x0 x1 x2 x3) (vint_Text_1_ex o) (vint_Text_1_st o)) := by
 intro r h
 unfold vint_Text_1_step at h
 rcases fork_some h with ⟨h2, h⟩ | ⟨h2, h⟩
 ·obtain ⟨h3, h⟩ := need_some h
  obtain ⟨u4, h5, h⟩ := andThen_some h
  obtain ⟨h6, h⟩ := need_some h
  obtain ⟨h7, h⟩ := need_some h
  injection h with h; subst h
  exact env.code (its := [b1, .call [none] [] [] true (vint_one_R (List.length (List.getD x0 (Int.toNat x2) ([] : B8)) : Int) u4) (vint_one_O (List.length (List.getD x0 (Int.toNat x2) ([] : B8)) : Int) u4), .sel [3, 6, 7, 8] [3]]) (.c h2 (.c h3 (.c (vint_one_ok (List.length (List.getD x0 (Int.toNat x2) ([] : B8)) : Int) u4 h5) (.c h6 (.c h7 .n))))) (by kernel_rfl)
 ·injection h with h; subst h
  exact ⟨by intro e; simp [vint_Text_1_ex] at e, env.code (its := [b0, .sel [3] [0]]) (.c h2 .n) (by kernel_rfl)⟩
theorem vint_Text_1_ok (x0 : List (B8)) (x1 : Int) (x2 : Int) (x3 : B8) (o : B8) (h : vint_Text_1 x0 x1 x2 x3 = some o) : CodeOK prog (codeAt (bodyOf f57) [1, 1, 0, 1, 0]) (vint_Text_1_in x0 x1 x2 x3) (vint_Text_1_ex o) (vint_Text_1_st o) :=
 LoopOK.of_step (st := fun s => vint_Text_1_in x0 x1 s.1 s.2) (ex := vint_Text_1_ex) (stO := vint_Text_1_st) (fun s s2 hs => vint_Text_1_body x0 x1 s.1 s.2 (.inl s2) hs) (fun s r hs => vint_Text_1_body x0 x1 s.1 s.2 (.inr r) hs) _ o h
def vint_Text_R (a0 : List (B8)) (u : B8) : Slot := (.own 0 [])
def vint_Text_O (a0 : List (B8)) (u : B8) : List AObj := [.row (.int .u8) u true]
theorem vint_Text_ok (a0 : List (B8)) (u : B8) (h : vint_Text a0 = some u) : CallC prog 57 [(.v (.slice .str) a0)] [] (vint_Text_R a0 u) (vint_Text_O a0 u) := by
 unfold vint_Text at h
 obtain ⟨o8, h9, h⟩ := andThen_some h
 injection h with h; subst h
 exact env.fun func57 can57 (its := [.dive, .promote 3 (.int .u8), .sel [3, 6, 7, 8] [0], .part (vint_Text_1_ex o8) (vint_Text_1_st o8)]) (pos := [.sel [0]]) (.c (vint_Text_1_ok a0 (List.length a0 : Int) (0 : Int) ([] : List (UInt8)) o8 h9) .n) (by kernel_rfl)
theorem can58 : Callable prog 58 := ⟨_, func58, by kernel_rfl, by kernel_rfl⟩
def vint_Hash_1_in (x0 : List (B8)) (x1 : Int) (x2 : Int) (x3 : B8) : St := ⟨[(3, (.own 0 [])), (6, (.v (.slice (.arr 32 (.int .u8))) x0)), (7, (.v (.int .i64) x1)), (8, (.v (.int .i64) x2))], [.row (.int .u8) x3 true], 17, 0⟩
def vint_Hash_1_ex (o : B8) : Exit := (.exit 0)
def vint_Hash_1_st (o : B8) : St := ⟨[(3, (.own 0 []))], [.row (.int .u8) o true], 17, 0⟩
theorem vint_Hash_1_body (x0 : List (B8)) (x1 : Int) (x2 : Int) (x3 : B8) : ∀ r, vint_Hash_1_step x0 x1 x2 x3 = some r → (match r with | .inl s => CodeOK prog (codeAt (bodyOf f58) [1, 1, 0, 1, 0, 0]) (vint_Hash_1_in x0 x1 x2 x3) .normal (vint_Hash_1_in x0 x1 s.1 s.2) | .inr o => vint_Hash_1_ex o ≠ .normal ∧ CodeOK prog (codeAt (bodyOf f58) [1, 1, 0, 1, 0, 0]) (vint_Hash_1_in x0 x1 x2 x3) (vint_Hash_1_ex o) (vint_Hash_1_st o)) := by
 intro r h
 unfold vint_Hash_1_step at h
 rcases fork_some h with ⟨h2, h⟩ | ⟨h2, h⟩
 ·obtain ⟨h3, h⟩ := need_some h
  obtain ⟨h4, h⟩ := need_some h
  injection h with h; subst h
  exact env.code (its := [b1, b1, .sel [3, 6, 7, 8] [2]]) (.c h2 (.c h3 (.c h4 .n))) (by kernel_rfl)
 ·injection h with h; subst h
  exact ⟨by intro e; simp [vint_Hash_1_ex] at e, env.code (its := [b0, .sel [3] [0]]) (.c h2 .n) (by kernel_rfl)⟩
theorem vint_Hash_1_ok (x0 : List (B8)) (x1 : Int) (x2 : Int) (x3 : B8) (o : B8) (h : vint_Hash_1 x0 x1 x2 x3 = some o) : CodeOK prog (codeAt (bodyOf f58) [1, 1, 0, 1, 0]) (vint_Hash_1_in x0 x1 x2 x3) (vint_Hash_1_ex o) (vint_Hash_1_st o) :=
 LoopOK.of_step (st := fun s => vint_Hash_1_in x0 x1 s.1 s.2) (ex := vint_Hash_1_ex) (stO := vint_Hash_1_st) (fun s s2 hs => vint_Hash_1_body x0 x1 s.1 s.2 (.inl s2) hs) (fun s r hs => vint_Hash_1_body x0 x1 s.1 s.2 (.inr r) hs) _ o h
def vint_Hash_R (a0 : List (B8)) (u : B8) : Slot := (.own 0 [])
def vint_Hash_O (a0 : List (B8)) (u : B8) : List AObj := [.row (.int .u8) u true]
theorem vint_Hash_ok (a0 : List (B8)) (u : B8) (h : vint_Hash a0 = some u) : CallC prog 58 [(.v (.slice (.arr 32 (.int .u8))) a0)] [] (vint_Hash_R a0 u) (vint_Hash_O a0 u) := by
 unfold vint_Hash at h
 obtain ⟨o5, h6, h⟩ := andThen_some h
 injection h with h; subst h
 exact env.fun func58 can58 (its := [.dive, .promote 3 (.int .u8), .sel [3, 6, 7, 8] [0], .part (vint_Hash_1_ex o5) (vint_Hash_1_st o5)]) (pos := [.sel [0]]) (.c (vint_Hash_1_ok a0 (List.length a0 : Int) (0 : Int) ([] : List (UInt8)) o5 h6) .n) (by kernel_rfl)
theorem can80 : Callable prog 80 := ⟨_, func80, by kernel_rfl, by kernel_rfl⟩
def slices_Grow_Lbyte_byte_f4c0_R (a0 : Int) (u : B8) : Slot := (.own 0 [])
def slices_Grow_Lbyte_byte_f4c0_O (a0 : Int) (u : B8) : List AObj := [.row (.int .u8) u true]
theorem slices_Grow_Lbyte_byte_f4c0_ok (a0 : Int) (u : B8) (h : slices_Grow_Lbyte_byte_f4c0 a0 = some u) : CallC prog 80 [.nil, (.v (.int .i64) a0)] [] (slices_Grow_Lbyte_byte_f4c0_R a0 u) (slices_Grow_Lbyte_byte_f4c0_O a0 u) := by
 unfold slices_Grow_Lbyte_byte_f4c0 at h
 rcases fork_some h with ⟨h1, h⟩ | ⟨h1, h⟩
 ·cases h
 ·rcases fork_some h with ⟨h2, h⟩ | ⟨h2, h⟩
  ·obtain ⟨h3, h⟩ := need_some h
   obtain ⟨h4, h⟩ := need_some h
   obtain ⟨h5, h⟩ := need_some h
   obtain ⟨h6, h⟩ := need_some h
   injection h with h; subst h
   exact env.fun func80 can80 (its := [b0, b1, b1, b1]) (pos := [.sel [1]]) (.c h1 (.c h2 (.c h3 (.c h4 (.c h5 (.c h6 .n)))))) (by kernel_rfl)
  ·injection h with h; subst h
   exact env.fun func80 can80 (its := [b0, b0]) (pos := [.promote (.int .u8), .sel [0]]) (.c h1 (.c h2 .n)) (by kernel_rfl)
theorem can56 : Callable prog 56 := ⟨_, func56, by kernel_rfl, by kernel_rfl⟩
def slices_Concat_Lbyte_byte_1_in (x0 : List (B8)) (x1 : Int) (x2 : List (B8)) (x3 : Int) (x4 : Int) : St := ⟨[(0, (.v (.slice (.slice (.int .u8))) x0)), (3, (.v (.int .i64) x1)), (9, (.v (.slice (.slice (.int .u8))) x2)), (10, (.v (.int .i64) x3)), (11, (.v (.int .i64) x4))], [], 36, 0⟩
def slices_Concat_Lbyte_byte_1_ex (o : List (B8) × Int) : Exit := (.exit 0)
def slices_Concat_Lbyte_byte_1_st (o : List (B8) × Int) : St := ⟨[(0, (.v (.slice (.slice (.int .u8))) o.1)), (3, (.v (.int .i64) o.2))], [], 36, 0⟩
theorem slices_Concat_Lbyte_byte_1_body (x0 : List (B8)) (x1 : Int) (x2 : List (B8)) (x3 : Int) (x4 : Int) : ∀ r, slices_Concat_Lbyte_byte_1_step x0 x1 x2 x3 x4 = some r → (match r with | .inl s => CodeOK prog (codeAt (bodyOf f56) [1, 1, 0, 1, 0, 0]) (slices_Concat_Lbyte_byte_1_in x0 x1 x2 x3 x4) .normal (slices_Concat_Lbyte_byte_1_in x0 s.1 x2 x3 s.2) | .inr o => slices_Concat_Lbyte_byte_1_ex o ≠ .normal ∧ CodeOK prog (codeAt (bodyOf f56) [1, 1, 0, 1, 0, 0]) (slices_Concat_Lbyte_byte_1_in x0 x1 x2 x3 x4) (slices_Concat_Lbyte_byte_1_ex o) (slices_Concat_Lbyte_byte_1_st o)) := by
 intro r h
 unfold slices_Concat_Lbyte_byte_1_step at h
 rcases fork_some h with ⟨h2, h⟩ | ⟨h2, h⟩
 ·obtain ⟨h3, h⟩ := need_some h
  rcases fork_some h with ⟨h4, h⟩ | ⟨h4, h⟩
  ·cases h
  ·injection h with h; subst h
   exact env.code (its := [b1, b0, .sel [0, 3, 9, 10, 11] []]) (.c h2 (.c h3 (.c h4 .n))) (by kernel_rfl)
 ·injection h with h; subst h
  exact ⟨by intro e; simp [slices_Concat_Lbyte_byte_1_ex] at e, env.code (its := [b0, .sel [0, 3] []]) (.c h2 .n) (by kernel_rfl)⟩
theorem slices_Concat_Lbyte_byte_1_ok (x0 : List (B8)) (x1 : Int) (x2 : List (B8)) (x3 : Int) (x4 : Int) (o : List (B8) × Int) (h : slices_Concat_Lbyte_byte_1 x0 x1 x2 x3 x4 = some o) : CodeOK prog (codeAt (bodyOf f56) [1, 1, 0, 1, 0]) (slices_Concat_Lbyte_byte_1_in x0 x1 x2 x3 x4) (slices_Concat_Lbyte_byte_1_ex o) (slices_Concat_Lbyte_byte_1_st o) :=
 LoopOK.of_step (st := fun s => slices_Concat_Lbyte_byte_1_in x0 s.1 x2 x3 s.2) (ex := slices_Concat_Lbyte_byte_1_ex) (stO := slices_Concat_Lbyte_byte_1_st) (fun s s2 hs => slices_Concat_Lbyte_byte_1_body x0 s.1 x2 x3 s.2 (.inl s2) hs) (fun s r hs => slices_Concat_Lbyte_byte_1_body x0 s.1 x2 x3 s.2 (.inr r) hs) _ o h
def slices_Concat_Lbyte_byte_2_in (x0 : List (B8)) (x1 : Int) (x2 : Int) (x3 : B8) : St := ⟨[(6, (.own 0 [])), (25, (.v (.slice (.slice (.int .u8))) x0)), (26, (.v (.int .i64) x1)), (27, (.v (.int .i64) x2))], [.row (.int .u8) x3 true], 36, 0⟩
def slices_Concat_Lbyte_byte_2_ex (o : B8) : Exit := (.exit 2)
def slices_Concat_Lbyte_byte_2_st (o : B8) : St := ⟨[(6, (.own 0 []))], [.row (.int .u8) o true], 36, 0⟩
theorem slices_Concat_Lbyte_byte_2_body (x0 : List (B8)) (x1 : Int) (x2 : Int) (x3 : B8) : ∀ r, slices_Concat_Lbyte_byte_2_step x0 x1 x2 x3 = some r → (match r with | .inl s => CodeOK prog (codeAt (bodyOf f56) [1, 1, 1, 1, 0, 1, 0, 0]) (slices_Concat_Lbyte_byte_2_in x0 x1 x2 x3) .normal (slices_Concat_Lbyte_byte_2_in x0 x1 s.1 s.2) | .inr o => slices_Concat_Lbyte_byte_2_ex o ≠ .normal ∧ CodeOK prog (codeAt (bodyOf f56) [1, 1, 1, 1, 0, 1, 0, 0]) (slices_Concat_Lbyte_byte_2_in x0 x1 x2 x3) (slices_Concat_Lbyte_byte_2_ex o) (slices_Concat_Lbyte_byte_2_st o)) := by
 intro r h
 unfold slices_Concat_Lbyte_byte_2_step at h
 rcases fork_some h with ⟨h10, h⟩ | ⟨h10, h⟩
 ·obtain ⟨h11, h⟩ := need_some h
  obtain ⟨h12, h⟩ := need_some h
  injection h with h; subst h
  exact env.code (its := [b1, .dive, .sel [6, 25, 26, 27] [1]]) (.c h10 (.c h11 (.c h12 .n))) (by kernel_rfl)
 ·injection h with h; subst h
  exact ⟨by intro e; simp [slices_Concat_Lbyte_byte_2_ex] at e, env.code (its := [b0, .sel [6] [0]]) (.c h10 .n) (by kernel_rfl)⟩
theorem slices_Concat_Lbyte_byte_2_ok (x0 : List (B8)) (x1 : Int) (x2 : Int) (x3 : B8) (o : B8) (h : slices_Concat_Lbyte_byte_2 x0 x1 x2 x3 = some o) : CodeOK prog (codeAt (bodyOf f56) [1, 1, 1, 1, 0, 1, 0]) (slices_Concat_Lbyte_byte_2_in x0 x1 x2 x3) (slices_Concat_Lbyte_byte_2_ex o) (slices_Concat_Lbyte_byte_2_st o) :=
 LoopOK.of_step (st := fun s => slices_Concat_Lbyte_byte_2_in x0 x1 s.1 s.2) (ex := slices_Concat_Lbyte_byte_2_ex) (stO := slices_Concat_Lbyte_byte_2_st) (fun s s2 hs => slices_Concat_Lbyte_byte_2_body x0 x1 s.1 s.2 (.inl s2) hs) (fun s r hs => slices_Concat_Lbyte_byte_2_body x0 x1 s.1 s.2 (.inr r) hs) _ o h
def slices_Concat_Lbyte_byte_R (a0 : List (B8)) (u : B8) : Slot := (.own 0 [])
def slices_Concat_Lbyte_byte_O (a0 : List (B8)) (u : B8) : List AObj := [.row (.int .u8) u true]
theorem slices_Concat_Lbyte_byte_ok (a0 : List (B8)) (u : B8) (h : slices_Concat_Lbyte_byte a0 = some u) : CallC prog 56 [(.v (.slice (.slice (.int .u8))) a0)] [] (slices_Concat_Lbyte_byte_R a0 u) (slices_Concat_Lbyte_byte_O a0 u) := by
 unfold slices_Concat_Lbyte_byte at h
 obtain ⟨o5, h6, h⟩ := andThen_some h
 obtain ⟨u7, h8, h⟩ := andThen_some h
 obtain ⟨o13, h14, h⟩ := andThen_some h
 injection h with h; subst h
 exact env.fun func56 can56 (its := [.dive, .sel [0, 3, 9, 10, 11] [], .part (slices_Concat_Lbyte_byte_1_ex o5) (slices_Concat_Lbyte_byte_1_st o5), .call [none, none] [] [] true (slices_Grow_Lbyte_byte_f4c0_R o5.2 u7) (slices_Grow_Lbyte_byte_f4c0_O o5.2 u7), .dive, .sel [6, 25, 26, 27] [0], .part (slices_Concat_Lbyte_byte_2_ex o13) (slices_Concat_Lbyte_byte_2_st o13)]) (pos := [.sel [0]]) (.c (slices_Concat_Lbyte_byte_1_ok a0 (0 : Int) a0 (List.length a0 : Int) (0 : Int) o5 h6) (.c (slices_Grow_Lbyte_byte_f4c0_ok o5.2 u7 h8) (.c (slices_Concat_Lbyte_byte_2_ok o5.1 (List.length o5.1 : Int) (0 : Int) u7 o13 h14) .n))) (by kernel_rfl)
theorem can91 : Callable prog 91 := ⟨_, func91, by kernel_rfl, by kernel_rfl⟩
def sha_first_R  (u : List UInt32) : Slot := (.v (.arr 8 (.int .u32)) u)
def sha_first_O  (u : List UInt32) : List AObj := []
theorem sha_first_ok  (u : List UInt32) (h : sha_first  = some u) : CallC prog 91 [] [] (sha_first_R u) (sha_first_O u) := by
 unfold sha_first at h
 injection h with h; subst h
 exact env.fun func91 can91 (its := []) (pos := [.sel []]) .n (by kernel_rfl)
theorem can92 : Callable prog 92 := ⟨_, func92, by kernel_rfl, by kernel_rfl⟩
def sha_added_R  (u : List UInt32) : Slot := (.v (.arr 64 (.int .u32)) u)
def sha_added_O  (u : List UInt32) : List AObj := []
theorem sha_added_ok  (u : List UInt32) (h : sha_added  = some u) : CallC prog 92 [] [] (sha_added_R u) (sha_added_O u) := by
 unfold sha_added at h
 injection h with h; subst h
 exact env.fun func92 can92 (its := []) (pos := [.sel []]) .n (by kernel_rfl)
theorem can98 : Callable prog 98 := ⟨_, func98, by kernel_rfl, by kernel_rfl⟩
def sha_Blocks_R (a0 : Int) (u : Int) : Slot := (.v (.int .i64) u)
def sha_Blocks_O (a0 : Int) (u : Int) : List AObj := []
theorem sha_Blocks_ok (a0 : Int) (u : Int) (h : sha_Blocks a0 = some u) : CallC prog 98 [(.v (.int .i64) a0)] [] (sha_Blocks_R a0 u) (sha_Blocks_O a0 u) := by
 unfold sha_Blocks at h
 injection h with h; subst h
 exact env.fun func98 can98 (its := []) (pos := [.sel []]) (.c (of_decide_eq_true (p := ((64 : Int) ≠ 0)) (by kernel_rfl)) .n) (by kernel_rfl)
theorem can93 : Callable prog 93 := ⟨_, func93, by kernel_rfl, by kernel_rfl⟩
def sha_padded_1_in (x0 : UInt64) (x1 : Int) (x2 : B8) : St := ⟨[(3, (.own 0 [])), (4, (.v (.int .u64) x0)), (22, (.v (.int .i64) x1))], [.row (.int .u8) x2 true], 39, 0⟩
def sha_padded_1_ex (o : B8) : Exit := (.exit 0)
def sha_padded_1_st (o : B8) : St := ⟨[(3, (.own 0 []))], [.row (.int .u8) o true], 39, 0⟩
theorem sha_padded_1_body (x0 : UInt64) (x1 : Int) (x2 : B8) : ∀ r, sha_padded_1_step x0 x1 x2 = some r → (match r with | .inl s => CodeOK prog (codeAt (bodyOf f93) [1, 1, 1, 1, 1, 0, 1, 0, 0]) (sha_padded_1_in x0 x1 x2) .normal (sha_padded_1_in x0 s.1 s.2) | .inr o => sha_padded_1_ex o ≠ .normal ∧ CodeOK prog (codeAt (bodyOf f93) [1, 1, 1, 1, 1, 0, 1, 0, 0]) (sha_padded_1_in x0 x1 x2) (sha_padded_1_ex o) (sha_padded_1_st o)) := by
 intro r h
 unfold sha_padded_1_step at h
 rcases fork_some h with ⟨h6, h⟩ | ⟨h6, h⟩
 ·obtain ⟨h7, h⟩ := need_some h
  obtain ⟨h8, h⟩ := need_some h
  injection h with h; subst h
  exact env.code (its := [b1, .dive, .sel [3, 4, 22] [0]]) (.c h6 (.c h7 (.c h8 .n))) (by kernel_rfl)
 ·injection h with h; subst h
  exact ⟨by intro e; simp [sha_padded_1_ex] at e, env.code (its := [b0, .sel [3] [0]]) (.c h6 .n) (by kernel_rfl)⟩
theorem sha_padded_1_ok (x0 : UInt64) (x1 : Int) (x2 : B8) (o : B8) (h : sha_padded_1 x0 x1 x2 = some o) : CodeOK prog (codeAt (bodyOf f93) [1, 1, 1, 1, 1, 0, 1, 0]) (sha_padded_1_in x0 x1 x2) (sha_padded_1_ex o) (sha_padded_1_st o) :=
 LoopOK.of_step (st := fun s => sha_padded_1_in x0 s.1 s.2) (ex := sha_padded_1_ex) (stO := sha_padded_1_st) (fun s s2 hs => sha_padded_1_body x0 s.1 s.2 (.inl s2) hs) (fun s r hs => sha_padded_1_body x0 s.1 s.2 (.inr r) hs) _ o h
def sha_padded_R (a0 : B8) (u : B8) : Slot := (.own 0 [])
def sha_padded_O (a0 : B8) (u : B8) : List AObj := [.row (.int .u8) u true]
theorem sha_padded_ok (a0 : B8) (u : B8) (h : sha_padded a0 = some u) : CallC prog 93 [(.v (.slice (.int .u8)) a0)] [] (sha_padded_R a0 u) (sha_padded_O a0 u) := by
 unfold sha_padded at h
 obtain ⟨u1, h2, h⟩ := andThen_some h
 obtain ⟨h3, h⟩ := need_some h
 obtain ⟨h4, h⟩ := need_some h
 obtain ⟨o9, h10, h⟩ := andThen_some h
 injection h with h; subst h
 exact env.fun func93 can93 (its := [.call [none] [] [] true (sha_Blocks_R (List.length a0 : Int) u1) (sha_Blocks_O (List.length a0 : Int) u1), .dive, .sel [3, 4, 22] [0], .part (sha_padded_1_ex o9) (sha_padded_1_st o9)]) (pos := [.sel [0]]) (.c (sha_Blocks_ok (List.length a0 : Int) u1 h2) (.c h3 (.c h4 (.c (sha_padded_1_ok ((UInt64.ofNat (Int.toNat ((List.length a0 : Int) % 18446744073709551616))) * (8 : UInt64)) (0 : Int) (List.set (List.take (List.length (List.replicate (Int.toNat (w64 (u1 * (64 : Int)))) (0 : UInt8))) a0 ++ List.drop (List.length a0) (List.replicate (Int.toNat (w64 (u1 * (64 : Int)))) (0 : UInt8))) (Int.toNat (List.length a0 : Int)) (128 : UInt8)) o9 h10) .n)))) (by kernel_rfl)
theorem can103 : Callable prog 103 := ⟨_, func103, by kernel_rfl, by kernel_rfl⟩
def bits_RotateLeft32_R (a0 : UInt32) (a1 : Int) (u : UInt32) : Slot := (.v (.int .u32) u)
def bits_RotateLeft32_O (a0 : UInt32) (a1 : Int) (u : UInt32) : List AObj := []
theorem bits_RotateLeft32_ok (a0 : UInt32) (a1 : Int) (u : UInt32) (h : bits_RotateLeft32 a0 a1 = some u) : CallC prog 103 [(.v (.int .u32) a0), (.v (.int .i64) a1)] [] (bits_RotateLeft32_R a0 a1 u) (bits_RotateLeft32_O a0 a1 u) := by
 unfold bits_RotateLeft32 at h
 obtain ⟨h1, h⟩ := need_some h
 obtain ⟨h2, h⟩ := need_some h
 injection h with h; subst h
 exact env.fun func103 can103 (its := []) (pos := [.sel []]) (.c h1 (.c h2 .n)) (by kernel_rfl)
theorem can100 : Callable prog 100 := ⟨_, func100, by kernel_rfl, by kernel_rfl⟩
def sha_right_R (a0 : UInt32) (a1 : Int) (u : UInt32) : Slot := (.v (.int .u32) u)
def sha_right_O (a0 : UInt32) (a1 : Int) (u : UInt32) : List AObj := []
theorem sha_right_ok (a0 : UInt32) (a1 : Int) (u : UInt32) (h : sha_right a0 a1 = some u) : CallC prog 100 [(.v (.int .u32) a0), (.v (.int .i64) a1)] [] (sha_right_R a0 a1 u) (sha_right_O a0 a1 u) := by
 unfold sha_right at h
 obtain ⟨u1, h2, h⟩ := andThen_some h
 injection h with h; subst h
 exact env.fun func100 can100 (its := [.call [none, none] [] [] true (bits_RotateLeft32_R a0 (w64 (0 - a1)) u1) (bits_RotateLeft32_O a0 (w64 (0 - a1)) u1)]) (pos := [.sel []]) (.c (bits_RotateLeft32_ok a0 (w64 (0 - a1)) u1 h2) .n) (by kernel_rfl)
theorem can99 : Callable prog 99 := ⟨_, func99, by kernel_rfl, by kernel_rfl⟩
def sha_spread_1_in (x0 : B8) (x1 : Int) (x2 : List UInt32) (x3 : List UInt32) : St := ⟨[(0, (.v (.slice (.int .u8)) x0)), (2, (.ptr 0 [])), (3, (.ptr 1 [])), (8, (.v (.int .i64) x1))], [.box (.arr 64 (.int .u32)) (.v (.arr 64 (.int .u32)) x2) true, .box (.arr 64 (.int .u32)) (.v (.arr 64 (.int .u32)) x3) true], 89, 0⟩
def sha_spread_1_ex (o : List UInt32 × List UInt32) : Exit := (.exit 0)
def sha_spread_1_st (o : List UInt32 × List UInt32) : St := ⟨[(2, (.ptr 0 [])), (3, (.ptr 1 []))], [.box (.arr 64 (.int .u32)) (.v (.arr 64 (.int .u32)) o.1) true, .box (.arr 64 (.int .u32)) (.v (.arr 64 (.int .u32)) o.2) true], 89, 0⟩
theorem sha_spread_1_body (x0 : B8) (x1 : Int) (x2 : List UInt32) (x3 : List UInt32) : ∀ r, sha_spread_1_step x0 x1 x2 x3 = some r → (match r with | .inl s => CodeOK prog (codeAt (bodyOf f99) [1, 1, 0, 1, 0, 0]) (sha_spread_1_in x0 x1 x2 x3) .normal (sha_spread_1_in x0 s.1 x2 s.2) | .inr o => sha_spread_1_ex o ≠ .normal ∧ CodeOK prog (codeAt (bodyOf f99) [1, 1, 0, 1, 0, 0]) (sha_spread_1_in x0 x1 x2 x3) (sha_spread_1_ex o) (sha_spread_1_st o)) := by
 intro r h
 unfold sha_spread_1_step at h
 rcases fork_some h with ⟨h2, h⟩ | ⟨h2, h⟩
 ·obtain ⟨h3, h⟩ := need_some h
  obtain ⟨h4, h⟩ := need_some h
  obtain ⟨h5, h⟩ := need_some h
  obtain ⟨h6, h⟩ := need_some h
  obtain ⟨h7, h⟩ := need_some h
  injection h with h; subst h
  exact env.code (its := [b1, .pre p2, .sel [0, 2, 3, 8] [0, 1]]) (.c h2 (.c h3 (.c (of_decide_eq_true (p := (0 ≤ (24 : Int))) (by kernel_rfl)) (.c h4 (.c (of_decide_eq_true (p := (0 ≤ (16 : Int))) (by kernel_rfl)) (.c h5 (.c (of_decide_eq_true (p := (0 ≤ (8 : Int))) (by kernel_rfl)) (.c h6 (.c h7 .n))))))))) (by kernel_rfl)
 ·injection h with h; subst h
  exact ⟨by intro e; simp [sha_spread_1_ex] at e, env.code (its := [b0, .sel [2, 3] [0, 1]]) (.c h2 .n) (by kernel_rfl)⟩
theorem sha_spread_1_ok (x0 : B8) (x1 : Int) (x2 : List UInt32) (x3 : List UInt32) (o : List UInt32 × List UInt32) (h : sha_spread_1 x0 x1 x2 x3 = some o) : CodeOK prog (codeAt (bodyOf f99) [1, 1, 0, 1, 0]) (sha_spread_1_in x0 x1 x2 x3) (sha_spread_1_ex o) (sha_spread_1_st o) :=
 LoopOK.of_step (st := fun s => sha_spread_1_in x0 s.1 x2 s.2) (ex := sha_spread_1_ex) (stO := sha_spread_1_st) (fun s s2 hs => sha_spread_1_body x0 s.1 x2 s.2 (.inl s2) hs) (fun s r hs => sha_spread_1_body x0 s.1 x2 s.2 (.inr r) hs) _ o h
def sha_spread_2_in (x0 : Int) (x1 : List UInt32) (x2 : List UInt32) : St := ⟨[(2, (.ptr 0 [])), (3, (.ptr 1 [])), (5, (.v (.int .i64) x0))], [.box (.arr 64 (.int .u32)) (.v (.arr 64 (.int .u32)) x1) true, .box (.arr 64 (.int .u32)) (.v (.arr 64 (.int .u32)) x2) true], 89, 0⟩
def sha_spread_2_ex (o : List UInt32 × List UInt32) : Exit := (.exit 2)
def sha_spread_2_st (o : List UInt32 × List UInt32) : St := ⟨[(2, (.ptr 0 [])), (3, (.ptr 1 []))], [.box (.arr 64 (.int .u32)) (.v (.arr 64 (.int .u32)) o.1) true, .box (.arr 64 (.int .u32)) (.v (.arr 64 (.int .u32)) o.2) true], 89, 0⟩
theorem sha_spread_2_body (x0 : Int) (x1 : List UInt32) (x2 : List UInt32) : ∀ r, sha_spread_2_step x0 x1 x2 = some r → (match r with | .inl s => CodeOK prog (codeAt (bodyOf f99) [1, 1, 1, 0, 1, 0, 0]) (sha_spread_2_in x0 x1 x2) .normal (sha_spread_2_in s.1 x1 s.2) | .inr o => sha_spread_2_ex o ≠ .normal ∧ CodeOK prog (codeAt (bodyOf f99) [1, 1, 1, 0, 1, 0, 0]) (sha_spread_2_in x0 x1 x2) (sha_spread_2_ex o) (sha_spread_2_st o)) := by
 intro r h
 unfold sha_spread_2_step at h
 rcases fork_some h with ⟨h11, h⟩ | ⟨h11, h⟩
 ·obtain ⟨h12, h⟩ := need_some h
  obtain ⟨h13, h⟩ := need_some h
  obtain ⟨h14, h⟩ := need_some h
  obtain ⟨u15, h16, h⟩ := andThen_some h
  obtain ⟨u17, h18, h⟩ := andThen_some h
  obtain ⟨h19, h⟩ := need_some h
  obtain ⟨u20, h21, h⟩ := andThen_some h
  obtain ⟨u22, h23, h⟩ := andThen_some h
  obtain ⟨h24, h⟩ := need_some h
  injection h with h; subst h
  exact env.code (its := [b1, .pre p3, .pre p4, .asis, .call [none, none] [] [] true (sha_right_R (List.getD x2 (Int.toNat (w64 (x0 - (15 : Int)))) (0 : UInt32)) (7 : Int) u15) (sha_right_O (List.getD x2 (Int.toNat (w64 (x0 - (15 : Int)))) (0 : UInt32)) (7 : Int) u15), .asis, .call [none, none] [] [] true (sha_right_R (List.getD x2 (Int.toNat (w64 (x0 - (15 : Int)))) (0 : UInt32)) (18 : Int) u17) (sha_right_O (List.getD x2 (Int.toNat (w64 (x0 - (15 : Int)))) (0 : UInt32)) (18 : Int) u17), .asis, .call [none, none] [] [] true (sha_right_R (List.getD x2 (Int.toNat (w64 (x0 - (2 : Int)))) (0 : UInt32)) (17 : Int) u20) (sha_right_O (List.getD x2 (Int.toNat (w64 (x0 - (2 : Int)))) (0 : UInt32)) (17 : Int) u20), .asis, .call [none, none] [] [] true (sha_right_R (List.getD x2 (Int.toNat (w64 (x0 - (2 : Int)))) (0 : UInt32)) (19 : Int) u22) (sha_right_O (List.getD x2 (Int.toNat (w64 (x0 - (2 : Int)))) (0 : UInt32)) (19 : Int) u22), .sel [2, 3, 5] [0, 1]]) (.c h11 (.c h12 (.c h13 (.c h14 (.c rn (.c (sha_right_ok (List.getD x2 (Int.toNat (w64 (x0 - (15 : Int)))) (0 : UInt32)) (7 : Int) u15 h16) (.c rn (.c (sha_right_ok (List.getD x2 (Int.toNat (w64 (x0 - (15 : Int)))) (0 : UInt32)) (18 : Int) u17 h18) (.c (of_decide_eq_true (p := (0 ≤ (3 : Int))) (by kernel_rfl)) (.c h19 (.c rn (.c (sha_right_ok (List.getD x2 (Int.toNat (w64 (x0 - (2 : Int)))) (0 : UInt32)) (17 : Int) u20 h21) (.c rn (.c (sha_right_ok (List.getD x2 (Int.toNat (w64 (x0 - (2 : Int)))) (0 : UInt32)) (19 : Int) u22 h23) (.c (of_decide_eq_true (p := (0 ≤ (10 : Int))) (by kernel_rfl)) (.c h24 .n)))))))))))))))) (by kernel_rfl)
 ·injection h with h; subst h
  exact ⟨by intro e; simp [sha_spread_2_ex] at e, env.code (its := [b0, .sel [2, 3] [0, 1]]) (.c h11 .n) (by kernel_rfl)⟩
theorem sha_spread_2_ok (x0 : Int) (x1 : List UInt32) (x2 : List UInt32) (o : List UInt32 × List UInt32) (h : sha_spread_2 x0 x1 x2 = some o) : CodeOK prog (codeAt (bodyOf f99) [1, 1, 1, 0, 1, 0]) (sha_spread_2_in x0 x1 x2) (sha_spread_2_ex o) (sha_spread_2_st o) :=
 LoopOK.of_step (st := fun s => sha_spread_2_in s.1 x1 s.2) (ex := sha_spread_2_ex) (stO := sha_spread_2_st) (fun s s2 hs => sha_spread_2_body s.1 x1 s.2 (.inl s2) hs) (fun s r hs => sha_spread_2_body s.1 x1 s.2 (.inr r) hs) _ o h
def sha_spread_R (a0 : B8) (u : List UInt32) : Slot := (.v (.arr 64 (.int .u32)) u)
def sha_spread_O (a0 : B8) (u : List UInt32) : List AObj := []
theorem sha_spread_ok (a0 : B8) (u : List UInt32) (h : sha_spread a0 = some u) : CallC prog 99 [(.v (.slice (.int .u8)) a0)] [] (sha_spread_R a0 u) (sha_spread_O a0 u) := by
 unfold sha_spread at h
 obtain ⟨o8, h9, h⟩ := andThen_some h
 obtain ⟨o25, h26, h⟩ := andThen_some h
 injection h with h; subst h
 exact env.fun func99 can99 (its := [.dive, .sel [0, 2, 3, 8] [0, 1], .part (sha_spread_1_ex o8) (sha_spread_1_st o8), .dive, .sel [2, 3, 5] [0, 1], .part (sha_spread_2_ex o25) (sha_spread_2_st o25)]) (pos := [.sel []]) (.c (sha_spread_1_ok a0 (0 : Int) (List.replicate 64 (0 : UInt32)) (List.replicate 64 (0 : UInt32)) o8 h9) (.c (sha_spread_2_ok (16 : Int) o8.1 o8.2 o25 h26) .n)) (by kernel_rfl)
theorem can94 : Callable prog 94 := ⟨_, func94, by kernel_rfl, by kernel_rfl⟩
def sha_mix_655a_1_in (x0 : UInt32) (x1 : UInt32) (x2 : UInt32) (x3 : UInt32) (x4 : UInt32) (x5 : UInt32) (x6 : UInt32) (x7 : UInt32) (x8 : Int) (x9 : List UInt32) (x10 : List UInt32) (x11 : List UInt32) : St := ⟨[(0, (.ptr 0 [])), (1, (.ptr 1 [])), (6, (.ptr 2 [])), (7, (.v (.int .u32) x0)), (8, (.v (.int .u32) x1)), (9, (.v (.int .u32) x2)), (10, (.v (.int .u32) x3)), (11, (.v (.int .u32) x4)), (12, (.v (.int .u32) x5)), (13, (.v (.int .u32) x6)), (14, (.v (.int .u32) x7)), (56, (.v (.int .i64) x8))], [.box (.arr 8 (.int .u32)) (.v (.arr 8 (.int .u32)) x9) true, .box (.arr 64 (.int .u32)) (.v (.arr 64 (.int .u32)) x10) true, .box (.arr 64 (.int .u32)) (.v (.arr 64 (.int .u32)) x11) true], 146, 2⟩
def sha_mix_655a_1_ex (o : UInt32 × UInt32 × UInt32 × UInt32 × UInt32 × UInt32 × UInt32 × UInt32 × List UInt32 × List UInt32) : Exit := (.exit 0)
def sha_mix_655a_1_st (o : UInt32 × UInt32 × UInt32 × UInt32 × UInt32 × UInt32 × UInt32 × UInt32 × List UInt32 × List UInt32) : St := ⟨[(0, (.ptr 0 [])), (7, (.v (.int .u32) o.1)), (8, (.v (.int .u32) o.2.1)), (9, (.v (.int .u32) o.2.2.1)), (10, (.v (.int .u32) o.2.2.2.1)), (11, (.v (.int .u32) o.2.2.2.2.1)), (12, (.v (.int .u32) o.2.2.2.2.2.1)), (13, (.v (.int .u32) o.2.2.2.2.2.2.1)), (14, (.v (.int .u32) o.2.2.2.2.2.2.2.1))], [.box (.arr 8 (.int .u32)) (.v (.arr 8 (.int .u32)) o.2.2.2.2.2.2.2.2.1) true, .box (.arr 64 (.int .u32)) (.v (.arr 64 (.int .u32)) o.2.2.2.2.2.2.2.2.2) true], 146, 2⟩
theorem sha_mix_655a_1_body (x0 : UInt32) (x1 : UInt32) (x2 : UInt32) (x3 : UInt32) (x4 : UInt32) (x5 : UInt32) (x6 : UInt32) (x7 : UInt32) (x8 : Int) (x9 : List UInt32) (x10 : List UInt32) (x11 : List UInt32) : ∀ r, sha_mix_655a_1_step x0 x1 x2 x3 x4 x5 x6 x7 x8 x9 x10 x11 = some r → (match r with | .inl s => CodeOK prog (codeAt (bodyOf f94) [1, 1, 0, 1, 0, 0]) (sha_mix_655a_1_in x0 x1 x2 x3 x4 x5 x6 x7 x8 x9 x10 x11) .normal (sha_mix_655a_1_in s.1 s.2.1 s.2.2.1 s.2.2.2.1 s.2.2.2.2.1 s.2.2.2.2.2.1 s.2.2.2.2.2.2.1 s.2.2.2.2.2.2.2.1 s.2.2.2.2.2.2.2.2 x9 x10 x11) | .inr o => sha_mix_655a_1_ex o ≠ .normal ∧ CodeOK prog (codeAt (bodyOf f94) [1, 1, 0, 1, 0, 0]) (sha_mix_655a_1_in x0 x1 x2 x3 x4 x5 x6 x7 x8 x9 x10 x11) (sha_mix_655a_1_ex o) (sha_mix_655a_1_st o)) := by
 intro r h
 unfold sha_mix_655a_1_step at h
 rcases fork_some h with ⟨h4, h⟩ | ⟨h4, h⟩
 ·obtain ⟨u5, h6, h⟩ := andThen_some h
  obtain ⟨u7, h8, h⟩ := andThen_some h
  obtain ⟨u9, h10, h⟩ := andThen_some h
  obtain ⟨h11, h⟩ := need_some h
  obtain ⟨u12, h13, h⟩ := andThen_some h
  obtain ⟨u14, h15, h⟩ := andThen_some h
  obtain ⟨u16, h17, h⟩ := andThen_some h
  injection h with h; subst h
  exact env.code (its := [b1, .pre p5, .asis, .call [none, none] [] [] true (sha_right_R x4 (6 : Int) u5) (sha_right_O x4 (6 : Int) u5), .asis, .call [none, none] [] [] true (sha_right_R x4 (11 : Int) u7) (sha_right_O x4 (11 : Int) u7), .asis, .call [none, none] [] [] true (sha_right_R x4 (25 : Int) u9) (sha_right_O x4 (25 : Int) u9), .call [none, none] [] [] true (sha_right_R x0 (2 : Int) u12) (sha_right_O x0 (2 : Int) u12), .call [none, none] [] [] true (sha_right_R x0 (13 : Int) u14) (sha_right_O x0 (13 : Int) u14), .call [none, none] [] [] true (sha_right_R x0 (22 : Int) u16) (sha_right_O x0 (22 : Int) u16), .sel [0, 1, 6, 7, 8, 9, 10, 11, 12, 13, 14, 56] [0, 1, 2]]) (.c h4 (.c rn (.c (sha_right_ok x4 (6 : Int) u5 h6) (.c rn (.c (sha_right_ok x4 (11 : Int) u7 h8) (.c rn (.c (sha_right_ok x4 (25 : Int) u9 h10) (.c h11 (.c h11 (.c (sha_right_ok x0 (2 : Int) u12 h13) (.c (sha_right_ok x0 (13 : Int) u14 h15) (.c (sha_right_ok x0 (22 : Int) u16 h17) .n)))))))))))) (by kernel_rfl)
 ·injection h with h; subst h
  exact ⟨by intro e; simp [sha_mix_655a_1_ex] at e, env.code (its := [b0, .sel [0, 7, 8, 9, 10, 11, 12, 13, 14] [0, 1]]) (.c h4 .n) (by kernel_rfl)⟩
theorem sha_mix_655a_1_ok (x0 : UInt32) (x1 : UInt32) (x2 : UInt32) (x3 : UInt32) (x4 : UInt32) (x5 : UInt32) (x6 : UInt32) (x7 : UInt32) (x8 : Int) (x9 : List UInt32) (x10 : List UInt32) (x11 : List UInt32) (o : UInt32 × UInt32 × UInt32 × UInt32 × UInt32 × UInt32 × UInt32 × UInt32 × List UInt32 × List UInt32) (h : sha_mix_655a_1 x0 x1 x2 x3 x4 x5 x6 x7 x8 x9 x10 x11 = some o) : CodeOK prog (codeAt (bodyOf f94) [1, 1, 0, 1, 0]) (sha_mix_655a_1_in x0 x1 x2 x3 x4 x5 x6 x7 x8 x9 x10 x11) (sha_mix_655a_1_ex o) (sha_mix_655a_1_st o) :=
 LoopOK.of_step (st := fun s => sha_mix_655a_1_in s.1 s.2.1 s.2.2.1 s.2.2.2.1 s.2.2.2.2.1 s.2.2.2.2.2.1 s.2.2.2.2.2.2.1 s.2.2.2.2.2.2.2.1 s.2.2.2.2.2.2.2.2 x9 x10 x11) (ex := sha_mix_655a_1_ex) (stO := sha_mix_655a_1_st) (fun s s2 hs => sha_mix_655a_1_body s.1 s.2.1 s.2.2.1 s.2.2.2.1 s.2.2.2.2.1 s.2.2.2.2.2.1 s.2.2.2.2.2.2.1 s.2.2.2.2.2.2.2.1 s.2.2.2.2.2.2.2.2 x9 x10 x11 (.inl s2) hs) (fun s r hs => sha_mix_655a_1_body s.1 s.2.1 s.2.2.1 s.2.2.2.1 s.2.2.2.2.1 s.2.2.2.2.2.1 s.2.2.2.2.2.2.1 s.2.2.2.2.2.2.2.1 s.2.2.2.2.2.2.2.2 x9 x10 x11 (.inr r) hs) _ o h
def sha_mix_655a_2_in (x0 : List UInt32) (x1 : Int) (x2 : List UInt32) (x3 : List UInt32) : St := ⟨[(0, (.ptr 0 [])), (131, (.v (.arr 8 (.int .u32)) x0)), (132, (.v (.int .i64) x1))], [.box (.arr 8 (.int .u32)) (.v (.arr 8 (.int .u32)) x2) true, .box (.arr 64 (.int .u32)) (.v (.arr 64 (.int .u32)) x3) true], 146, 2⟩
def sha_mix_655a_2_ex (o : List UInt32 × List UInt32) : Exit := (.exit 2)
def sha_mix_655a_2_st (o : List UInt32 × List UInt32) : St := ⟨[], [.box (.arr 8 (.int .u32)) (.v (.arr 8 (.int .u32)) o.1) true, .box (.arr 64 (.int .u32)) (.v (.arr 64 (.int .u32)) o.2) true], 146, 2⟩
theorem sha_mix_655a_2_body (x0 : List UInt32) (x1 : Int) (x2 : List UInt32) (x3 : List UInt32) : ∀ r, sha_mix_655a_2_step x0 x1 x2 x3 = some r → (match r with | .inl s => CodeOK prog (codeAt (bodyOf f94) [1, 1, 1, 1, 0, 0]) (sha_mix_655a_2_in x0 x1 x2 x3) .normal (sha_mix_655a_2_in x0 s.1 s.2 x3) | .inr o => sha_mix_655a_2_ex o ≠ .normal ∧ CodeOK prog (codeAt (bodyOf f94) [1, 1, 1, 1, 0, 0]) (sha_mix_655a_2_in x0 x1 x2 x3) (sha_mix_655a_2_ex o) (sha_mix_655a_2_st o)) := by
 intro r h
 unfold sha_mix_655a_2_step at h
 rcases fork_some h with ⟨h21, h⟩ | ⟨h21, h⟩
 ·obtain ⟨h22, h⟩ := need_some h
  injection h with h; subst h
  exact env.code (its := [b1, .pre p6, .sel [0, 131, 132] [0, 1]]) (.c h21 (.c h22 (.c h22 (.c h22 .n)))) (by kernel_rfl)
 ·injection h with h; subst h
  exact ⟨by intro e; simp [sha_mix_655a_2_ex] at e, env.code (its := [b0, .sel [] [0, 1]]) (.c h21 .n) (by kernel_rfl)⟩
theorem sha_mix_655a_2_ok (x0 : List UInt32) (x1 : Int) (x2 : List UInt32) (x3 : List UInt32) (o : List UInt32 × List UInt32) (h : sha_mix_655a_2 x0 x1 x2 x3 = some o) : CodeOK prog (codeAt (bodyOf f94) [1, 1, 1, 1, 0]) (sha_mix_655a_2_in x0 x1 x2 x3) (sha_mix_655a_2_ex o) (sha_mix_655a_2_st o) :=
 LoopOK.of_step (st := fun s => sha_mix_655a_2_in x0 s.1 s.2 x3) (ex := sha_mix_655a_2_ex) (stO := sha_mix_655a_2_st) (fun s s2 hs => sha_mix_655a_2_body x0 s.1 s.2 x3 (.inl s2) hs) (fun s r hs => sha_mix_655a_2_body x0 s.1 s.2 x3 (.inr r) hs) _ o h
def sha_mix_655a_R (a0 : B8) (a1 : List UInt32) (a2 : List UInt32) (u : List UInt32 × List UInt32) : Slot := .tnil
def sha_mix_655a_O (a0 : B8) (a1 : List UInt32) (a2 : List UInt32) (u : List UInt32 × List UInt32) : List AObj := [.box (.arr 8 (.int .u32)) (.v (.arr 8 (.int .u32)) u.1) true, .box (.arr 64 (.int .u32)) (.v (.arr 64 (.int .u32)) u.2) true]
theorem sha_mix_655a_ok (a0 : B8) (a1 : List UInt32) (a2 : List UInt32) (u : List UInt32 × List UInt32) (h : sha_mix_655a a0 a1 a2 = some u) : CallC prog 94 [(.ptr 0 []), (.ptr 1 []), (.v (.slice (.int .u8)) a0)] [.box (.arr 8 (.int .u32)) (.v (.arr 8 (.int .u32)) a1) true, .box (.arr 64 (.int .u32)) (.v (.arr 64 (.int .u32)) a2) true] (sha_mix_655a_R a0 a1 a2 u) (sha_mix_655a_O a0 a1 a2 u) := by
 unfold sha_mix_655a at h
 obtain ⟨u1, h2, h⟩ := andThen_some h
 obtain ⟨o18, h19, h⟩ := andThen_some h
 obtain ⟨o23, h24, h⟩ := andThen_some h
 injection h with h; subst h
 exact env.fun func94 can94 (its := [.call [none] [] [] true (sha_spread_R a0 u1) (sha_spread_O a0 u1), .pre p7, .dive, .sel [0, 1, 6, 7, 8, 9, 10, 11, 12, 13, 14, 56] [0, 1, 2], .part (sha_mix_655a_1_ex o18) (sha_mix_655a_1_st o18), .dive, .sel [0, 131, 132] [0, 1], .part (sha_mix_655a_2_ex o23) (sha_mix_655a_2_st o23)]) (pos := [.sel [0, 1]]) (.c (sha_spread_ok a0 u1 h2) (.c (of_decide_eq_true (p := (0 ≤ (0 : Int) ∧ (0 : Int) < (8 : Int))) (by kernel_rfl)) (.c (of_decide_eq_true (p := (0 ≤ (1 : Int) ∧ (1 : Int) < (8 : Int))) (by kernel_rfl)) (.c (of_decide_eq_true (p := (0 ≤ (2 : Int) ∧ (2 : Int) < (8 : Int))) (by kernel_rfl)) (.c (of_decide_eq_true (p := (0 ≤ (3 : Int) ∧ (3 : Int) < (8 : Int))) (by kernel_rfl)) (.c (of_decide_eq_true (p := (0 ≤ (4 : Int) ∧ (4 : Int) < (8 : Int))) (by kernel_rfl)) (.c (of_decide_eq_true (p := (0 ≤ (5 : Int) ∧ (5 : Int) < (8 : Int))) (by kernel_rfl)) (.c (of_decide_eq_true (p := (0 ≤ (6 : Int) ∧ (6 : Int) < (8 : Int))) (by kernel_rfl)) (.c (of_decide_eq_true (p := (0 ≤ (7 : Int) ∧ (7 : Int) < (8 : Int))) (by kernel_rfl)) (.c (sha_mix_655a_1_ok (List.getD a1 (Int.toNat (0 : Int)) (0 : UInt32)) (List.getD a1 (Int.toNat (1 : Int)) (0 : UInt32)) (List.getD a1 (Int.toNat (2 : Int)) (0 : UInt32)) (List.getD a1 (Int.toNat (3 : Int)) (0 : UInt32)) (List.getD a1 (Int.toNat (4 : Int)) (0 : UInt32)) (List.getD a1 (Int.toNat (5 : Int)) (0 : UInt32)) (List.getD a1 (Int.toNat (6 : Int)) (0 : UInt32)) (List.getD a1 (Int.toNat (7 : Int)) (0 : UInt32)) (0 : Int) a1 a2 u1 o18 h19) (.c (sha_mix_655a_2_ok (List.set (List.set (List.set (List.set (List.set (List.set (List.set (List.set (List.replicate 8 (0 : UInt32)) 0 o18.1) 1 o18.2.1) 2 o18.2.2.1) 3 o18.2.2.2.1) 4 o18.2.2.2.2.1) 5 o18.2.2.2.2.2.1) 6 o18.2.2.2.2.2.2.1) 7 o18.2.2.2.2.2.2.2.1) (0 : Int) o18.2.2.2.2.2.2.2.2.1 o18.2.2.2.2.2.2.2.2.2 o23 h24) .n))))))))))) (by kernel_rfl)
theorem can81 : Callable prog 81 := ⟨_, func81, by kernel_rfl, by kernel_rfl⟩
def sha_Sum_1_in (x0 : B8) (x1 : B8) (x2 : List UInt32) (x3 : List UInt32) : St := ⟨[(2, (.ptr 0 [])), (3, (.ptr 1 [])), (4, (.ptr 2 [])), (5, (.v (.slice (.int .u8)) x0))], [.box (.arr 32 (.int .u8)) (.v (.arr 32 (.int .u8)) x1) true, .box (.arr 8 (.int .u32)) (.v (.arr 8 (.int .u32)) x2) true, .box (.arr 64 (.int .u32)) (.v (.arr 64 (.int .u32)) x3) true], 44, 0⟩
def sha_Sum_1_ex (o : B8 × List UInt32) : Exit := (.exit 0)
def sha_Sum_1_st (o : B8 × List UInt32) : St := ⟨[(2, (.ptr 0 [])), (3, (.ptr 1 []))], [.box (.arr 32 (.int .u8)) (.v (.arr 32 (.int .u8)) o.1) true, .box (.arr 8 (.int .u32)) (.v (.arr 8 (.int .u32)) o.2) true], 44, 0⟩
theorem sha_Sum_1_body (x0 : B8) (x1 : B8) (x2 : List UInt32) (x3 : List UInt32) : ∀ r, sha_Sum_1_step x0 x1 x2 x3 = some r → (match r with | .inl s => CodeOK prog (codeAt (bodyOf f81) [1, 1, 0, 1, 0, 0]) (sha_Sum_1_in x0 x1 x2 x3) .normal (sha_Sum_1_in s.1 x1 s.2.1 s.2.2) | .inr o => sha_Sum_1_ex o ≠ .normal ∧ CodeOK prog (codeAt (bodyOf f81) [1, 1, 0, 1, 0, 0]) (sha_Sum_1_in x0 x1 x2 x3) (sha_Sum_1_ex o) (sha_Sum_1_st o)) := by
 intro r h
 unfold sha_Sum_1_step at h
 rcases fork_some h with ⟨h8, h⟩ | ⟨h8, h⟩
 ·obtain ⟨h9, h⟩ := need_some h
  obtain ⟨u10, h11, h⟩ := andThen_some h
  obtain ⟨h12, h⟩ := need_some h
  injection h with h; subst h
  exact env.code (its := [b1, b0, .call [none, none, none] [1, 2] [] true (sha_mix_655a_R (cutL x0 (0 : Int) (64 : Int)) x2 x3 u10) (sha_mix_655a_O (cutL x0 (0 : Int) (64 : Int)) x2 x3 u10), b0, .sel [2, 3, 4, 5] [0, 1, 2]]) (.c h8 (.c h9 (.c (sha_mix_655a_ok (cutL x0 (0 : Int) (64 : Int)) x2 x3 u10 h11) (.c h12 .n)))) (by kernel_rfl)
 ·injection h with h; subst h
  exact ⟨by intro e; simp [sha_Sum_1_ex] at e, env.code (its := [b0, .sel [2, 3] [0, 1]]) (.c h8 .n) (by kernel_rfl)⟩
theorem sha_Sum_1_ok (x0 : B8) (x1 : B8) (x2 : List UInt32) (x3 : List UInt32) (o : B8 × List UInt32) (h : sha_Sum_1 x0 x1 x2 x3 = some o) : CodeOK prog (codeAt (bodyOf f81) [1, 1, 0, 1, 0]) (sha_Sum_1_in x0 x1 x2 x3) (sha_Sum_1_ex o) (sha_Sum_1_st o) :=
 LoopOK.of_step (st := fun s => sha_Sum_1_in s.1 x1 s.2.1 s.2.2) (ex := sha_Sum_1_ex) (stO := sha_Sum_1_st) (fun s s2 hs => sha_Sum_1_body s.1 x1 s.2.1 s.2.2 (.inl s2) hs) (fun s r hs => sha_Sum_1_body s.1 x1 s.2.1 s.2.2 (.inr r) hs) _ o h
def sha_Sum_2_in (x0 : Int) (x1 : UInt32) (x2 : List UInt32) (x3 : Int) (x4 : Int) (x5 : B8) (x6 : B8) : St := ⟨[(2, (.ptr 0 [])), (6, (.ptr 1 [])), (7, (.v (.int .i64) x0)), (8, (.v (.int .u32) x1)), (22, (.v (.arr 8 (.int .u32)) x2)), (23, (.v (.int .i64) x3)), (27, (.v (.int .i64) x4))], [.box (.arr 32 (.int .u8)) (.v (.arr 32 (.int .u8)) x5) true, .box (.arr 32 (.int .u8)) (.v (.arr 32 (.int .u8)) x6) true], 44, 0⟩
def sha_Sum_2_ex (o : List UInt32 × Int × B8 × B8) : Exit := (.exit 4)
def sha_Sum_2_st (o : List UInt32 × Int × B8 × B8) : St := ⟨[(2, (.ptr 0 [])), (6, (.ptr 1 [])), (22, (.v (.arr 8 (.int .u32)) o.1)), (23, (.v (.int .i64) o.2.1))], [.box (.arr 32 (.int .u8)) (.v (.arr 32 (.int .u8)) o.2.2.1) true, .box (.arr 32 (.int .u8)) (.v (.arr 32 (.int .u8)) o.2.2.2) true], 44, 0⟩
theorem sha_Sum_2_body (x0 : Int) (x1 : UInt32) (x2 : List UInt32) (x3 : Int) (x4 : Int) (x5 : B8) (x6 : B8) : ∀ r, sha_Sum_2_step x0 x1 x2 x3 x4 x5 x6 = some r → (match r with | .inl s => CodeOK prog (codeAt (bodyOf f81) [1, 1, 1, 1, 0, 1, 0, 0, 1, 1, 0, 0, 1, 1, 0, 0]) (sha_Sum_2_in x0 x1 x2 x3 x4 x5 x6) .normal (sha_Sum_2_in x0 x1 x2 x3 s.1 x5 s.2) | .inr o => sha_Sum_2_ex o ≠ .normal ∧ CodeOK prog (codeAt (bodyOf f81) [1, 1, 1, 1, 0, 1, 0, 0, 1, 1, 0, 0, 1, 1, 0, 0]) (sha_Sum_2_in x0 x1 x2 x3 x4 x5 x6) (sha_Sum_2_ex o) (sha_Sum_2_st o)) := by
 intro r h
 unfold sha_Sum_2_step at h
 rcases fork_some h with ⟨h19, h⟩ | ⟨h19, h⟩
 ·obtain ⟨h20, h⟩ := need_some h
  obtain ⟨h21, h⟩ := need_some h
  injection h with h; subst h
  exact env.code (its := [b1, .dive, .sel [2, 6, 7, 8, 22, 23, 27] [0, 1]]) (.c h19 (.c h20 (.c h21 .n))) (by kernel_rfl)
 ·injection h with h; subst h
  exact ⟨by intro e; simp [sha_Sum_2_ex] at e, env.code (its := [b0, .sel [2, 6, 22, 23] [0, 1]]) (.c h19 .n) (by kernel_rfl)⟩
theorem sha_Sum_2_ok (x0 : Int) (x1 : UInt32) (x2 : List UInt32) (x3 : Int) (x4 : Int) (x5 : B8) (x6 : B8) (o : List UInt32 × Int × B8 × B8) (h : sha_Sum_2 x0 x1 x2 x3 x4 x5 x6 = some o) : CodeOK prog (codeAt (bodyOf f81) [1, 1, 1, 1, 0, 1, 0, 0, 1, 1, 0, 0, 1, 1, 0]) (sha_Sum_2_in x0 x1 x2 x3 x4 x5 x6) (sha_Sum_2_ex o) (sha_Sum_2_st o) :=
 LoopOK.of_step (st := fun s => sha_Sum_2_in x0 x1 x2 x3 s.1 x5 s.2) (ex := sha_Sum_2_ex) (stO := sha_Sum_2_st) (fun s s2 hs => sha_Sum_2_body x0 x1 x2 x3 s.1 x5 s.2 (.inl s2) hs) (fun s r hs => sha_Sum_2_body x0 x1 x2 x3 s.1 x5 s.2 (.inr r) hs) _ o h
def sha_Sum_3_in (x0 : List UInt32) (x1 : Int) (x2 : B8) (x3 : B8) : St := ⟨[(2, (.ptr 0 [])), (6, (.ptr 1 [])), (22, (.v (.arr 8 (.int .u32)) x0)), (23, (.v (.int .i64) x1))], [.box (.arr 32 (.int .u8)) (.v (.arr 32 (.int .u8)) x2) true, .box (.arr 32 (.int .u8)) (.v (.arr 32 (.int .u8)) x3) true], 44, 0⟩
def sha_Sum_3_ex (o : B8 × B8) : Exit := (.exit 2)
def sha_Sum_3_st (o : B8 × B8) : St := ⟨[(2, (.ptr 0 [])), (6, (.ptr 1 []))], [.box (.arr 32 (.int .u8)) (.v (.arr 32 (.int .u8)) o.1) true, .box (.arr 32 (.int .u8)) (.v (.arr 32 (.int .u8)) o.2) true], 44, 0⟩
theorem sha_Sum_3_body (x0 : List UInt32) (x1 : Int) (x2 : B8) (x3 : B8) : ∀ r, sha_Sum_3_step x0 x1 x2 x3 = some r → (match r with | .inl s => CodeOK prog (codeAt (bodyOf f81) [1, 1, 1, 1, 0, 1, 0, 0]) (sha_Sum_3_in x0 x1 x2 x3) .normal (sha_Sum_3_in s.1 s.2.1 s.2.2.1 s.2.2.2) | .inr o => sha_Sum_3_ex o ≠ .normal ∧ CodeOK prog (codeAt (bodyOf f81) [1, 1, 1, 1, 0, 1, 0, 0]) (sha_Sum_3_in x0 x1 x2 x3) (sha_Sum_3_ex o) (sha_Sum_3_st o)) := by
 intro r h
 unfold sha_Sum_3_step at h
 rcases fork_some h with ⟨h16, h⟩ | ⟨h16, h⟩
 ·obtain ⟨h17, h⟩ := need_some h
  obtain ⟨o22, h23, h⟩ := andThen_some h
  injection h with h; subst h
  exact env.code (its := [b1, .dive, .dive, .sel [2, 6, 7, 8, 22, 23, 27] [0, 1], .part (sha_Sum_2_ex o22) (sha_Sum_2_st o22), .sel [2, 6, 22, 23] [0, 1]]) (.c h16 (.c h17 (.c (sha_Sum_2_ok x1 (List.getD x0 (Int.toNat x1) (0 : UInt32)) x0 x1 (0 : Int) x2 x3 o22 h23) .n))) (by kernel_rfl)
 ·injection h with h; subst h
  exact ⟨by intro e; simp [sha_Sum_3_ex] at e, env.code (its := [b0, .sel [2, 6] [0, 1]]) (.c h16 .n) (by kernel_rfl)⟩
theorem sha_Sum_3_ok (x0 : List UInt32) (x1 : Int) (x2 : B8) (x3 : B8) (o : B8 × B8) (h : sha_Sum_3 x0 x1 x2 x3 = some o) : CodeOK prog (codeAt (bodyOf f81) [1, 1, 1, 1, 0, 1, 0]) (sha_Sum_3_in x0 x1 x2 x3) (sha_Sum_3_ex o) (sha_Sum_3_st o) :=
 LoopOK.of_step (st := fun s => sha_Sum_3_in s.1 s.2.1 s.2.2.1 s.2.2.2) (ex := sha_Sum_3_ex) (stO := sha_Sum_3_st) (fun s s2 hs => sha_Sum_3_body s.1 s.2.1 s.2.2.1 s.2.2.2 (.inl s2) hs) (fun s r hs => sha_Sum_3_body s.1 s.2.1 s.2.2.1 s.2.2.2 (.inr r) hs) _ o h
def sha_Sum_R (a0 : B8) (u : B8) : Slot := (.v (.arr 32 (.int .u8)) u)
def sha_Sum_O (a0 : B8) (u : B8) : List AObj := []
theorem sha_Sum_ok (a0 : B8) (u : B8) (h : sha_Sum a0 = some u) : CallC prog 81 [(.v (.slice (.int .u8)) a0)] [] (sha_Sum_R a0 u) (sha_Sum_O a0 u) := by
 unfold sha_Sum at h
 obtain ⟨u1, h2, h⟩ := andThen_some h
 obtain ⟨u3, h4, h⟩ := andThen_some h
 obtain ⟨u5, h6, h⟩ := andThen_some h
 obtain ⟨o13, h14, h⟩ := andThen_some h
 obtain ⟨o24, h25, h⟩ := andThen_some h
 injection h with h; subst h
 exact env.fun func81 can81 (its := [.call [] [] [] true (sha_first_R u1) (sha_first_O u1), .call [] [] [] true (sha_added_R u3) (sha_added_O u3), .call [none] [] [] true (sha_padded_R a0 u5) (sha_padded_O a0 u5), .dive, .val 5 (.slice (.int .u8)), .sel [2, 3, 4, 5] [0, 1, 2], .part (sha_Sum_1_ex o13) (sha_Sum_1_st o13), .dive, .sel [2, 6, 22, 23] [0, 2], .part (sha_Sum_3_ex o24) (sha_Sum_3_st o24)]) (pos := [.sel []]) (.c (sha_first_ok u1 h2) (.c (sha_added_ok u3 h4) (.c (sha_padded_ok a0 u5 h6) (.c (sha_Sum_1_ok u5 Z32 u1 u3 o13 h14) (.c (sha_Sum_3_ok o13.2 (0 : Int) o13.1 Z32 o24 h25) .n))))) (by kernel_rfl)
theorem can59 : Callable prog 59 := ⟨_, func59, by kernel_rfl, by kernel_rfl⟩
def sha_Tagged_1_in (x0 : List (B8)) (x1 : Int) (x2 : Int) (x3 : B8) (x4 : B8) : St := ⟨[(4, (.ptr 0 [])), (5, (.own 1 [])), (10, (.v (.slice (.slice (.int .u8))) x0)), (11, (.v (.int .i64) x1)), (12, (.v (.int .i64) x2))], [.box (.arr 32 (.int .u8)) (.v (.arr 32 (.int .u8)) x3) true, .row (.int .u8) x4 true], 22, 0⟩
def sha_Tagged_1_ex (o : B8 × B8) : Exit := (.exit 0)
def sha_Tagged_1_st (o : B8 × B8) : St := ⟨[(4, (.ptr 0 [])), (5, (.own 1 []))], [.box (.arr 32 (.int .u8)) (.v (.arr 32 (.int .u8)) o.1) true, .row (.int .u8) o.2 true], 22, 0⟩
theorem sha_Tagged_1_body (x0 : List (B8)) (x1 : Int) (x2 : Int) (x3 : B8) (x4 : B8) : ∀ r, sha_Tagged_1_step x0 x1 x2 x3 x4 = some r → (match r with | .inl s => CodeOK prog (codeAt (bodyOf f59) [1, 1, 0, 1, 0, 0]) (sha_Tagged_1_in x0 x1 x2 x3 x4) .normal (sha_Tagged_1_in x0 x1 s.1 x3 s.2) | .inr o => sha_Tagged_1_ex o ≠ .normal ∧ CodeOK prog (codeAt (bodyOf f59) [1, 1, 0, 1, 0, 0]) (sha_Tagged_1_in x0 x1 x2 x3 x4) (sha_Tagged_1_ex o) (sha_Tagged_1_st o)) := by
 intro r h
 unfold sha_Tagged_1_step at h
 rcases fork_some h with ⟨h2, h⟩ | ⟨h2, h⟩
 ·obtain ⟨h3, h⟩ := need_some h
  obtain ⟨h4, h⟩ := need_some h
  injection h with h; subst h
  exact env.code (its := [b1, .dive, .sel [4, 5, 10, 11, 12] [0, 2]]) (.c h2 (.c h3 (.c h4 .n))) (by kernel_rfl)
 ·injection h with h; subst h
  exact ⟨by intro e; simp [sha_Tagged_1_ex] at e, env.code (its := [b0, .sel [4, 5] [0, 1]]) (.c h2 .n) (by kernel_rfl)⟩
theorem sha_Tagged_1_ok (x0 : List (B8)) (x1 : Int) (x2 : Int) (x3 : B8) (x4 : B8) (o : B8 × B8) (h : sha_Tagged_1 x0 x1 x2 x3 x4 = some o) : CodeOK prog (codeAt (bodyOf f59) [1, 1, 0, 1, 0]) (sha_Tagged_1_in x0 x1 x2 x3 x4) (sha_Tagged_1_ex o) (sha_Tagged_1_st o) :=
 LoopOK.of_step (st := fun s => sha_Tagged_1_in x0 x1 s.1 x3 s.2) (ex := sha_Tagged_1_ex) (stO := sha_Tagged_1_st) (fun s s2 hs => sha_Tagged_1_body x0 x1 s.1 x3 s.2 (.inl s2) hs) (fun s r hs => sha_Tagged_1_body x0 x1 s.1 x3 s.2 (.inr r) hs) _ o h
def sha_Tagged_R (a0 : UInt8) (a1 : List (B8)) (u : B8) : Slot := (.v (.arr 32 (.int .u8)) u)
def sha_Tagged_O (a0 : UInt8) (a1 : List (B8)) (u : B8) : List AObj := []
theorem sha_Tagged_ok (a0 : UInt8) (a1 : List (B8)) (u : B8) (h : sha_Tagged a0 a1 = some u) : CallC prog 59 [(.v (.int .u8) a0), (.v (.slice (.slice (.int .u8))) a1)] [] (sha_Tagged_R a0 a1 u) (sha_Tagged_O a0 a1 u) := by
 unfold sha_Tagged at h
 obtain ⟨o5, h6, h⟩ := andThen_some h
 obtain ⟨u7, h8, h⟩ := andThen_some h
 injection h with h; subst h
 exact env.fun func59 can59 (its := [.dive, .sel [4, 5, 10, 11, 12] [0, 1], .part (sha_Tagged_1_ex o5) (sha_Tagged_1_st o5), .call [none] [] [1] true (sha_Sum_R o5.2 u7) (sha_Sum_O o5.2 u7)]) (pos := [.sel []]) (.c (sha_Tagged_1_ok a1 (List.length a1 : Int) (0 : Int) Z32 ([a0] : List (UInt8)) o5 h6) (.c (sha_Sum_ok o5.2 u7 h8) .n)) (by kernel_rfl)
theorem can24 : Callable prog 24 := ⟨_, func24, by kernel_rfl, by kernel_rfl⟩
def vals_Hash_1_in (x0 : List (T484d)) (x1 : Int) (x2 : Int) (x3 : B8) (x4 : B8) : St := ⟨[(2, (.ptr 0 [])), (3, (.own 1 [])), (10, (.v (.slice Y484d) x0)), (11, (.v (.int .i64) x1)), (12, (.v (.int .i64) x2))], [.box (.arr 32 (.int .u8)) (.v (.arr 32 (.int .u8)) x3) true, .row (.int .u8) x4 true], 35, 0⟩
def vals_Hash_1_ex (o : B8 × B8) : Exit := (.exit 0)
def vals_Hash_1_st (o : B8 × B8) : St := ⟨[(2, (.ptr 0 [])), (3, (.own 1 []))], [.box (.arr 32 (.int .u8)) (.v (.arr 32 (.int .u8)) o.1) true, .row (.int .u8) o.2 true], 35, 0⟩
theorem vals_Hash_1_body (x0 : List (T484d)) (x1 : Int) (x2 : Int) (x3 : B8) (x4 : B8) : ∀ r, vals_Hash_1_step x0 x1 x2 x3 x4 = some r → (match r with | .inl s => CodeOK prog (codeAt (bodyOf f24) [1, 1, 0, 1, 0, 0]) (vals_Hash_1_in x0 x1 x2 x3 x4) .normal (vals_Hash_1_in x0 x1 s.1 x3 s.2) | .inr o => vals_Hash_1_ex o ≠ .normal ∧ CodeOK prog (codeAt (bodyOf f24) [1, 1, 0, 1, 0, 0]) (vals_Hash_1_in x0 x1 x2 x3 x4) (vals_Hash_1_ex o) (vals_Hash_1_st o)) := by
 intro r h
 unfold vals_Hash_1_step at h
 rcases fork_some h with ⟨h4, h⟩ | ⟨h4, h⟩
 ·obtain ⟨h5, h⟩ := need_some h
  obtain ⟨u6, h7, h⟩ := andThen_some h
  obtain ⟨u8, h9, h⟩ := andThen_some h
  obtain ⟨u10, h11, h⟩ := andThen_some h
  obtain ⟨u12, h13, h⟩ := andThen_some h
  injection h with h; subst h
  exact env.code (its := [b1, .pre p8, .call [none] [] [0] true (vint_Text_R ([(List.getD x0 (Int.toNat x2) Z484d).1] : List (B8)) u6) (vint_Text_O ([(List.getD x0 (Int.toNat x2) Z484d).1] : List (B8)) u6), .call [none] [] [0] true (vint_Put_R ([(List.getD x0 (Int.toNat x2) Z484d).2.1] : List (Int)) u8) (vint_Put_O ([(List.getD x0 (Int.toNat x2) Z484d).2.1] : List (Int)) u8), .call [none] [] [0] true (vint_Hash_R ([(List.getD x0 (Int.toNat x2) Z484d).2.2.1] : List (B8)) u10) (vint_Hash_O ([(List.getD x0 (Int.toNat x2) Z484d).2.2.1] : List (B8)) u10), .call [none] [] [0] true (slices_Concat_Lbyte_byte_R ([x4, u6, u8, u10] : List (B8)) u12) (slices_Concat_Lbyte_byte_O ([x4, u6, u8, u10] : List (B8)) u12), .sel [2, 3, 10, 11, 12] [0, 10]]) (.c h4 (.c h5 (.c (vint_Text_ok ([(List.getD x0 (Int.toNat x2) Z484d).1] : List (B8)) u6 h7) (.c (vint_Put_ok ([(List.getD x0 (Int.toNat x2) Z484d).2.1] : List (Int)) u8 h9) (.c (vint_Hash_ok ([(List.getD x0 (Int.toNat x2) Z484d).2.2.1] : List (B8)) u10 h11) (.c (slices_Concat_Lbyte_byte_ok ([x4, u6, u8, u10] : List (B8)) u12 h13) .n)))))) (by kernel_rfl)
 ·injection h with h; subst h
  exact ⟨by intro e; simp [vals_Hash_1_ex] at e, env.code (its := [b0, .sel [2, 3] [0, 1]]) (.c h4 .n) (by kernel_rfl)⟩
theorem vals_Hash_1_ok (x0 : List (T484d)) (x1 : Int) (x2 : Int) (x3 : B8) (x4 : B8) (o : B8 × B8) (h : vals_Hash_1 x0 x1 x2 x3 x4 = some o) : CodeOK prog (codeAt (bodyOf f24) [1, 1, 0, 1, 0]) (vals_Hash_1_in x0 x1 x2 x3 x4) (vals_Hash_1_ex o) (vals_Hash_1_st o) :=
 LoopOK.of_step (st := fun s => vals_Hash_1_in x0 x1 s.1 x3 s.2) (ex := vals_Hash_1_ex) (stO := vals_Hash_1_st) (fun s s2 hs => vals_Hash_1_body x0 x1 s.1 x3 s.2 (.inl s2) hs) (fun s r hs => vals_Hash_1_body x0 x1 s.1 x3 s.2 (.inr r) hs) _ o h
def vals_Hash_R (a0 : List (T484d)) (u : B8) : Slot := (.v (.arr 32 (.int .u8)) u)
def vals_Hash_O (a0 : List (T484d)) (u : B8) : List AObj := []
theorem vals_Hash_ok (a0 : List (T484d)) (u : B8) (h : vals_Hash a0 = some u) : CallC prog 24 [(.v (.slice Y484d) a0)] [] (vals_Hash_R a0 u) (vals_Hash_O a0 u) := by
 unfold vals_Hash at h
 obtain ⟨u1, h2, h⟩ := andThen_some h
 obtain ⟨o14, h15, h⟩ := andThen_some h
 obtain ⟨u16, h17, h⟩ := andThen_some h
 injection h with h; subst h
 exact env.fun func24 can24 (its := [.call [none] [] [1] true (vint_Put_R ([(List.length a0 : Int)] : List (Int)) u1) (vint_Put_O ([(List.length a0 : Int)] : List (Int)) u1), .dive, .sel [2, 3, 10, 11, 12] [0, 2], .part (vals_Hash_1_ex o14) (vals_Hash_1_st o14), .call [none, none] [] [2] true (sha_Tagged_R (86 : UInt8) ([o14.2] : List (B8)) u16) (sha_Tagged_O (86 : UInt8) ([o14.2] : List (B8)) u16)]) (pos := [.sel []]) (.c (vint_Put_ok ([(List.length a0 : Int)] : List (Int)) u1 h2) (.c (vals_Hash_1_ok a0 (List.length a0 : Int) (0 : Int) Z32 u1 o14 h15) (.c (sha_Tagged_ok (86 : UInt8) ([o14.2] : List (B8)) u16 h17) .n))) (by kernel_rfl)
theorem can60 : Callable prog 60 := ⟨_, func60, by kernel_rfl, by kernel_rfl⟩
def affiantref1_Put_R (a0 : Int) (u : B8) : Slot := (.own 0 [])
def affiantref1_Put_O (a0 : Int) (u : B8) : List AObj := [.row (.int .u8) u true]
theorem affiantref1_Put_f_ok : ∀ (k : Nat) (a0 : Int) (u : B8) (h : affiantref1_Put_f k a0 = some u), CallC prog 60 [(.v (.int .i64) a0)] [] (affiantref1_Put_R a0 u) (affiantref1_Put_O a0 u)
 | 0, a0, u, h => by cases h
 | k + 1, a0, u, h => by
  unfold affiantref1_Put_f at h
  rcases fork_some h with ⟨h1, h⟩ | ⟨h1, h⟩
  ·injection h with h; subst h
   exact env.fun func60 can60 (its := [b1, b1, b1, b1]) (pos := [.promote (.int .u8), .sel [0]]) (.c h1 (.c h1 (.c h1 (.c r1 .n)))) (by kernel_rfl)
  ·rcases fork_some h with ⟨h2, h⟩ | ⟨h2, h⟩
   ·injection h with h; subst h
    exact env.fun func60 can60 (its := [b0, b0, b0, b1]) (pos := [.promote (.int .u8), .sel [0]]) (.c h1 (.c h1 (.c h1 (.c h2 .n)))) (by kernel_rfl)
   ·rcases fork_some h with ⟨h3, h⟩ | ⟨h3, h⟩
    ·injection h with h; subst h
     exact env.fun func60 can60 (its := [b0, b0, b0, b0, b1]) (pos := [.sel [0]]) (.c h1 (.c h1 (.c h1 (.c h2 (.c h3 .n))))) (by kernel_rfl)
    ·obtain ⟨u4, h5, h⟩ := andThen_some h
     obtain ⟨h6, h⟩ := need_some h
     injection h with h; subst h
     exact env.fun func60 can60 (its := [b0, b0, b0, b0, b0, .call [none] [] [] true (affiantref1_Put_R (ishr a0 (Int.toNat (7 : Int))) u4) (affiantref1_Put_O (ishr a0 (Int.toNat (7 : Int))) u4)]) (pos := [.sel [2]]) (.c h1 (.c h1 (.c h1 (.c h2 (.c h3 (.c (of_decide_eq_true (p := (0 ≤ (7 : Int))) (by kernel_rfl)) (.c (affiantref1_Put_f_ok k (ishr a0 (Int.toNat (7 : Int))) u4 h5) (.c h6 .n)))))))) (by kernel_rfl)
theorem affiantref1_Put_ok (a0 : Int) (u : B8) (h : affiantref1_Put a0 = some u) : CallC prog 60 [(.v (.int .i64) a0)] [] (affiantref1_Put_R a0 u) (affiantref1_Put_O a0 u) := affiantref1_Put_f_ok 64 a0 u h
theorem can61 : Callable prog 61 := ⟨_, func61, by kernel_rfl, by kernel_rfl⟩
def affiantref1_Text_R (a0 : B8) (u : B8) : Slot := (.own 0 [])
def affiantref1_Text_O (a0 : B8) (u : B8) : List AObj := [.row (.int .u8) u true]
theorem affiantref1_Text_ok (a0 : B8) (u : B8) (h : affiantref1_Text a0 = some u) : CallC prog 61 [(.v .str a0)] [] (affiantref1_Text_R a0 u) (affiantref1_Text_O a0 u) := by
 unfold affiantref1_Text at h
 obtain ⟨u1, h2, h⟩ := andThen_some h
 obtain ⟨h3, h⟩ := need_some h
 injection h with h; subst h
 exact env.fun func61 can61 (its := [.call [none] [] [] true (affiantref1_Put_R (List.length a0 : Int) u1) (affiantref1_Put_O (List.length a0 : Int) u1)]) (pos := [.sel [1]]) (.c (affiantref1_Put_ok (List.length a0 : Int) u1 h2) (.c h3 .n)) (by kernel_rfl)
theorem can95 : Callable prog 95 := ⟨_, func95, by kernel_rfl, by kernel_rfl⟩
def affiantref1_constants_R  (u : List UInt32) : Slot := (.own 0 [])
def affiantref1_constants_O  (u : List UInt32) : List AObj := [.row (.int .u32) u true]
theorem affiantref1_constants_ok  (u : List UInt32) (h : affiantref1_constants  = some u) : CallC prog 95 [] [] (affiantref1_constants_R u) (affiantref1_constants_O u) := by
 unfold affiantref1_constants at h
 injection h with h; subst h
 exact env.fun func95 can95 (its := []) (pos := [.sel [0]]) .n (by kernel_rfl)
theorem can101 : Callable prog 101 := ⟨_, func101, by kernel_rfl, by kernel_rfl⟩
def affiantref1_turn_R (a0 : UInt32) (a1 : UInt64) (u : UInt32) : Slot := (.v (.int .u32) u)
def affiantref1_turn_O (a0 : UInt32) (a1 : UInt64) (u : UInt32) : List AObj := []
theorem affiantref1_turn_ok (a0 : UInt32) (a1 : UInt64) (u : UInt32) (h : affiantref1_turn a0 a1 = some u) : CallC prog 101 [(.v (.int .u32) a0), (.v (.int .u64) a1)] [] (affiantref1_turn_R a0 a1 u) (affiantref1_turn_O a0 a1 u) := by
 unfold affiantref1_turn at h
 obtain ⟨h1, h⟩ := need_some h
 obtain ⟨h2, h⟩ := need_some h
 injection h with h; subst h
 exact env.fun func101 can101 (its := []) (pos := [.sel []]) (.c h1 (.c h2 .n)) (by kernel_rfl)
theorem can96 : Callable prog 96 := ⟨_, func96, by kernel_rfl, by kernel_rfl⟩
def affiantref1_block_1_in (x0 : B8) (x1 : List UInt32) (x2 : Int) (x3 : List UInt32) (x4 : List UInt32) (x5 : List UInt32) : St := ⟨[(1, (.v (.slice (.int .u8)) x0)), (2, (.v (.slice (.int .u32)) x1)), (3, (.ptr 0 [])), (6, (.ptr 1 [])), (7, (.ptr 2 [])), (20, (.v (.int .i64) x2))], [.box (.arr 8 (.int .u32)) (.v (.arr 8 (.int .u32)) x3) true, .box (.arr 8 (.int .u32)) (.v (.arr 8 (.int .u32)) x4) true, .box (.arr 64 (.int .u32)) (.v (.arr 64 (.int .u32)) x5) true], 207, 0⟩
def affiantref1_block_1_ex (o : List UInt32 × List UInt32 × List UInt32 × List UInt32) : Exit := (.exit 0)
def affiantref1_block_1_st (o : List UInt32 × List UInt32 × List UInt32 × List UInt32) : St := ⟨[(2, (.v (.slice (.int .u32)) o.1)), (3, (.ptr 0 [])), (6, (.ptr 1 [])), (7, (.ptr 2 []))], [.box (.arr 8 (.int .u32)) (.v (.arr 8 (.int .u32)) o.2.1) true, .box (.arr 8 (.int .u32)) (.v (.arr 8 (.int .u32)) o.2.2.1) true, .box (.arr 64 (.int .u32)) (.v (.arr 64 (.int .u32)) o.2.2.2) true], 207, 0⟩
theorem affiantref1_block_1_body (x0 : B8) (x1 : List UInt32) (x2 : Int) (x3 : List UInt32) (x4 : List UInt32) (x5 : List UInt32) : ∀ r, affiantref1_block_1_step x0 x1 x2 x3 x4 x5 = some r → (match r with | .inl s => CodeOK prog (codeAt (bodyOf f96) [1, 1, 0, 1, 0, 0]) (affiantref1_block_1_in x0 x1 x2 x3 x4 x5) .normal (affiantref1_block_1_in x0 x1 s.1 x3 x4 s.2) | .inr o => affiantref1_block_1_ex o ≠ .normal ∧ CodeOK prog (codeAt (bodyOf f96) [1, 1, 0, 1, 0, 0]) (affiantref1_block_1_in x0 x1 x2 x3 x4 x5) (affiantref1_block_1_ex o) (affiantref1_block_1_st o)) := by
 intro r h
 unfold affiantref1_block_1_step at h
 rcases fork_some h with ⟨h2, h⟩ | ⟨h2, h⟩
 ·obtain ⟨h3, h⟩ := need_some h
  obtain ⟨h4, h⟩ := need_some h
  obtain ⟨h5, h⟩ := need_some h
  obtain ⟨h6, h⟩ := need_some h
  obtain ⟨h7, h⟩ := need_some h
  injection h with h; subst h
  exact env.code (its := [b1, .pre p2, .sel [1, 2, 3, 6, 7, 20] [0, 1, 2]]) (.c h2 (.c h3 (.c (of_decide_eq_true (p := (0 ≤ (24 : Int))) (by kernel_rfl)) (.c h4 (.c (of_decide_eq_true (p := (0 ≤ (16 : Int))) (by kernel_rfl)) (.c h5 (.c (of_decide_eq_true (p := (0 ≤ (8 : Int))) (by kernel_rfl)) (.c h6 (.c h7 .n))))))))) (by kernel_rfl)
 ·injection h with h; subst h
  exact ⟨by intro e; simp [affiantref1_block_1_ex] at e, env.code (its := [b0, .sel [2, 3, 6, 7] [0, 1, 2]]) (.c h2 .n) (by kernel_rfl)⟩
theorem affiantref1_block_1_ok (x0 : B8) (x1 : List UInt32) (x2 : Int) (x3 : List UInt32) (x4 : List UInt32) (x5 : List UInt32) (o : List UInt32 × List UInt32 × List UInt32 × List UInt32) (h : affiantref1_block_1 x0 x1 x2 x3 x4 x5 = some o) : CodeOK prog (codeAt (bodyOf f96) [1, 1, 0, 1, 0]) (affiantref1_block_1_in x0 x1 x2 x3 x4 x5) (affiantref1_block_1_ex o) (affiantref1_block_1_st o) :=
 LoopOK.of_step (st := fun s => affiantref1_block_1_in x0 x1 s.1 x3 x4 s.2) (ex := affiantref1_block_1_ex) (stO := affiantref1_block_1_st) (fun s s2 hs => affiantref1_block_1_body x0 x1 s.1 x3 x4 s.2 (.inl s2) hs) (fun s r hs => affiantref1_block_1_body x0 x1 s.1 x3 x4 s.2 (.inr r) hs) _ o h
def affiantref1_block_2_in (x0 : List UInt32) (x1 : Int) (x2 : List UInt32) (x3 : List UInt32) (x4 : List UInt32) : St := ⟨[(2, (.v (.slice (.int .u32)) x0)), (3, (.ptr 0 [])), (6, (.ptr 1 [])), (7, (.ptr 2 [])), (9, (.v (.int .i64) x1))], [.box (.arr 8 (.int .u32)) (.v (.arr 8 (.int .u32)) x2) true, .box (.arr 8 (.int .u32)) (.v (.arr 8 (.int .u32)) x3) true, .box (.arr 64 (.int .u32)) (.v (.arr 64 (.int .u32)) x4) true], 207, 0⟩
def affiantref1_block_2_ex (o : List UInt32 × List UInt32 × List UInt32 × List UInt32) : Exit := (.exit 2)
def affiantref1_block_2_st (o : List UInt32 × List UInt32 × List UInt32 × List UInt32) : St := ⟨[(2, (.v (.slice (.int .u32)) o.1)), (3, (.ptr 0 [])), (6, (.ptr 1 [])), (7, (.ptr 2 []))], [.box (.arr 8 (.int .u32)) (.v (.arr 8 (.int .u32)) o.2.1) true, .box (.arr 8 (.int .u32)) (.v (.arr 8 (.int .u32)) o.2.2.1) true, .box (.arr 64 (.int .u32)) (.v (.arr 64 (.int .u32)) o.2.2.2) true], 207, 0⟩
theorem affiantref1_block_2_body (x0 : List UInt32) (x1 : Int) (x2 : List UInt32) (x3 : List UInt32) (x4 : List UInt32) : ∀ r, affiantref1_block_2_step x0 x1 x2 x3 x4 = some r → (match r with | .inl s => CodeOK prog (codeAt (bodyOf f96) [1, 1, 1, 0, 1, 0, 0]) (affiantref1_block_2_in x0 x1 x2 x3 x4) .normal (affiantref1_block_2_in x0 s.1 x2 x3 s.2) | .inr o => affiantref1_block_2_ex o ≠ .normal ∧ CodeOK prog (codeAt (bodyOf f96) [1, 1, 1, 0, 1, 0, 0]) (affiantref1_block_2_in x0 x1 x2 x3 x4) (affiantref1_block_2_ex o) (affiantref1_block_2_st o)) := by
 intro r h
 unfold affiantref1_block_2_step at h
 rcases fork_some h with ⟨h11, h⟩ | ⟨h11, h⟩
 ·obtain ⟨h12, h⟩ := need_some h
  obtain ⟨h13, h⟩ := need_some h
  obtain ⟨h14, h⟩ := need_some h
  obtain ⟨u15, h16, h⟩ := andThen_some h
  obtain ⟨u17, h18, h⟩ := andThen_some h
  obtain ⟨h19, h⟩ := need_some h
  obtain ⟨u20, h21, h⟩ := andThen_some h
  obtain ⟨u22, h23, h⟩ := andThen_some h
  obtain ⟨h24, h⟩ := need_some h
  injection h with h; subst h
  exact env.code (its := [b1, .pre p3, .pre p4, .asis, .call [none, none] [] [] true (affiantref1_turn_R (List.getD x4 (Int.toNat (w64 (x1 - (15 : Int)))) (0 : UInt32)) (7 : UInt64) u15) (affiantref1_turn_O (List.getD x4 (Int.toNat (w64 (x1 - (15 : Int)))) (0 : UInt32)) (7 : UInt64) u15), .asis, .call [none, none] [] [] true (affiantref1_turn_R (List.getD x4 (Int.toNat (w64 (x1 - (15 : Int)))) (0 : UInt32)) (18 : UInt64) u17) (affiantref1_turn_O (List.getD x4 (Int.toNat (w64 (x1 - (15 : Int)))) (0 : UInt32)) (18 : UInt64) u17), .asis, .call [none, none] [] [] true (affiantref1_turn_R (List.getD x4 (Int.toNat (w64 (x1 - (2 : Int)))) (0 : UInt32)) (17 : UInt64) u20) (affiantref1_turn_O (List.getD x4 (Int.toNat (w64 (x1 - (2 : Int)))) (0 : UInt32)) (17 : UInt64) u20), .asis, .call [none, none] [] [] true (affiantref1_turn_R (List.getD x4 (Int.toNat (w64 (x1 - (2 : Int)))) (0 : UInt32)) (19 : UInt64) u22) (affiantref1_turn_O (List.getD x4 (Int.toNat (w64 (x1 - (2 : Int)))) (0 : UInt32)) (19 : UInt64) u22), .sel [2, 3, 6, 7, 9] [0, 1, 2]]) (.c h11 (.c h12 (.c h13 (.c h14 (.c rn (.c (affiantref1_turn_ok (List.getD x4 (Int.toNat (w64 (x1 - (15 : Int)))) (0 : UInt32)) (7 : UInt64) u15 h16) (.c rn (.c (affiantref1_turn_ok (List.getD x4 (Int.toNat (w64 (x1 - (15 : Int)))) (0 : UInt32)) (18 : UInt64) u17 h18) (.c (of_decide_eq_true (p := (0 ≤ (3 : Int))) (by kernel_rfl)) (.c h19 (.c rn (.c (affiantref1_turn_ok (List.getD x4 (Int.toNat (w64 (x1 - (2 : Int)))) (0 : UInt32)) (17 : UInt64) u20 h21) (.c rn (.c (affiantref1_turn_ok (List.getD x4 (Int.toNat (w64 (x1 - (2 : Int)))) (0 : UInt32)) (19 : UInt64) u22 h23) (.c (of_decide_eq_true (p := (0 ≤ (10 : Int))) (by kernel_rfl)) (.c h24 .n)))))))))))))))) (by kernel_rfl)
 ·injection h with h; subst h
  exact ⟨by intro e; simp [affiantref1_block_2_ex] at e, env.code (its := [b0, .sel [2, 3, 6, 7] [0, 1, 2]]) (.c h11 .n) (by kernel_rfl)⟩
theorem affiantref1_block_2_ok (x0 : List UInt32) (x1 : Int) (x2 : List UInt32) (x3 : List UInt32) (x4 : List UInt32) (o : List UInt32 × List UInt32 × List UInt32 × List UInt32) (h : affiantref1_block_2 x0 x1 x2 x3 x4 = some o) : CodeOK prog (codeAt (bodyOf f96) [1, 1, 1, 0, 1, 0]) (affiantref1_block_2_in x0 x1 x2 x3 x4) (affiantref1_block_2_ex o) (affiantref1_block_2_st o) :=
 LoopOK.of_step (st := fun s => affiantref1_block_2_in x0 s.1 x2 x3 s.2) (ex := affiantref1_block_2_ex) (stO := affiantref1_block_2_st) (fun s s2 hs => affiantref1_block_2_body x0 s.1 x2 x3 s.2 (.inl s2) hs) (fun s r hs => affiantref1_block_2_body x0 s.1 x2 x3 s.2 (.inr r) hs) _ o h
def affiantref1_block_3_in (x0 : List UInt32) (x1 : Int) (x2 : List UInt32) (x3 : List UInt32) (x4 : List UInt32) (x5 : List UInt32) : St := ⟨[(2, (.v (.slice (.int .u32)) x0)), (3, (.ptr 0 [])), (6, (.ptr 1 [])), (7, (.ptr 2 [])), (12, (.ptr 3 [])), (101, (.v (.int .i64) x1))], [.box (.arr 8 (.int .u32)) (.v (.arr 8 (.int .u32)) x2) true, .box (.arr 8 (.int .u32)) (.v (.arr 8 (.int .u32)) x3) true, .box (.arr 64 (.int .u32)) (.v (.arr 64 (.int .u32)) x4) true, .box (.arr 8 (.int .u32)) (.v (.arr 8 (.int .u32)) x5) true], 207, 0⟩
def affiantref1_block_3_ex (o : List UInt32 × List UInt32 × List UInt32) : Exit := (.exit 4)
def affiantref1_block_3_st (o : List UInt32 × List UInt32 × List UInt32) : St := ⟨[(3, (.ptr 0 [])), (6, (.ptr 1 [])), (12, (.ptr 2 []))], [.box (.arr 8 (.int .u32)) (.v (.arr 8 (.int .u32)) o.1) true, .box (.arr 8 (.int .u32)) (.v (.arr 8 (.int .u32)) o.2.1) true, .box (.arr 8 (.int .u32)) (.v (.arr 8 (.int .u32)) o.2.2) true], 207, 0⟩
theorem affiantref1_block_3_body (x0 : List UInt32) (x1 : Int) (x2 : List UInt32) (x3 : List UInt32) (x4 : List UInt32) (x5 : List UInt32) : ∀ r, affiantref1_block_3_step x0 x1 x2 x3 x4 x5 = some r → (match r with | .inl s => CodeOK prog (codeAt (bodyOf f96) [1, 1, 1, 1, 1, 0, 1, 0, 0]) (affiantref1_block_3_in x0 x1 x2 x3 x4 x5) .normal (affiantref1_block_3_in x0 s.1 x2 x3 x4 s.2) | .inr o => affiantref1_block_3_ex o ≠ .normal ∧ CodeOK prog (codeAt (bodyOf f96) [1, 1, 1, 1, 1, 0, 1, 0, 0]) (affiantref1_block_3_in x0 x1 x2 x3 x4 x5) (affiantref1_block_3_ex o) (affiantref1_block_3_st o)) := by
 intro r h
 unfold affiantref1_block_3_step at h
 rcases fork_some h with ⟨h28, h⟩ | ⟨h28, h⟩
 ·obtain ⟨u29, h30, h⟩ := andThen_some h
  obtain ⟨u31, h32, h⟩ := andThen_some h
  obtain ⟨u33, h34, h⟩ := andThen_some h
  obtain ⟨h35, h⟩ := need_some h
  obtain ⟨h36, h⟩ := need_some h
  obtain ⟨u37, h38, h⟩ := andThen_some h
  obtain ⟨u39, h40, h⟩ := andThen_some h
  obtain ⟨u41, h42, h⟩ := andThen_some h
  injection h with h; subst h
  exact env.code (its := [b1, .pre p9, .asis, .call [none, none] [] [] true (affiantref1_turn_R (List.getD x5 (Int.toNat (4 : Int)) (0 : UInt32)) (6 : UInt64) u29) (affiantref1_turn_O (List.getD x5 (Int.toNat (4 : Int)) (0 : UInt32)) (6 : UInt64) u29), .asis, .call [none, none] [] [] true (affiantref1_turn_R (List.getD x5 (Int.toNat (4 : Int)) (0 : UInt32)) (11 : UInt64) u31) (affiantref1_turn_O (List.getD x5 (Int.toNat (4 : Int)) (0 : UInt32)) (11 : UInt64) u31), .asis, .call [none, none] [] [] true (affiantref1_turn_R (List.getD x5 (Int.toNat (4 : Int)) (0 : UInt32)) (25 : UInt64) u33) (affiantref1_turn_O (List.getD x5 (Int.toNat (4 : Int)) (0 : UInt32)) (25 : UInt64) u33), .pre p10, .pre p9, .asis, .call [none, none] [] [] true (affiantref1_turn_R (List.getD x5 (Int.toNat (0 : Int)) (0 : UInt32)) (2 : UInt64) u37) (affiantref1_turn_O (List.getD x5 (Int.toNat (0 : Int)) (0 : UInt32)) (2 : UInt64) u37), .asis, .call [none, none] [] [] true (affiantref1_turn_R (List.getD x5 (Int.toNat (0 : Int)) (0 : UInt32)) (13 : UInt64) u39) (affiantref1_turn_O (List.getD x5 (Int.toNat (0 : Int)) (0 : UInt32)) (13 : UInt64) u39), .asis, .call [none, none] [] [] true (affiantref1_turn_R (List.getD x5 (Int.toNat (0 : Int)) (0 : UInt32)) (22 : UInt64) u41) (affiantref1_turn_O (List.getD x5 (Int.toNat (0 : Int)) (0 : UInt32)) (22 : UInt64) u41), .sel [2, 3, 6, 7, 12, 101] [0, 1, 2, 3]]) (.c h28 (.c (of_decide_eq_true (p := (0 ≤ (4 : Int) ∧ (4 : Int) < (8 : Int))) (by kernel_rfl)) (.c rn (.c (affiantref1_turn_ok (List.getD x5 (Int.toNat (4 : Int)) (0 : UInt32)) (6 : UInt64) u29 h30) (.c (of_decide_eq_true (p := (0 ≤ (4 : Int) ∧ (4 : Int) < (8 : Int))) (by kernel_rfl)) (.c rn (.c (affiantref1_turn_ok (List.getD x5 (Int.toNat (4 : Int)) (0 : UInt32)) (11 : UInt64) u31 h32) (.c (of_decide_eq_true (p := (0 ≤ (4 : Int) ∧ (4 : Int) < (8 : Int))) (by kernel_rfl)) (.c rn (.c (affiantref1_turn_ok (List.getD x5 (Int.toNat (4 : Int)) (0 : UInt32)) (25 : UInt64) u33 h34) (.c (of_decide_eq_true (p := (0 ≤ (4 : Int) ∧ (4 : Int) < (8 : Int))) (by kernel_rfl)) (.c (of_decide_eq_true (p := (0 ≤ (5 : Int) ∧ (5 : Int) < (8 : Int))) (by kernel_rfl)) (.c (of_decide_eq_true (p := (0 ≤ (4 : Int) ∧ (4 : Int) < (8 : Int))) (by kernel_rfl)) (.c (of_decide_eq_true (p := (0 ≤ (6 : Int) ∧ (6 : Int) < (8 : Int))) (by kernel_rfl)) (.c (of_decide_eq_true (p := (0 ≤ (7 : Int) ∧ (7 : Int) < (8 : Int))) (by kernel_rfl)) (.c h35 (.c h36 (.c (of_decide_eq_true (p := (0 ≤ (0 : Int) ∧ (0 : Int) < (8 : Int))) (by kernel_rfl)) (.c rn (.c (affiantref1_turn_ok (List.getD x5 (Int.toNat (0 : Int)) (0 : UInt32)) (2 : UInt64) u37 h38) (.c (of_decide_eq_true (p := (0 ≤ (0 : Int) ∧ (0 : Int) < (8 : Int))) (by kernel_rfl)) (.c rn (.c (affiantref1_turn_ok (List.getD x5 (Int.toNat (0 : Int)) (0 : UInt32)) (13 : UInt64) u39 h40) (.c (of_decide_eq_true (p := (0 ≤ (0 : Int) ∧ (0 : Int) < (8 : Int))) (by kernel_rfl)) (.c rn (.c (affiantref1_turn_ok (List.getD x5 (Int.toNat (0 : Int)) (0 : UInt32)) (22 : UInt64) u41 h42) (.c (of_decide_eq_true (p := (0 ≤ (0 : Int) ∧ (0 : Int) < (8 : Int))) (by kernel_rfl)) (.c (of_decide_eq_true (p := (0 ≤ (1 : Int) ∧ (1 : Int) < (8 : Int))) (by kernel_rfl)) (.c (of_decide_eq_true (p := (0 ≤ (0 : Int) ∧ (0 : Int) < (8 : Int))) (by kernel_rfl)) (.c (of_decide_eq_true (p := (0 ≤ (2 : Int) ∧ (2 : Int) < (8 : Int))) (by kernel_rfl)) (.c (of_decide_eq_true (p := (0 ≤ (1 : Int) ∧ (1 : Int) < (8 : Int))) (by kernel_rfl)) (.c (of_decide_eq_true (p := (0 ≤ (2 : Int) ∧ (2 : Int) < (8 : Int))) (by kernel_rfl)) (.c (of_decide_eq_true (p := (0 ≤ (0 : Int) ∧ (0 : Int) < (8 : Int))) (by kernel_rfl)) (.c (of_decide_eq_true (p := (0 ≤ (1 : Int) ∧ (1 : Int) < (8 : Int))) (by kernel_rfl)) (.c (of_decide_eq_true (p := (0 ≤ (2 : Int) ∧ (2 : Int) < (8 : Int))) (by kernel_rfl)) (.c (of_decide_eq_true (p := (0 ≤ (3 : Int) ∧ (3 : Int) < (8 : Int))) (by kernel_rfl)) (.c (of_decide_eq_true (p := (0 ≤ (4 : Int) ∧ (4 : Int) < (8 : Int))) (by kernel_rfl)) (.c (of_decide_eq_true (p := (0 ≤ (5 : Int) ∧ (5 : Int) < (8 : Int))) (by kernel_rfl)) (.c (of_decide_eq_true (p := (0 ≤ (6 : Int) ∧ (6 : Int) < (8 : Int))) (by kernel_rfl)) .n))))))))))))))))))))))))))))))))))))))) (by kernel_rfl)
 ·injection h with h; subst h
  exact ⟨by intro e; simp [affiantref1_block_3_ex] at e, env.code (its := [b0, .sel [3, 6, 12] [0, 1, 3]]) (.c h28 .n) (by kernel_rfl)⟩
theorem affiantref1_block_3_ok (x0 : List UInt32) (x1 : Int) (x2 : List UInt32) (x3 : List UInt32) (x4 : List UInt32) (x5 : List UInt32) (o : List UInt32 × List UInt32 × List UInt32) (h : affiantref1_block_3 x0 x1 x2 x3 x4 x5 = some o) : CodeOK prog (codeAt (bodyOf f96) [1, 1, 1, 1, 1, 0, 1, 0]) (affiantref1_block_3_in x0 x1 x2 x3 x4 x5) (affiantref1_block_3_ex o) (affiantref1_block_3_st o) :=
 LoopOK.of_step (st := fun s => affiantref1_block_3_in x0 s.1 x2 x3 x4 s.2) (ex := affiantref1_block_3_ex) (stO := affiantref1_block_3_st) (fun s s2 hs => affiantref1_block_3_body x0 s.1 x2 x3 x4 s.2 (.inl s2) hs) (fun s r hs => affiantref1_block_3_body x0 s.1 x2 x3 x4 s.2 (.inr r) hs) _ o h
def affiantref1_block_4_in (x0 : Int) (x1 : List UInt32) (x2 : List UInt32) (x3 : List UInt32) : St := ⟨[(3, (.ptr 0 [])), (6, (.ptr 1 [])), (12, (.ptr 2 [])), (193, (.v (.int .i64) x0))], [.box (.arr 8 (.int .u32)) (.v (.arr 8 (.int .u32)) x1) true, .box (.arr 8 (.int .u32)) (.v (.arr 8 (.int .u32)) x2) true, .box (.arr 8 (.int .u32)) (.v (.arr 8 (.int .u32)) x3) true], 207, 0⟩
def affiantref1_block_4_ex (o : List UInt32 × List UInt32) : Exit := (.exit 6)
def affiantref1_block_4_st (o : List UInt32 × List UInt32) : St := ⟨[(3, (.ptr 0 [])), (6, (.ptr 1 []))], [.box (.arr 8 (.int .u32)) (.v (.arr 8 (.int .u32)) o.1) true, .box (.arr 8 (.int .u32)) (.v (.arr 8 (.int .u32)) o.2) true], 207, 0⟩
theorem affiantref1_block_4_body (x0 : Int) (x1 : List UInt32) (x2 : List UInt32) (x3 : List UInt32) : ∀ r, affiantref1_block_4_step x0 x1 x2 x3 = some r → (match r with | .inl s => CodeOK prog (codeAt (bodyOf f96) [1, 1, 1, 1, 1, 1, 0, 1, 0, 0]) (affiantref1_block_4_in x0 x1 x2 x3) .normal (affiantref1_block_4_in s.1 s.2 x2 x3) | .inr o => affiantref1_block_4_ex o ≠ .normal ∧ CodeOK prog (codeAt (bodyOf f96) [1, 1, 1, 1, 1, 1, 0, 1, 0, 0]) (affiantref1_block_4_in x0 x1 x2 x3) (affiantref1_block_4_ex o) (affiantref1_block_4_st o)) := by
 intro r h
 unfold affiantref1_block_4_step at h
 rcases fork_some h with ⟨h46, h⟩ | ⟨h46, h⟩
 ·obtain ⟨h47, h⟩ := need_some h
  injection h with h; subst h
  exact env.code (its := [b1, .pre p11, .sel [3, 6, 12, 193] [0, 1, 2]]) (.c h46 (.c h47 (.c h47 (.c h47 .n)))) (by kernel_rfl)
 ·injection h with h; subst h
  exact ⟨by intro e; simp [affiantref1_block_4_ex] at e, env.code (its := [b0, .sel [3, 6] [0, 1]]) (.c h46 .n) (by kernel_rfl)⟩
theorem affiantref1_block_4_ok (x0 : Int) (x1 : List UInt32) (x2 : List UInt32) (x3 : List UInt32) (o : List UInt32 × List UInt32) (h : affiantref1_block_4 x0 x1 x2 x3 = some o) : CodeOK prog (codeAt (bodyOf f96) [1, 1, 1, 1, 1, 1, 0, 1, 0]) (affiantref1_block_4_in x0 x1 x2 x3) (affiantref1_block_4_ex o) (affiantref1_block_4_st o) :=
 LoopOK.of_step (st := fun s => affiantref1_block_4_in s.1 s.2 x2 x3) (ex := affiantref1_block_4_ex) (stO := affiantref1_block_4_st) (fun s s2 hs => affiantref1_block_4_body s.1 s.2 x2 x3 (.inl s2) hs) (fun s r hs => affiantref1_block_4_body s.1 s.2 x2 x3 (.inr r) hs) _ o h
def affiantref1_block_R (a0 : List UInt32) (a1 : B8) (a2 : List UInt32) (u : List UInt32) : Slot := (.v (.arr 8 (.int .u32)) u)
def affiantref1_block_O (a0 : List UInt32) (a1 : B8) (a2 : List UInt32) (u : List UInt32) : List AObj := []
theorem affiantref1_block_ok (a0 : List UInt32) (a1 : B8) (a2 : List UInt32) (u : List UInt32) (h : affiantref1_block a0 a1 a2 = some u) : CallC prog 96 [(.v (.arr 8 (.int .u32)) a0), (.v (.slice (.int .u8)) a1), (.v (.slice (.int .u32)) a2)] [] (affiantref1_block_R a0 a1 a2 u) (affiantref1_block_O a0 a1 a2 u) := by
 unfold affiantref1_block at h
 obtain ⟨o8, h9, h⟩ := andThen_some h
 obtain ⟨o25, h26, h⟩ := andThen_some h
 obtain ⟨o43, h44, h⟩ := andThen_some h
 obtain ⟨o48, h49, h⟩ := andThen_some h
 injection h with h; subst h
 exact env.fun func96 can96 (its := [.dive, .sel [1, 2, 3, 6, 7, 20] [0, 1, 2], .part (affiantref1_block_1_ex o8) (affiantref1_block_1_st o8), .dive, .sel [2, 3, 6, 7, 9] [0, 1, 2], .part (affiantref1_block_2_ex o25) (affiantref1_block_2_st o25), .dive, .sel [2, 3, 6, 7, 12, 101] [0, 1, 2, 3], .part (affiantref1_block_3_ex o43) (affiantref1_block_3_st o43), .dive, .sel [3, 6, 12, 193] [0, 1, 2], .part (affiantref1_block_4_ex o48) (affiantref1_block_4_st o48)]) (pos := [.sel []]) (.c (affiantref1_block_1_ok a1 a2 (0 : Int) a0 (List.replicate 8 (0 : UInt32)) (List.replicate 64 (0 : UInt32)) o8 h9) (.c (affiantref1_block_2_ok o8.1 (16 : Int) o8.2.1 o8.2.2.1 o8.2.2.2 o25 h26) (.c (affiantref1_block_3_ok o25.1 (0 : Int) o25.2.1 o25.2.2.1 o25.2.2.2 o25.2.1 o43 h44) (.c (affiantref1_block_4_ok (0 : Int) o43.1 o43.2.1 o43.2.2 o48 h49) .n)))) (by kernel_rfl)
theorem can82 : Callable prog 82 := ⟨_, func82, by kernel_rfl, by kernel_rfl⟩
def affiantref1_Sum_1_in (x0 : B8) (x1 : B8) (x2 : List UInt32) (x3 : List UInt32) (x4 : B8) : St := ⟨[(0, (.v (.slice (.int .u8)) x0)), (2, (.ptr 0 [])), (3, (.own 1 [])), (4, (.ptr 2 [])), (5, (.own 3 []))], [.box (.arr 32 (.int .u8)) (.v (.arr 32 (.int .u8)) x1) true, .row (.int .u32) x2 true, .box (.arr 8 (.int .u32)) (.v (.arr 8 (.int .u32)) x3) true, .row (.int .u8) x4 true], 88, 0⟩
def affiantref1_Sum_1_ex (o : B8 × B8 × List UInt32 × List UInt32 × B8) : Exit := (.exit 0)
def affiantref1_Sum_1_st (o : B8 × B8 × List UInt32 × List UInt32 × B8) : St := ⟨[(0, (.v (.slice (.int .u8)) o.1)), (2, (.ptr 0 [])), (3, (.own 1 [])), (4, (.ptr 2 [])), (5, (.own 3 []))], [.box (.arr 32 (.int .u8)) (.v (.arr 32 (.int .u8)) o.2.1) true, .row (.int .u32) o.2.2.1 true, .box (.arr 8 (.int .u32)) (.v (.arr 8 (.int .u32)) o.2.2.2.1) true, .row (.int .u8) o.2.2.2.2 true], 88, 0⟩
theorem affiantref1_Sum_1_body (x0 : B8) (x1 : B8) (x2 : List UInt32) (x3 : List UInt32) (x4 : B8) : ∀ r, affiantref1_Sum_1_step x0 x1 x2 x3 x4 = some r → (match r with | .inl s => CodeOK prog (codeAt (bodyOf f82) [1, 1, 1, 1, 0, 0, 0]) (affiantref1_Sum_1_in x0 x1 x2 x3 x4) .normal (affiantref1_Sum_1_in x0 x1 x2 x3 s) | .inr o => affiantref1_Sum_1_ex o ≠ .normal ∧ CodeOK prog (codeAt (bodyOf f82) [1, 1, 1, 1, 0, 0, 0]) (affiantref1_Sum_1_in x0 x1 x2 x3 x4) (affiantref1_Sum_1_ex o) (affiantref1_Sum_1_st o)) := by
 intro r h
 unfold affiantref1_Sum_1_step at h
 rcases fork_some h with ⟨h6, h⟩ | ⟨h6, h⟩
 ·obtain ⟨h7, h⟩ := need_some h
  injection h with h; subst h
  exact env.code (its := [b1, .dive, .sel [0, 2, 3, 4, 5] [0, 1, 2, 5]]) (.c (of_decide_eq_true (p := ((64 : Int) ≠ 0)) (by kernel_rfl)) (.c h6 (.c h7 .n))) (by kernel_rfl)
 ·injection h with h; subst h
  exact ⟨by intro e; simp [affiantref1_Sum_1_ex] at e, env.code (its := [b0, .sel [0, 2, 3, 4, 5] [0, 1, 2, 3]]) (.c (of_decide_eq_true (p := ((64 : Int) ≠ 0)) (by kernel_rfl)) (.c h6 .n)) (by kernel_rfl)⟩
theorem affiantref1_Sum_1_ok (x0 : B8) (x1 : B8) (x2 : List UInt32) (x3 : List UInt32) (x4 : B8) (o : B8 × B8 × List UInt32 × List UInt32 × B8) (h : affiantref1_Sum_1 x0 x1 x2 x3 x4 = some o) : CodeOK prog (codeAt (bodyOf f82) [1, 1, 1, 1, 0, 0]) (affiantref1_Sum_1_in x0 x1 x2 x3 x4) (affiantref1_Sum_1_ex o) (affiantref1_Sum_1_st o) :=
 LoopOK.of_step (st := fun s => affiantref1_Sum_1_in x0 x1 x2 x3 s) (ex := affiantref1_Sum_1_ex) (stO := affiantref1_Sum_1_st) (fun s s2 hs => affiantref1_Sum_1_body x0 x1 x2 x3 s (.inl s2) hs) (fun s r hs => affiantref1_Sum_1_body x0 x1 x2 x3 s (.inr r) hs) _ o h
def affiantref1_Sum_2_in (x0 : B8) (x1 : Int) (x2 : B8) (x3 : List UInt32) (x4 : List UInt32) (x5 : B8) : St := ⟨[(0, (.v (.slice (.int .u8)) x0)), (2, (.ptr 0 [])), (3, (.own 1 [])), (4, (.ptr 2 [])), (5, (.own 3 [])), (6, (.v (.int .i64) x1))], [.box (.arr 32 (.int .u8)) (.v (.arr 32 (.int .u8)) x2) true, .row (.int .u32) x3 true, .box (.arr 8 (.int .u32)) (.v (.arr 8 (.int .u32)) x4) true, .row (.int .u8) x5 true], 88, 0⟩
def affiantref1_Sum_2_ex (o : B8 × List UInt32 × List UInt32 × B8) : Exit := (.exit 2)
def affiantref1_Sum_2_st (o : B8 × List UInt32 × List UInt32 × B8) : St := ⟨[(2, (.ptr 0 [])), (3, (.own 1 [])), (4, (.ptr 2 [])), (5, (.own 3 []))], [.box (.arr 32 (.int .u8)) (.v (.arr 32 (.int .u8)) o.1) true, .row (.int .u32) o.2.1 true, .box (.arr 8 (.int .u32)) (.v (.arr 8 (.int .u32)) o.2.2.1) true, .row (.int .u8) o.2.2.2 true], 88, 0⟩
theorem affiantref1_Sum_2_body (x0 : B8) (x1 : Int) (x2 : B8) (x3 : List UInt32) (x4 : List UInt32) (x5 : B8) : ∀ r, affiantref1_Sum_2_step x0 x1 x2 x3 x4 x5 = some r → (match r with | .inl s => CodeOK prog (codeAt (bodyOf f82) [1, 1, 1, 1, 1, 0, 1, 0, 0]) (affiantref1_Sum_2_in x0 x1 x2 x3 x4 x5) .normal (affiantref1_Sum_2_in x0 s.1 x2 x3 x4 s.2) | .inr o => affiantref1_Sum_2_ex o ≠ .normal ∧ CodeOK prog (codeAt (bodyOf f82) [1, 1, 1, 1, 1, 0, 1, 0, 0]) (affiantref1_Sum_2_in x0 x1 x2 x3 x4 x5) (affiantref1_Sum_2_ex o) (affiantref1_Sum_2_st o)) := by
 intro r h
 unfold affiantref1_Sum_2_step at h
 rcases fork_some h with ⟨h11, h⟩ | ⟨h11, h⟩
 ·obtain ⟨h12, h⟩ := need_some h
  obtain ⟨h13, h⟩ := need_some h
  injection h with h; subst h
  exact env.code (its := [b1, .dive, .sel [0, 2, 3, 4, 5, 6] [0, 1, 2, 5]]) (.c h11 (.c h12 (.c h13 .n))) (by kernel_rfl)
 ·injection h with h; subst h
  exact ⟨by intro e; simp [affiantref1_Sum_2_ex] at e, env.code (its := [b0, .sel [2, 3, 4, 5] [0, 1, 2, 3]]) (.c h11 .n) (by kernel_rfl)⟩
theorem affiantref1_Sum_2_ok (x0 : B8) (x1 : Int) (x2 : B8) (x3 : List UInt32) (x4 : List UInt32) (x5 : B8) (o : B8 × List UInt32 × List UInt32 × B8) (h : affiantref1_Sum_2 x0 x1 x2 x3 x4 x5 = some o) : CodeOK prog (codeAt (bodyOf f82) [1, 1, 1, 1, 1, 0, 1, 0]) (affiantref1_Sum_2_in x0 x1 x2 x3 x4 x5) (affiantref1_Sum_2_ex o) (affiantref1_Sum_2_st o) :=
 LoopOK.of_step (st := fun s => affiantref1_Sum_2_in x0 s.1 x2 x3 x4 s.2) (ex := affiantref1_Sum_2_ex) (stO := affiantref1_Sum_2_st) (fun s s2 hs => affiantref1_Sum_2_body x0 s.1 x2 x3 x4 s.2 (.inl s2) hs) (fun s r hs => affiantref1_Sum_2_body x0 s.1 x2 x3 x4 s.2 (.inr r) hs) _ o h
def affiantref1_Sum_3_in (x0 : B8) (x1 : Int) (x2 : B8) (x3 : List UInt32) (x4 : List UInt32) : St := ⟨[(2, (.ptr 0 [])), (3, (.own 1 [])), (4, (.ptr 2 [])), (5, (.v (.slice (.int .u8)) x0)), (7, (.v (.int .i64) x1))], [.box (.arr 32 (.int .u8)) (.v (.arr 32 (.int .u8)) x2) true, .row (.int .u32) x3 true, .box (.arr 8 (.int .u32)) (.v (.arr 8 (.int .u32)) x4) true], 88, 0⟩
def affiantref1_Sum_3_ex (o : B8 × List UInt32) : Exit := (.exit 4)
def affiantref1_Sum_3_st (o : B8 × List UInt32) : St := ⟨[(2, (.ptr 0 [])), (4, (.ptr 1 []))], [.box (.arr 32 (.int .u8)) (.v (.arr 32 (.int .u8)) o.1) true, .box (.arr 8 (.int .u32)) (.v (.arr 8 (.int .u32)) o.2) true], 88, 0⟩
theorem affiantref1_Sum_3_body (x0 : B8) (x1 : Int) (x2 : B8) (x3 : List UInt32) (x4 : List UInt32) : ∀ r, affiantref1_Sum_3_step x0 x1 x2 x3 x4 = some r → (match r with | .inl s => CodeOK prog (codeAt (bodyOf f82) [1, 1, 1, 1, 1, 1, 0, 1, 0, 0]) (affiantref1_Sum_3_in x0 x1 x2 x3 x4) .normal (affiantref1_Sum_3_in x0 s.1 x2 x3 s.2) | .inr o => affiantref1_Sum_3_ex o ≠ .normal ∧ CodeOK prog (codeAt (bodyOf f82) [1, 1, 1, 1, 1, 1, 0, 1, 0, 0]) (affiantref1_Sum_3_in x0 x1 x2 x3 x4) (affiantref1_Sum_3_ex o) (affiantref1_Sum_3_st o)) := by
 intro r h
 unfold affiantref1_Sum_3_step at h
 rcases fork_some h with ⟨h17, h⟩ | ⟨h17, h⟩
 ·obtain ⟨h18, h⟩ := need_some h
  obtain ⟨u19, h20, h⟩ := andThen_some h
  injection h with h; subst h
  exact env.code (its := [b1, .pre p12, b0, .asis, .call [none, none, none] [] [0] true (affiantref1_block_R x4 (cutL x0 x1 (w64 (x1 + (64 : Int)))) x3 u19) (affiantref1_block_O x4 (cutL x0 x1 (w64 (x1 + (64 : Int)))) x3 u19), .sel [2, 3, 4, 5, 7] [0, 1, 2]]) (.c h17 (.c h18 (.c (rfl : ([.row (.int .u32) x3 true] : List AObj) = [.row (.int .u32) x3 true]) (.c (affiantref1_block_ok x4 (cutL x0 x1 (w64 (x1 + (64 : Int)))) x3 u19 h20) .n)))) (by kernel_rfl)
 ·injection h with h; subst h
  exact ⟨by intro e; simp [affiantref1_Sum_3_ex] at e, env.code (its := [b0, .sel [2, 4] [0, 2]]) (.c h17 .n) (by kernel_rfl)⟩
theorem affiantref1_Sum_3_ok (x0 : B8) (x1 : Int) (x2 : B8) (x3 : List UInt32) (x4 : List UInt32) (o : B8 × List UInt32) (h : affiantref1_Sum_3 x0 x1 x2 x3 x4 = some o) : CodeOK prog (codeAt (bodyOf f82) [1, 1, 1, 1, 1, 1, 0, 1, 0]) (affiantref1_Sum_3_in x0 x1 x2 x3 x4) (affiantref1_Sum_3_ex o) (affiantref1_Sum_3_st o) :=
 LoopOK.of_step (st := fun s => affiantref1_Sum_3_in x0 s.1 x2 x3 s.2) (ex := affiantref1_Sum_3_ex) (stO := affiantref1_Sum_3_st) (fun s s2 hs => affiantref1_Sum_3_body x0 s.1 x2 x3 s.2 (.inl s2) hs) (fun s r hs => affiantref1_Sum_3_body x0 s.1 x2 x3 s.2 (.inr r) hs) _ o h
def affiantref1_Sum_4_in (x0 : List UInt32) (x1 : Int) (x2 : B8) (x3 : B8) : St := ⟨[(2, (.ptr 0 [])), (8, (.ptr 1 [])), (55, (.v (.arr 8 (.int .u32)) x0)), (56, (.v (.int .i64) x1))], [.box (.arr 32 (.int .u8)) (.v (.arr 32 (.int .u8)) x2) true, .box (.arr 32 (.int .u8)) (.v (.arr 32 (.int .u8)) x3) true], 88, 0⟩
def affiantref1_Sum_4_ex (o : B8 × B8) : Exit := (.exit 6)
def affiantref1_Sum_4_st (o : B8 × B8) : St := ⟨[(2, (.ptr 0 [])), (8, (.ptr 1 []))], [.box (.arr 32 (.int .u8)) (.v (.arr 32 (.int .u8)) o.1) true, .box (.arr 32 (.int .u8)) (.v (.arr 32 (.int .u8)) o.2) true], 88, 0⟩
theorem affiantref1_Sum_4_body (x0 : List UInt32) (x1 : Int) (x2 : B8) (x3 : B8) : ∀ r, affiantref1_Sum_4_step x0 x1 x2 x3 = some r → (match r with | .inl s => CodeOK prog (codeAt (bodyOf f82) [1, 1, 1, 1, 1, 1, 1, 1, 0, 1, 0, 0]) (affiantref1_Sum_4_in x0 x1 x2 x3) .normal (affiantref1_Sum_4_in x0 s.1 x2 s.2) | .inr o => affiantref1_Sum_4_ex o ≠ .normal ∧ CodeOK prog (codeAt (bodyOf f82) [1, 1, 1, 1, 1, 1, 1, 1, 0, 1, 0, 0]) (affiantref1_Sum_4_in x0 x1 x2 x3) (affiantref1_Sum_4_ex o) (affiantref1_Sum_4_st o)) := by
 intro r h
 unfold affiantref1_Sum_4_step at h
 rcases fork_some h with ⟨h24, h⟩ | ⟨h24, h⟩
 ·obtain ⟨h25, h⟩ := need_some h
  obtain ⟨h26, h⟩ := need_some h
  obtain ⟨h27, h⟩ := need_some h
  obtain ⟨h28, h⟩ := need_some h
  obtain ⟨h29, h⟩ := need_some h
  injection h with h; subst h
  exact env.code (its := [b1, .dive, .sel [2, 8, 55, 56] [0, 1]]) (.c h24 (.c h25 (.c (of_decide_eq_true (p := (0 ≤ (24 : Int))) (by kernel_rfl)) (.c (of_decide_eq_true (p := (0 ≤ (16 : Int))) (by kernel_rfl)) (.c (of_decide_eq_true (p := (0 ≤ (8 : Int))) (by kernel_rfl)) (.c h26 (.c h27 (.c h28 (.c h29 .n))))))))) (by kernel_rfl)
 ·injection h with h; subst h
  exact ⟨by intro e; simp [affiantref1_Sum_4_ex] at e, env.code (its := [b0, .sel [2, 8] [0, 1]]) (.c h24 .n) (by kernel_rfl)⟩
theorem affiantref1_Sum_4_ok (x0 : List UInt32) (x1 : Int) (x2 : B8) (x3 : B8) (o : B8 × B8) (h : affiantref1_Sum_4 x0 x1 x2 x3 = some o) : CodeOK prog (codeAt (bodyOf f82) [1, 1, 1, 1, 1, 1, 1, 1, 0, 1, 0]) (affiantref1_Sum_4_in x0 x1 x2 x3) (affiantref1_Sum_4_ex o) (affiantref1_Sum_4_st o) :=
 LoopOK.of_step (st := fun s => affiantref1_Sum_4_in x0 s.1 x2 s.2) (ex := affiantref1_Sum_4_ex) (stO := affiantref1_Sum_4_st) (fun s s2 hs => affiantref1_Sum_4_body x0 s.1 x2 s.2 (.inl s2) hs) (fun s r hs => affiantref1_Sum_4_body x0 s.1 x2 s.2 (.inr r) hs) _ o h
def affiantref1_Sum_R (a0 : B8) (u : B8) : Slot := (.v (.arr 32 (.int .u8)) u)
def affiantref1_Sum_O (a0 : B8) (u : B8) : List AObj := []
theorem affiantref1_Sum_ok (a0 : B8) (u : B8) (h : affiantref1_Sum a0 = some u) : CallC prog 82 [(.v (.slice (.int .u8)) a0)] [] (affiantref1_Sum_R a0 u) (affiantref1_Sum_O a0 u) := by
 unfold affiantref1_Sum at h
 obtain ⟨u1, h2, h⟩ := andThen_some h
 obtain ⟨h3, h⟩ := need_some h
 obtain ⟨h4, h⟩ := need_some h
 obtain ⟨o8, h9, h⟩ := andThen_some h
 obtain ⟨o14, h15, h⟩ := andThen_some h
 obtain ⟨o21, h22, h⟩ := andThen_some h
 obtain ⟨o30, h31, h⟩ := andThen_some h
 injection h with h; subst h
 exact env.fun func82 can82 (its := [.call [] [] [] true (affiantref1_constants_R u1) (affiantref1_constants_O u1), .dive, .sel [0, 2, 3, 4, 5] [0, 1, 2, 6], .part (affiantref1_Sum_1_ex o8) (affiantref1_Sum_1_st o8), .dive, .sel [0, 2, 3, 4, 5, 6] [0, 1, 2, 3], .part (affiantref1_Sum_2_ex o14) (affiantref1_Sum_2_st o14), .dive, .val 5 (.slice (.int .u8)), .sel [2, 3, 4, 5, 7] [0, 1, 2], .part (affiantref1_Sum_3_ex o21) (affiantref1_Sum_3_st o21), .dive, .sel [2, 8, 55, 56] [0, 2], .part (affiantref1_Sum_4_ex o30) (affiantref1_Sum_4_st o30)]) (pos := [.sel []]) (.c (affiantref1_constants_ok u1 h2) (.c h3 (.c h4 (.c (affiantref1_Sum_1_ok a0 Z32 u1 (List.set (List.set (List.set (List.set (List.set (List.set (List.set (List.set (List.replicate 8 (0 : UInt32)) 0 (1779033703 : UInt32)) 1 (3144134277 : UInt32)) 2 (1013904242 : UInt32)) 3 (2773480762 : UInt32)) 4 (1359893119 : UInt32)) 5 (2600822924 : UInt32)) 6 (528734635 : UInt32)) 7 (1541459225 : UInt32)) ((([] : List (UInt8)) ++ a0) ++ ([(128 : UInt8)] : List (UInt8))) o8 h9) (.c (affiantref1_Sum_2_ok o8.1 (7 : Int) o8.2.1 o8.2.2.1 o8.2.2.2.1 o8.2.2.2.2 o14 h15) (.c (affiantref1_Sum_3_ok o14.2.2.2 (0 : Int) o14.1 o14.2.1 o14.2.2.1 o21 h22) (.c (affiantref1_Sum_4_ok o21.2 (0 : Int) o21.1 Z32 o30 h31) .n))))))) (by kernel_rfl)
theorem can62 : Callable prog 62 := ⟨_, func62, by kernel_rfl, by kernel_rfl⟩
def affiantref1_Tagged_1_in (x0 : List (B8)) (x1 : Int) (x2 : Int) (x3 : B8) (x4 : B8) : St := ⟨[(4, (.ptr 0 [])), (5, (.own 1 [])), (10, (.v (.slice (.slice (.int .u8))) x0)), (11, (.v (.int .i64) x1)), (12, (.v (.int .i64) x2))], [.box (.arr 32 (.int .u8)) (.v (.arr 32 (.int .u8)) x3) true, .row (.int .u8) x4 true], 22, 0⟩
def affiantref1_Tagged_1_ex (o : B8 × B8) : Exit := (.exit 0)
def affiantref1_Tagged_1_st (o : B8 × B8) : St := ⟨[(4, (.ptr 0 [])), (5, (.own 1 []))], [.box (.arr 32 (.int .u8)) (.v (.arr 32 (.int .u8)) o.1) true, .row (.int .u8) o.2 true], 22, 0⟩
theorem affiantref1_Tagged_1_body (x0 : List (B8)) (x1 : Int) (x2 : Int) (x3 : B8) (x4 : B8) : ∀ r, affiantref1_Tagged_1_step x0 x1 x2 x3 x4 = some r → (match r with | .inl s => CodeOK prog (codeAt (bodyOf f62) [1, 1, 0, 1, 0, 0]) (affiantref1_Tagged_1_in x0 x1 x2 x3 x4) .normal (affiantref1_Tagged_1_in x0 x1 s.1 x3 s.2) | .inr o => affiantref1_Tagged_1_ex o ≠ .normal ∧ CodeOK prog (codeAt (bodyOf f62) [1, 1, 0, 1, 0, 0]) (affiantref1_Tagged_1_in x0 x1 x2 x3 x4) (affiantref1_Tagged_1_ex o) (affiantref1_Tagged_1_st o)) := by
 intro r h
 unfold affiantref1_Tagged_1_step at h
 rcases fork_some h with ⟨h2, h⟩ | ⟨h2, h⟩
 ·obtain ⟨h3, h⟩ := need_some h
  obtain ⟨h4, h⟩ := need_some h
  injection h with h; subst h
  exact env.code (its := [b1, .dive, .sel [4, 5, 10, 11, 12] [0, 2]]) (.c h2 (.c h3 (.c h4 .n))) (by kernel_rfl)
 ·injection h with h; subst h
  exact ⟨by intro e; simp [affiantref1_Tagged_1_ex] at e, env.code (its := [b0, .sel [4, 5] [0, 1]]) (.c h2 .n) (by kernel_rfl)⟩
theorem affiantref1_Tagged_1_ok (x0 : List (B8)) (x1 : Int) (x2 : Int) (x3 : B8) (x4 : B8) (o : B8 × B8) (h : affiantref1_Tagged_1 x0 x1 x2 x3 x4 = some o) : CodeOK prog (codeAt (bodyOf f62) [1, 1, 0, 1, 0]) (affiantref1_Tagged_1_in x0 x1 x2 x3 x4) (affiantref1_Tagged_1_ex o) (affiantref1_Tagged_1_st o) :=
 LoopOK.of_step (st := fun s => affiantref1_Tagged_1_in x0 x1 s.1 x3 s.2) (ex := affiantref1_Tagged_1_ex) (stO := affiantref1_Tagged_1_st) (fun s s2 hs => affiantref1_Tagged_1_body x0 x1 s.1 x3 s.2 (.inl s2) hs) (fun s r hs => affiantref1_Tagged_1_body x0 x1 s.1 x3 s.2 (.inr r) hs) _ o h
def affiantref1_Tagged_R (a0 : UInt8) (a1 : List (B8)) (u : B8) : Slot := (.v (.arr 32 (.int .u8)) u)
def affiantref1_Tagged_O (a0 : UInt8) (a1 : List (B8)) (u : B8) : List AObj := []
theorem affiantref1_Tagged_ok (a0 : UInt8) (a1 : List (B8)) (u : B8) (h : affiantref1_Tagged a0 a1 = some u) : CallC prog 62 [(.v (.int .u8) a0), (.v (.slice (.slice (.int .u8))) a1)] [] (affiantref1_Tagged_R a0 a1 u) (affiantref1_Tagged_O a0 a1 u) := by
 unfold affiantref1_Tagged at h
 obtain ⟨o5, h6, h⟩ := andThen_some h
 obtain ⟨u7, h8, h⟩ := andThen_some h
 injection h with h; subst h
 exact env.fun func62 can62 (its := [.dive, .sel [4, 5, 10, 11, 12] [0, 1], .part (affiantref1_Tagged_1_ex o5) (affiantref1_Tagged_1_st o5), .call [none] [] [1] true (affiantref1_Sum_R o5.2 u7) (affiantref1_Sum_O o5.2 u7)]) (pos := [.sel []]) (.c (affiantref1_Tagged_1_ok a1 (List.length a1 : Int) (0 : Int) Z32 ([a0] : List (UInt8)) o5 h6) (.c (affiantref1_Sum_ok o5.2 u7 h8) .n)) (by kernel_rfl)
theorem can25 : Callable prog 25 := ⟨_, func25, by kernel_rfl, by kernel_rfl⟩
def affiantref10_SetHash_1_in (x0 : List (T484d)) (x1 : Int) (x2 : Int) (x3 : B8) (x4 : B8) : St := ⟨[(2, (.ptr 0 [])), (3, (.own 1 [])), (9, (.v (.slice Y484d) x0)), (10, (.v (.int .i64) x1)), (11, (.v (.int .i64) x2))], [.box (.arr 32 (.int .u8)) (.v (.arr 32 (.int .u8)) x3) true, .row (.int .u8) x4 true], 31, 0⟩
def affiantref10_SetHash_1_ex (o : B8 × B8) : Exit := (.exit 0)
def affiantref10_SetHash_1_st (o : B8 × B8) : St := ⟨[(2, (.ptr 0 [])), (3, (.own 1 []))], [.box (.arr 32 (.int .u8)) (.v (.arr 32 (.int .u8)) o.1) true, .row (.int .u8) o.2 true], 31, 0⟩
theorem affiantref10_SetHash_1_body (x0 : List (T484d)) (x1 : Int) (x2 : Int) (x3 : B8) (x4 : B8) : ∀ r, affiantref10_SetHash_1_step x0 x1 x2 x3 x4 = some r → (match r with | .inl s => CodeOK prog (codeAt (bodyOf f25) [1, 1, 0, 1, 0, 0]) (affiantref10_SetHash_1_in x0 x1 x2 x3 x4) .normal (affiantref10_SetHash_1_in x0 x1 s.1 x3 s.2) | .inr o => affiantref10_SetHash_1_ex o ≠ .normal ∧ CodeOK prog (codeAt (bodyOf f25) [1, 1, 0, 1, 0, 0]) (affiantref10_SetHash_1_in x0 x1 x2 x3 x4) (affiantref10_SetHash_1_ex o) (affiantref10_SetHash_1_st o)) := by
 intro r h
 unfold affiantref10_SetHash_1_step at h
 rcases fork_some h with ⟨h4, h⟩ | ⟨h4, h⟩
 ·obtain ⟨h5, h⟩ := need_some h
  obtain ⟨u6, h7, h⟩ := andThen_some h
  obtain ⟨h8, h⟩ := need_some h
  obtain ⟨u9, h10, h⟩ := andThen_some h
  obtain ⟨h11, h⟩ := need_some h
  obtain ⟨h12, h⟩ := need_some h
  injection h with h; subst h
  exact env.code (its := [b1, .pre p13, .call [none] [] [] true (affiantref1_Text_R ((List.getD x0 (Int.toNat x2) Z484d).1) u6) (affiantref1_Text_O ((List.getD x0 (Int.toNat x2) Z484d).1) u6), .call [none] [] [] true (affiantref1_Put_R ((List.getD x0 (Int.toNat x2) Z484d).2.1) u9) (affiantref1_Put_O ((List.getD x0 (Int.toNat x2) Z484d).2.1) u9), b1, .sel [2, 3, 9, 10, 11] [0, 7]]) (.c h4 (.c h5 (.c (affiantref1_Text_ok ((List.getD x0 (Int.toNat x2) Z484d).1) u6 h7) (.c h8 (.c (affiantref1_Put_ok ((List.getD x0 (Int.toNat x2) Z484d).2.1) u9 h10) (.c h11 (.c h12 .n))))))) (by kernel_rfl)
 ·injection h with h; subst h
  exact ⟨by intro e; simp [affiantref10_SetHash_1_ex] at e, env.code (its := [b0, .sel [2, 3] [0, 1]]) (.c h4 .n) (by kernel_rfl)⟩
theorem affiantref10_SetHash_1_ok (x0 : List (T484d)) (x1 : Int) (x2 : Int) (x3 : B8) (x4 : B8) (o : B8 × B8) (h : affiantref10_SetHash_1 x0 x1 x2 x3 x4 = some o) : CodeOK prog (codeAt (bodyOf f25) [1, 1, 0, 1, 0]) (affiantref10_SetHash_1_in x0 x1 x2 x3 x4) (affiantref10_SetHash_1_ex o) (affiantref10_SetHash_1_st o) :=
 LoopOK.of_step (st := fun s => affiantref10_SetHash_1_in x0 x1 s.1 x3 s.2) (ex := affiantref10_SetHash_1_ex) (stO := affiantref10_SetHash_1_st) (fun s s2 hs => affiantref10_SetHash_1_body x0 x1 s.1 x3 s.2 (.inl s2) hs) (fun s r hs => affiantref10_SetHash_1_body x0 x1 s.1 x3 s.2 (.inr r) hs) _ o h
def affiantref10_SetHash_R (a0 : List (T484d)) (u : B8) : Slot := (.v (.arr 32 (.int .u8)) u)
def affiantref10_SetHash_O (a0 : List (T484d)) (u : B8) : List AObj := []
theorem affiantref10_SetHash_ok (a0 : List (T484d)) (u : B8) (h : affiantref10_SetHash a0 = some u) : CallC prog 25 [(.v (.slice Y484d) a0)] [] (affiantref10_SetHash_R a0 u) (affiantref10_SetHash_O a0 u) := by
 unfold affiantref10_SetHash at h
 obtain ⟨u1, h2, h⟩ := andThen_some h
 obtain ⟨o13, h14, h⟩ := andThen_some h
 obtain ⟨u15, h16, h⟩ := andThen_some h
 injection h with h; subst h
 exact env.fun func25 can25 (its := [.call [none] [] [] true (affiantref1_Put_R (List.length a0 : Int) u1) (affiantref1_Put_O (List.length a0 : Int) u1), .dive, .sel [2, 3, 9, 10, 11] [0, 1], .part (affiantref10_SetHash_1_ex o13) (affiantref10_SetHash_1_st o13), .call [none, none] [] [2] true (affiantref1_Tagged_R (86 : UInt8) ([o13.2] : List (B8)) u15) (affiantref1_Tagged_O (86 : UInt8) ([o13.2] : List (B8)) u15)]) (pos := [.sel []]) (.c (affiantref1_Put_ok (List.length a0 : Int) u1 h2) (.c (affiantref10_SetHash_1_ok a0 (List.length a0 : Int) (0 : Int) Z32 u1 o13 h14) (.c (affiantref1_Tagged_ok (86 : UInt8) ([o13.2] : List (B8)) u15 h16) .n))) (by kernel_rfl)
theorem can27 : Callable prog 27 := ⟨_, func27, by kernel_rfl, by kernel_rfl⟩
def affiantref10_Total_1_in (x0 : Int) (x1 : List (T484d)) (x2 : Int) (x3 : Int) : St := ⟨[(3, (.v (.int .i64) x0)), (6, (.v (.slice Y484d) x1)), (7, (.v (.int .i64) x2)), (8, (.v (.int .i64) x3))], [], 18, 0⟩
def affiantref10_Total_1_ex (o : Int) : Exit := (.exit 0)
def affiantref10_Total_1_st (o : Int) : St := ⟨[(3, (.v (.int .i64) o))], [], 18, 0⟩
theorem affiantref10_Total_1_body (x0 : Int) (x1 : List (T484d)) (x2 : Int) (x3 : Int) : ∀ r, affiantref10_Total_1_step x0 x1 x2 x3 = some r → (match r with | .inl s => CodeOK prog (codeAt (bodyOf f27) [1, 1, 0, 1, 0, 0]) (affiantref10_Total_1_in x0 x1 x2 x3) .normal (affiantref10_Total_1_in s.1 x1 x2 s.2) | .inr o => affiantref10_Total_1_ex o ≠ .normal ∧ CodeOK prog (codeAt (bodyOf f27) [1, 1, 0, 1, 0, 0]) (affiantref10_Total_1_in x0 x1 x2 x3) (affiantref10_Total_1_ex o) (affiantref10_Total_1_st o)) := by
 intro r h
 unfold affiantref10_Total_1_step at h
 rcases fork_some h with ⟨h2, h⟩ | ⟨h2, h⟩
 ·obtain ⟨h3, h⟩ := need_some h
  injection h with h; subst h
  exact env.code (its := [b1, .dive, .sel [3, 6, 7, 8] []]) (.c h2 (.c h3 .n)) (by kernel_rfl)
 ·injection h with h; subst h
  exact ⟨by intro e; simp [affiantref10_Total_1_ex] at e, env.code (its := [b0, .sel [3] []]) (.c h2 .n) (by kernel_rfl)⟩
theorem affiantref10_Total_1_ok (x0 : Int) (x1 : List (T484d)) (x2 : Int) (x3 : Int) (o : Int) (h : affiantref10_Total_1 x0 x1 x2 x3 = some o) : CodeOK prog (codeAt (bodyOf f27) [1, 1, 0, 1, 0]) (affiantref10_Total_1_in x0 x1 x2 x3) (affiantref10_Total_1_ex o) (affiantref10_Total_1_st o) :=
 LoopOK.of_step (st := fun s => affiantref10_Total_1_in s.1 x1 x2 s.2) (ex := affiantref10_Total_1_ex) (stO := affiantref10_Total_1_st) (fun s s2 hs => affiantref10_Total_1_body s.1 x1 x2 s.2 (.inl s2) hs) (fun s r hs => affiantref10_Total_1_body s.1 x1 x2 s.2 (.inr r) hs) _ o h
def affiantref10_Total_R (a0 : List (T484d)) (u : Int) : Slot := (.v (.int .i64) u)
def affiantref10_Total_O (a0 : List (T484d)) (u : Int) : List AObj := []
theorem affiantref10_Total_ok (a0 : List (T484d)) (u : Int) (h : affiantref10_Total a0 = some u) : CallC prog 27 [(.v (.slice Y484d) a0)] [] (affiantref10_Total_R a0 u) (affiantref10_Total_O a0 u) := by
 unfold affiantref10_Total at h
 obtain ⟨o4, h5, h⟩ := andThen_some h
 injection h with h; subst h
 exact env.fun func27 can27 (its := [.dive, .sel [3, 6, 7, 8] [], .part (affiantref10_Total_1_ex o4) (affiantref10_Total_1_st o4)]) (pos := [.sel []]) (.c (affiantref10_Total_1_ok (0 : Int) a0 (List.length a0 : Int) (0 : Int) o4 h5) .n) (by kernel_rfl)
theorem can28 : Callable prog 28 := ⟨_, func28, by kernel_rfl, by kernel_rfl⟩
def vals_Over_R (a0 : Int × Int) (a1 : Int) (a2 : Int) (u : Bool) : Slot := (.v .bool u)
def vals_Over_O (a0 : Int × Int) (a1 : Int) (a2 : Int) (u : Bool) : List AObj := []
theorem vals_Over_ok (a0 : Int × Int) (a1 : Int) (a2 : Int) (u : Bool) (h : vals_Over a0 a1 a2 = some u) : CallC prog 28 [(.v .cplx a0), (.v (.int .i64) a1), (.v (.int .i64) a2)] [] (vals_Over_R a0 a1 a2 u) (vals_Over_O a0 a1 a2 u) := by
 unfold vals_Over at h
 injection h with h; subst h
 exact env.fun func28 can28 (its := []) (pos := [.sel []]) .n (by kernel_rfl)
theorem can29 : Callable prog 29 := ⟨_, func29, by kernel_rfl, by kernel_rfl⟩
def affiantref10_Over_R (a0 : Int) (a1 : Int) (a2 : Int) (a3 : Int) (u : Bool) : Slot := (.v .bool u)
def affiantref10_Over_O (a0 : Int) (a1 : Int) (a2 : Int) (a3 : Int) (u : Bool) : List AObj := []
theorem affiantref10_Over_ok (a0 : Int) (a1 : Int) (a2 : Int) (a3 : Int) (u : Bool) (h : affiantref10_Over a0 a1 a2 a3 = some u) : CallC prog 29 [(.v (.int .i64) a0), (.v (.int .i64) a1), (.v (.int .i64) a2), (.v (.int .i64) a3)] [] (affiantref10_Over_R a0 a1 a2 a3 u) (affiantref10_Over_O a0 a1 a2 a3 u) := by
 unfold affiantref10_Over at h
 injection h with h; subst h
 exact env.fun func29 can29 (its := []) (pos := [.sel []]) .n (by kernel_rfl)
theorem can20 : Callable prog 20 := ⟨_, func20, by kernel_rfl, by kernel_rfl⟩
def affiantlaw10_ValsRuns_R  (u : Bool) : Slot := (.v .bool u)
def affiantlaw10_ValsRuns_O  (u : Bool) : List AObj := []
theorem affiantlaw10_ValsRuns_ok  (u : Bool) (h : affiantlaw10_ValsRuns  = some u) : CallC prog 20 [] [] (affiantlaw10_ValsRuns_R u) (affiantlaw10_ValsRuns_O u) := by
 unfold affiantlaw10_ValsRuns at h
 obtain ⟨u1, h2, h⟩ := andThen_some h
 rcases fork_some h with ⟨h3, h⟩ | ⟨h3, h⟩
 ·obtain ⟨u4, h5, h⟩ := andThen_some h
  rcases fork_some h with ⟨h6, h⟩ | ⟨h6, h⟩
  ·obtain ⟨u7, h8, h⟩ := andThen_some h
   rcases fork_some h with ⟨h9, h⟩ | ⟨h9, h⟩
   ·obtain ⟨u10, h11, h⟩ := andThen_some h
    rcases fork_some h with ⟨h12, h⟩ | ⟨h12, h⟩
    ·obtain ⟨u13, h14, h⟩ := andThen_some h
     injection h with h; subst h
     exact env.fun func20 can20 (its := [.call [none, none] [] [0, 1] true (vals_Tally_R ([(([97] : B8), (3 : Int), Z32, ()), (([98] : B8), (1 : Int), Z32, ()), (([99] : B8), (1 : Int), Z32, ())] : List (T484d)) ([([97] : B8), ([97] : B8), ([113] : B8)] : List (B8)) u1) (vals_Tally_O ([(([97] : B8), (3 : Int), Z32, ()), (([98] : B8), (1 : Int), Z32, ()), (([99] : B8), (1 : Int), Z32, ())] : List (T484d)) ([([97] : B8), ([97] : B8), ([113] : B8)] : List (B8)) u1), b1, b1, .call [none, none, none] [] [] true (vals_Over_R u1 (1 : Int) (3 : Int) u4) (vals_Over_O u1 (1 : Int) (3 : Int) u4), b1, b1, b1, .call [none, none, none] [] [] true (vals_Over_R u1 (2 : Int) (3 : Int) u7) (vals_Over_O u1 (2 : Int) (3 : Int) u7), b1, b1, b1, b1, .call [none] [] [0] true (vals_Right_R ([(([97] : B8), (3 : Int), Z32, ()), (([98] : B8), (1 : Int), Z32, ()), (([99] : B8), (1 : Int), Z32, ())] : List (T484d)) u10) (vals_Right_O ([(([97] : B8), (3 : Int), Z32, ()), (([98] : B8), (1 : Int), Z32, ()), (([99] : B8), (1 : Int), Z32, ())] : List (T484d)) u10), b1, b1, b1, .call [none] [] [0] true (vals_Total_R ([(([97] : B8), (3 : Int), Z32, ()), (([98] : B8), (1 : Int), Z32, ()), (([99] : B8), (1 : Int), Z32, ())] : List (T484d)) u13) (vals_Total_O ([(([97] : B8), (3 : Int), Z32, ()), (([98] : B8), (1 : Int), Z32, ()), (([99] : B8), (1 : Int), Z32, ())] : List (T484d)) u13), b1, b1]) (pos := [.sel []]) (.c (vals_Tally_ok ([(([97] : B8), (3 : Int), Z32, ()), (([98] : B8), (1 : Int), Z32, ()), (([99] : B8), (1 : Int), Z32, ())] : List (T484d)) ([([97] : B8), ([97] : B8), ([113] : B8)] : List (B8)) u1 h2) (.c h3 (.c h3 (.c (vals_Over_ok u1 (1 : Int) (3 : Int) u4 h5) (.c h3 (.c h6 (.c h6 (.c (vals_Over_ok u1 (2 : Int) (3 : Int) u7 h8) (.c h6 (.c h6 (.c h9 (.c h9 (.c (vals_Right_ok ([(([97] : B8), (3 : Int), Z32, ()), (([98] : B8), (1 : Int), Z32, ()), (([99] : B8), (1 : Int), Z32, ())] : List (T484d)) u10 h11) (.c h9 (.c h12 (.c h12 (.c (vals_Total_ok ([(([97] : B8), (3 : Int), Z32, ()), (([98] : B8), (1 : Int), Z32, ()), (([99] : B8), (1 : Int), Z32, ())] : List (T484d)) u13 h14) (.c h12 (.c h12 .n))))))))))))))))))) (by kernel_rfl)
    ·cases h
   ·cases h
  ·cases h
 ·cases h
theorem can4 : Callable prog 4 := ⟨_, func4, by kernel_rfl, by kernel_rfl⟩
def affiantlaw10_ValsTells_1_in (x0 : List Int) (x1 : Int) (x2 : Int) (x3 : Int) (x4 : List (T484d)) (x5 : List (B8)) (x6 : List (B8 × Bool)) : St := ⟨[(3, (.v (.slice (.int .i64)) x0)), (4, (.v (.int .i64) x1)), (5, (.v (.int .i64) x2)), (13, (.own 0 [])), (15, (.own 1 [])), (16, (.mp 2)), (17, (.v (.int .i64) x3))], [.row Y484d x4 true, .row .str x5 true, .map .str .bool x6 true], 170, 0⟩
def affiantlaw10_ValsTells_1_ex (o : Int × Int × (List (T484d)) × List (B8) × List (B8 × Bool)) : Exit := (.exit 0)
def affiantlaw10_ValsTells_1_st (o : Int × Int × (List (T484d)) × List (B8) × List (B8 × Bool)) : St := ⟨[(4, (.v (.int .i64) o.1)), (5, (.v (.int .i64) o.2.1)), (13, (.own 0 [])), (15, (.own 1 [])), (16, (.mp 2))], [.row Y484d o.2.2.1 true, .row .str o.2.2.2.1 true, .map .str .bool o.2.2.2.2 true], 170, 0⟩
theorem affiantlaw10_ValsTells_1_body (x0 : List Int) (x1 : Int) (x2 : Int) (x3 : Int) (x4 : List (T484d)) (x5 : List (B8)) (x6 : List (B8 × Bool)) : ∀ r, affiantlaw10_ValsTells_1_step x0 x1 x2 x3 x4 x5 x6 = some r → (match r with | .inl s => CodeOK prog (codeAt (bodyOf f4) [1, 1, 1, 1, 1, 1, 1, 1, 0, 1, 0, 0]) (affiantlaw10_ValsTells_1_in x0 x1 x2 x3 x4 x5 x6) .normal (affiantlaw10_ValsTells_1_in x0 x1 x2 s.1 x4 s.2.1 s.2.2) | .inr o => affiantlaw10_ValsTells_1_ex o ≠ .normal ∧ CodeOK prog (codeAt (bodyOf f4) [1, 1, 1, 1, 1, 1, 1, 1, 0, 1, 0, 0]) (affiantlaw10_ValsTells_1_in x0 x1 x2 x3 x4 x5 x6) (affiantlaw10_ValsTells_1_ex o) (affiantlaw10_ValsTells_1_st o)) := by
 intro r h
 unfold affiantlaw10_ValsTells_1_step at h
 rcases fork_some h with ⟨h13, h⟩ | ⟨h13, h⟩
 ·rcases fork_some h with ⟨h14, h⟩ | ⟨h14, h⟩
  ·obtain ⟨h15, h⟩ := need_some h
   obtain ⟨u16, h17, h⟩ := andThen_some h
   obtain ⟨h18, h⟩ := need_some h
   obtain ⟨h19, h⟩ := need_some h
   injection h with h; subst h
   exact env.code (its := [b1, b1, b1, b1, .call [none, none, none] [] [] true (affiantbook_Within_R (List.getD x0 (Int.toNat x3) (0 : Int)) (0 : Int) (w64 ((List.length x4 : Int) - (1 : Int))) u16) (affiantbook_Within_O (List.getD x0 (Int.toNat x3) (0 : Int)) (0 : Int) (w64 ((List.length x4 : Int) - (1 : Int))) u16), .sel [3, 4, 5, 13, 15, 16, 17] [0, 5, 2]]) (.c h13 (.c h13 (.c h13 (.c h14 (.c h15 (.c (affiantbook_Within_ok (List.getD x0 (Int.toNat x3) (0 : Int)) (0 : Int) (w64 ((List.length x4 : Int) - (1 : Int))) u16 h17) (.c h18 (.c h19 .n)))))))) (by kernel_rfl)
  ·injection h with h; subst h
   exact ⟨by intro e; simp [affiantlaw10_ValsTells_1_ex] at e, env.code (its := [b1, b1, b1, b0, .sel [4, 5, 13, 15, 16] [0, 1, 2]]) (.c h13 (.c h13 (.c h13 (.c h14 .n)))) (by kernel_rfl)⟩
 ·injection h with h; subst h
  exact ⟨by intro e; simp [affiantlaw10_ValsTells_1_ex] at e, env.code (its := [b0, b0, b0, b0, .sel [4, 5, 13, 15, 16] [0, 1, 2]]) (.c h13 (.c h13 (.c h13 (.c r0 .n)))) (by kernel_rfl)⟩
theorem affiantlaw10_ValsTells_1_ok (x0 : List Int) (x1 : Int) (x2 : Int) (x3 : Int) (x4 : List (T484d)) (x5 : List (B8)) (x6 : List (B8 × Bool)) (o : Int × Int × (List (T484d)) × List (B8) × List (B8 × Bool)) (h : affiantlaw10_ValsTells_1 x0 x1 x2 x3 x4 x5 x6 = some o) : CodeOK prog (codeAt (bodyOf f4) [1, 1, 1, 1, 1, 1, 1, 1, 0, 1, 0]) (affiantlaw10_ValsTells_1_in x0 x1 x2 x3 x4 x5 x6) (affiantlaw10_ValsTells_1_ex o) (affiantlaw10_ValsTells_1_st o) :=
 LoopOK.of_step (st := fun s => affiantlaw10_ValsTells_1_in x0 x1 x2 s.1 x4 s.2.1 s.2.2) (ex := affiantlaw10_ValsTells_1_ex) (stO := affiantlaw10_ValsTells_1_st) (fun s s2 hs => affiantlaw10_ValsTells_1_body x0 x1 x2 s.1 x4 s.2.1 s.2.2 (.inl s2) hs) (fun s r hs => affiantlaw10_ValsTells_1_body x0 x1 x2 s.1 x4 s.2.1 s.2.2 (.inr r) hs) _ o h
def affiantlaw10_ValsTells_2_in (x0 : Int) (x1 : Int) (x2 : Int) (x3 : Int) (x4 : Int) (x5 : List (T484d)) (x6 : List (B8)) (x7 : List (B8 × Bool)) : St := ⟨[(4, (.v (.int .i64) x0)), (5, (.v (.int .i64) x1)), (13, (.own 0 [])), (15, (.own 1 [])), (16, (.mp 2)), (19, (.v (.int .i64) x2)), (85, (.own 0 [])), (86, (.v (.int .i64) x3)), (87, (.v (.int .i64) x4))], [.row Y484d x5 true, .row .str x6 true, .map .str .bool x7 true], 170, 0⟩
def affiantlaw10_ValsTells_2_ex (o : (Bool) ⊕ (Int × Int × Int × (List (T484d)) × List (B8))) : Exit := match o with | (.inl o) => .ret | (.inr o) => (.exit 2)
def affiantlaw10_ValsTells_2_st (o : (Bool) ⊕ (Int × Int × Int × (List (T484d)) × List (B8))) : St := match o with | (.inl o) => ⟨[(12, (.v .bool o))], [], 170, 0⟩ | (.inr o) => ⟨[(4, (.v (.int .i64) o.1)), (5, (.v (.int .i64) o.2.1)), (13, (.own 0 [])), (15, (.own 1 [])), (19, (.v (.int .i64) o.2.2.1))], [.row Y484d o.2.2.2.1 true, .row .str o.2.2.2.2 true], 170, 0⟩
theorem affiantlaw10_ValsTells_2_body (x0 : Int) (x1 : Int) (x2 : Int) (x3 : Int) (x4 : Int) (x5 : List (T484d)) (x6 : List (B8)) (x7 : List (B8 × Bool)) : ∀ r, affiantlaw10_ValsTells_2_step x0 x1 x2 x3 x4 x5 x6 x7 = some r → (match r with | .inl s => CodeOK prog (codeAt (bodyOf f4) [1, 1, 1, 1, 1, 1, 1, 1, 1, 1, 0, 1, 0, 0]) (affiantlaw10_ValsTells_2_in x0 x1 x2 x3 x4 x5 x6 x7) .normal (affiantlaw10_ValsTells_2_in x0 x1 s.1 x3 s.2 x5 x6 x7) | .inr o => affiantlaw10_ValsTells_2_ex o ≠ .normal ∧ CodeOK prog (codeAt (bodyOf f4) [1, 1, 1, 1, 1, 1, 1, 1, 1, 1, 0, 1, 0, 0]) (affiantlaw10_ValsTells_2_in x0 x1 x2 x3 x4 x5 x6 x7) (affiantlaw10_ValsTells_2_ex o) (affiantlaw10_ValsTells_2_st o)) := by
 intro r h
 unfold affiantlaw10_ValsTells_2_step at h
 rcases fork_some h with ⟨h23, h⟩ | ⟨h23, h⟩
 ·obtain ⟨h24, h⟩ := need_some h
  obtain ⟨u25, h26, h⟩ := andThen_some h
  rcases fork_some h with ⟨h27, h⟩ | ⟨h27, h⟩
  ·injection h with h; subst h
   exact ⟨by intro e; simp [affiantlaw10_ValsTells_2_ex] at e, env.code (its := [b1, .call [none, none] [] [0] true (vals_Find_R x5 ((List.getD x5 (Int.toNat x4) Z484d).1) u25) (vals_Find_O x5 ((List.getD x5 (Int.toNat x4) Z484d).1) u25), b1, b1, b1, b1, b1, .sel [12] []]) (.c h23 (.c h24 (.c (vals_Find_ok x5 ((List.getD x5 (Int.toNat x4) Z484d).1) u25 h26) (.c h27 (.c h27 (.c h27 (.c h27 (.c r1 .n)))))))) (by kernel_rfl)⟩
  ·rcases fork_some h with ⟨h28, h⟩ | ⟨h28, h⟩
   ·injection h with h; subst h
    exact ⟨by intro e; simp [affiantlaw10_ValsTells_2_ex] at e, env.code (its := [b1, .call [none, none] [] [0] true (vals_Find_R x5 ((List.getD x5 (Int.toNat x4) Z484d).1) u25) (vals_Find_O x5 ((List.getD x5 (Int.toNat x4) Z484d).1) u25), b0, b0, b0, b0, b1, .sel [12] []]) (.c h23 (.c h24 (.c (vals_Find_ok x5 ((List.getD x5 (Int.toNat x4) Z484d).1) u25 h26) (.c h27 (.c h27 (.c h27 (.c h27 (.c h28 .n)))))))) (by kernel_rfl)⟩
   ·rcases fork_some h with ⟨h29, h⟩ | ⟨h29, h⟩
    ·injection h with h; subst h
     exact env.code (its := [b1, .call [none, none] [] [0] true (vals_Find_R x5 ((List.getD x5 (Int.toNat x4) Z484d).1) u25) (vals_Find_O x5 ((List.getD x5 (Int.toNat x4) Z484d).1) u25), b0, b0, b0, b0, b0, b1, .sel [4, 5, 13, 15, 16, 19, 85, 86, 87] [0, 1, 2]]) (.c h23 (.c h24 (.c (vals_Find_ok x5 ((List.getD x5 (Int.toNat x4) Z484d).1) u25 h26) (.c h27 (.c h27 (.c h27 (.c h27 (.c h28 (.c h29 .n))))))))) (by kernel_rfl)
    ·injection h with h; subst h
     exact env.code (its := [b1, .call [none, none] [] [0] true (vals_Find_R x5 ((List.getD x5 (Int.toNat x4) Z484d).1) u25) (vals_Find_O x5 ((List.getD x5 (Int.toNat x4) Z484d).1) u25), b0, b0, b0, b0, b0, b0, .sel [4, 5, 13, 15, 16, 19, 85, 86, 87] [0, 1, 2]]) (.c h23 (.c h24 (.c (vals_Find_ok x5 ((List.getD x5 (Int.toNat x4) Z484d).1) u25 h26) (.c h27 (.c h27 (.c h27 (.c h27 (.c h28 (.c h29 .n))))))))) (by kernel_rfl)
 ·injection h with h; subst h
  exact ⟨by intro e; simp [affiantlaw10_ValsTells_2_ex] at e, env.code (its := [b0, .sel [4, 5, 13, 15, 19] [0, 1]]) (.c h23 .n) (by kernel_rfl)⟩
theorem affiantlaw10_ValsTells_2_ok (x0 : Int) (x1 : Int) (x2 : Int) (x3 : Int) (x4 : Int) (x5 : List (T484d)) (x6 : List (B8)) (x7 : List (B8 × Bool)) (o : (Bool) ⊕ (Int × Int × Int × (List (T484d)) × List (B8))) (h : affiantlaw10_ValsTells_2 x0 x1 x2 x3 x4 x5 x6 x7 = some o) : CodeOK prog (codeAt (bodyOf f4) [1, 1, 1, 1, 1, 1, 1, 1, 1, 1, 0, 1, 0]) (affiantlaw10_ValsTells_2_in x0 x1 x2 x3 x4 x5 x6 x7) (affiantlaw10_ValsTells_2_ex o) (affiantlaw10_ValsTells_2_st o) :=
 LoopOK.of_step (st := fun s => affiantlaw10_ValsTells_2_in x0 x1 s.1 x3 s.2 x5 x6 x7) (ex := affiantlaw10_ValsTells_2_ex) (stO := affiantlaw10_ValsTells_2_st) (fun s s2 hs => affiantlaw10_ValsTells_2_body x0 x1 s.1 x3 s.2 x5 x6 x7 (.inl s2) hs) (fun s r hs => affiantlaw10_ValsTells_2_body x0 x1 s.1 x3 s.2 x5 x6 x7 (.inr r) hs) _ o h
def affiantlaw10_ValsTells_3_in (x0 : List Int) (x1 : Int) (x2 : Int) (x3 : Int) (x4 : List (T484d)) (x5 : List (B8)) (x6 : List (B8 × Bool)) : St := ⟨[(3, (.v (.slice (.int .i64)) x0)), (4, (.v (.int .i64) x1)), (5, (.v (.int .i64) x2)), (13, (.own 0 [])), (15, (.own 1 [])), (16, (.mp 2)), (17, (.v (.int .i64) x3))], [.row Y484d x4 true, .row .str x5 true, .map .str .bool x6 true], 170, 0⟩
def affiantlaw10_ValsTells_3_ex (o : Int × Int × (List (T484d)) × List (B8) × List (B8 × Bool)) : Exit := (.exit 0)
def affiantlaw10_ValsTells_3_st (o : Int × Int × (List (T484d)) × List (B8) × List (B8 × Bool)) : St := ⟨[(4, (.v (.int .i64) o.1)), (5, (.v (.int .i64) o.2.1)), (13, (.own 0 [])), (15, (.own 1 [])), (16, (.mp 2))], [.row Y484d o.2.2.1 true, .row .str o.2.2.2.1 true, .map .str .bool o.2.2.2.2 true], 170, 0⟩
theorem affiantlaw10_ValsTells_3_body (x0 : List Int) (x1 : Int) (x2 : Int) (x3 : Int) (x4 : List (T484d)) (x5 : List (B8)) (x6 : List (B8 × Bool)) : ∀ r, affiantlaw10_ValsTells_3_step x0 x1 x2 x3 x4 x5 x6 = some r → (match r with | .inl s => CodeOK prog (codeAt (bodyOf f4) [1, 1, 1, 1, 1, 1, 1, 1, 0, 1, 0, 0]) (affiantlaw10_ValsTells_3_in x0 x1 x2 x3 x4 x5 x6) .normal (affiantlaw10_ValsTells_3_in x0 x1 x2 s.1 x4 s.2.1 s.2.2) | .inr o => affiantlaw10_ValsTells_3_ex o ≠ .normal ∧ CodeOK prog (codeAt (bodyOf f4) [1, 1, 1, 1, 1, 1, 1, 1, 0, 1, 0, 0]) (affiantlaw10_ValsTells_3_in x0 x1 x2 x3 x4 x5 x6) (affiantlaw10_ValsTells_3_ex o) (affiantlaw10_ValsTells_3_st o)) := by
 intro r h
 unfold affiantlaw10_ValsTells_3_step at h
 rcases fork_some h with ⟨h77, h⟩ | ⟨h77, h⟩
 ·rcases fork_some h with ⟨h78, h⟩ | ⟨h78, h⟩
  ·obtain ⟨h79, h⟩ := need_some h
   obtain ⟨u80, h81, h⟩ := andThen_some h
   obtain ⟨h82, h⟩ := need_some h
   obtain ⟨h83, h⟩ := need_some h
   injection h with h; subst h
   exact env.code (its := [b1, b1, b1, b1, .call [none, none, none] [] [] true (affiantbook_Within_R (List.getD x0 (Int.toNat x3) (0 : Int)) (0 : Int) (w64 ((List.length x4 : Int) - (1 : Int))) u80) (affiantbook_Within_O (List.getD x0 (Int.toNat x3) (0 : Int)) (0 : Int) (w64 ((List.length x4 : Int) - (1 : Int))) u80), .sel [3, 4, 5, 13, 15, 16, 17] [0, 5, 2]]) (.c h77 (.c h77 (.c h77 (.c h78 (.c h79 (.c (affiantbook_Within_ok (List.getD x0 (Int.toNat x3) (0 : Int)) (0 : Int) (w64 ((List.length x4 : Int) - (1 : Int))) u80 h81) (.c h82 (.c h83 .n)))))))) (by kernel_rfl)
  ·injection h with h; subst h
   exact ⟨by intro e; simp [affiantlaw10_ValsTells_3_ex] at e, env.code (its := [b1, b1, b1, b0, .sel [4, 5, 13, 15, 16] [0, 1, 2]]) (.c h77 (.c h77 (.c h77 (.c h78 .n)))) (by kernel_rfl)⟩
 ·injection h with h; subst h
  exact ⟨by intro e; simp [affiantlaw10_ValsTells_3_ex] at e, env.code (its := [b0, b0, b0, b0, .sel [4, 5, 13, 15, 16] [0, 1, 2]]) (.c h77 (.c h77 (.c h77 (.c r0 .n)))) (by kernel_rfl)⟩
theorem affiantlaw10_ValsTells_3_ok (x0 : List Int) (x1 : Int) (x2 : Int) (x3 : Int) (x4 : List (T484d)) (x5 : List (B8)) (x6 : List (B8 × Bool)) (o : Int × Int × (List (T484d)) × List (B8) × List (B8 × Bool)) (h : affiantlaw10_ValsTells_3 x0 x1 x2 x3 x4 x5 x6 = some o) : CodeOK prog (codeAt (bodyOf f4) [1, 1, 1, 1, 1, 1, 1, 1, 0, 1, 0]) (affiantlaw10_ValsTells_3_in x0 x1 x2 x3 x4 x5 x6) (affiantlaw10_ValsTells_3_ex o) (affiantlaw10_ValsTells_3_st o) :=
 LoopOK.of_step (st := fun s => affiantlaw10_ValsTells_3_in x0 x1 x2 s.1 x4 s.2.1 s.2.2) (ex := affiantlaw10_ValsTells_3_ex) (stO := affiantlaw10_ValsTells_3_st) (fun s s2 hs => affiantlaw10_ValsTells_3_body x0 x1 x2 s.1 x4 s.2.1 s.2.2 (.inl s2) hs) (fun s r hs => affiantlaw10_ValsTells_3_body x0 x1 x2 s.1 x4 s.2.1 s.2.2 (.inr r) hs) _ o h
def affiantlaw10_ValsTells_4_in (x0 : Int) (x1 : Int) (x2 : Int) (x3 : Int) (x4 : Int) (x5 : List (T484d)) (x6 : List (B8)) (x7 : List (B8 × Bool)) : St := ⟨[(4, (.v (.int .i64) x0)), (5, (.v (.int .i64) x1)), (13, (.own 0 [])), (15, (.own 1 [])), (16, (.mp 2)), (19, (.v (.int .i64) x2)), (85, (.own 0 [])), (86, (.v (.int .i64) x3)), (87, (.v (.int .i64) x4))], [.row Y484d x5 true, .row .str x6 true, .map .str .bool x7 true], 170, 0⟩
def affiantlaw10_ValsTells_4_ex (o : (Bool) ⊕ (Int × Int × Int × (List (T484d)) × List (B8))) : Exit := match o with | (.inl o) => .ret | (.inr o) => (.exit 2)
def affiantlaw10_ValsTells_4_st (o : (Bool) ⊕ (Int × Int × Int × (List (T484d)) × List (B8))) : St := match o with | (.inl o) => ⟨[(12, (.v .bool o))], [], 170, 0⟩ | (.inr o) => ⟨[(4, (.v (.int .i64) o.1)), (5, (.v (.int .i64) o.2.1)), (13, (.own 0 [])), (15, (.own 1 [])), (19, (.v (.int .i64) o.2.2.1))], [.row Y484d o.2.2.2.1 true, .row .str o.2.2.2.2 true], 170, 0⟩
theorem affiantlaw10_ValsTells_4_body (x0 : Int) (x1 : Int) (x2 : Int) (x3 : Int) (x4 : Int) (x5 : List (T484d)) (x6 : List (B8)) (x7 : List (B8 × Bool)) : ∀ r, affiantlaw10_ValsTells_4_step x0 x1 x2 x3 x4 x5 x6 x7 = some r → (match r with | .inl s => CodeOK prog (codeAt (bodyOf f4) [1, 1, 1, 1, 1, 1, 1, 1, 1, 1, 0, 1, 0, 0]) (affiantlaw10_ValsTells_4_in x0 x1 x2 x3 x4 x5 x6 x7) .normal (affiantlaw10_ValsTells_4_in x0 x1 s.1 x3 s.2 x5 x6 x7) | .inr o => affiantlaw10_ValsTells_4_ex o ≠ .normal ∧ CodeOK prog (codeAt (bodyOf f4) [1, 1, 1, 1, 1, 1, 1, 1, 1, 1, 0, 1, 0, 0]) (affiantlaw10_ValsTells_4_in x0 x1 x2 x3 x4 x5 x6 x7) (affiantlaw10_ValsTells_4_ex o) (affiantlaw10_ValsTells_4_st o)) := by
 intro r h
 unfold affiantlaw10_ValsTells_4_step at h
 rcases fork_some h with ⟨h87, h⟩ | ⟨h87, h⟩
 ·obtain ⟨h88, h⟩ := need_some h
  obtain ⟨u89, h90, h⟩ := andThen_some h
  rcases fork_some h with ⟨h91, h⟩ | ⟨h91, h⟩
  ·injection h with h; subst h
   exact ⟨by intro e; simp [affiantlaw10_ValsTells_4_ex] at e, env.code (its := [b1, .call [none, none] [] [0] true (vals_Find_R x5 ((List.getD x5 (Int.toNat x4) Z484d).1) u89) (vals_Find_O x5 ((List.getD x5 (Int.toNat x4) Z484d).1) u89), b1, b1, b1, b1, b1, .sel [12] []]) (.c h87 (.c h88 (.c (vals_Find_ok x5 ((List.getD x5 (Int.toNat x4) Z484d).1) u89 h90) (.c h91 (.c h91 (.c h91 (.c h91 (.c r1 .n)))))))) (by kernel_rfl)⟩
  ·rcases fork_some h with ⟨h92, h⟩ | ⟨h92, h⟩
   ·injection h with h; subst h
    exact ⟨by intro e; simp [affiantlaw10_ValsTells_4_ex] at e, env.code (its := [b1, .call [none, none] [] [0] true (vals_Find_R x5 ((List.getD x5 (Int.toNat x4) Z484d).1) u89) (vals_Find_O x5 ((List.getD x5 (Int.toNat x4) Z484d).1) u89), b0, b0, b0, b0, b1, .sel [12] []]) (.c h87 (.c h88 (.c (vals_Find_ok x5 ((List.getD x5 (Int.toNat x4) Z484d).1) u89 h90) (.c h91 (.c h91 (.c h91 (.c h91 (.c h92 .n)))))))) (by kernel_rfl)⟩
   ·rcases fork_some h with ⟨h93, h⟩ | ⟨h93, h⟩
    ·injection h with h; subst h
     exact env.code (its := [b1, .call [none, none] [] [0] true (vals_Find_R x5 ((List.getD x5 (Int.toNat x4) Z484d).1) u89) (vals_Find_O x5 ((List.getD x5 (Int.toNat x4) Z484d).1) u89), b0, b0, b0, b0, b0, b1, .sel [4, 5, 13, 15, 16, 19, 85, 86, 87] [0, 1, 2]]) (.c h87 (.c h88 (.c (vals_Find_ok x5 ((List.getD x5 (Int.toNat x4) Z484d).1) u89 h90) (.c h91 (.c h91 (.c h91 (.c h91 (.c h92 (.c h93 .n))))))))) (by kernel_rfl)
    ·injection h with h; subst h
     exact env.code (its := [b1, .call [none, none] [] [0] true (vals_Find_R x5 ((List.getD x5 (Int.toNat x4) Z484d).1) u89) (vals_Find_O x5 ((List.getD x5 (Int.toNat x4) Z484d).1) u89), b0, b0, b0, b0, b0, b0, .sel [4, 5, 13, 15, 16, 19, 85, 86, 87] [0, 1, 2]]) (.c h87 (.c h88 (.c (vals_Find_ok x5 ((List.getD x5 (Int.toNat x4) Z484d).1) u89 h90) (.c h91 (.c h91 (.c h91 (.c h91 (.c h92 (.c h93 .n))))))))) (by kernel_rfl)
 ·injection h with h; subst h
  exact ⟨by intro e; simp [affiantlaw10_ValsTells_4_ex] at e, env.code (its := [b0, .sel [4, 5, 13, 15, 19] [0, 1]]) (.c h87 .n) (by kernel_rfl)⟩
theorem affiantlaw10_ValsTells_4_ok (x0 : Int) (x1 : Int) (x2 : Int) (x3 : Int) (x4 : Int) (x5 : List (T484d)) (x6 : List (B8)) (x7 : List (B8 × Bool)) (o : (Bool) ⊕ (Int × Int × Int × (List (T484d)) × List (B8))) (h : affiantlaw10_ValsTells_4 x0 x1 x2 x3 x4 x5 x6 x7 = some o) : CodeOK prog (codeAt (bodyOf f4) [1, 1, 1, 1, 1, 1, 1, 1, 1, 1, 0, 1, 0]) (affiantlaw10_ValsTells_4_in x0 x1 x2 x3 x4 x5 x6 x7) (affiantlaw10_ValsTells_4_ex o) (affiantlaw10_ValsTells_4_st o) :=
 LoopOK.of_step (st := fun s => affiantlaw10_ValsTells_4_in x0 x1 s.1 x3 s.2 x5 x6 x7) (ex := affiantlaw10_ValsTells_4_ex) (stO := affiantlaw10_ValsTells_4_st) (fun s s2 hs => affiantlaw10_ValsTells_4_body x0 x1 s.1 x3 s.2 x5 x6 x7 (.inl s2) hs) (fun s r hs => affiantlaw10_ValsTells_4_body x0 x1 s.1 x3 s.2 x5 x6 x7 (.inr r) hs) _ o h
def affiantlaw10_ValsTells_R (a0 : List (T484d)) (a1 : List Int) (a2 : Bool) (a3 : List Int) (a4 : Int) (a5 : Int) (u : Bool) : Slot := (.v .bool u)
def affiantlaw10_ValsTells_O (a0 : List (T484d)) (a1 : List Int) (a2 : Bool) (a3 : List Int) (a4 : Int) (a5 : Int) (u : Bool) : List AObj := []
theorem affiantlaw10_ValsTells_ok (a0 : List (T484d)) (a1 : List Int) (a2 : Bool) (a3 : List Int) (a4 : Int) (a5 : Int) (u : Bool) (h : affiantlaw10_ValsTells a0 a1 a2 a3 a4 a5 = some u) : CallC prog 4 [(.v (.slice Y484d) a0), (.v (.slice (.int .i64)) a1), (.v .bool a2), (.v (.slice (.int .i64)) a3), (.v (.int .i64) a4), (.v (.int .i64) a5)] [] (affiantlaw10_ValsTells_R a0 a1 a2 a3 a4 a5 u) (affiantlaw10_ValsTells_O a0 a1 a2 a3 a4 a5 u) := by
 unfold affiantlaw10_ValsTells at h
 obtain ⟨h1, h⟩ := need_some h
 obtain ⟨h2, h⟩ := need_some h
 rcases fork_some h with ⟨h3, h⟩ | ⟨h3, h⟩
 ·obtain ⟨u4, h5, h⟩ := andThen_some h
  obtain ⟨u6, h7, h⟩ := andThen_some h
  obtain ⟨u8, h9, h⟩ := andThen_some h
  rcases fork_some h with ⟨h10, h⟩ | ⟨h10, h⟩
  ·cases h
  ·rcases fork_some h with ⟨h11, h⟩ | ⟨h11, h⟩
   ·cases h
   ·obtain ⟨o20, h21, h⟩ := andThen_some h
    obtain ⟨o30, h31, h⟩ := andThen_some h
    rcases o30 with o32 | o33
    ·injection h with h; subst h
     exact env.fun func4 can4 (its := [b0, b1, .call [none] [] [] true (affiantkeep_Set_R a1 u4) (affiantkeep_Set_O a1 u4), .call [none] [] [2] true (affiantref10_RightSet_R u4 u6) (affiantref10_RightSet_O u4 u6), .call [none] [] [2] true (vals_Right_R u4 u8) (vals_Right_O u4 u8), b0, b0, b1, b1, b0, b1, b0, b0, b0, .val 0 .bool, .dive, .promote 15 .str, .sel [3, 4, 5, 13, 15, 16, 17] [2, 4, 3], .part (affiantlaw10_ValsTells_1_ex o20) (affiantlaw10_ValsTells_1_st o20), .dive, .sel [4, 5, 13, 15, 16, 19, 85, 86, 87] [0, 1, 2], .part (affiantlaw10_ValsTells_2_ex (.inl o32)) (affiantlaw10_ValsTells_2_st (.inl o32))]) (pos := [.sel []]) (.c h1 (.c h2 (.c h3 (.c (affiantkeep_Set_ok a1 u4 h5) (.c (affiantref10_RightSet_ok u4 u6 h7) (.c (vals_Right_ok u4 u8 h9) (.c h10 (.c h10 (.c h3 (.c h3 (.c h10 (.c h3 (.c h10 (.c h11 (.c h11 (.c (affiantlaw10_ValsTells_1_ok a3 a4 a5 (0 : Int) u4 ([] : List (B8)) ([] : List (B8 × Bool)) o20 h21) (.c (affiantlaw10_ValsTells_2_ok o20.1 o20.2.1 (0 : Int) (List.length o20.2.2.1 : Int) (0 : Int) o20.2.2.1 o20.2.2.2.1 o20.2.2.2.2 (.inl o32) h31) .n))))))))))))))))) (by kernel_rfl)
    ·obtain ⟨u34, h35, h⟩ := andThen_some h
     obtain ⟨u36, h37, h⟩ := andThen_some h
     obtain ⟨h38, h⟩ := need_some h
     obtain ⟨u39, h40, h⟩ := andThen_some h
     obtain ⟨u41, h42, h⟩ := andThen_some h
     obtain ⟨u43, h44, h⟩ := andThen_some h
     obtain ⟨u45, h46, h⟩ := andThen_some h
     rcases fork_some h with ⟨h47, h⟩ | ⟨h47, h⟩
     ·obtain ⟨u48, h49, h⟩ := andThen_some h
      obtain ⟨u50, h51, h⟩ := andThen_some h
      rcases fork_some h with ⟨h52, h⟩ | ⟨h52, h⟩
      ·obtain ⟨h53, h⟩ := need_some h
       obtain ⟨u54, h55, h⟩ := andThen_some h
       obtain ⟨h56, h⟩ := need_some h
       rcases fork_some h with ⟨h57, h⟩ | ⟨h57, h⟩
       ·obtain ⟨u58, h59, h⟩ := andThen_some h
        obtain ⟨u60, h61, h⟩ := andThen_some h
        obtain ⟨u62, h63, h⟩ := andThen_some h
        rcases fork_some h with ⟨h64, h⟩ | ⟨h64, h⟩
        ·rcases fork_some h with ⟨h65, h⟩ | ⟨h65, h⟩
         ·obtain ⟨u66, h67, h⟩ := andThen_some h
          injection h with h; subst h
          exact env.fun func4 can4 (its := [b0, b1, .call [none] [] [] true (affiantkeep_Set_R a1 u4) (affiantkeep_Set_O a1 u4), .call [none] [] [2] true (affiantref10_RightSet_R u4 u6) (affiantref10_RightSet_O u4 u6), .call [none] [] [2] true (vals_Right_R u4 u8) (vals_Right_O u4 u8), b0, b0, b1, b1, b0, b1, b0, b0, b0, .val 0 .bool, .dive, .promote 15 .str, .sel [3, 4, 5, 13, 15, 16, 17] [2, 4, 3], .part (affiantlaw10_ValsTells_1_ex o20) (affiantlaw10_ValsTells_1_st o20), .dive, .sel [4, 5, 13, 15, 16, 19, 85, 86, 87] [0, 1, 2], .part (affiantlaw10_ValsTells_2_ex (.inr o33)) (affiantlaw10_ValsTells_2_st (.inr o33)), .call [none, none, none] [] [] true (affiantbook_Within_R o33.1 (0 : Int) (100 : Int) u34) (affiantbook_Within_O o33.1 (0 : Int) (100 : Int) u34), .call [none, none, none] [] [] true (affiantbook_Within_R o33.2.1 (0 : Int) (100 : Int) u36) (affiantbook_Within_O o33.2.1 (0 : Int) (100 : Int) u36), .call [none, none] [] [0, 3] true (vals_Tally_R o33.2.2.2.1 (o33.2.2.2.2 ++ ([([110, 111, 98, 111, 100, 121, 32, 97, 116, 32, 97, 108, 108, 32, 104, 101, 114, 101] : B8)] : List (B8))) u39) (vals_Tally_O o33.2.2.2.1 (o33.2.2.2.2 ++ ([([110, 111, 98, 111, 100, 121, 32, 97, 116, 32, 97, 108, 108, 32, 104, 101, 114, 101] : B8)] : List (B8))) u39), .call [none, none] [] [0] true (vals_Find_R o33.2.2.2.1 ([110, 111, 98, 111, 100, 121, 32, 97, 116, 32, 97, 108, 108, 32, 104, 101, 114, 101] : B8) u41) (vals_Find_O o33.2.2.2.1 ([110, 111, 98, 111, 100, 121, 32, 97, 116, 32, 97, 108, 108, 32, 104, 101, 114, 101] : B8) u41), .call [none] [] [0] true (vals_Hash_R o33.2.2.2.1 u43) (vals_Hash_O o33.2.2.2.1 u43), .call [none] [] [0] true (affiantref10_SetHash_R o33.2.2.2.1 u45) (affiantref10_SetHash_O o33.2.2.2.1 u45), b1, b1, .call [none] [] [0] true (vals_Total_R o33.2.2.2.1 u48) (vals_Total_O o33.2.2.2.1 u48), b1, b1, .call [none] [] [0] true (affiantref10_Total_R o33.2.2.2.1 u50) (affiantref10_Total_O o33.2.2.2.1 u50), b1, b1, b1, b1, b1, b1, b1, .call [none] [] [0] true (affiantref10_Total_R o33.2.2.2.1 u54) (affiantref10_Total_O o33.2.2.2.1 u54), b1, b1, b1, b1, b1, b1, b1, b1, .call [none, none, none] [] [] true (vals_Over_R u39 u34 u36 u58) (vals_Over_O u39 u34 u36 u58), b1, b1, b1, .call [none] [] [0] true (affiantref10_Total_R o33.2.2.2.1 u60) (affiantref10_Total_O o33.2.2.2.1 u60), b1, b1, b1, .call [none, none, none, none] [] [] true (affiantref10_Over_R o33.2.2.1 u60 u34 u36 u62) (affiantref10_Over_O o33.2.2.1 u60 u34 u36 u62), b1, b1, b1, b1, b1, b1, .call [] [] [] true (affiantlaw10_ValsRuns_R u66) (affiantlaw10_ValsRuns_O u66), b1]) (pos := [.sel []]) (.c h1 (.c h2 (.c h3 (.c (affiantkeep_Set_ok a1 u4 h5) (.c (affiantref10_RightSet_ok u4 u6 h7) (.c (vals_Right_ok u4 u8 h9) (.c h10 (.c h10 (.c h3 (.c h3 (.c h10 (.c h3 (.c h10 (.c h11 (.c h11 (.c (affiantlaw10_ValsTells_1_ok a3 a4 a5 (0 : Int) u4 ([] : List (B8)) ([] : List (B8 × Bool)) o20 h21) (.c (affiantlaw10_ValsTells_2_ok o20.1 o20.2.1 (0 : Int) (List.length o20.2.2.1 : Int) (0 : Int) o20.2.2.1 o20.2.2.2.1 o20.2.2.2.2 (.inr o33) h31) (.c (affiantbook_Within_ok o33.1 (0 : Int) (100 : Int) u34 h35) (.c (affiantbook_Within_ok o33.2.1 (0 : Int) (100 : Int) u36 h37) (.c h38 (.c (vals_Tally_ok o33.2.2.2.1 (o33.2.2.2.2 ++ ([([110, 111, 98, 111, 100, 121, 32, 97, 116, 32, 97, 108, 108, 32, 104, 101, 114, 101] : B8)] : List (B8))) u39 h40) (.c (vals_Find_ok o33.2.2.2.1 ([110, 111, 98, 111, 100, 121, 32, 97, 116, 32, 97, 108, 108, 32, 104, 101, 114, 101] : B8) u41 h42) (.c (vals_Hash_ok o33.2.2.2.1 u43 h44) (.c (affiantref10_SetHash_ok o33.2.2.2.1 u45 h46) (.c h47 (.c h47 (.c (vals_Total_ok o33.2.2.2.1 u48 h49) (.c h47 (.c h47 (.c (affiantref10_Total_ok o33.2.2.2.1 u50 h51) (.c h47 (.c h47 (.c h52 (.c h52 (.c h52 (.c h53 (.c h52 (.c h52 (.c (affiantref10_Total_ok o33.2.2.2.1 u54 h55) (.c h52 (.c h56 (.c h52 (.c h52 (.c h52 (.c h57 (.c h57 (.c h57 (.c h57 (.c (vals_Over_ok u39 u34 u36 u58 h59) (.c h57 (.c h57 (.c h57 (.c (affiantref10_Total_ok o33.2.2.2.1 u60 h61) (.c h57 (.c h57 (.c h57 (.c (affiantref10_Over_ok o33.2.2.1 u60 u34 u36 u62 h63) (.c h57 (.c h57 (.c h64 (.c h64 (.c h64 (.c h65 (.c (affiantlaw10_ValsRuns_ok u66 h67) (.c h65 .n))))))))))))))))))))))))))))))))))))))))))))))))))))))))))))))))) (by kernel_rfl)
         ·cases h
        ·cases h
       ·cases h
      ·cases h
     ·cases h
 ·obtain ⟨u68, h69, h⟩ := andThen_some h
  obtain ⟨u70, h71, h⟩ := andThen_some h
  rcases fork_some h with ⟨h72, h⟩ | ⟨h72, h⟩
  ·cases h
  ·rcases fork_some h with ⟨h73, h⟩ | ⟨h73, h⟩
   ·obtain ⟨u74, h75, h⟩ := andThen_some h
    injection h with h; subst h
    exact env.fun func4 can4 (its := [b0, b0, .call [none] [] [1] true (affiantref10_RightSet_R (([] : List (T484d)) ++ (cutL a0 (0 : Int) (min (List.length a0 : Int) (7 : Int)))) u68) (affiantref10_RightSet_O (([] : List (T484d)) ++ (cutL a0 (0 : Int) (min (List.length a0 : Int) (7 : Int)))) u68), .call [none] [] [1] true (vals_Right_R (([] : List (T484d)) ++ (cutL a0 (0 : Int) (min (List.length a0 : Int) (7 : Int)))) u70) (vals_Right_O (([] : List (T484d)) ++ (cutL a0 (0 : Int) (min (List.length a0 : Int) (7 : Int)))) u70), b0, b0, b0, b0, b0, b0, b0, b0, b1, .call [] [] [] true (affiantlaw10_ValsRuns_R u74) (affiantlaw10_ValsRuns_O u74)]) (pos := [.sel []]) (.c h1 (.c h2 (.c h3 (.c (affiantref10_RightSet_ok (([] : List (T484d)) ++ (cutL a0 (0 : Int) (min (List.length a0 : Int) (7 : Int)))) u68 h69) (.c (vals_Right_ok (([] : List (T484d)) ++ (cutL a0 (0 : Int) (min (List.length a0 : Int) (7 : Int)))) u70 h71) (.c h72 (.c h72 (.c h3 (.c h3 (.c h72 (.c h3 (.c h72 (.c r0 (.c h73 (.c (affiantlaw10_ValsRuns_ok u74 h75) .n))))))))))))))) (by kernel_rfl)
   ·obtain ⟨o84, h85, h⟩ := andThen_some h
    obtain ⟨o94, h95, h⟩ := andThen_some h
    rcases o94 with o96 | o97
    ·injection h with h; subst h
     exact env.fun func4 can4 (its := [b0, b0, .call [none] [] [1] true (affiantref10_RightSet_R (([] : List (T484d)) ++ (cutL a0 (0 : Int) (min (List.length a0 : Int) (7 : Int)))) u68) (affiantref10_RightSet_O (([] : List (T484d)) ++ (cutL a0 (0 : Int) (min (List.length a0 : Int) (7 : Int)))) u68), .call [none] [] [1] true (vals_Right_R (([] : List (T484d)) ++ (cutL a0 (0 : Int) (min (List.length a0 : Int) (7 : Int)))) u70) (vals_Right_O (([] : List (T484d)) ++ (cutL a0 (0 : Int) (min (List.length a0 : Int) (7 : Int)))) u70), b0, b0, b0, b0, b0, b0, b0, b0, b0, .val 0 .bool, .dive, .promote 15 .str, .sel [3, 4, 5, 13, 15, 16, 17] [1, 3, 2], .part (affiantlaw10_ValsTells_3_ex o84) (affiantlaw10_ValsTells_3_st o84), .dive, .sel [4, 5, 13, 15, 16, 19, 85, 86, 87] [0, 1, 2], .part (affiantlaw10_ValsTells_4_ex (.inl o96)) (affiantlaw10_ValsTells_4_st (.inl o96))]) (pos := [.sel []]) (.c h1 (.c h2 (.c h3 (.c (affiantref10_RightSet_ok (([] : List (T484d)) ++ (cutL a0 (0 : Int) (min (List.length a0 : Int) (7 : Int)))) u68 h69) (.c (vals_Right_ok (([] : List (T484d)) ++ (cutL a0 (0 : Int) (min (List.length a0 : Int) (7 : Int)))) u70 h71) (.c h72 (.c h72 (.c h3 (.c h3 (.c h72 (.c h3 (.c h72 (.c r0 (.c h73 (.c (affiantlaw10_ValsTells_3_ok a3 a4 a5 (0 : Int) (([] : List (T484d)) ++ (cutL a0 (0 : Int) (min (List.length a0 : Int) (7 : Int)))) ([] : List (B8)) ([] : List (B8 × Bool)) o84 h85) (.c (affiantlaw10_ValsTells_4_ok o84.1 o84.2.1 (0 : Int) (List.length o84.2.2.1 : Int) (0 : Int) o84.2.2.1 o84.2.2.2.1 o84.2.2.2.2 (.inl o96) h95) .n)))))))))))))))) (by kernel_rfl)
    ·obtain ⟨u98, h99, h⟩ := andThen_some h
     obtain ⟨u100, h101, h⟩ := andThen_some h
     obtain ⟨h102, h⟩ := need_some h
     obtain ⟨u103, h104, h⟩ := andThen_some h
     obtain ⟨u105, h106, h⟩ := andThen_some h
     obtain ⟨u107, h108, h⟩ := andThen_some h
     obtain ⟨u109, h110, h⟩ := andThen_some h
     rcases fork_some h with ⟨h111, h⟩ | ⟨h111, h⟩
     ·obtain ⟨u112, h113, h⟩ := andThen_some h
      obtain ⟨u114, h115, h⟩ := andThen_some h
      rcases fork_some h with ⟨h116, h⟩ | ⟨h116, h⟩
      ·obtain ⟨h117, h⟩ := need_some h
       obtain ⟨u118, h119, h⟩ := andThen_some h
       obtain ⟨h120, h⟩ := need_some h
       rcases fork_some h with ⟨h121, h⟩ | ⟨h121, h⟩
       ·obtain ⟨u122, h123, h⟩ := andThen_some h
        obtain ⟨u124, h125, h⟩ := andThen_some h
        obtain ⟨u126, h127, h⟩ := andThen_some h
        rcases fork_some h with ⟨h128, h⟩ | ⟨h128, h⟩
        ·rcases fork_some h with ⟨h129, h⟩ | ⟨h129, h⟩
         ·obtain ⟨u130, h131, h⟩ := andThen_some h
          injection h with h; subst h
          exact env.fun func4 can4 (its := [b0, b0, .call [none] [] [1] true (affiantref10_RightSet_R (([] : List (T484d)) ++ (cutL a0 (0 : Int) (min (List.length a0 : Int) (7 : Int)))) u68) (affiantref10_RightSet_O (([] : List (T484d)) ++ (cutL a0 (0 : Int) (min (List.length a0 : Int) (7 : Int)))) u68), .call [none] [] [1] true (vals_Right_R (([] : List (T484d)) ++ (cutL a0 (0 : Int) (min (List.length a0 : Int) (7 : Int)))) u70) (vals_Right_O (([] : List (T484d)) ++ (cutL a0 (0 : Int) (min (List.length a0 : Int) (7 : Int)))) u70), b0, b0, b0, b0, b0, b0, b0, b0, b0, .val 0 .bool, .dive, .promote 15 .str, .sel [3, 4, 5, 13, 15, 16, 17] [1, 3, 2], .part (affiantlaw10_ValsTells_3_ex o84) (affiantlaw10_ValsTells_3_st o84), .dive, .sel [4, 5, 13, 15, 16, 19, 85, 86, 87] [0, 1, 2], .part (affiantlaw10_ValsTells_4_ex (.inr o97)) (affiantlaw10_ValsTells_4_st (.inr o97)), .call [none, none, none] [] [] true (affiantbook_Within_R o97.1 (0 : Int) (100 : Int) u98) (affiantbook_Within_O o97.1 (0 : Int) (100 : Int) u98), .call [none, none, none] [] [] true (affiantbook_Within_R o97.2.1 (0 : Int) (100 : Int) u100) (affiantbook_Within_O o97.2.1 (0 : Int) (100 : Int) u100), .call [none, none] [] [0, 3] true (vals_Tally_R o97.2.2.2.1 (o97.2.2.2.2 ++ ([([110, 111, 98, 111, 100, 121, 32, 97, 116, 32, 97, 108, 108, 32, 104, 101, 114, 101] : B8)] : List (B8))) u103) (vals_Tally_O o97.2.2.2.1 (o97.2.2.2.2 ++ ([([110, 111, 98, 111, 100, 121, 32, 97, 116, 32, 97, 108, 108, 32, 104, 101, 114, 101] : B8)] : List (B8))) u103), .call [none, none] [] [0] true (vals_Find_R o97.2.2.2.1 ([110, 111, 98, 111, 100, 121, 32, 97, 116, 32, 97, 108, 108, 32, 104, 101, 114, 101] : B8) u105) (vals_Find_O o97.2.2.2.1 ([110, 111, 98, 111, 100, 121, 32, 97, 116, 32, 97, 108, 108, 32, 104, 101, 114, 101] : B8) u105), .call [none] [] [0] true (vals_Hash_R o97.2.2.2.1 u107) (vals_Hash_O o97.2.2.2.1 u107), .call [none] [] [0] true (affiantref10_SetHash_R o97.2.2.2.1 u109) (affiantref10_SetHash_O o97.2.2.2.1 u109), b1, b1, .call [none] [] [0] true (vals_Total_R o97.2.2.2.1 u112) (vals_Total_O o97.2.2.2.1 u112), b1, b1, .call [none] [] [0] true (affiantref10_Total_R o97.2.2.2.1 u114) (affiantref10_Total_O o97.2.2.2.1 u114), b1, b1, b1, b1, b1, b1, b1, .call [none] [] [0] true (affiantref10_Total_R o97.2.2.2.1 u118) (affiantref10_Total_O o97.2.2.2.1 u118), b1, b1, b1, b1, b1, b1, b1, b1, .call [none, none, none] [] [] true (vals_Over_R u103 u98 u100 u122) (vals_Over_O u103 u98 u100 u122), b1, b1, b1, .call [none] [] [0] true (affiantref10_Total_R o97.2.2.2.1 u124) (affiantref10_Total_O o97.2.2.2.1 u124), b1, b1, b1, .call [none, none, none, none] [] [] true (affiantref10_Over_R o97.2.2.1 u124 u98 u100 u126) (affiantref10_Over_O o97.2.2.1 u124 u98 u100 u126), b1, b1, b1, b1, b1, b1, .call [] [] [] true (affiantlaw10_ValsRuns_R u130) (affiantlaw10_ValsRuns_O u130), b1]) (pos := [.sel []]) (.c h1 (.c h2 (.c h3 (.c (affiantref10_RightSet_ok (([] : List (T484d)) ++ (cutL a0 (0 : Int) (min (List.length a0 : Int) (7 : Int)))) u68 h69) (.c (vals_Right_ok (([] : List (T484d)) ++ (cutL a0 (0 : Int) (min (List.length a0 : Int) (7 : Int)))) u70 h71) (.c h72 (.c h72 (.c h3 (.c h3 (.c h72 (.c h3 (.c h72 (.c r0 (.c h73 (.c (affiantlaw10_ValsTells_3_ok a3 a4 a5 (0 : Int) (([] : List (T484d)) ++ (cutL a0 (0 : Int) (min (List.length a0 : Int) (7 : Int)))) ([] : List (B8)) ([] : List (B8 × Bool)) o84 h85) (.c (affiantlaw10_ValsTells_4_ok o84.1 o84.2.1 (0 : Int) (List.length o84.2.2.1 : Int) (0 : Int) o84.2.2.1 o84.2.2.2.1 o84.2.2.2.2 (.inr o97) h95) (.c (affiantbook_Within_ok o97.1 (0 : Int) (100 : Int) u98 h99) (.c (affiantbook_Within_ok o97.2.1 (0 : Int) (100 : Int) u100 h101) (.c h102 (.c (vals_Tally_ok o97.2.2.2.1 (o97.2.2.2.2 ++ ([([110, 111, 98, 111, 100, 121, 32, 97, 116, 32, 97, 108, 108, 32, 104, 101, 114, 101] : B8)] : List (B8))) u103 h104) (.c (vals_Find_ok o97.2.2.2.1 ([110, 111, 98, 111, 100, 121, 32, 97, 116, 32, 97, 108, 108, 32, 104, 101, 114, 101] : B8) u105 h106) (.c (vals_Hash_ok o97.2.2.2.1 u107 h108) (.c (affiantref10_SetHash_ok o97.2.2.2.1 u109 h110) (.c h111 (.c h111 (.c (vals_Total_ok o97.2.2.2.1 u112 h113) (.c h111 (.c h111 (.c (affiantref10_Total_ok o97.2.2.2.1 u114 h115) (.c h111 (.c h111 (.c h116 (.c h116 (.c h116 (.c h117 (.c h116 (.c h116 (.c (affiantref10_Total_ok o97.2.2.2.1 u118 h119) (.c h116 (.c h120 (.c h116 (.c h116 (.c h116 (.c h121 (.c h121 (.c h121 (.c h121 (.c (vals_Over_ok u103 u98 u100 u122 h123) (.c h121 (.c h121 (.c h121 (.c (affiantref10_Total_ok o97.2.2.2.1 u124 h125) (.c h121 (.c h121 (.c h121 (.c (affiantref10_Over_ok o97.2.2.1 u124 u98 u100 u126 h127) (.c h121 (.c h121 (.c h128 (.c h128 (.c h128 (.c h129 (.c (affiantlaw10_ValsRuns_ok u130 h131) (.c h129 .n)))))))))))))))))))))))))))))))))))))))))))))))))))))))))))))))) (by kernel_rfl)
         ·cases h
        ·cases h
       ·cases h
      ·cases h
     ·cases h
end
end Go.Proofs.Ytdiacaflcfiomaa.valsTells
