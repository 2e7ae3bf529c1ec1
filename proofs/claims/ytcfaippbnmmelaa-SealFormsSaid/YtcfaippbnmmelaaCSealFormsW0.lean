/-
  The functions, walked through: each call comes to what the pure text says.
-/
import Derived.Test.YtcfaippbnmmelaaProg
import Derived.Test.YtcfaippbnmmelaaAxC
import Derived.Test.YtcfaippbnmmelaaCSealFormsP
namespace Go.Proofs.Ytcfaippbnmmelaa.sealForms
open Go.Ax Go.Ax.V Go.Proofs.Try
set_option maxRecDepth 100000
set_option linter.unusedVariables false
noncomputable section
def T : Tab := [(3, (.int .i64), 8), (4, .bool, 1), (5, (.int .u8), 1), (9, .str, 16), (23, (.fld (.int .i64) (.fld (.int .i64) (.fld (.int .i64) (.fld (.int .i64) (.fld (.int .i64) (.fld (.int .i64) .unit)))))), 48), (24, (.slice (.int .i64)), 24), (25, (.slice (.fld .str (.fld (.int .i64) (.fld (.arr 32 (.int .u8)) .unit)))), 24), (28, (.arr 32 (.int .u8)), 32), (30, (.fld (.int .i64) (.fld (.int .i64) (.fld (.arr 32 (.int .u8)) (.fld (.arr 32 (.int .u8)) (.fld (.arr 32 (.int .u8)) (.fld (.arr 32 (.int .u8)) .unit)))))), 144), (32, (.slice (.fld .str (.fld (.fld (.int .i64) (.fld (.fld (.slice (.arr 32 (.int .u8))) (.fld (.slice (.arr 32 (.int .u8))) .unit)) (.fld (.slice (.arr 32 (.int .u8))) .unit))) .unit))), 24), (33, .flt, 8), (35, (.fld .str (.fld (.int .i64) (.fld (.arr 32 (.int .u8)) .unit))), 56), (36, (.slice (.arr 32 (.int .u8))), 24), (38, (.fld (.slice (.arr 32 (.int .u8))) (.fld (.slice (.arr 32 (.int .u8))) .unit)), 48), (40, (.fld (.int .i64) (.fld (.fld (.slice (.arr 32 (.int .u8))) (.fld (.slice (.arr 32 (.int .u8))) .unit)) (.fld (.slice (.arr 32 (.int .u8))) .unit))), 80), (42, (.fld .str (.fld (.fld (.int .i64) (.fld (.fld (.slice (.arr 32 (.int .u8))) (.fld (.slice (.arr 32 (.int .u8))) .unit)) (.fld (.slice (.arr 32 (.int .u8))) .unit))) .unit)), 96), (45, .cplx, 16), (49, (.slice .str), 24), (54, (.slice (.int .u8)), 24), (60, (.slice (.slice (.slice (.int .u8)))), 24), (61, (.slice (.fld .str (.fld .str .unit))), 24), (62, (.slice (.fld (.fld (.int .i64) (.fld (.int .i64) (.fld (.arr 32 (.int .u8)) (.fld (.arr 32 (.int .u8)) (.fld (.arr 32 (.int .u8)) (.fld (.arr 32 (.int .u8)) .unit)))))) (.fld (.slice (.fld .str (.fld (.fld (.int .i64) (.fld (.fld (.slice (.arr 32 (.int .u8))) (.fld (.slice (.arr 32 (.int .u8))) .unit)) (.fld (.slice (.arr 32 (.int .u8))) .unit))) .unit))) (.fld (.slice (.fld .str (.fld (.int .i64) (.fld (.arr 32 (.int .u8)) .unit)))) (.fld (.slice (.fld .str (.fld (.int .i64) (.fld (.arr 32 (.int .u8)) .unit)))) .unit))))), 24), (63, (.slice (.slice (.fld .str (.fld .str .unit)))), 24), (65, (.fld (.slice (.arr 32 (.int .u8))) (.fld (.slice (.slice (.slice (.int .u8)))) (.fld (.slice .str) (.fld (.slice (.fld .str (.fld .str .unit))) (.fld (.slice (.fld .str (.fld (.int .i64) (.fld (.arr 32 (.int .u8)) .unit)))) (.fld (.slice (.fld (.fld (.int .i64) (.fld (.int .i64) (.fld (.arr 32 (.int .u8)) (.fld (.arr 32 (.int .u8)) (.fld (.arr 32 (.int .u8)) (.fld (.arr 32 (.int .u8)) .unit)))))) (.fld (.slice (.fld .str (.fld (.fld (.int .i64) (.fld (.fld (.slice (.arr 32 (.int .u8))) (.fld (.slice (.arr 32 (.int .u8))) .unit)) (.fld (.slice (.arr 32 (.int .u8))) .unit))) .unit))) (.fld (.slice (.fld .str (.fld (.int .i64) (.fld (.arr 32 (.int .u8)) .unit)))) (.fld (.slice (.fld .str (.fld (.int .i64) (.fld (.arr 32 (.int .u8)) .unit)))) .unit))))) (.fld (.slice (.slice (.fld .str (.fld .str .unit)))) .unit))))))), 168), (66, .ptr, 8), (67, (.int .i64), 8), (71, (.fld (.fld (.int .i64) (.fld (.int .i64) (.fld (.arr 32 (.int .u8)) (.fld (.arr 32 (.int .u8)) (.fld (.arr 32 (.int .u8)) (.fld (.arr 32 (.int .u8)) .unit)))))) (.fld (.slice (.fld .str (.fld (.fld (.int .i64) (.fld (.fld (.slice (.arr 32 (.int .u8))) (.fld (.slice (.arr 32 (.int .u8))) .unit)) (.fld (.slice (.arr 32 (.int .u8))) .unit))) .unit))) (.fld (.slice (.fld .str (.fld (.int .i64) (.fld (.arr 32 (.int .u8)) .unit)))) (.fld (.slice (.fld .str (.fld (.int .i64) (.fld (.arr 32 (.int .u8)) .unit)))) .unit)))), 216), (75, (.slice (.fld (.int .i64) (.fld (.int .i64) (.fld (.int .i64) (.fld (.int .i64) (.fld (.slice (.int .i64)) .unit)))))), 24), (76, (.slice .bool), 24), (78, (.fld (.int .i64) (.fld (.int .i64) (.fld (.int .i64) (.fld (.int .i64) (.fld (.slice (.int .i64)) .unit))))), 56), (86, (.slice (.fld (.int .i64) (.fld (.int .i64) (.fld (.arr 32 (.int .u8)) (.fld (.arr 32 (.int .u8)) (.fld (.arr 32 (.int .u8)) (.fld (.arr 32 (.int .u8)) .unit))))))), 24), (91, (.slice (.slice (.int .u8))), 24), (108, (.fld (.slice (.fld (.int .i64) (.fld (.int .i64) (.fld (.arr 32 (.int .u8)) (.fld (.arr 32 (.int .u8)) (.fld (.arr 32 (.int .u8)) (.fld (.arr 32 (.int .u8)) .unit))))))) (.fld (.slice (.fld .str (.fld (.int .i64) (.fld (.arr 32 (.int .u8)) .unit)))) (.fld (.int .i64) (.fld .bool .unit)))), 64), (118, (.int .u64), 8), (144, (.fld .str (.fld .str .unit)), 32), (147, (.slice (.int .u32)), 24), (149, (.int .u32), 4), (150, (.arr 8 (.int .u32)), 32), (151, (.int .u64), 8), (155, (.arr 64 (.int .u32)), 256)]
theorem tab : TabOK prog T := tab_of_b (by kernel_rfl)
theorem bytes : bytesB T = true := by kernel_rfl
theorem mix : prog.follows .mixedOrders = true := by kernel_rfl
theorem eqs : eqTypes prog T [28, 30] = true := by kernel_rfl
theorem env : Env prog T [28, 30] := ⟨tab, eqs, mix⟩
theorem can64 : Callable prog 64 := ⟨_, func64, by kernel_rfl, by kernel_rfl⟩
def affiantkeep_Names_R  (u : List (List UInt8)) : Slot := (.own 0 [])
def affiantkeep_Names_O  (u : List (List UInt8)) : List AObj := [.row .str u true]
theorem affiantkeep_Names_ok  (u : List (List UInt8)) (h : affiantkeep_Names  = some u) : CallC prog 64 [] [] (affiantkeep_Names_R u) (affiantkeep_Names_O u) := by
  unfold affiantkeep_Names at h
  injection h with h; subst h
  exact env.fun func64 can64 (its := []) (pos := [.sel [0]]) .n (by kernel_rfl)
theorem can14 : Callable prog 14 := ⟨_, func14, by kernel_rfl, by kernel_rfl⟩
def affiantbook_Within_R (a0 : Int) (a1 : Int) (a2 : Int) (u : Int) : Slot := (.v (.int .i64) u)
def affiantbook_Within_O (a0 : Int) (a1 : Int) (a2 : Int) (u : Int) : List AObj := []
theorem affiantbook_Within_ok (a0 : Int) (a1 : Int) (a2 : Int) (u : Int) (h : affiantbook_Within a0 a1 a2 = some u) : CallC prog 14 [(.v (.int .i64) a0), (.v (.int .i64) a1), (.v (.int .i64) a2)] [] (affiantbook_Within_R a0 a1 a2 u) (affiantbook_Within_O a0 a1 a2 u) := by
  unfold affiantbook_Within at h
  obtain ⟨h1, h⟩ := need_some h
  rcases fork_some h with ⟨h2, h⟩ | ⟨h2, h⟩
  · injection h with h; subst h
    exact env.fun func14 can14 (its := [.br true]) (pos := [.sel []]) (.c h1 (.c h2 .n)) (by kernel_rfl)
  · injection h with h; subst h
    exact env.fun func14 can14 (its := [.br false]) (pos := [.sel []]) (.c h1 (.c h2 .n)) (by kernel_rfl)
theorem can36 : Callable prog 36 := ⟨_, func36, by kernel_rfl, by kernel_rfl⟩
def affiantkeep_Set_1_in (x0 : List Int) (x1 : Int) (x2 : Int) (x3 : List (List UInt8 × Int × List UInt8 × Unit)) (x4 : List (List UInt8)) : St := ⟨[(0, (.v (.slice (.int .i64)) x0)), (3, (.own 0 [])), (7, (.own 1 [])), (8, (.v (.int .i64) x1)), (9, (.v (.int .i64) x2))], [.row (.fld .str (.fld (.int .i64) (.fld (.arr 32 (.int .u8)) .unit))) x3 true, .row .str x4 true], 43, 0⟩
def affiantkeep_Set_1_ex (o : List (List UInt8 × Int × List UInt8 × Unit)) : Exit := (.exit 0)
def affiantkeep_Set_1_st (o : List (List UInt8 × Int × List UInt8 × Unit)) : St := ⟨[(3, (.own 0 []))], [.row (.fld .str (.fld (.int .i64) (.fld (.arr 32 (.int .u8)) .unit))) o true], 43, 0⟩
theorem affiantkeep_Set_1_body (x0 : List Int) (x1 : Int) (x2 : Int) (x3 : List (List UInt8 × Int × List UInt8 × Unit)) (x4 : List (List UInt8)) : ∀ r, affiantkeep_Set_1_step x0 x1 x2 x3 x4 = some r → (match r with | .inl s => CodeOK prog (codeAt (bodyOf f36) [1, 1, 0, 1, 0, 0]) (affiantkeep_Set_1_in x0 x1 x2 x3 x4) .normal (affiantkeep_Set_1_in x0 x1 s.1 s.2 x4) | .inr o => affiantkeep_Set_1_ex o ≠ .normal ∧ CodeOK prog (codeAt (bodyOf f36) [1, 1, 0, 1, 0, 0]) (affiantkeep_Set_1_in x0 x1 x2 x3 x4) (affiantkeep_Set_1_ex o) (affiantkeep_Set_1_st o)) := by
  intro r h
  unfold affiantkeep_Set_1_step at h
  rcases fork_some h with ⟨h4, h⟩ | ⟨h4, h⟩
  · obtain ⟨h5, h⟩ := need_some h
    rcases fork_some h with ⟨h6, h⟩ | ⟨h6, h⟩
    · rcases fork_some h with ⟨h7, h⟩ | ⟨h7, h⟩
      · obtain ⟨h8, h⟩ := need_some h
        obtain ⟨u9, h10, h⟩ := andThen_some h
        obtain ⟨h11, h⟩ := need_some h
        injection h with h; subst h
        exact env.code (its := [.br true, .br true, .br true, .br true, .br true, .br true, .br true, .br true, .call [none, none, none] [] [] true (affiantbook_Within_R (List.getD x0 (Int.toNat x2) (0 : Int)) (1 : Int) (9 : Int) u9) (affiantbook_Within_O (List.getD x0 (Int.toNat x2) (0 : Int)) (1 : Int) (9 : Int) u9), .sel [0, 3, 7, 8, 9] [3, 1]]) (.c h4 (.c h5 (.c h6 (.c h6 (.c h6 (.c h6 (.c h6 (.c (rfl : (true : Bool) = true) (.c h7 (.c h8 (.c (affiantbook_Within_ok (List.getD x0 (Int.toNat x2) (0 : Int)) (1 : Int) (9 : Int) u9 h10) (.c h11 .n)))))))))))) (by kernel_rfl)
      · obtain ⟨h12, h⟩ := need_some h
        injection h with h; subst h
        exact env.code (its := [.br true, .br true, .br true, .br true, .br true, .br true, .br true, .br false, .sel [0, 3, 7, 8, 9] [3, 1]]) (.c h4 (.c h5 (.c h6 (.c h6 (.c h6 (.c h6 (.c h6 (.c (rfl : (true : Bool) = true) (.c h7 (.c h12 .n)))))))))) (by kernel_rfl)
    · rcases fork_some h with ⟨h13, h⟩ | ⟨h13, h⟩
      · obtain ⟨h14, h⟩ := need_some h
        obtain ⟨u15, h16, h⟩ := andThen_some h
        obtain ⟨h17, h⟩ := need_some h
        injection h with h; subst h
        exact env.code (its := [.br true, .br false, .br false, .br false, .br false, .br false, .br true, .br true, .call [none, none, none] [] [] true (affiantbook_Within_R (List.getD x0 (Int.toNat x2) (0 : Int)) (1 : Int) (9 : Int) u15) (affiantbook_Within_O (List.getD x0 (Int.toNat x2) (0 : Int)) (1 : Int) (9 : Int) u15), .sel [0, 3, 7, 8, 9] [3, 1]]) (.c h4 (.c h5 (.c h6 (.c h6 (.c h6 (.c h6 (.c h6 (.c h13 (.c h13 (.c h14 (.c (affiantbook_Within_ok (List.getD x0 (Int.toNat x2) (0 : Int)) (1 : Int) (9 : Int) u15 h16) (.c h17 .n)))))))))))) (by kernel_rfl)
      · injection h with h; subst h
        exact env.code (its := [.br true, .br false, .br false, .br false, .br false, .br false, .br false, .sel [0, 3, 7, 8, 9] [0, 1]]) (.c h4 (.c h5 (.c h6 (.c h6 (.c h6 (.c h6 (.c h6 (.c h13 .n)))))))) (by kernel_rfl)
  · injection h with h; subst h
    exact ⟨by intro e; simp [affiantkeep_Set_1_ex] at e, env.code (its := [.br false, .sel [3] [0]]) (.c h4 .n) (by kernel_rfl)⟩
theorem affiantkeep_Set_1_ok (x0 : List Int) (x1 : Int) (x2 : Int) (x3 : List (List UInt8 × Int × List UInt8 × Unit)) (x4 : List (List UInt8)) (o : List (List UInt8 × Int × List UInt8 × Unit)) (h : affiantkeep_Set_1 x0 x1 x2 x3 x4 = some o) : CodeOK prog (codeAt (bodyOf f36) [1, 1, 0, 1, 0]) (affiantkeep_Set_1_in x0 x1 x2 x3 x4) (affiantkeep_Set_1_ex o) (affiantkeep_Set_1_st o) :=
  LoopOK.of_step (st := fun s => affiantkeep_Set_1_in x0 x1 s.1 s.2 x4) (ex := affiantkeep_Set_1_ex) (stO := affiantkeep_Set_1_st) (fun s s2 hs => affiantkeep_Set_1_body x0 x1 s.1 s.2 x4 (.inl s2) hs) (fun s r hs => affiantkeep_Set_1_body x0 x1 s.1 s.2 x4 (.inr r) hs) _ o h
def affiantkeep_Set_R (a0 : List Int) (u : List (List UInt8 × Int × List UInt8 × Unit)) : Slot := (.own 0 [])
def affiantkeep_Set_O (a0 : List Int) (u : List (List UInt8 × Int × List UInt8 × Unit)) : List AObj := [.row (.fld .str (.fld (.int .i64) (.fld (.arr 32 (.int .u8)) .unit))) u true]
theorem affiantkeep_Set_ok (a0 : List Int) (u : List (List UInt8 × Int × List UInt8 × Unit)) (h : affiantkeep_Set a0 = some u) : CallC prog 36 [(.v (.slice (.int .i64)) a0)] [] (affiantkeep_Set_R a0 u) (affiantkeep_Set_O a0 u) := by
  unfold affiantkeep_Set at h
  obtain ⟨u1, h2, h⟩ := andThen_some h
  obtain ⟨o18, h19, h⟩ := andThen_some h
  injection h with h; subst h
  exact env.fun func36 can36 (its := [.call [] [] [] true (affiantkeep_Names_R u1) (affiantkeep_Names_O u1), .dive, .promote 3 (.fld .str (.fld (.int .i64) (.fld (.arr 32 (.int .u8)) .unit))), .sel [0, 3, 7, 8, 9] [1, 0], .part (affiantkeep_Set_1_ex o18) (affiantkeep_Set_1_st o18)]) (pos := [.sel [0]]) (.c (affiantkeep_Names_ok u1 h2) (.c (affiantkeep_Set_1_ok a0 (List.length u1 : Int) (0 : Int) ([] : List (List UInt8 × Int × List UInt8 × Unit)) u1 o18 h19) .n)) (by kernel_rfl)
theorem can12 : Callable prog 12 := ⟨_, func12, by kernel_rfl, by kernel_rfl⟩
def affiantkeep_Seed_R (a0 : Int) (u : List UInt8) : Slot := (.v (.arr 32 (.int .u8)) u)
def affiantkeep_Seed_O (a0 : Int) (u : List UInt8) : List AObj := []
theorem affiantkeep_Seed_ok (a0 : Int) (u : List UInt8) (h : affiantkeep_Seed a0 = some u) : CallC prog 12 [(.v (.int .i64) a0)] [] (affiantkeep_Seed_R a0 u) (affiantkeep_Seed_O a0 u) := by
  unfold affiantkeep_Seed at h
  injection h with h; subst h
  exact env.fun func12 can12 (its := []) (pos := [.sel []]) .n (by kernel_rfl)
theorem can113 : Callable prog 113 := ⟨_, func113, by kernel_rfl, by kernel_rfl⟩
def affiantref1_constants_R  (u : List UInt32) : Slot := (.own 0 [])
def affiantref1_constants_O  (u : List UInt32) : List AObj := [.row (.int .u32) u true]
theorem affiantref1_constants_ok  (u : List UInt32) (h : affiantref1_constants  = some u) : CallC prog 113 [] [] (affiantref1_constants_R u) (affiantref1_constants_O u) := by
  unfold affiantref1_constants at h
  injection h with h; subst h
  exact env.fun func113 can113 (its := []) (pos := [.sel [0]]) .n (by kernel_rfl)
theorem can121 : Callable prog 121 := ⟨_, func121, by kernel_rfl, by kernel_rfl⟩
def affiantref1_turn_R (a0 : UInt32) (a1 : UInt64) (u : UInt32) : Slot := (.v (.int .u32) u)
def affiantref1_turn_O (a0 : UInt32) (a1 : UInt64) (u : UInt32) : List AObj := []
theorem affiantref1_turn_ok (a0 : UInt32) (a1 : UInt64) (u : UInt32) (h : affiantref1_turn a0 a1 = some u) : CallC prog 121 [(.v (.int .u32) a0), (.v (.int .u64) a1)] [] (affiantref1_turn_R a0 a1 u) (affiantref1_turn_O a0 a1 u) := by
  unfold affiantref1_turn at h
  obtain ⟨h1, h⟩ := need_some h
  obtain ⟨h2, h⟩ := need_some h
  injection h with h; subst h
  exact env.fun func121 can121 (its := []) (pos := [.sel []]) (.c h1 (.c h2 .n)) (by kernel_rfl)
theorem can114 : Callable prog 114 := ⟨_, func114, by kernel_rfl, by kernel_rfl⟩
def affiantref1_block_1_in (x0 : List UInt8) (x1 : List UInt32) (x2 : Int) (x3 : List UInt32) (x4 : List UInt32) (x5 : List UInt32) : St := ⟨[(1, (.v (.slice (.int .u8)) x0)), (2, (.v (.slice (.int .u32)) x1)), (3, (.ptr 0 [])), (6, (.ptr 1 [])), (7, (.ptr 2 [])), (20, (.v (.int .i64) x2))], [.box (.arr 8 (.int .u32)) (.v (.arr 8 (.int .u32)) x3) true, .box (.arr 8 (.int .u32)) (.v (.arr 8 (.int .u32)) x4) true, .box (.arr 64 (.int .u32)) (.v (.arr 64 (.int .u32)) x5) true], 207, 0⟩
def affiantref1_block_1_ex (o : List UInt32 × List UInt32 × List UInt32 × List UInt32) : Exit := (.exit 0)
def affiantref1_block_1_st (o : List UInt32 × List UInt32 × List UInt32 × List UInt32) : St := ⟨[(2, (.v (.slice (.int .u32)) o.1)), (3, (.ptr 0 [])), (6, (.ptr 1 [])), (7, (.ptr 2 []))], [.box (.arr 8 (.int .u32)) (.v (.arr 8 (.int .u32)) o.2.1) true, .box (.arr 8 (.int .u32)) (.v (.arr 8 (.int .u32)) o.2.2.1) true, .box (.arr 64 (.int .u32)) (.v (.arr 64 (.int .u32)) o.2.2.2) true], 207, 0⟩
theorem affiantref1_block_1_body (x0 : List UInt8) (x1 : List UInt32) (x2 : Int) (x3 : List UInt32) (x4 : List UInt32) (x5 : List UInt32) : ∀ r, affiantref1_block_1_step x0 x1 x2 x3 x4 x5 = some r → (match r with | .inl s => CodeOK prog (codeAt (bodyOf f114) [1, 1, 0, 1, 0, 0]) (affiantref1_block_1_in x0 x1 x2 x3 x4 x5) .normal (affiantref1_block_1_in x0 x1 s.1 x3 x4 s.2) | .inr o => affiantref1_block_1_ex o ≠ .normal ∧ CodeOK prog (codeAt (bodyOf f114) [1, 1, 0, 1, 0, 0]) (affiantref1_block_1_in x0 x1 x2 x3 x4 x5) (affiantref1_block_1_ex o) (affiantref1_block_1_st o)) := by
  intro r h
  unfold affiantref1_block_1_step at h
  rcases fork_some h with ⟨h2, h⟩ | ⟨h2, h⟩
  · obtain ⟨h3, h⟩ := need_some h
    obtain ⟨h4, h⟩ := need_some h
    obtain ⟨h5, h⟩ := need_some h
    obtain ⟨h6, h⟩ := need_some h
    obtain ⟨h7, h⟩ := need_some h
    injection h with h; subst h
    exact env.code (its := [.br true, .pre [[], [], [], [2], [1, 2, 3], [1, 2, 3, 4], [1, 2, 3, 4, 5], [1, 2, 3, 4, 5, 6], [], [], [9], [9, 10], [8, 9, 10, 11], [8, 9, 10, 11, 12], [8, 9, 10, 11, 12, 13], [8, 9, 10, 11, 12, 13, 14], [1, 2, 3, 4, 5, 6, 7, 8, 9, 10, 11, 12, 13, 14, 15], [], [], [18], [18, 19], [17, 18, 19, 20], [17, 18, 19, 20, 21], [17, 18, 19, 20, 21, 22], [17, 18, 19, 20, 21, 22, 23], [1, 2, 3, 4, 5, 6, 7, 8, 9, 10, 11, 12, 13, 14, 15, 16, 17, 18, 19, 20, 21, 22, 23, 24], [], [], [27], [27, 28], [26, 27, 28, 29], [26, 27, 28, 29, 30], [26, 27, 28, 29, 30, 31], [1, 2, 3, 4, 5, 6, 7, 8, 9, 10, 11, 12, 13, 14, 15, 16, 17, 18, 19, 20, 21, 22, 23, 24, 25, 26, 27, 28, 29, 30, 31, 32], [0, 1, 2, 3, 4, 5, 6, 7, 8, 9, 10, 11, 12, 13, 14, 15, 16, 17, 18, 19, 20, 21, 22, 23, 24, 25, 26, 27, 28, 29, 30, 31, 32, 33], [0, 1, 2, 3, 4, 5, 6, 7, 8, 9, 10, 11, 12, 13, 14, 15, 16, 17, 18, 19, 20, 21, 22, 23, 24, 25, 26, 27, 28, 29, 30, 31, 32, 33, 34]], .sel [1, 2, 3, 6, 7, 20] [0, 1, 2]]) (.c h2 (.c h3 (.c (of_decide_eq_true (p := (0 ≤ (24 : Int))) (by kernel_rfl)) (.c h4 (.c (of_decide_eq_true (p := (0 ≤ (16 : Int))) (by kernel_rfl)) (.c h5 (.c (of_decide_eq_true (p := (0 ≤ (8 : Int))) (by kernel_rfl)) (.c h6 (.c h7 .n))))))))) (by kernel_rfl)
  · injection h with h; subst h
    exact ⟨by intro e; simp [affiantref1_block_1_ex] at e, env.code (its := [.br false, .sel [2, 3, 6, 7] [0, 1, 2]]) (.c h2 .n) (by kernel_rfl)⟩
theorem affiantref1_block_1_ok (x0 : List UInt8) (x1 : List UInt32) (x2 : Int) (x3 : List UInt32) (x4 : List UInt32) (x5 : List UInt32) (o : List UInt32 × List UInt32 × List UInt32 × List UInt32) (h : affiantref1_block_1 x0 x1 x2 x3 x4 x5 = some o) : CodeOK prog (codeAt (bodyOf f114) [1, 1, 0, 1, 0]) (affiantref1_block_1_in x0 x1 x2 x3 x4 x5) (affiantref1_block_1_ex o) (affiantref1_block_1_st o) :=
  LoopOK.of_step (st := fun s => affiantref1_block_1_in x0 x1 s.1 x3 x4 s.2) (ex := affiantref1_block_1_ex) (stO := affiantref1_block_1_st) (fun s s2 hs => affiantref1_block_1_body x0 x1 s.1 x3 x4 s.2 (.inl s2) hs) (fun s r hs => affiantref1_block_1_body x0 x1 s.1 x3 x4 s.2 (.inr r) hs) _ o h
def affiantref1_block_2_in (x0 : List UInt32) (x1 : Int) (x2 : List UInt32) (x3 : List UInt32) (x4 : List UInt32) : St := ⟨[(2, (.v (.slice (.int .u32)) x0)), (3, (.ptr 0 [])), (6, (.ptr 1 [])), (7, (.ptr 2 [])), (9, (.v (.int .i64) x1))], [.box (.arr 8 (.int .u32)) (.v (.arr 8 (.int .u32)) x2) true, .box (.arr 8 (.int .u32)) (.v (.arr 8 (.int .u32)) x3) true, .box (.arr 64 (.int .u32)) (.v (.arr 64 (.int .u32)) x4) true], 207, 0⟩
def affiantref1_block_2_ex (o : List UInt32 × List UInt32 × List UInt32 × List UInt32) : Exit := (.exit 2)
def affiantref1_block_2_st (o : List UInt32 × List UInt32 × List UInt32 × List UInt32) : St := ⟨[(2, (.v (.slice (.int .u32)) o.1)), (3, (.ptr 0 [])), (6, (.ptr 1 [])), (7, (.ptr 2 []))], [.box (.arr 8 (.int .u32)) (.v (.arr 8 (.int .u32)) o.2.1) true, .box (.arr 8 (.int .u32)) (.v (.arr 8 (.int .u32)) o.2.2.1) true, .box (.arr 64 (.int .u32)) (.v (.arr 64 (.int .u32)) o.2.2.2) true], 207, 0⟩
theorem affiantref1_block_2_body (x0 : List UInt32) (x1 : Int) (x2 : List UInt32) (x3 : List UInt32) (x4 : List UInt32) : ∀ r, affiantref1_block_2_step x0 x1 x2 x3 x4 = some r → (match r with | .inl s => CodeOK prog (codeAt (bodyOf f114) [1, 1, 1, 0, 1, 0, 0]) (affiantref1_block_2_in x0 x1 x2 x3 x4) .normal (affiantref1_block_2_in x0 s.1 x2 x3 s.2) | .inr o => affiantref1_block_2_ex o ≠ .normal ∧ CodeOK prog (codeAt (bodyOf f114) [1, 1, 1, 0, 1, 0, 0]) (affiantref1_block_2_in x0 x1 x2 x3 x4) (affiantref1_block_2_ex o) (affiantref1_block_2_st o)) := by
  intro r h
  unfold affiantref1_block_2_step at h
  rcases fork_some h with ⟨h11, h⟩ | ⟨h11, h⟩
  · obtain ⟨h12, h⟩ := need_some h
    obtain ⟨h13, h⟩ := need_some h
    obtain ⟨h14, h⟩ := need_some h
    obtain ⟨u15, h16, h⟩ := andThen_some h
    obtain ⟨u17, h18, h⟩ := andThen_some h
    obtain ⟨h19, h⟩ := need_some h
    obtain ⟨u20, h21, h⟩ := andThen_some h
    obtain ⟨u22, h23, h⟩ := andThen_some h
    obtain ⟨h24, h⟩ := need_some h
    injection h with h; subst h
    exact env.code (its := [.br true, .pre [[], [0], [0, 1], [0, 1, 2], [], [4], [4, 5], [4, 5, 6], [0, 1, 2, 3], [0, 1, 2, 3, 4, 5, 6, 7, 8]], .pre [[], [], [1], [1, 2], [1, 2, 3], [], [5], [], [5, 6, 7], [5, 6, 7, 8], [], [10], [5, 6, 7, 8, 9, 10, 11], [1, 2, 3, 4, 5, 6, 7, 8, 9, 10, 11, 12], [], [14], [14, 15], [14, 15, 16], [1, 2, 3, 4, 5, 6, 7, 8, 9, 10, 11, 12, 13, 14, 15, 16, 17], [], [5, 6, 7, 8, 19], [], [5, 6, 7, 8, 19, 20, 21], [5, 6, 7, 8, 19, 20, 21, 22], [], [24], [5, 6, 7, 8, 19, 20, 21, 22, 23, 24, 25], [1, 2, 3, 4, 5, 6, 7, 8, 9, 10, 11, 12, 13, 14, 15, 16, 17, 18, 19, 20, 21, 22, 23, 24, 25, 26], [0, 1, 2, 3, 4, 5, 6, 7, 8, 9, 10, 11, 12, 13, 14, 15, 16, 17, 18, 19, 20, 21, 22, 23, 24, 25, 26, 27], [0, 1, 2, 3, 4, 5, 6, 7, 8, 9, 10, 11, 12, 13, 14, 15, 16, 17, 18, 19, 20, 21, 22, 23, 24, 25, 26, 27, 28]], .asis, .call [none, none] [] [] true (affiantref1_turn_R (List.getD x4 (Int.toNat (w64 (x1 - (15 : Int)))) (0 : UInt32)) (7 : UInt64) u15) (affiantref1_turn_O (List.getD x4 (Int.toNat (w64 (x1 - (15 : Int)))) (0 : UInt32)) (7 : UInt64) u15), .asis, .call [none, none] [] [] true (affiantref1_turn_R (List.getD x4 (Int.toNat (w64 (x1 - (15 : Int)))) (0 : UInt32)) (18 : UInt64) u17) (affiantref1_turn_O (List.getD x4 (Int.toNat (w64 (x1 - (15 : Int)))) (0 : UInt32)) (18 : UInt64) u17), .asis, .call [none, none] [] [] true (affiantref1_turn_R (List.getD x4 (Int.toNat (w64 (x1 - (2 : Int)))) (0 : UInt32)) (17 : UInt64) u20) (affiantref1_turn_O (List.getD x4 (Int.toNat (w64 (x1 - (2 : Int)))) (0 : UInt32)) (17 : UInt64) u20), .asis, .call [none, none] [] [] true (affiantref1_turn_R (List.getD x4 (Int.toNat (w64 (x1 - (2 : Int)))) (0 : UInt32)) (19 : UInt64) u22) (affiantref1_turn_O (List.getD x4 (Int.toNat (w64 (x1 - (2 : Int)))) (0 : UInt32)) (19 : UInt64) u22), .sel [2, 3, 6, 7, 9] [0, 1, 2]]) (.c h11 (.c h12 (.c h13 (.c h14 (.c (rfl : ([] : List AObj) = []) (.c (affiantref1_turn_ok (List.getD x4 (Int.toNat (w64 (x1 - (15 : Int)))) (0 : UInt32)) (7 : UInt64) u15 h16) (.c (rfl : ([] : List AObj) = []) (.c (affiantref1_turn_ok (List.getD x4 (Int.toNat (w64 (x1 - (15 : Int)))) (0 : UInt32)) (18 : UInt64) u17 h18) (.c (of_decide_eq_true (p := (0 ≤ (3 : Int))) (by kernel_rfl)) (.c h19 (.c (rfl : ([] : List AObj) = []) (.c (affiantref1_turn_ok (List.getD x4 (Int.toNat (w64 (x1 - (2 : Int)))) (0 : UInt32)) (17 : UInt64) u20 h21) (.c (rfl : ([] : List AObj) = []) (.c (affiantref1_turn_ok (List.getD x4 (Int.toNat (w64 (x1 - (2 : Int)))) (0 : UInt32)) (19 : UInt64) u22 h23) (.c (of_decide_eq_true (p := (0 ≤ (10 : Int))) (by kernel_rfl)) (.c h24 .n)))))))))))))))) (by kernel_rfl)
  · injection h with h; subst h
    exact ⟨by intro e; simp [affiantref1_block_2_ex] at e, env.code (its := [.br false, .sel [2, 3, 6, 7] [0, 1, 2]]) (.c h11 .n) (by kernel_rfl)⟩
theorem affiantref1_block_2_ok (x0 : List UInt32) (x1 : Int) (x2 : List UInt32) (x3 : List UInt32) (x4 : List UInt32) (o : List UInt32 × List UInt32 × List UInt32 × List UInt32) (h : affiantref1_block_2 x0 x1 x2 x3 x4 = some o) : CodeOK prog (codeAt (bodyOf f114) [1, 1, 1, 0, 1, 0]) (affiantref1_block_2_in x0 x1 x2 x3 x4) (affiantref1_block_2_ex o) (affiantref1_block_2_st o) :=
  LoopOK.of_step (st := fun s => affiantref1_block_2_in x0 s.1 x2 x3 s.2) (ex := affiantref1_block_2_ex) (stO := affiantref1_block_2_st) (fun s s2 hs => affiantref1_block_2_body x0 s.1 x2 x3 s.2 (.inl s2) hs) (fun s r hs => affiantref1_block_2_body x0 s.1 x2 x3 s.2 (.inr r) hs) _ o h
def affiantref1_block_3_in (x0 : List UInt32) (x1 : Int) (x2 : List UInt32) (x3 : List UInt32) (x4 : List UInt32) (x5 : List UInt32) : St := ⟨[(2, (.v (.slice (.int .u32)) x0)), (3, (.ptr 0 [])), (6, (.ptr 1 [])), (7, (.ptr 2 [])), (12, (.ptr 3 [])), (101, (.v (.int .i64) x1))], [.box (.arr 8 (.int .u32)) (.v (.arr 8 (.int .u32)) x2) true, .box (.arr 8 (.int .u32)) (.v (.arr 8 (.int .u32)) x3) true, .box (.arr 64 (.int .u32)) (.v (.arr 64 (.int .u32)) x4) true, .box (.arr 8 (.int .u32)) (.v (.arr 8 (.int .u32)) x5) true], 207, 0⟩
def affiantref1_block_3_ex (o : List UInt32 × List UInt32 × List UInt32) : Exit := (.exit 4)
def affiantref1_block_3_st (o : List UInt32 × List UInt32 × List UInt32) : St := ⟨[(3, (.ptr 0 [])), (6, (.ptr 1 [])), (12, (.ptr 2 []))], [.box (.arr 8 (.int .u32)) (.v (.arr 8 (.int .u32)) o.1) true, .box (.arr 8 (.int .u32)) (.v (.arr 8 (.int .u32)) o.2.1) true, .box (.arr 8 (.int .u32)) (.v (.arr 8 (.int .u32)) o.2.2) true], 207, 0⟩
theorem affiantref1_block_3_body (x0 : List UInt32) (x1 : Int) (x2 : List UInt32) (x3 : List UInt32) (x4 : List UInt32) (x5 : List UInt32) : ∀ r, affiantref1_block_3_step x0 x1 x2 x3 x4 x5 = some r → (match r with | .inl s => CodeOK prog (codeAt (bodyOf f114) [1, 1, 1, 1, 1, 0, 1, 0, 0]) (affiantref1_block_3_in x0 x1 x2 x3 x4 x5) .normal (affiantref1_block_3_in x0 s.1 x2 x3 x4 s.2) | .inr o => affiantref1_block_3_ex o ≠ .normal ∧ CodeOK prog (codeAt (bodyOf f114) [1, 1, 1, 1, 1, 0, 1, 0, 0]) (affiantref1_block_3_in x0 x1 x2 x3 x4 x5) (affiantref1_block_3_ex o) (affiantref1_block_3_st o)) := by
  intro r h
  unfold affiantref1_block_3_step at h
  rcases fork_some h with ⟨h28, h⟩ | ⟨h28, h⟩
  · obtain ⟨u29, h30, h⟩ := andThen_some h
    obtain ⟨u31, h32, h⟩ := andThen_some h
    obtain ⟨u33, h34, h⟩ := andThen_some h
    obtain ⟨h35, h⟩ := need_some h
    obtain ⟨h36, h⟩ := need_some h
    obtain ⟨u37, h38, h⟩ := andThen_some h
    obtain ⟨u39, h40, h⟩ := andThen_some h
    obtain ⟨u41, h42, h⟩ := andThen_some h
    injection h with h; subst h
    exact env.code (its := [.br true, .pre [[], [0], [0, 1], [], [3], [0, 1, 2, 3, 4], [0, 1, 2, 3, 4, 5], [], [7], [0, 1, 2, 3, 4, 5, 7, 8], [0, 1, 2, 3, 4, 5, 6, 7, 8, 9], [0, 1, 2, 3, 4, 5, 6, 7, 8, 9, 10]], .asis, .call [none, none] [] [] true (affiantref1_turn_R (List.getD x5 (Int.toNat (4 : Int)) (0 : UInt32)) (6 : UInt64) u29) (affiantref1_turn_O (List.getD x5 (Int.toNat (4 : Int)) (0 : UInt32)) (6 : UInt64) u29), .asis, .call [none, none] [] [] true (affiantref1_turn_R (List.getD x5 (Int.toNat (4 : Int)) (0 : UInt32)) (11 : UInt64) u31) (affiantref1_turn_O (List.getD x5 (Int.toNat (4 : Int)) (0 : UInt32)) (11 : UInt64) u31), .asis, .call [none, none] [] [] true (affiantref1_turn_R (List.getD x5 (Int.toNat (4 : Int)) (0 : UInt32)) (25 : UInt64) u33) (affiantref1_turn_O (List.getD x5 (Int.toNat (4 : Int)) (0 : UInt32)) (25 : UInt64) u33), .pre [[], [0], [], [0, 1, 2], [], [0, 1, 2, 3, 4], [], [], [6, 7], [6, 7, 8], [0, 1, 2, 3, 4, 5, 6, 7, 8, 9], [], [11], [11, 12], [0, 1, 2, 3, 4, 5, 6, 7, 8, 9, 10, 11, 12, 13], [0, 1, 2, 3, 4, 5, 6, 7, 8, 9, 10, 11, 12, 13, 14]], .pre [[], [0], [0, 1], [], [3], [0, 1, 2, 3, 4], [0, 1, 2, 3, 4, 5], [], [7], [0, 1, 2, 3, 4, 5, 7, 8], [0, 1, 2, 3, 4, 5, 6, 7, 8, 9], [0, 1, 2, 3, 4, 5, 6, 7, 8, 9, 10]], .asis, .call [none, none] [] [] true (affiantref1_turn_R (List.getD x5 (Int.toNat (0 : Int)) (0 : UInt32)) (2 : UInt64) u37) (affiantref1_turn_O (List.getD x5 (Int.toNat (0 : Int)) (0 : UInt32)) (2 : UInt64) u37), .asis, .call [none, none] [] [] true (affiantref1_turn_R (List.getD x5 (Int.toNat (0 : Int)) (0 : UInt32)) (13 : UInt64) u39) (affiantref1_turn_O (List.getD x5 (Int.toNat (0 : Int)) (0 : UInt32)) (13 : UInt64) u39), .asis, .call [none, none] [] [] true (affiantref1_turn_R (List.getD x5 (Int.toNat (0 : Int)) (0 : UInt32)) (22 : UInt64) u41) (affiantref1_turn_O (List.getD x5 (Int.toNat (0 : Int)) (0 : UInt32)) (22 : UInt64) u41), .sel [2, 3, 6, 7, 12, 101] [0, 1, 2, 3]]) (.c h28 (.c (of_decide_eq_true (p := (0 ≤ (4 : Int) ∧ (4 : Int) < (8 : Int))) (by kernel_rfl)) (.c (rfl : ([] : List AObj) = []) (.c (affiantref1_turn_ok (List.getD x5 (Int.toNat (4 : Int)) (0 : UInt32)) (6 : UInt64) u29 h30) (.c (of_decide_eq_true (p := (0 ≤ (4 : Int) ∧ (4 : Int) < (8 : Int))) (by kernel_rfl)) (.c (rfl : ([] : List AObj) = []) (.c (affiantref1_turn_ok (List.getD x5 (Int.toNat (4 : Int)) (0 : UInt32)) (11 : UInt64) u31 h32) (.c (of_decide_eq_true (p := (0 ≤ (4 : Int) ∧ (4 : Int) < (8 : Int))) (by kernel_rfl)) (.c (rfl : ([] : List AObj) = []) (.c (affiantref1_turn_ok (List.getD x5 (Int.toNat (4 : Int)) (0 : UInt32)) (25 : UInt64) u33 h34) (.c (of_decide_eq_true (p := (0 ≤ (4 : Int) ∧ (4 : Int) < (8 : Int))) (by kernel_rfl)) (.c (of_decide_eq_true (p := (0 ≤ (5 : Int) ∧ (5 : Int) < (8 : Int))) (by kernel_rfl)) (.c (of_decide_eq_true (p := (0 ≤ (4 : Int) ∧ (4 : Int) < (8 : Int))) (by kernel_rfl)) (.c (of_decide_eq_true (p := (0 ≤ (6 : Int) ∧ (6 : Int) < (8 : Int))) (by kernel_rfl)) (.c (of_decide_eq_true (p := (0 ≤ (7 : Int) ∧ (7 : Int) < (8 : Int))) (by kernel_rfl)) (.c h35 (.c h36 (.c (of_decide_eq_true (p := (0 ≤ (0 : Int) ∧ (0 : Int) < (8 : Int))) (by kernel_rfl)) (.c (rfl : ([] : List AObj) = []) (.c (affiantref1_turn_ok (List.getD x5 (Int.toNat (0 : Int)) (0 : UInt32)) (2 : UInt64) u37 h38) (.c (of_decide_eq_true (p := (0 ≤ (0 : Int) ∧ (0 : Int) < (8 : Int))) (by kernel_rfl)) (.c (rfl : ([] : List AObj) = []) (.c (affiantref1_turn_ok (List.getD x5 (Int.toNat (0 : Int)) (0 : UInt32)) (13 : UInt64) u39 h40) (.c (of_decide_eq_true (p := (0 ≤ (0 : Int) ∧ (0 : Int) < (8 : Int))) (by kernel_rfl)) (.c (rfl : ([] : List AObj) = []) (.c (affiantref1_turn_ok (List.getD x5 (Int.toNat (0 : Int)) (0 : UInt32)) (22 : UInt64) u41 h42) (.c (of_decide_eq_true (p := (0 ≤ (0 : Int) ∧ (0 : Int) < (8 : Int))) (by kernel_rfl)) (.c (of_decide_eq_true (p := (0 ≤ (1 : Int) ∧ (1 : Int) < (8 : Int))) (by kernel_rfl)) (.c (of_decide_eq_true (p := (0 ≤ (0 : Int) ∧ (0 : Int) < (8 : Int))) (by kernel_rfl)) (.c (of_decide_eq_true (p := (0 ≤ (2 : Int) ∧ (2 : Int) < (8 : Int))) (by kernel_rfl)) (.c (of_decide_eq_true (p := (0 ≤ (1 : Int) ∧ (1 : Int) < (8 : Int))) (by kernel_rfl)) (.c (of_decide_eq_true (p := (0 ≤ (2 : Int) ∧ (2 : Int) < (8 : Int))) (by kernel_rfl)) (.c (of_decide_eq_true (p := (0 ≤ (0 : Int) ∧ (0 : Int) < (8 : Int))) (by kernel_rfl)) (.c (of_decide_eq_true (p := (0 ≤ (1 : Int) ∧ (1 : Int) < (8 : Int))) (by kernel_rfl)) (.c (of_decide_eq_true (p := (0 ≤ (2 : Int) ∧ (2 : Int) < (8 : Int))) (by kernel_rfl)) (.c (of_decide_eq_true (p := (0 ≤ (3 : Int) ∧ (3 : Int) < (8 : Int))) (by kernel_rfl)) (.c (of_decide_eq_true (p := (0 ≤ (4 : Int) ∧ (4 : Int) < (8 : Int))) (by kernel_rfl)) (.c (of_decide_eq_true (p := (0 ≤ (5 : Int) ∧ (5 : Int) < (8 : Int))) (by kernel_rfl)) (.c (of_decide_eq_true (p := (0 ≤ (6 : Int) ∧ (6 : Int) < (8 : Int))) (by kernel_rfl)) .n))))))))))))))))))))))))))))))))))))))) (by kernel_rfl)
  · injection h with h; subst h
    exact ⟨by intro e; simp [affiantref1_block_3_ex] at e, env.code (its := [.br false, .sel [3, 6, 12] [0, 1, 3]]) (.c h28 .n) (by kernel_rfl)⟩
theorem affiantref1_block_3_ok (x0 : List UInt32) (x1 : Int) (x2 : List UInt32) (x3 : List UInt32) (x4 : List UInt32) (x5 : List UInt32) (o : List UInt32 × List UInt32 × List UInt32) (h : affiantref1_block_3 x0 x1 x2 x3 x4 x5 = some o) : CodeOK prog (codeAt (bodyOf f114) [1, 1, 1, 1, 1, 0, 1, 0]) (affiantref1_block_3_in x0 x1 x2 x3 x4 x5) (affiantref1_block_3_ex o) (affiantref1_block_3_st o) :=
  LoopOK.of_step (st := fun s => affiantref1_block_3_in x0 s.1 x2 x3 x4 s.2) (ex := affiantref1_block_3_ex) (stO := affiantref1_block_3_st) (fun s s2 hs => affiantref1_block_3_body x0 s.1 x2 x3 x4 s.2 (.inl s2) hs) (fun s r hs => affiantref1_block_3_body x0 s.1 x2 x3 x4 s.2 (.inr r) hs) _ o h
def affiantref1_block_4_in (x0 : Int) (x1 : List UInt32) (x2 : List UInt32) (x3 : List UInt32) : St := ⟨[(3, (.ptr 0 [])), (6, (.ptr 1 [])), (12, (.ptr 2 [])), (193, (.v (.int .i64) x0))], [.box (.arr 8 (.int .u32)) (.v (.arr 8 (.int .u32)) x1) true, .box (.arr 8 (.int .u32)) (.v (.arr 8 (.int .u32)) x2) true, .box (.arr 8 (.int .u32)) (.v (.arr 8 (.int .u32)) x3) true], 207, 0⟩
def affiantref1_block_4_ex (o : List UInt32 × List UInt32) : Exit := (.exit 6)
def affiantref1_block_4_st (o : List UInt32 × List UInt32) : St := ⟨[(3, (.ptr 0 [])), (6, (.ptr 1 []))], [.box (.arr 8 (.int .u32)) (.v (.arr 8 (.int .u32)) o.1) true, .box (.arr 8 (.int .u32)) (.v (.arr 8 (.int .u32)) o.2) true], 207, 0⟩
theorem affiantref1_block_4_body (x0 : Int) (x1 : List UInt32) (x2 : List UInt32) (x3 : List UInt32) : ∀ r, affiantref1_block_4_step x0 x1 x2 x3 = some r → (match r with | .inl s => CodeOK prog (codeAt (bodyOf f114) [1, 1, 1, 1, 1, 1, 0, 1, 0, 0]) (affiantref1_block_4_in x0 x1 x2 x3) .normal (affiantref1_block_4_in s.1 s.2 x2 x3) | .inr o => affiantref1_block_4_ex o ≠ .normal ∧ CodeOK prog (codeAt (bodyOf f114) [1, 1, 1, 1, 1, 1, 0, 1, 0, 0]) (affiantref1_block_4_in x0 x1 x2 x3) (affiantref1_block_4_ex o) (affiantref1_block_4_st o)) := by
  intro r h
  unfold affiantref1_block_4_step at h
  rcases fork_some h with ⟨h46, h⟩ | ⟨h46, h⟩
  · obtain ⟨h47, h⟩ := need_some h
    injection h with h; subst h
    exact env.code (its := [.br true, .pre [[], [], [1], [1, 2], [], [4], [4, 5], [1, 2, 3, 4, 5, 6], [0, 1, 2, 3, 4, 5, 6, 7], [0, 1, 2, 3, 4, 5, 6, 7, 8]], .sel [3, 6, 12, 193] [0, 1, 2]]) (.c h46 (.c h47 (.c h47 (.c h47 .n)))) (by kernel_rfl)
  · injection h with h; subst h
    exact ⟨by intro e; simp [affiantref1_block_4_ex] at e, env.code (its := [.br false, .sel [3, 6] [0, 1]]) (.c h46 .n) (by kernel_rfl)⟩
theorem affiantref1_block_4_ok (x0 : Int) (x1 : List UInt32) (x2 : List UInt32) (x3 : List UInt32) (o : List UInt32 × List UInt32) (h : affiantref1_block_4 x0 x1 x2 x3 = some o) : CodeOK prog (codeAt (bodyOf f114) [1, 1, 1, 1, 1, 1, 0, 1, 0]) (affiantref1_block_4_in x0 x1 x2 x3) (affiantref1_block_4_ex o) (affiantref1_block_4_st o) :=
  LoopOK.of_step (st := fun s => affiantref1_block_4_in s.1 s.2 x2 x3) (ex := affiantref1_block_4_ex) (stO := affiantref1_block_4_st) (fun s s2 hs => affiantref1_block_4_body s.1 s.2 x2 x3 (.inl s2) hs) (fun s r hs => affiantref1_block_4_body s.1 s.2 x2 x3 (.inr r) hs) _ o h
def affiantref1_block_R (a0 : List UInt32) (a1 : List UInt8) (a2 : List UInt32) (u : List UInt32) : Slot := (.v (.arr 8 (.int .u32)) u)
def affiantref1_block_O (a0 : List UInt32) (a1 : List UInt8) (a2 : List UInt32) (u : List UInt32) : List AObj := []
theorem affiantref1_block_ok (a0 : List UInt32) (a1 : List UInt8) (a2 : List UInt32) (u : List UInt32) (h : affiantref1_block a0 a1 a2 = some u) : CallC prog 114 [(.v (.arr 8 (.int .u32)) a0), (.v (.slice (.int .u8)) a1), (.v (.slice (.int .u32)) a2)] [] (affiantref1_block_R a0 a1 a2 u) (affiantref1_block_O a0 a1 a2 u) := by
  unfold affiantref1_block at h
  obtain ⟨o8, h9, h⟩ := andThen_some h
  obtain ⟨o25, h26, h⟩ := andThen_some h
  obtain ⟨o43, h44, h⟩ := andThen_some h
  obtain ⟨o48, h49, h⟩ := andThen_some h
  injection h with h; subst h
  exact env.fun func114 can114 (its := [.dive, .sel [1, 2, 3, 6, 7, 20] [0, 1, 2], .part (affiantref1_block_1_ex o8) (affiantref1_block_1_st o8), .dive, .sel [2, 3, 6, 7, 9] [0, 1, 2], .part (affiantref1_block_2_ex o25) (affiantref1_block_2_st o25), .dive, .sel [2, 3, 6, 7, 12, 101] [0, 1, 2, 3], .part (affiantref1_block_3_ex o43) (affiantref1_block_3_st o43), .dive, .sel [3, 6, 12, 193] [0, 1, 2], .part (affiantref1_block_4_ex o48) (affiantref1_block_4_st o48)]) (pos := [.sel []]) (.c (affiantref1_block_1_ok a1 a2 (0 : Int) a0 (List.replicate 8 (0 : UInt32)) (List.replicate 64 (0 : UInt32)) o8 h9) (.c (affiantref1_block_2_ok o8.1 (16 : Int) o8.2.1 o8.2.2.1 o8.2.2.2 o25 h26) (.c (affiantref1_block_3_ok o25.1 (0 : Int) o25.2.1 o25.2.2.1 o25.2.2.2 o25.2.1 o43 h44) (.c (affiantref1_block_4_ok (0 : Int) o43.1 o43.2.1 o43.2.2 o48 h49) .n)))) (by kernel_rfl)
theorem can90 : Callable prog 90 := ⟨_, func90, by kernel_rfl, by kernel_rfl⟩
def affiantref1_Sum_1_in (x0 : List UInt8) (x1 : List UInt8) (x2 : List UInt32) (x3 : List UInt32) (x4 : List UInt8) : St := ⟨[(0, (.v (.slice (.int .u8)) x0)), (2, (.ptr 0 [])), (3, (.own 1 [])), (4, (.ptr 2 [])), (5, (.own 3 []))], [.box (.arr 32 (.int .u8)) (.v (.arr 32 (.int .u8)) x1) true, .row (.int .u32) x2 true, .box (.arr 8 (.int .u32)) (.v (.arr 8 (.int .u32)) x3) true, .row (.int .u8) x4 true], 88, 0⟩
def affiantref1_Sum_1_ex (o : List UInt8 × List UInt8 × List UInt32 × List UInt32 × List UInt8) : Exit := (.exit 0)
def affiantref1_Sum_1_st (o : List UInt8 × List UInt8 × List UInt32 × List UInt32 × List UInt8) : St := ⟨[(0, (.v (.slice (.int .u8)) o.1)), (2, (.ptr 0 [])), (3, (.own 1 [])), (4, (.ptr 2 [])), (5, (.own 3 []))], [.box (.arr 32 (.int .u8)) (.v (.arr 32 (.int .u8)) o.2.1) true, .row (.int .u32) o.2.2.1 true, .box (.arr 8 (.int .u32)) (.v (.arr 8 (.int .u32)) o.2.2.2.1) true, .row (.int .u8) o.2.2.2.2 true], 88, 0⟩
theorem affiantref1_Sum_1_body (x0 : List UInt8) (x1 : List UInt8) (x2 : List UInt32) (x3 : List UInt32) (x4 : List UInt8) : ∀ r, affiantref1_Sum_1_step x0 x1 x2 x3 x4 = some r → (match r with | .inl s => CodeOK prog (codeAt (bodyOf f90) [1, 1, 1, 1, 0, 0, 0]) (affiantref1_Sum_1_in x0 x1 x2 x3 x4) .normal (affiantref1_Sum_1_in x0 x1 x2 x3 s) | .inr o => affiantref1_Sum_1_ex o ≠ .normal ∧ CodeOK prog (codeAt (bodyOf f90) [1, 1, 1, 1, 0, 0, 0]) (affiantref1_Sum_1_in x0 x1 x2 x3 x4) (affiantref1_Sum_1_ex o) (affiantref1_Sum_1_st o)) := by
  intro r h
  unfold affiantref1_Sum_1_step at h
  rcases fork_some h with ⟨h6, h⟩ | ⟨h6, h⟩
  · obtain ⟨h7, h⟩ := need_some h
    injection h with h; subst h
    exact env.code (its := [.br true, .dive, .sel [0, 2, 3, 4, 5] [0, 1, 2, 5]]) (.c (of_decide_eq_true (p := ((64 : Int) ≠ 0)) (by kernel_rfl)) (.c h6 (.c h7 .n))) (by kernel_rfl)
  · injection h with h; subst h
    exact ⟨by intro e; simp [affiantref1_Sum_1_ex] at e, env.code (its := [.br false, .sel [0, 2, 3, 4, 5] [0, 1, 2, 3]]) (.c (of_decide_eq_true (p := ((64 : Int) ≠ 0)) (by kernel_rfl)) (.c h6 .n)) (by kernel_rfl)⟩
theorem affiantref1_Sum_1_ok (x0 : List UInt8) (x1 : List UInt8) (x2 : List UInt32) (x3 : List UInt32) (x4 : List UInt8) (o : List UInt8 × List UInt8 × List UInt32 × List UInt32 × List UInt8) (h : affiantref1_Sum_1 x0 x1 x2 x3 x4 = some o) : CodeOK prog (codeAt (bodyOf f90) [1, 1, 1, 1, 0, 0]) (affiantref1_Sum_1_in x0 x1 x2 x3 x4) (affiantref1_Sum_1_ex o) (affiantref1_Sum_1_st o) :=
  LoopOK.of_step (st := fun s => affiantref1_Sum_1_in x0 x1 x2 x3 s) (ex := affiantref1_Sum_1_ex) (stO := affiantref1_Sum_1_st) (fun s s2 hs => affiantref1_Sum_1_body x0 x1 x2 x3 s (.inl s2) hs) (fun s r hs => affiantref1_Sum_1_body x0 x1 x2 x3 s (.inr r) hs) _ o h
def affiantref1_Sum_2_in (x0 : List UInt8) (x1 : Int) (x2 : List UInt8) (x3 : List UInt32) (x4 : List UInt32) (x5 : List UInt8) : St := ⟨[(0, (.v (.slice (.int .u8)) x0)), (2, (.ptr 0 [])), (3, (.own 1 [])), (4, (.ptr 2 [])), (5, (.own 3 [])), (6, (.v (.int .i64) x1))], [.box (.arr 32 (.int .u8)) (.v (.arr 32 (.int .u8)) x2) true, .row (.int .u32) x3 true, .box (.arr 8 (.int .u32)) (.v (.arr 8 (.int .u32)) x4) true, .row (.int .u8) x5 true], 88, 0⟩
def affiantref1_Sum_2_ex (o : List UInt8 × List UInt32 × List UInt32 × List UInt8) : Exit := (.exit 2)
def affiantref1_Sum_2_st (o : List UInt8 × List UInt32 × List UInt32 × List UInt8) : St := ⟨[(2, (.ptr 0 [])), (3, (.own 1 [])), (4, (.ptr 2 [])), (5, (.own 3 []))], [.box (.arr 32 (.int .u8)) (.v (.arr 32 (.int .u8)) o.1) true, .row (.int .u32) o.2.1 true, .box (.arr 8 (.int .u32)) (.v (.arr 8 (.int .u32)) o.2.2.1) true, .row (.int .u8) o.2.2.2 true], 88, 0⟩
theorem affiantref1_Sum_2_body (x0 : List UInt8) (x1 : Int) (x2 : List UInt8) (x3 : List UInt32) (x4 : List UInt32) (x5 : List UInt8) : ∀ r, affiantref1_Sum_2_step x0 x1 x2 x3 x4 x5 = some r → (match r with | .inl s => CodeOK prog (codeAt (bodyOf f90) [1, 1, 1, 1, 1, 0, 1, 0, 0]) (affiantref1_Sum_2_in x0 x1 x2 x3 x4 x5) .normal (affiantref1_Sum_2_in x0 s.1 x2 x3 x4 s.2) | .inr o => affiantref1_Sum_2_ex o ≠ .normal ∧ CodeOK prog (codeAt (bodyOf f90) [1, 1, 1, 1, 1, 0, 1, 0, 0]) (affiantref1_Sum_2_in x0 x1 x2 x3 x4 x5) (affiantref1_Sum_2_ex o) (affiantref1_Sum_2_st o)) := by
  intro r h
  unfold affiantref1_Sum_2_step at h
  rcases fork_some h with ⟨h11, h⟩ | ⟨h11, h⟩
  · obtain ⟨h12, h⟩ := need_some h
    obtain ⟨h13, h⟩ := need_some h
    injection h with h; subst h
    exact env.code (its := [.br true, .dive, .sel [0, 2, 3, 4, 5, 6] [0, 1, 2, 5]]) (.c h11 (.c h12 (.c h13 .n))) (by kernel_rfl)
  · injection h with h; subst h
    exact ⟨by intro e; simp [affiantref1_Sum_2_ex] at e, env.code (its := [.br false, .sel [2, 3, 4, 5] [0, 1, 2, 3]]) (.c h11 .n) (by kernel_rfl)⟩
theorem affiantref1_Sum_2_ok (x0 : List UInt8) (x1 : Int) (x2 : List UInt8) (x3 : List UInt32) (x4 : List UInt32) (x5 : List UInt8) (o : List UInt8 × List UInt32 × List UInt32 × List UInt8) (h : affiantref1_Sum_2 x0 x1 x2 x3 x4 x5 = some o) : CodeOK prog (codeAt (bodyOf f90) [1, 1, 1, 1, 1, 0, 1, 0]) (affiantref1_Sum_2_in x0 x1 x2 x3 x4 x5) (affiantref1_Sum_2_ex o) (affiantref1_Sum_2_st o) :=
  LoopOK.of_step (st := fun s => affiantref1_Sum_2_in x0 s.1 x2 x3 x4 s.2) (ex := affiantref1_Sum_2_ex) (stO := affiantref1_Sum_2_st) (fun s s2 hs => affiantref1_Sum_2_body x0 s.1 x2 x3 x4 s.2 (.inl s2) hs) (fun s r hs => affiantref1_Sum_2_body x0 s.1 x2 x3 x4 s.2 (.inr r) hs) _ o h
def affiantref1_Sum_3_in (x0 : List UInt8) (x1 : Int) (x2 : List UInt8) (x3 : List UInt32) (x4 : List UInt32) : St := ⟨[(2, (.ptr 0 [])), (3, (.own 1 [])), (4, (.ptr 2 [])), (5, (.v (.slice (.int .u8)) x0)), (7, (.v (.int .i64) x1))], [.box (.arr 32 (.int .u8)) (.v (.arr 32 (.int .u8)) x2) true, .row (.int .u32) x3 true, .box (.arr 8 (.int .u32)) (.v (.arr 8 (.int .u32)) x4) true], 88, 0⟩
def affiantref1_Sum_3_ex (o : List UInt8 × List UInt32) : Exit := (.exit 4)
def affiantref1_Sum_3_st (o : List UInt8 × List UInt32) : St := ⟨[(2, (.ptr 0 [])), (4, (.ptr 1 []))], [.box (.arr 32 (.int .u8)) (.v (.arr 32 (.int .u8)) o.1) true, .box (.arr 8 (.int .u32)) (.v (.arr 8 (.int .u32)) o.2) true], 88, 0⟩
theorem affiantref1_Sum_3_body (x0 : List UInt8) (x1 : Int) (x2 : List UInt8) (x3 : List UInt32) (x4 : List UInt32) : ∀ r, affiantref1_Sum_3_step x0 x1 x2 x3 x4 = some r → (match r with | .inl s => CodeOK prog (codeAt (bodyOf f90) [1, 1, 1, 1, 1, 1, 0, 1, 0, 0]) (affiantref1_Sum_3_in x0 x1 x2 x3 x4) .normal (affiantref1_Sum_3_in x0 s.1 x2 x3 s.2) | .inr o => affiantref1_Sum_3_ex o ≠ .normal ∧ CodeOK prog (codeAt (bodyOf f90) [1, 1, 1, 1, 1, 1, 0, 1, 0, 0]) (affiantref1_Sum_3_in x0 x1 x2 x3 x4) (affiantref1_Sum_3_ex o) (affiantref1_Sum_3_st o)) := by
  intro r h
  unfold affiantref1_Sum_3_step at h
  rcases fork_some h with ⟨h17, h⟩ | ⟨h17, h⟩
  · obtain ⟨h18, h⟩ := need_some h
    obtain ⟨u19, h20, h⟩ := andThen_some h
    injection h with h; subst h
    exact env.code (its := [.br true, .pre [[], [], [], [], [3], [1, 2, 3, 4], [], [0, 1, 2, 3, 4, 5, 6], [0, 1, 2, 3, 4, 5, 6, 7]], .br false, .asis, .call [none, none, none] [] [0] true (affiantref1_block_R x4 (cutL x0 x1 (w64 (x1 + (64 : Int)))) x3 u19) (affiantref1_block_O x4 (cutL x0 x1 (w64 (x1 + (64 : Int)))) x3 u19), .sel [2, 3, 4, 5, 7] [0, 1, 2]]) (.c h17 (.c h18 (.c (rfl : ([.row (.int .u32) x3 true] : List AObj) = [.row (.int .u32) x3 true]) (.c (affiantref1_block_ok x4 (cutL x0 x1 (w64 (x1 + (64 : Int)))) x3 u19 h20) .n)))) (by kernel_rfl)
  · injection h with h; subst h
    exact ⟨by intro e; simp [affiantref1_Sum_3_ex] at e, env.code (its := [.br false, .sel [2, 4] [0, 2]]) (.c h17 .n) (by kernel_rfl)⟩
theorem affiantref1_Sum_3_ok (x0 : List UInt8) (x1 : Int) (x2 : List UInt8) (x3 : List UInt32) (x4 : List UInt32) (o : List UInt8 × List UInt32) (h : affiantref1_Sum_3 x0 x1 x2 x3 x4 = some o) : CodeOK prog (codeAt (bodyOf f90) [1, 1, 1, 1, 1, 1, 0, 1, 0]) (affiantref1_Sum_3_in x0 x1 x2 x3 x4) (affiantref1_Sum_3_ex o) (affiantref1_Sum_3_st o) :=
  LoopOK.of_step (st := fun s => affiantref1_Sum_3_in x0 s.1 x2 x3 s.2) (ex := affiantref1_Sum_3_ex) (stO := affiantref1_Sum_3_st) (fun s s2 hs => affiantref1_Sum_3_body x0 s.1 x2 x3 s.2 (.inl s2) hs) (fun s r hs => affiantref1_Sum_3_body x0 s.1 x2 x3 s.2 (.inr r) hs) _ o h
def affiantref1_Sum_4_in (x0 : List UInt32) (x1 : Int) (x2 : List UInt8) (x3 : List UInt8) : St := ⟨[(2, (.ptr 0 [])), (8, (.ptr 1 [])), (55, (.v (.arr 8 (.int .u32)) x0)), (56, (.v (.int .i64) x1))], [.box (.arr 32 (.int .u8)) (.v (.arr 32 (.int .u8)) x2) true, .box (.arr 32 (.int .u8)) (.v (.arr 32 (.int .u8)) x3) true], 88, 0⟩
def affiantref1_Sum_4_ex (o : List UInt8 × List UInt8) : Exit := (.exit 6)
def affiantref1_Sum_4_st (o : List UInt8 × List UInt8) : St := ⟨[(2, (.ptr 0 [])), (8, (.ptr 1 []))], [.box (.arr 32 (.int .u8)) (.v (.arr 32 (.int .u8)) o.1) true, .box (.arr 32 (.int .u8)) (.v (.arr 32 (.int .u8)) o.2) true], 88, 0⟩
theorem affiantref1_Sum_4_body (x0 : List UInt32) (x1 : Int) (x2 : List UInt8) (x3 : List UInt8) : ∀ r, affiantref1_Sum_4_step x0 x1 x2 x3 = some r → (match r with | .inl s => CodeOK prog (codeAt (bodyOf f90) [1, 1, 1, 1, 1, 1, 1, 1, 0, 1, 0, 0]) (affiantref1_Sum_4_in x0 x1 x2 x3) .normal (affiantref1_Sum_4_in x0 s.1 x2 s.2) | .inr o => affiantref1_Sum_4_ex o ≠ .normal ∧ CodeOK prog (codeAt (bodyOf f90) [1, 1, 1, 1, 1, 1, 1, 1, 0, 1, 0, 0]) (affiantref1_Sum_4_in x0 x1 x2 x3) (affiantref1_Sum_4_ex o) (affiantref1_Sum_4_st o)) := by
  intro r h
  unfold affiantref1_Sum_4_step at h
  rcases fork_some h with ⟨h24, h⟩ | ⟨h24, h⟩
  · obtain ⟨h25, h⟩ := need_some h
    obtain ⟨h26, h⟩ := need_some h
    obtain ⟨h27, h⟩ := need_some h
    obtain ⟨h28, h⟩ := need_some h
    obtain ⟨h29, h⟩ := need_some h
    injection h with h; subst h
    exact env.code (its := [.br true, .dive, .sel [2, 8, 55, 56] [0, 1]]) (.c h24 (.c h25 (.c (of_decide_eq_true (p := (0 ≤ (24 : Int))) (by kernel_rfl)) (.c (of_decide_eq_true (p := (0 ≤ (16 : Int))) (by kernel_rfl)) (.c (of_decide_eq_true (p := (0 ≤ (8 : Int))) (by kernel_rfl)) (.c h26 (.c h27 (.c h28 (.c h29 .n))))))))) (by kernel_rfl)
  · injection h with h; subst h
    exact ⟨by intro e; simp [affiantref1_Sum_4_ex] at e, env.code (its := [.br false, .sel [2, 8] [0, 1]]) (.c h24 .n) (by kernel_rfl)⟩
theorem affiantref1_Sum_4_ok (x0 : List UInt32) (x1 : Int) (x2 : List UInt8) (x3 : List UInt8) (o : List UInt8 × List UInt8) (h : affiantref1_Sum_4 x0 x1 x2 x3 = some o) : CodeOK prog (codeAt (bodyOf f90) [1, 1, 1, 1, 1, 1, 1, 1, 0, 1, 0]) (affiantref1_Sum_4_in x0 x1 x2 x3) (affiantref1_Sum_4_ex o) (affiantref1_Sum_4_st o) :=
  LoopOK.of_step (st := fun s => affiantref1_Sum_4_in x0 s.1 x2 s.2) (ex := affiantref1_Sum_4_ex) (stO := affiantref1_Sum_4_st) (fun s s2 hs => affiantref1_Sum_4_body x0 s.1 x2 s.2 (.inl s2) hs) (fun s r hs => affiantref1_Sum_4_body x0 s.1 x2 s.2 (.inr r) hs) _ o h
def affiantref1_Sum_R (a0 : List UInt8) (u : List UInt8) : Slot := (.v (.arr 32 (.int .u8)) u)
def affiantref1_Sum_O (a0 : List UInt8) (u : List UInt8) : List AObj := []
theorem affiantref1_Sum_ok (a0 : List UInt8) (u : List UInt8) (h : affiantref1_Sum a0 = some u) : CallC prog 90 [(.v (.slice (.int .u8)) a0)] [] (affiantref1_Sum_R a0 u) (affiantref1_Sum_O a0 u) := by
  unfold affiantref1_Sum at h
  obtain ⟨u1, h2, h⟩ := andThen_some h
  obtain ⟨h3, h⟩ := need_some h
  obtain ⟨h4, h⟩ := need_some h
  obtain ⟨o8, h9, h⟩ := andThen_some h
  obtain ⟨o14, h15, h⟩ := andThen_some h
  obtain ⟨o21, h22, h⟩ := andThen_some h
  obtain ⟨o30, h31, h⟩ := andThen_some h
  injection h with h; subst h
  exact env.fun func90 can90 (its := [.call [] [] [] true (affiantref1_constants_R u1) (affiantref1_constants_O u1), .dive, .sel [0, 2, 3, 4, 5] [0, 1, 2, 6], .part (affiantref1_Sum_1_ex o8) (affiantref1_Sum_1_st o8), .dive, .sel [0, 2, 3, 4, 5, 6] [0, 1, 2, 3], .part (affiantref1_Sum_2_ex o14) (affiantref1_Sum_2_st o14), .dive, .val 5 (.slice (.int .u8)), .sel [2, 3, 4, 5, 7] [0, 1, 2], .part (affiantref1_Sum_3_ex o21) (affiantref1_Sum_3_st o21), .dive, .sel [2, 8, 55, 56] [0, 2], .part (affiantref1_Sum_4_ex o30) (affiantref1_Sum_4_st o30)]) (pos := [.sel []]) (.c (affiantref1_constants_ok u1 h2) (.c h3 (.c h4 (.c (affiantref1_Sum_1_ok a0 (List.replicate 32 (0 : UInt8)) u1 (List.set (List.set (List.set (List.set (List.set (List.set (List.set (List.set (List.replicate 8 (0 : UInt32)) 0 (1779033703 : UInt32)) 1 (3144134277 : UInt32)) 2 (1013904242 : UInt32)) 3 (2773480762 : UInt32)) 4 (1359893119 : UInt32)) 5 (2600822924 : UInt32)) 6 (528734635 : UInt32)) 7 (1541459225 : UInt32)) ((([] : List (UInt8)) ++ a0) ++ ([(128 : UInt8)] : List (UInt8))) o8 h9) (.c (affiantref1_Sum_2_ok o8.1 (7 : Int) o8.2.1 o8.2.2.1 o8.2.2.2.1 o8.2.2.2.2 o14 h15) (.c (affiantref1_Sum_3_ok o14.2.2.2 (0 : Int) o14.1 o14.2.1 o14.2.2.1 o21 h22) (.c (affiantref1_Sum_4_ok o21.2 (0 : Int) o21.1 (List.replicate 32 (0 : UInt8)) o30 h31) .n))))))) (by kernel_rfl)
theorem can60 : Callable prog 60 := ⟨_, func60, by kernel_rfl, by kernel_rfl⟩
def affiantref1_Tagged_1_in (x0 : List (List UInt8)) (x1 : Int) (x2 : Int) (x3 : List UInt8) (x4 : List UInt8) : St := ⟨[(4, (.ptr 0 [])), (5, (.own 1 [])), (10, (.v (.slice (.slice (.int .u8))) x0)), (11, (.v (.int .i64) x1)), (12, (.v (.int .i64) x2))], [.box (.arr 32 (.int .u8)) (.v (.arr 32 (.int .u8)) x3) true, .row (.int .u8) x4 true], 22, 0⟩
def affiantref1_Tagged_1_ex (o : List UInt8 × List UInt8) : Exit := (.exit 0)
def affiantref1_Tagged_1_st (o : List UInt8 × List UInt8) : St := ⟨[(4, (.ptr 0 [])), (5, (.own 1 []))], [.box (.arr 32 (.int .u8)) (.v (.arr 32 (.int .u8)) o.1) true, .row (.int .u8) o.2 true], 22, 0⟩
theorem affiantref1_Tagged_1_body (x0 : List (List UInt8)) (x1 : Int) (x2 : Int) (x3 : List UInt8) (x4 : List UInt8) : ∀ r, affiantref1_Tagged_1_step x0 x1 x2 x3 x4 = some r → (match r with | .inl s => CodeOK prog (codeAt (bodyOf f60) [1, 1, 0, 1, 0, 0]) (affiantref1_Tagged_1_in x0 x1 x2 x3 x4) .normal (affiantref1_Tagged_1_in x0 x1 s.1 x3 s.2) | .inr o => affiantref1_Tagged_1_ex o ≠ .normal ∧ CodeOK prog (codeAt (bodyOf f60) [1, 1, 0, 1, 0, 0]) (affiantref1_Tagged_1_in x0 x1 x2 x3 x4) (affiantref1_Tagged_1_ex o) (affiantref1_Tagged_1_st o)) := by
  intro r h
  unfold affiantref1_Tagged_1_step at h
  rcases fork_some h with ⟨h2, h⟩ | ⟨h2, h⟩
  · obtain ⟨h3, h⟩ := need_some h
    obtain ⟨h4, h⟩ := need_some h
    injection h with h; subst h
    exact env.code (its := [.br true, .dive, .sel [4, 5, 10, 11, 12] [0, 2]]) (.c h2 (.c h3 (.c h4 .n))) (by kernel_rfl)
  · injection h with h; subst h
    exact ⟨by intro e; simp [affiantref1_Tagged_1_ex] at e, env.code (its := [.br false, .sel [4, 5] [0, 1]]) (.c h2 .n) (by kernel_rfl)⟩
theorem affiantref1_Tagged_1_ok (x0 : List (List UInt8)) (x1 : Int) (x2 : Int) (x3 : List UInt8) (x4 : List UInt8) (o : List UInt8 × List UInt8) (h : affiantref1_Tagged_1 x0 x1 x2 x3 x4 = some o) : CodeOK prog (codeAt (bodyOf f60) [1, 1, 0, 1, 0]) (affiantref1_Tagged_1_in x0 x1 x2 x3 x4) (affiantref1_Tagged_1_ex o) (affiantref1_Tagged_1_st o) :=
  LoopOK.of_step (st := fun s => affiantref1_Tagged_1_in x0 x1 s.1 x3 s.2) (ex := affiantref1_Tagged_1_ex) (stO := affiantref1_Tagged_1_st) (fun s s2 hs => affiantref1_Tagged_1_body x0 x1 s.1 x3 s.2 (.inl s2) hs) (fun s r hs => affiantref1_Tagged_1_body x0 x1 s.1 x3 s.2 (.inr r) hs) _ o h
def affiantref1_Tagged_R (a0 : UInt8) (a1 : List (List UInt8)) (u : List UInt8) : Slot := (.v (.arr 32 (.int .u8)) u)
def affiantref1_Tagged_O (a0 : UInt8) (a1 : List (List UInt8)) (u : List UInt8) : List AObj := []
theorem affiantref1_Tagged_ok (a0 : UInt8) (a1 : List (List UInt8)) (u : List UInt8) (h : affiantref1_Tagged a0 a1 = some u) : CallC prog 60 [(.v (.int .u8) a0), (.v (.slice (.slice (.int .u8))) a1)] [] (affiantref1_Tagged_R a0 a1 u) (affiantref1_Tagged_O a0 a1 u) := by
  unfold affiantref1_Tagged at h
  obtain ⟨o5, h6, h⟩ := andThen_some h
  obtain ⟨u7, h8, h⟩ := andThen_some h
  injection h with h; subst h
  exact env.fun func60 can60 (its := [.dive, .sel [4, 5, 10, 11, 12] [0, 1], .part (affiantref1_Tagged_1_ex o5) (affiantref1_Tagged_1_st o5), .call [none] [] [1] true (affiantref1_Sum_R o5.2 u7) (affiantref1_Sum_O o5.2 u7)]) (pos := [.sel []]) (.c (affiantref1_Tagged_1_ok a1 (List.length a1 : Int) (0 : Int) (List.replicate 32 (0 : UInt8)) ([a0] : List (UInt8)) o5 h6) (.c (affiantref1_Sum_ok o5.2 u7 h8) .n)) (by kernel_rfl)
theorem can82 : Callable prog 82 := ⟨_, func82, by kernel_rfl, by kernel_rfl⟩
def affiantref1_seedOf_R (a0 : List UInt8) (a1 : Int) (u : List UInt8) : Slot := (.v (.arr 32 (.int .u8)) u)
def affiantref1_seedOf_O (a0 : List UInt8) (a1 : Int) (u : List UInt8) : List AObj := []
theorem affiantref1_seedOf_ok (a0 : List UInt8) (a1 : Int) (u : List UInt8) (h : affiantref1_seedOf a0 a1 = some u) : CallC prog 82 [(.v (.arr 32 (.int .u8)) a0), (.v (.int .i64) a1)] [] (affiantref1_seedOf_R a0 a1 u) (affiantref1_seedOf_O a0 a1 u) := by
  unfold affiantref1_seedOf at h
  obtain ⟨u1, h2, h⟩ := andThen_some h
  injection h with h; subst h
  exact env.fun func82 can82 (its := [.br true, .call [none, none] [] [3] true (affiantref1_Tagged_R (114 : UInt8) ([a0, ([(UInt8.ofNat (Int.toNat (a1 % 256)))] : List (UInt8))] : List (List UInt8)) u1) (affiantref1_Tagged_O (114 : UInt8) ([a0, ([(UInt8.ofNat (Int.toNat (a1 % 256)))] : List (UInt8))] : List (List UInt8)) u1)]) (pos := [.sel []]) (.c (affiantref1_Tagged_ok (114 : UInt8) ([a0, ([(UInt8.ofNat (Int.toNat (a1 % 256)))] : List (UInt8))] : List (List UInt8)) u1 h2) .n) (by kernel_rfl)
theorem can109 : Callable prog 109 := ⟨_, func109, by kernel_rfl, by kernel_rfl⟩
def affiantref1_secret_R (a0 : List UInt8) (a1 : Int) (a2 : Int) (u : List UInt8) : Slot := (.v (.arr 32 (.int .u8)) u)
def affiantref1_secret_O (a0 : List UInt8) (a1 : Int) (a2 : Int) (u : List UInt8) : List AObj := []
theorem affiantref1_secret_ok (a0 : List UInt8) (a1 : Int) (a2 : Int) (u : List UInt8) (h : affiantref1_secret a0 a1 a2 = some u) : CallC prog 109 [(.v (.arr 32 (.int .u8)) a0), (.v (.int .i64) a1), (.v (.int .i64) a2)] [] (affiantref1_secret_R a0 a1 a2 u) (affiantref1_secret_O a0 a1 a2 u) := by
  unfold affiantref1_secret at h
  obtain ⟨u1, h2, h⟩ := andThen_some h
  injection h with h; subst h
  exact env.fun func109 can109 (its := [.br true, .call [none, none] [] [3] true (affiantref1_Tagged_R (115 : UInt8) ([a0, ([(UInt8.ofNat (Int.toNat (a1 % 256))), (UInt8.ofNat (Int.toNat (a2 % 256)))] : List (UInt8))] : List (List UInt8)) u1) (affiantref1_Tagged_O (115 : UInt8) ([a0, ([(UInt8.ofNat (Int.toNat (a1 % 256))), (UInt8.ofNat (Int.toNat (a2 % 256)))] : List (UInt8))] : List (List UInt8)) u1)]) (pos := [.sel []]) (.c (affiantref1_Tagged_ok (115 : UInt8) ([a0, ([(UInt8.ofNat (Int.toNat (a1 % 256))), (UInt8.ofNat (Int.toNat (a2 % 256)))] : List (UInt8))] : List (List UInt8)) u1 h2) .n) (by kernel_rfl)
theorem can91 : Callable prog 91 := ⟨_, func91, by kernel_rfl, by kernel_rfl⟩
def affiantref1_public_R (a0 : List UInt8) (u : List UInt8) : Slot := (.v (.arr 32 (.int .u8)) u)
def affiantref1_public_O (a0 : List UInt8) (u : List UInt8) : List AObj := []
theorem affiantref1_public_ok (a0 : List UInt8) (u : List UInt8) (h : affiantref1_public a0 = some u) : CallC prog 91 [(.v (.arr 32 (.int .u8)) a0)] [] (affiantref1_public_R a0 u) (affiantref1_public_O a0 u) := by
  unfold affiantref1_public at h
  obtain ⟨u1, h2, h⟩ := andThen_some h
  injection h with h; subst h
  exact env.fun func91 can91 (its := [.br true, .call [none, none] [] [2] true (affiantref1_Tagged_R (112 : UInt8) ([a0] : List (List UInt8)) u1) (affiantref1_Tagged_O (112 : UInt8) ([a0] : List (List UInt8)) u1)]) (pos := [.sel []]) (.c (affiantref1_Tagged_ok (112 : UInt8) ([a0] : List (List UInt8)) u1 h2) .n) (by kernel_rfl)
theorem can93 : Callable prog 93 := ⟨_, func93, by kernel_rfl, by kernel_rfl⟩
def affiantref1_key_1_in (x0 : List (List UInt8)) (x1 : Int) (x2 : Int) (x3 : List UInt8) (x4 : List UInt8) : St := ⟨[(2, (.ptr 0 [])), (3, (.own 1 [])), (6, (.v (.slice (.arr 32 (.int .u8))) x0)), (7, (.v (.int .i64) x1)), (8, (.v (.int .i64) x2))], [.box (.arr 32 (.int .u8)) (.v (.arr 32 (.int .u8)) x3) true, .row (.int .u8) x4 true], 19, 0⟩
def affiantref1_key_1_ex (o : List UInt8 × List UInt8) : Exit := (.exit 0)
def affiantref1_key_1_st (o : List UInt8 × List UInt8) : St := ⟨[(2, (.ptr 0 [])), (3, (.own 1 []))], [.box (.arr 32 (.int .u8)) (.v (.arr 32 (.int .u8)) o.1) true, .row (.int .u8) o.2 true], 19, 0⟩
theorem affiantref1_key_1_body (x0 : List (List UInt8)) (x1 : Int) (x2 : Int) (x3 : List UInt8) (x4 : List UInt8) : ∀ r, affiantref1_key_1_step x0 x1 x2 x3 x4 = some r → (match r with | .inl s => CodeOK prog (codeAt (bodyOf f93) [1, 1, 0, 1, 0, 0]) (affiantref1_key_1_in x0 x1 x2 x3 x4) .normal (affiantref1_key_1_in x0 x1 s.1 x3 s.2) | .inr o => affiantref1_key_1_ex o ≠ .normal ∧ CodeOK prog (codeAt (bodyOf f93) [1, 1, 0, 1, 0, 0]) (affiantref1_key_1_in x0 x1 x2 x3 x4) (affiantref1_key_1_ex o) (affiantref1_key_1_st o)) := by
  intro r h
  unfold affiantref1_key_1_step at h
  rcases fork_some h with ⟨h2, h⟩ | ⟨h2, h⟩
  · obtain ⟨h3, h⟩ := need_some h
    obtain ⟨h4, h⟩ := need_some h
    injection h with h; subst h
    exact env.code (its := [.br true, .br true, .sel [2, 3, 6, 7, 8] [0, 3]]) (.c h2 (.c h3 (.c h4 .n))) (by kernel_rfl)
  · injection h with h; subst h
    exact ⟨by intro e; simp [affiantref1_key_1_ex] at e, env.code (its := [.br false, .sel [2, 3] [0, 1]]) (.c h2 .n) (by kernel_rfl)⟩
theorem affiantref1_key_1_ok (x0 : List (List UInt8)) (x1 : Int) (x2 : Int) (x3 : List UInt8) (x4 : List UInt8) (o : List UInt8 × List UInt8) (h : affiantref1_key_1 x0 x1 x2 x3 x4 = some o) : CodeOK prog (codeAt (bodyOf f93) [1, 1, 0, 1, 0]) (affiantref1_key_1_in x0 x1 x2 x3 x4) (affiantref1_key_1_ex o) (affiantref1_key_1_st o) :=
  LoopOK.of_step (st := fun s => affiantref1_key_1_in x0 x1 s.1 x3 s.2) (ex := affiantref1_key_1_ex) (stO := affiantref1_key_1_st) (fun s s2 hs => affiantref1_key_1_body x0 x1 s.1 x3 s.2 (.inl s2) hs) (fun s r hs => affiantref1_key_1_body x0 x1 s.1 x3 s.2 (.inr r) hs) _ o h
def affiantref1_key_R (a0 : List (List UInt8)) (u : List UInt8) : Slot := (.v (.arr 32 (.int .u8)) u)
def affiantref1_key_O (a0 : List (List UInt8)) (u : List UInt8) : List AObj := []
theorem affiantref1_key_ok (a0 : List (List UInt8)) (u : List UInt8) (h : affiantref1_key a0 = some u) : CallC prog 93 [(.v (.slice (.arr 32 (.int .u8))) a0)] [] (affiantref1_key_R a0 u) (affiantref1_key_O a0 u) := by
  unfold affiantref1_key at h
  obtain ⟨o5, h6, h⟩ := andThen_some h
  obtain ⟨u7, h8, h⟩ := andThen_some h
  injection h with h; subst h
  exact env.fun func93 can93 (its := [.dive, .promote 3 (.int .u8), .sel [2, 3, 6, 7, 8] [0, 1], .part (affiantref1_key_1_ex o5) (affiantref1_key_1_st o5), .call [none, none] [] [2] true (affiantref1_Tagged_R (107 : UInt8) ([o5.2] : List (List UInt8)) u7) (affiantref1_Tagged_O (107 : UInt8) ([o5.2] : List (List UInt8)) u7)]) (pos := [.sel []]) (.c (affiantref1_key_1_ok a0 (List.length a0 : Int) (0 : Int) (List.replicate 32 (0 : UInt8)) ([] : List (UInt8)) o5 h6) (.c (affiantref1_Tagged_ok (107 : UInt8) ([o5.2] : List (List UInt8)) u7 h8) .n)) (by kernel_rfl)
theorem can107 : Callable prog 107 := ⟨_, func107, by kernel_rfl, by kernel_rfl⟩
def affiantref1_Key_1_in (x0 : Int) (x1 : List UInt8) (x2 : List UInt8) (x3 : List (List UInt8)) : St := ⟨[(1, (.ptr 0 [])), (2, (.ptr 1 [])), (3, (.own 2 [])), (5, (.v (.int .i64) x0))], [.box (.arr 32 (.int .u8)) (.v (.arr 32 (.int .u8)) x1) true, .box (.arr 32 (.int .u8)) (.v (.arr 32 (.int .u8)) x2) true, .row (.arr 32 (.int .u8)) x3 true], 22, 0⟩
def affiantref1_Key_1_ex (o : List UInt8 × List (List UInt8)) : Exit := (.exit 0)
def affiantref1_Key_1_st (o : List UInt8 × List (List UInt8)) : St := ⟨[(2, (.ptr 0 [])), (3, (.own 1 []))], [.box (.arr 32 (.int .u8)) (.v (.arr 32 (.int .u8)) o.1) true, .row (.arr 32 (.int .u8)) o.2 true], 22, 0⟩
theorem affiantref1_Key_1_body (x0 : Int) (x1 : List UInt8) (x2 : List UInt8) (x3 : List (List UInt8)) : ∀ r, affiantref1_Key_1_step x0 x1 x2 x3 = some r → (match r with | .inl s => CodeOK prog (codeAt (bodyOf f107) [1, 1, 0, 1, 0, 0]) (affiantref1_Key_1_in x0 x1 x2 x3) .normal (affiantref1_Key_1_in s.1 x1 x2 s.2) | .inr o => affiantref1_Key_1_ex o ≠ .normal ∧ CodeOK prog (codeAt (bodyOf f107) [1, 1, 0, 1, 0, 0]) (affiantref1_Key_1_in x0 x1 x2 x3) (affiantref1_Key_1_ex o) (affiantref1_Key_1_st o)) := by
  intro r h
  unfold affiantref1_Key_1_step at h
  rcases fork_some h with ⟨h2, h⟩ | ⟨h2, h⟩
  · obtain ⟨u3, h4, h⟩ := andThen_some h
    obtain ⟨u5, h6, h⟩ := andThen_some h
    obtain ⟨u7, h8, h⟩ := andThen_some h
    obtain ⟨u9, h10, h⟩ := andThen_some h
    obtain ⟨h11, h⟩ := need_some h
    injection h with h; subst h
    exact env.code (its := [.br true, .pre [[], [], [], [1, 2], [1, 2, 3], [], [], [1, 2, 3, 4, 5, 6], [1, 2, 3, 4, 5, 6, 7], [1, 2, 3, 4, 5, 6, 7, 8], [0, 1, 2, 3, 4, 5, 6, 7, 8, 9], [0, 1, 2, 3, 4, 5, 6, 7, 8, 9, 10]], .asis, .call [none, none, none] [] [] true (affiantref1_secret_R x1 x0 (0 : Int) u3) (affiantref1_secret_O x1 x0 (0 : Int) u3), .asis, .call [none] [] [] true (affiantref1_public_R u3 u5) (affiantref1_public_O u3 u5), .asis, .call [none, none, none] [] [] true (affiantref1_secret_R x1 x0 (1 : Int) u7) (affiantref1_secret_O x1 x0 (1 : Int) u7), .asis, .call [none] [] [] true (affiantref1_public_R u7 u9) (affiantref1_public_O u7 u9), .sel [1, 2, 3, 5] [0, 1, 4]]) (.c h2 (.c (rfl : ([] : List AObj) = []) (.c (affiantref1_secret_ok x1 x0 (0 : Int) u3 h4) (.c (rfl : ([] : List AObj) = []) (.c (affiantref1_public_ok u3 u5 h6) (.c (rfl : ([] : List AObj) = []) (.c (affiantref1_secret_ok x1 x0 (1 : Int) u7 h8) (.c (rfl : ([] : List AObj) = []) (.c (affiantref1_public_ok u7 u9 h10) (.c h11 .n)))))))))) (by kernel_rfl)
  · injection h with h; subst h
    exact ⟨by intro e; simp [affiantref1_Key_1_ex] at e, env.code (its := [.br false, .sel [2, 3] [1, 2]]) (.c h2 .n) (by kernel_rfl)⟩
theorem affiantref1_Key_1_ok (x0 : Int) (x1 : List UInt8) (x2 : List UInt8) (x3 : List (List UInt8)) (o : List UInt8 × List (List UInt8)) (h : affiantref1_Key_1 x0 x1 x2 x3 = some o) : CodeOK prog (codeAt (bodyOf f107) [1, 1, 0, 1, 0]) (affiantref1_Key_1_in x0 x1 x2 x3) (affiantref1_Key_1_ex o) (affiantref1_Key_1_st o) :=
  LoopOK.of_step (st := fun s => affiantref1_Key_1_in s.1 x1 x2 s.2) (ex := affiantref1_Key_1_ex) (stO := affiantref1_Key_1_st) (fun s s2 hs => affiantref1_Key_1_body s.1 x1 x2 s.2 (.inl s2) hs) (fun s r hs => affiantref1_Key_1_body s.1 x1 x2 s.2 (.inr r) hs) _ o h
def affiantref1_Key_R (a0 : List UInt8) (u : List UInt8) : Slot := (.v (.arr 32 (.int .u8)) u)
def affiantref1_Key_O (a0 : List UInt8) (u : List UInt8) : List AObj := []
theorem affiantref1_Key_ok (a0 : List UInt8) (u : List UInt8) (h : affiantref1_Key a0 = some u) : CallC prog 107 [(.v (.arr 32 (.int .u8)) a0)] [] (affiantref1_Key_R a0 u) (affiantref1_Key_O a0 u) := by
  unfold affiantref1_Key at h
  obtain ⟨o12, h13, h⟩ := andThen_some h
  obtain ⟨u14, h15, h⟩ := andThen_some h
  injection h with h; subst h
  exact env.fun func107 can107 (its := [.dive, .promote 3 (.arr 32 (.int .u8)), .sel [1, 2, 3, 5] [0, 1, 2], .part (affiantref1_Key_1_ex o12) (affiantref1_Key_1_st o12), .call [none] [] [1] true (affiantref1_key_R o12.2 u14) (affiantref1_key_O o12.2 u14)]) (pos := [.sel []]) (.c (affiantref1_Key_1_ok (0 : Int) a0 (List.replicate 32 (0 : UInt8)) ([] : List (List UInt8)) o12 h13) (.c (affiantref1_key_ok o12.2 u14 h15) .n)) (by kernel_rfl)
theorem can75 : Callable prog 75 := ⟨_, func75, by kernel_rfl, by kernel_rfl⟩
def affiantref1_Keys_1_in (x0 : Int) (x1 : List UInt8) (x2 : List (List UInt8)) : St := ⟨[(1, (.ptr 0 [])), (3, (.own 1 [])), (4, (.v (.int .i64) x0))], [.box (.arr 32 (.int .u8)) (.v (.arr 32 (.int .u8)) x1) true, .row (.slice (.int .u8)) x2 true], 19, 0⟩
def affiantref1_Keys_1_ex (o : List (List UInt8)) : Exit := (.exit 0)
def affiantref1_Keys_1_st (o : List (List UInt8)) : St := ⟨[(3, (.own 0 []))], [.row (.slice (.int .u8)) o true], 19, 0⟩
theorem affiantref1_Keys_1_body (x0 : Int) (x1 : List UInt8) (x2 : List (List UInt8)) : ∀ r, affiantref1_Keys_1_step x0 x1 x2 = some r → (match r with | .inl s => CodeOK prog (codeAt (bodyOf f75) [1, 1, 0, 1, 0, 0]) (affiantref1_Keys_1_in x0 x1 x2) .normal (affiantref1_Keys_1_in s.1 x1 s.2) | .inr o => affiantref1_Keys_1_ex o ≠ .normal ∧ CodeOK prog (codeAt (bodyOf f75) [1, 1, 0, 1, 0, 0]) (affiantref1_Keys_1_in x0 x1 x2) (affiantref1_Keys_1_ex o) (affiantref1_Keys_1_st o)) := by
  intro r h
  unfold affiantref1_Keys_1_step at h
  rcases fork_some h with ⟨h2, h⟩ | ⟨h2, h⟩
  · obtain ⟨u3, h4, h⟩ := andThen_some h
    obtain ⟨u5, h6, h⟩ := andThen_some h
    obtain ⟨h7, h⟩ := need_some h
    injection h with h; subst h
    exact env.code (its := [.br true, .call [none, none] [] [] true (affiantref1_seedOf_R x1 x0 u3) (affiantref1_seedOf_O x1 x0 u3), .call [none] [] [] true (affiantref1_Key_R u3 u5) (affiantref1_Key_O u3 u5), .br true, .sel [1, 3, 4] [0, 4]]) (.c h2 (.c (affiantref1_seedOf_ok x1 x0 u3 h4) (.c (affiantref1_Key_ok u3 u5 h6) (.c h7 .n)))) (by kernel_rfl)
  · injection h with h; subst h
    exact ⟨by intro e; simp [affiantref1_Keys_1_ex] at e, env.code (its := [.br false, .sel [3] [1]]) (.c h2 .n) (by kernel_rfl)⟩
theorem affiantref1_Keys_1_ok (x0 : Int) (x1 : List UInt8) (x2 : List (List UInt8)) (o : List (List UInt8)) (h : affiantref1_Keys_1 x0 x1 x2 = some o) : CodeOK prog (codeAt (bodyOf f75) [1, 1, 0, 1, 0]) (affiantref1_Keys_1_in x0 x1 x2) (affiantref1_Keys_1_ex o) (affiantref1_Keys_1_st o) :=
  LoopOK.of_step (st := fun s => affiantref1_Keys_1_in s.1 x1 s.2) (ex := affiantref1_Keys_1_ex) (stO := affiantref1_Keys_1_st) (fun s s2 hs => affiantref1_Keys_1_body s.1 x1 s.2 (.inl s2) hs) (fun s r hs => affiantref1_Keys_1_body s.1 x1 s.2 (.inr r) hs) _ o h
def affiantref1_Keys_R (a0 : List UInt8) (u : List (List UInt8)) : Slot := (.own 0 [])
def affiantref1_Keys_O (a0 : List UInt8) (u : List (List UInt8)) : List AObj := [.row (.slice (.int .u8)) u true]
theorem affiantref1_Keys_ok (a0 : List UInt8) (u : List (List UInt8)) (h : affiantref1_Keys a0 = some u) : CallC prog 75 [(.v (.arr 32 (.int .u8)) a0)] [] (affiantref1_Keys_R a0 u) (affiantref1_Keys_O a0 u) := by
  unfold affiantref1_Keys at h
  obtain ⟨o8, h9, h⟩ := andThen_some h
  injection h with h; subst h
  exact env.fun func75 can75 (its := [.dive, .promote 3 (.slice (.int .u8)), .sel [1, 3, 4] [0, 1], .part (affiantref1_Keys_1_ex o8) (affiantref1_Keys_1_st o8)]) (pos := [.sel [0]]) (.c (affiantref1_Keys_1_ok (1 : Int) a0 ([] : List (List UInt8)) o8 h9) .n) (by kernel_rfl)
theorem can76 : Callable prog 76 := ⟨_, func76, by kernel_rfl, by kernel_rfl⟩
def affiantref1_half_1_in (x0 : Int) (x1 : Int) : St := ⟨[(0, (.v (.int .i64) x0)), (3, (.v (.int .i64) x1))], [], 11, 0⟩
def affiantref1_half_1_ex (o : Int) : Exit := (.exit 0)
def affiantref1_half_1_st (o : Int) : St := ⟨[(3, (.v (.int .i64) o))], [], 11, 0⟩
theorem affiantref1_half_1_body (x0 : Int) (x1 : Int) : ∀ r, affiantref1_half_1_step x0 x1 = some r → (match r with | .inl s => CodeOK prog (codeAt (bodyOf f76) [1, 1, 0, 0, 0]) (affiantref1_half_1_in x0 x1) .normal (affiantref1_half_1_in x0 s) | .inr o => affiantref1_half_1_ex o ≠ .normal ∧ CodeOK prog (codeAt (bodyOf f76) [1, 1, 0, 0, 0]) (affiantref1_half_1_in x0 x1) (affiantref1_half_1_ex o) (affiantref1_half_1_st o)) := by
  intro r h
  unfold affiantref1_half_1_step at h
  rcases fork_some h with ⟨h2, h⟩ | ⟨h2, h⟩
  · injection h with h; subst h
    exact env.code (its := [.br true, .dive, .sel [0, 3] []]) (.c h2 .n) (by kernel_rfl)
  · injection h with h; subst h
    exact ⟨by intro e; simp [affiantref1_half_1_ex] at e, env.code (its := [.br false, .sel [3] []]) (.c h2 .n) (by kernel_rfl)⟩
theorem affiantref1_half_1_ok (x0 : Int) (x1 : Int) (o : Int) (h : affiantref1_half_1 x0 x1 = some o) : CodeOK prog (codeAt (bodyOf f76) [1, 1, 0, 0]) (affiantref1_half_1_in x0 x1) (affiantref1_half_1_ex o) (affiantref1_half_1_st o) :=
  LoopOK.of_step (st := fun s => affiantref1_half_1_in x0 s) (ex := affiantref1_half_1_ex) (stO := affiantref1_half_1_st) (fun s s2 hs => affiantref1_half_1_body x0 s (.inl s2) hs) (fun s r hs => affiantref1_half_1_body x0 s (.inr r) hs) _ o h
def affiantref1_half_R (a0 : Int) (u : Int) : Slot := (.v (.int .i64) u)
def affiantref1_half_O (a0 : Int) (u : Int) : List AObj := []
theorem affiantref1_half_ok (a0 : Int) (u : Int) (h : affiantref1_half a0 = some u) : CallC prog 76 [(.v (.int .i64) a0)] [] (affiantref1_half_R a0 u) (affiantref1_half_O a0 u) := by
  unfold affiantref1_half at h
  obtain ⟨o3, h4, h⟩ := andThen_some h
  injection h with h; subst h
  exact env.fun func76 can76 (its := [.dive, .sel [0, 3] [], .part (affiantref1_half_1_ex o3) (affiantref1_half_1_st o3)]) (pos := [.sel []]) (.c (affiantref1_half_1_ok a0 (1 : Int) o3 h4) .n) (by kernel_rfl)
theorem can48 : Callable prog 48 := ⟨_, func48, by kernel_rfl, by kernel_rfl⟩
def affiantref1_Root_R (a0 : List (List UInt8)) (u : List UInt8) : Slot := (.v (.arr 32 (.int .u8)) u)
def affiantref1_Root_O (a0 : List (List UInt8)) (u : List UInt8) : List AObj := []
theorem affiantref1_Root_f_ok : ∀ (k : Nat) (a0 : List (List UInt8)) (u : List UInt8) (h : affiantref1_Root_f k a0 = some u), CallC prog 48 [(.v (.slice (.slice (.int .u8))) a0)] [] (affiantref1_Root_R a0 u) (affiantref1_Root_O a0 u)
  | 0, a0, u, h => by cases h
  | k + 1, a0, u, h => by
    unfold affiantref1_Root_f at h
    rcases fork_some h with ⟨h1, h⟩ | ⟨h1, h⟩
    · obtain ⟨u2, h3, h⟩ := andThen_some h
      injection h with h; subst h
      exact env.fun func48 can48 (its := [.br true, .call [none, (some (.slice (.int .u8)))] [] [] true (affiantref1_Tagged_R (2 : UInt8) ([] : List (List UInt8)) u2) (affiantref1_Tagged_O (2 : UInt8) ([] : List (List UInt8)) u2)]) (pos := [.sel []]) (.c h1 (.c (affiantref1_Tagged_ok (2 : UInt8) ([] : List (List UInt8)) u2 h3) .n)) (by kernel_rfl)
    · rcases fork_some h with ⟨h4, h⟩ | ⟨h4, h⟩
      · obtain ⟨h5, h⟩ := need_some h
        obtain ⟨u6, h7, h⟩ := andThen_some h
        injection h with h; subst h
        exact env.fun func48 can48 (its := [.br false, .br true, .call [none, none] [] [1] true (affiantref1_Tagged_R (0 : UInt8) ([(List.getD a0 (Int.toNat (0 : Int)) ([] : List UInt8))] : List (List UInt8)) u6) (affiantref1_Tagged_O (0 : UInt8) ([(List.getD a0 (Int.toNat (0 : Int)) ([] : List UInt8))] : List (List UInt8)) u6)]) (pos := [.sel []]) (.c h1 (.c h4 (.c h5 (.c (affiantref1_Tagged_ok (0 : UInt8) ([(List.getD a0 (Int.toNat (0 : Int)) ([] : List UInt8))] : List (List UInt8)) u6 h7) .n)))) (by kernel_rfl)
      · obtain ⟨u8, h9, h⟩ := andThen_some h
        obtain ⟨h10, h⟩ := need_some h
        obtain ⟨u11, h12, h⟩ := andThen_some h
        obtain ⟨h13, h⟩ := need_some h
        obtain ⟨u14, h15, h⟩ := andThen_some h
        obtain ⟨u16, h17, h⟩ := andThen_some h
        injection h with h; subst h
        exact env.fun func48 can48 (its := [.br false, .br false, .call [none] [] [] true (affiantref1_half_R (List.length a0 : Int) u8) (affiantref1_half_O (List.length a0 : Int) u8), .pre [[], [], [0, 1], [0, 1, 2], [], [], [4, 5], [0, 1, 2, 3, 4, 5, 6], [], [], [0, 1, 2, 3, 4, 5, 6, 7, 8, 9], [0, 1, 2, 3, 4, 5, 6, 7, 8, 9, 10]], .br false, .asis, .call [none] [] [] true (affiantref1_Root_R (cutL a0 (0 : Int) u8) u11) (affiantref1_Root_O (cutL a0 (0 : Int) u8) u11), .br false, .asis, .call [none] [] [] true (affiantref1_Root_R (cutL a0 u8 (List.length a0 : Int)) u14) (affiantref1_Root_O (cutL a0 u8 (List.length a0 : Int)) u14), .pre [[], [], [0, 1], [0, 1, 2], [0, 1, 2, 3]], .br true, .br true, .asis, .call [none, none] [] [0] true (affiantref1_Tagged_R (1 : UInt8) ([u11, u14] : List (List UInt8)) u16) (affiantref1_Tagged_O (1 : UInt8) ([u11, u14] : List (List UInt8)) u16)]) (pos := [.sel []]) (.c h1 (.c h4 (.c (affiantref1_half_ok (List.length a0 : Int) u8 h9) (.c h10 (.c (rfl : ([] : List AObj) = []) (.c (affiantref1_Root_f_ok k (cutL a0 (0 : Int) u8) u11 h12) (.c h13 (.c (rfl : ([] : List AObj) = []) (.c (affiantref1_Root_f_ok k (cutL a0 u8 (List.length a0 : Int)) u14 h15) (.c (rfl : ([.row (.slice (.int .u8)) ([u11, u14] : List (List UInt8)) true] : List AObj) = [.row (.slice (.int .u8)) ([u11, u14] : List (List UInt8)) true]) (.c (affiantref1_Tagged_ok (1 : UInt8) ([u11, u14] : List (List UInt8)) u16 h17) .n))))))))))) (by kernel_rfl)
theorem affiantref1_Root_ok (a0 : List (List UInt8)) (u : List UInt8) (h : affiantref1_Root a0 = some u) : CallC prog 48 [(.v (.slice (.slice (.int .u8))) a0)] [] (affiantref1_Root_R a0 u) (affiantref1_Root_O a0 u) := affiantref1_Root_f_ok 64 a0 u h
theorem can65 : Callable prog 65 := ⟨_, func65, by kernel_rfl, by kernel_rfl⟩
def affiantref1_Ident_R (a0 : List UInt8) (u : List UInt8) : Slot := (.v (.arr 32 (.int .u8)) u)
def affiantref1_Ident_O (a0 : List UInt8) (u : List UInt8) : List AObj := []
theorem affiantref1_Ident_ok (a0 : List UInt8) (u : List UInt8) (h : affiantref1_Ident a0 = some u) : CallC prog 65 [(.v (.arr 32 (.int .u8)) a0)] [] (affiantref1_Ident_R a0 u) (affiantref1_Ident_O a0 u) := by
  unfold affiantref1_Ident at h
  obtain ⟨u1, h2, h⟩ := andThen_some h
  obtain ⟨u3, h4, h⟩ := andThen_some h
  injection h with h; subst h
  exact env.fun func65 can65 (its := [.call [none] [] [] false (affiantref1_Keys_R a0 u1) (affiantref1_Keys_O a0 u1), .call [none] [] [2] true (affiantref1_Root_R u1 u3) (affiantref1_Root_O u1 u3)]) (pos := [.sel []]) (.c (affiantref1_Keys_ok a0 u1 h2) (.c (affiantref1_Root_ok u1 u3 h4) .n)) (by kernel_rfl)
theorem can37 : Callable prog 37 := ⟨_, func37, by kernel_rfl, by kernel_rfl⟩
def affiantkeep_KeyOf_R (a0 : Int) (u : List UInt8) : Slot := (.v (.arr 32 (.int .u8)) u)
def affiantkeep_KeyOf_O (a0 : Int) (u : List UInt8) : List AObj := []
theorem affiantkeep_KeyOf_ok (a0 : Int) (u : List UInt8) (h : affiantkeep_KeyOf a0 = some u) : CallC prog 37 [(.v (.int .i64) a0)] [] (affiantkeep_KeyOf_R a0 u) (affiantkeep_KeyOf_O a0 u) := by
  unfold affiantkeep_KeyOf at h
  obtain ⟨u1, h2, h⟩ := andThen_some h
  obtain ⟨u3, h4, h⟩ := andThen_some h
  injection h with h; subst h
  exact env.fun func37 can37 (its := [.call [none] [] [] true (affiantkeep_Seed_R a0 u1) (affiantkeep_Seed_O a0 u1), .call [none] [] [] true (affiantref1_Ident_R u1 u3) (affiantref1_Ident_O u1 u3)]) (pos := [.sel []]) (.c (affiantkeep_Seed_ok a0 u1 h2) (.c (affiantref1_Ident_ok u1 u3 h4) .n)) (by kernel_rfl)
theorem can9 : Callable prog 9 := ⟨_, func9, by kernel_rfl, by kernel_rfl⟩
def affiantkeep_Ringed_1_in (x0 : Int) (x1 : Int) (x2 : List (List UInt8 × Int × List UInt8 × Unit)) : St := ⟨[(3, (.own 0 [])), (8, (.v (.int .i64) x0)), (9, (.v (.int .i64) x1))], [.row (.fld .str (.fld (.int .i64) (.fld (.arr 32 (.int .u8)) .unit))) x2 true], 20, 0⟩
def affiantkeep_Ringed_1_ex (o : List (List UInt8 × Int × List UInt8 × Unit)) : Exit := (.exit 0)
def affiantkeep_Ringed_1_st (o : List (List UInt8 × Int × List UInt8 × Unit)) : St := ⟨[(3, (.own 0 []))], [.row (.fld .str (.fld (.int .i64) (.fld (.arr 32 (.int .u8)) .unit))) o true], 20, 0⟩
theorem affiantkeep_Ringed_1_body (x0 : Int) (x1 : Int) (x2 : List (List UInt8 × Int × List UInt8 × Unit)) : ∀ r, affiantkeep_Ringed_1_step x0 x1 x2 = some r → (match r with | .inl s => CodeOK prog (codeAt (bodyOf f9) [1, 1, 0, 1, 0, 0]) (affiantkeep_Ringed_1_in x0 x1 x2) .normal (affiantkeep_Ringed_1_in x0 s.1 s.2) | .inr o => affiantkeep_Ringed_1_ex o ≠ .normal ∧ CodeOK prog (codeAt (bodyOf f9) [1, 1, 0, 1, 0, 0]) (affiantkeep_Ringed_1_in x0 x1 x2) (affiantkeep_Ringed_1_ex o) (affiantkeep_Ringed_1_st o)) := by
  intro r h
  unfold affiantkeep_Ringed_1_step at h
  rcases fork_some h with ⟨h4, h⟩ | ⟨h4, h⟩
  · obtain ⟨u5, h6, h⟩ := andThen_some h
    obtain ⟨h7, h⟩ := need_some h
    injection h with h; subst h
    exact env.code (its := [.br true, .call [none] [] [] true (affiantkeep_KeyOf_R x1 u5) (affiantkeep_KeyOf_O x1 u5), .sel [3, 8, 9] [0]]) (.c h4 (.c (affiantkeep_KeyOf_ok x1 u5 h6) (.c h7 .n))) (by kernel_rfl)
  · injection h with h; subst h
    exact ⟨by intro e; simp [affiantkeep_Ringed_1_ex] at e, env.code (its := [.br false, .sel [3] [0]]) (.c h4 .n) (by kernel_rfl)⟩
theorem affiantkeep_Ringed_1_ok (x0 : Int) (x1 : Int) (x2 : List (List UInt8 × Int × List UInt8 × Unit)) (o : List (List UInt8 × Int × List UInt8 × Unit)) (h : affiantkeep_Ringed_1 x0 x1 x2 = some o) : CodeOK prog (codeAt (bodyOf f9) [1, 1, 0, 1, 0]) (affiantkeep_Ringed_1_in x0 x1 x2) (affiantkeep_Ringed_1_ex o) (affiantkeep_Ringed_1_st o) :=
  LoopOK.of_step (st := fun s => affiantkeep_Ringed_1_in x0 s.1 s.2) (ex := affiantkeep_Ringed_1_ex) (stO := affiantkeep_Ringed_1_st) (fun s s2 hs => affiantkeep_Ringed_1_body x0 s.1 s.2 (.inl s2) hs) (fun s r hs => affiantkeep_Ringed_1_body x0 s.1 s.2 (.inr r) hs) _ o h
def affiantkeep_Ringed_R (a0 : List Int) (u : List (List UInt8 × Int × List UInt8 × Unit)) : Slot := (.own 0 [])
def affiantkeep_Ringed_O (a0 : List Int) (u : List (List UInt8 × Int × List UInt8 × Unit)) : List AObj := [.row (.fld .str (.fld (.int .i64) (.fld (.arr 32 (.int .u8)) .unit))) u true]
theorem affiantkeep_Ringed_ok (a0 : List Int) (u : List (List UInt8 × Int × List UInt8 × Unit)) (h : affiantkeep_Ringed a0 = some u) : CallC prog 9 [(.v (.slice (.int .i64)) a0)] [] (affiantkeep_Ringed_R a0 u) (affiantkeep_Ringed_O a0 u) := by
  unfold affiantkeep_Ringed at h
  obtain ⟨u1, h2, h⟩ := andThen_some h
  obtain ⟨o8, h9, h⟩ := andThen_some h
  injection h with h; subst h
  exact env.fun func9 can9 (its := [.call [none] [] [] true (affiantkeep_Set_R a0 u1) (affiantkeep_Set_O a0 u1), .dive, .sel [3, 8, 9] [0], .part (affiantkeep_Ringed_1_ex o8) (affiantkeep_Ringed_1_st o8)]) (pos := [.sel [0]]) (.c (affiantkeep_Set_ok a0 u1 h2) (.c (affiantkeep_Ringed_1_ok (List.length u1 : Int) (0 : Int) u1 o8 h9) .n)) (by kernel_rfl)
theorem can38 : Callable prog 38 := ⟨_, func38, by kernel_rfl, by kernel_rfl⟩
def affiantkeep_hash_R (a0 : Int) (u : List UInt8) : Slot := (.v (.arr 32 (.int .u8)) u)
def affiantkeep_hash_O (a0 : Int) (u : List UInt8) : List AObj := []
theorem affiantkeep_hash_ok (a0 : Int) (u : List UInt8) (h : affiantkeep_hash a0 = some u) : CallC prog 38 [(.v (.int .i64) a0)] [] (affiantkeep_hash_R a0 u) (affiantkeep_hash_O a0 u) := by
  unfold affiantkeep_hash at h
  injection h with h; subst h
  exact env.fun func38 can38 (its := []) (pos := [.sel []]) (.c (of_decide_eq_true (p := (0 ≤ (8 : Int))) (by kernel_rfl)) .n) (by kernel_rfl)
theorem can10 : Callable prog 10 := ⟨_, func10, by kernel_rfl, by kernel_rfl⟩
def affiantkeep_Head_Header_R (a0 : Int × Int × Int × Int × Int × Int × Unit) (u : Int × Int × List UInt8 × List UInt8 × List UInt8 × List UInt8 × Unit) : Slot := (.v (.fld (.int .i64) (.fld (.int .i64) (.fld (.arr 32 (.int .u8)) (.fld (.arr 32 (.int .u8)) (.fld (.arr 32 (.int .u8)) (.fld (.arr 32 (.int .u8)) .unit)))))) u)
def affiantkeep_Head_Header_O (a0 : Int × Int × Int × Int × Int × Int × Unit) (u : Int × Int × List UInt8 × List UInt8 × List UInt8 × List UInt8 × Unit) : List AObj := []
theorem affiantkeep_Head_Header_ok (a0 : Int × Int × Int × Int × Int × Int × Unit) (u : Int × Int × List UInt8 × List UInt8 × List UInt8 × List UInt8 × Unit) (h : affiantkeep_Head_Header a0 = some u) : CallC prog 10 [(.v (.fld (.int .i64) (.fld (.int .i64) (.fld (.int .i64) (.fld (.int .i64) (.fld (.int .i64) (.fld (.int .i64) .unit)))))) a0)] [] (affiantkeep_Head_Header_R a0 u) (affiantkeep_Head_Header_O a0 u) := by
  unfold affiantkeep_Head_Header at h
  obtain ⟨u1, h2, h⟩ := andThen_some h
  obtain ⟨u3, h4, h⟩ := andThen_some h
  obtain ⟨u5, h6, h⟩ := andThen_some h
  obtain ⟨u7, h8, h⟩ := andThen_some h
  obtain ⟨u9, h10, h⟩ := andThen_some h
  obtain ⟨u11, h12, h⟩ := andThen_some h
  injection h with h; subst h
  exact env.fun func10 can10 (its := [.pre [[], [0], [0, 1], [], [3], [0, 1, 2, 3, 4], [], [6], [0, 1, 2, 3, 4, 5, 6, 7], [], [9], [0, 1, 2, 3, 4, 5, 6, 7, 8, 9, 10], [], [12], [0, 1, 2, 3, 4, 5, 6, 7, 8, 9, 10, 11, 12, 13], [], [15], [0, 1, 2, 3, 4, 5, 6, 7, 8, 9, 10, 11, 12, 13, 14, 15, 16], [0, 1, 2, 3, 4, 5, 6, 7, 8, 9, 10, 11, 12, 13, 14, 15, 16, 17], [0, 1, 2, 3, 4, 5, 6, 7, 8, 9, 10, 11, 12, 13, 14, 15, 16, 17, 18]], .asis, .call [none, none, none] [] [] true (affiantbook_Within_R a0.1 (1 : Int) (16 : Int) u1) (affiantbook_Within_O a0.1 (1 : Int) (16 : Int) u1), .asis, .call [none, none, none] [] [] true (affiantbook_Within_R a0.2.1 (0 : Int) (500 : Int) u3) (affiantbook_Within_O a0.2.1 (0 : Int) (500 : Int) u3), .asis, .call [none] [] [] true (affiantkeep_hash_R a0.2.2.1 u5) (affiantkeep_hash_O a0.2.2.1 u5), .asis, .call [none] [] [] true (affiantkeep_hash_R a0.2.2.2.1 u7) (affiantkeep_hash_O a0.2.2.2.1 u7), .asis, .call [none] [] [] true (affiantkeep_hash_R a0.2.2.2.2.1 u9) (affiantkeep_hash_O a0.2.2.2.2.1 u9), .asis, .call [none] [] [] true (affiantkeep_hash_R a0.2.2.2.2.2.1 u11) (affiantkeep_hash_O a0.2.2.2.2.2.1 u11)]) (pos := [.sel []]) (.c (rfl : ([] : List AObj) = []) (.c (affiantbook_Within_ok a0.1 (1 : Int) (16 : Int) u1 h2) (.c (rfl : ([] : List AObj) = []) (.c (affiantbook_Within_ok a0.2.1 (0 : Int) (500 : Int) u3 h4) (.c (rfl : ([] : List AObj) = []) (.c (affiantkeep_hash_ok a0.2.2.1 u5 h6) (.c (rfl : ([] : List AObj) = []) (.c (affiantkeep_hash_ok a0.2.2.2.1 u7 h8) (.c (rfl : ([] : List AObj) = []) (.c (affiantkeep_hash_ok a0.2.2.2.2.1 u9 h10) (.c (rfl : ([] : List AObj) = []) (.c (affiantkeep_hash_ok a0.2.2.2.2.2.1 u11 h12) .n)))))))))))) (by kernel_rfl)
theorem can117 : Callable prog 117 := ⟨_, func117, by kernel_rfl, by kernel_rfl⟩
def sha_first_R  (u : List UInt32) : Slot := (.v (.arr 8 (.int .u32)) u)
def sha_first_O  (u : List UInt32) : List AObj := []
theorem sha_first_ok  (u : List UInt32) (h : sha_first  = some u) : CallC prog 117 [] [] (sha_first_R u) (sha_first_O u) := by
  unfold sha_first at h
  injection h with h; subst h
  exact env.fun func117 can117 (its := []) (pos := [.sel []]) .n (by kernel_rfl)
theorem can118 : Callable prog 118 := ⟨_, func118, by kernel_rfl, by kernel_rfl⟩
def sha_added_R  (u : List UInt32) : Slot := (.v (.arr 64 (.int .u32)) u)
def sha_added_O  (u : List UInt32) : List AObj := []
theorem sha_added_ok  (u : List UInt32) (h : sha_added  = some u) : CallC prog 118 [] [] (sha_added_R u) (sha_added_O u) := by
  unfold sha_added at h
  injection h with h; subst h
  exact env.fun func118 can118 (its := []) (pos := [.sel []]) .n (by kernel_rfl)
theorem can122 : Callable prog 122 := ⟨_, func122, by kernel_rfl, by kernel_rfl⟩
def sha_Blocks_R (a0 : Int) (u : Int) : Slot := (.v (.int .i64) u)
def sha_Blocks_O (a0 : Int) (u : Int) : List AObj := []
theorem sha_Blocks_ok (a0 : Int) (u : Int) (h : sha_Blocks a0 = some u) : CallC prog 122 [(.v (.int .i64) a0)] [] (sha_Blocks_R a0 u) (sha_Blocks_O a0 u) := by
  unfold sha_Blocks at h
  injection h with h; subst h
  exact env.fun func122 can122 (its := []) (pos := [.sel []]) (.c (of_decide_eq_true (p := ((64 : Int) ≠ 0)) (by kernel_rfl)) .n) (by kernel_rfl)
theorem can119 : Callable prog 119 := ⟨_, func119, by kernel_rfl, by kernel_rfl⟩
def sha_padded_1_in (x0 : UInt64) (x1 : Int) (x2 : List UInt8) : St := ⟨[(3, (.own 0 [])), (4, (.v (.int .u64) x0)), (22, (.v (.int .i64) x1))], [.row (.int .u8) x2 true], 39, 0⟩
def sha_padded_1_ex (o : List UInt8) : Exit := (.exit 0)
def sha_padded_1_st (o : List UInt8) : St := ⟨[(3, (.own 0 []))], [.row (.int .u8) o true], 39, 0⟩
theorem sha_padded_1_body (x0 : UInt64) (x1 : Int) (x2 : List UInt8) : ∀ r, sha_padded_1_step x0 x1 x2 = some r → (match r with | .inl s => CodeOK prog (codeAt (bodyOf f119) [1, 1, 1, 1, 1, 0, 1, 0, 0]) (sha_padded_1_in x0 x1 x2) .normal (sha_padded_1_in x0 s.1 s.2) | .inr o => sha_padded_1_ex o ≠ .normal ∧ CodeOK prog (codeAt (bodyOf f119) [1, 1, 1, 1, 1, 0, 1, 0, 0]) (sha_padded_1_in x0 x1 x2) (sha_padded_1_ex o) (sha_padded_1_st o)) := by
  intro r h
  unfold sha_padded_1_step at h
  rcases fork_some h with ⟨h6, h⟩ | ⟨h6, h⟩
  · obtain ⟨h7, h⟩ := need_some h
    obtain ⟨h8, h⟩ := need_some h
    injection h with h; subst h
    exact env.code (its := [.br true, .dive, .sel [3, 4, 22] [0]]) (.c h6 (.c h7 (.c h8 .n))) (by kernel_rfl)
  · injection h with h; subst h
    exact ⟨by intro e; simp [sha_padded_1_ex] at e, env.code (its := [.br false, .sel [3] [0]]) (.c h6 .n) (by kernel_rfl)⟩
theorem sha_padded_1_ok (x0 : UInt64) (x1 : Int) (x2 : List UInt8) (o : List UInt8) (h : sha_padded_1 x0 x1 x2 = some o) : CodeOK prog (codeAt (bodyOf f119) [1, 1, 1, 1, 1, 0, 1, 0]) (sha_padded_1_in x0 x1 x2) (sha_padded_1_ex o) (sha_padded_1_st o) :=
  LoopOK.of_step (st := fun s => sha_padded_1_in x0 s.1 s.2) (ex := sha_padded_1_ex) (stO := sha_padded_1_st) (fun s s2 hs => sha_padded_1_body x0 s.1 s.2 (.inl s2) hs) (fun s r hs => sha_padded_1_body x0 s.1 s.2 (.inr r) hs) _ o h
def sha_padded_R (a0 : List UInt8) (u : List UInt8) : Slot := (.own 0 [])
def sha_padded_O (a0 : List UInt8) (u : List UInt8) : List AObj := [.row (.int .u8) u true]
theorem sha_padded_ok (a0 : List UInt8) (u : List UInt8) (h : sha_padded a0 = some u) : CallC prog 119 [(.v (.slice (.int .u8)) a0)] [] (sha_padded_R a0 u) (sha_padded_O a0 u) := by
  unfold sha_padded at h
  obtain ⟨u1, h2, h⟩ := andThen_some h
  obtain ⟨h3, h⟩ := need_some h
  obtain ⟨h4, h⟩ := need_some h
  obtain ⟨o9, h10, h⟩ := andThen_some h
  injection h with h; subst h
  exact env.fun func119 can119 (its := [.call [none] [] [] true (sha_Blocks_R (List.length a0 : Int) u1) (sha_Blocks_O (List.length a0 : Int) u1), .dive, .sel [3, 4, 22] [0], .part (sha_padded_1_ex o9) (sha_padded_1_st o9)]) (pos := [.sel [0]]) (.c (sha_Blocks_ok (List.length a0 : Int) u1 h2) (.c h3 (.c h4 (.c (sha_padded_1_ok ((UInt64.ofNat (Int.toNat ((List.length a0 : Int) % 18446744073709551616))) * (8 : UInt64)) (0 : Int) (List.set (List.take (List.length (List.replicate (Int.toNat (w64 (u1 * (64 : Int)))) (0 : UInt8))) a0 ++ List.drop (List.length a0) (List.replicate (Int.toNat (w64 (u1 * (64 : Int)))) (0 : UInt8))) (Int.toNat (List.length a0 : Int)) (128 : UInt8)) o9 h10) .n)))) (by kernel_rfl)
theorem can125 : Callable prog 125 := ⟨_, func125, by kernel_rfl, by kernel_rfl⟩
def bits_RotateLeft32_R (a0 : UInt32) (a1 : Int) (u : UInt32) : Slot := (.v (.int .u32) u)
def bits_RotateLeft32_O (a0 : UInt32) (a1 : Int) (u : UInt32) : List AObj := []
theorem bits_RotateLeft32_ok (a0 : UInt32) (a1 : Int) (u : UInt32) (h : bits_RotateLeft32 a0 a1 = some u) : CallC prog 125 [(.v (.int .u32) a0), (.v (.int .i64) a1)] [] (bits_RotateLeft32_R a0 a1 u) (bits_RotateLeft32_O a0 a1 u) := by
  unfold bits_RotateLeft32 at h
  obtain ⟨h1, h⟩ := need_some h
  obtain ⟨h2, h⟩ := need_some h
  injection h with h; subst h
  exact env.fun func125 can125 (its := []) (pos := [.sel []]) (.c h1 (.c h2 .n)) (by kernel_rfl)
theorem can124 : Callable prog 124 := ⟨_, func124, by kernel_rfl, by kernel_rfl⟩
def sha_right_R (a0 : UInt32) (a1 : Int) (u : UInt32) : Slot := (.v (.int .u32) u)
def sha_right_O (a0 : UInt32) (a1 : Int) (u : UInt32) : List AObj := []
theorem sha_right_ok (a0 : UInt32) (a1 : Int) (u : UInt32) (h : sha_right a0 a1 = some u) : CallC prog 124 [(.v (.int .u32) a0), (.v (.int .i64) a1)] [] (sha_right_R a0 a1 u) (sha_right_O a0 a1 u) := by
  unfold sha_right at h
  obtain ⟨u1, h2, h⟩ := andThen_some h
  injection h with h; subst h
  exact env.fun func124 can124 (its := [.call [none, none] [] [] true (bits_RotateLeft32_R a0 (w64 (0 - a1)) u1) (bits_RotateLeft32_O a0 (w64 (0 - a1)) u1)]) (pos := [.sel []]) (.c (bits_RotateLeft32_ok a0 (w64 (0 - a1)) u1 h2) .n) (by kernel_rfl)
theorem can123 : Callable prog 123 := ⟨_, func123, by kernel_rfl, by kernel_rfl⟩
def sha_spread_1_in (x0 : List UInt8) (x1 : Int) (x2 : List UInt32) (x3 : List UInt32) : St := ⟨[(0, (.v (.slice (.int .u8)) x0)), (2, (.ptr 0 [])), (3, (.ptr 1 [])), (8, (.v (.int .i64) x1))], [.box (.arr 64 (.int .u32)) (.v (.arr 64 (.int .u32)) x2) true, .box (.arr 64 (.int .u32)) (.v (.arr 64 (.int .u32)) x3) true], 89, 0⟩
def sha_spread_1_ex (o : List UInt32 × List UInt32) : Exit := (.exit 0)
def sha_spread_1_st (o : List UInt32 × List UInt32) : St := ⟨[(2, (.ptr 0 [])), (3, (.ptr 1 []))], [.box (.arr 64 (.int .u32)) (.v (.arr 64 (.int .u32)) o.1) true, .box (.arr 64 (.int .u32)) (.v (.arr 64 (.int .u32)) o.2) true], 89, 0⟩
theorem sha_spread_1_body (x0 : List UInt8) (x1 : Int) (x2 : List UInt32) (x3 : List UInt32) : ∀ r, sha_spread_1_step x0 x1 x2 x3 = some r → (match r with | .inl s => CodeOK prog (codeAt (bodyOf f123) [1, 1, 0, 1, 0, 0]) (sha_spread_1_in x0 x1 x2 x3) .normal (sha_spread_1_in x0 s.1 x2 s.2) | .inr o => sha_spread_1_ex o ≠ .normal ∧ CodeOK prog (codeAt (bodyOf f123) [1, 1, 0, 1, 0, 0]) (sha_spread_1_in x0 x1 x2 x3) (sha_spread_1_ex o) (sha_spread_1_st o)) := by
  intro r h
  unfold sha_spread_1_step at h
  rcases fork_some h with ⟨h2, h⟩ | ⟨h2, h⟩
  · obtain ⟨h3, h⟩ := need_some h
    obtain ⟨h4, h⟩ := need_some h
    obtain ⟨h5, h⟩ := need_some h
    obtain ⟨h6, h⟩ := need_some h
    obtain ⟨h7, h⟩ := need_some h
    injection h with h; subst h
    exact env.code (its := [.br true, .pre [[], [], [], [2], [1, 2, 3], [1, 2, 3, 4], [1, 2, 3, 4, 5], [1, 2, 3, 4, 5, 6], [], [], [9], [9, 10], [8, 9, 10, 11], [8, 9, 10, 11, 12], [8, 9, 10, 11, 12, 13], [8, 9, 10, 11, 12, 13, 14], [1, 2, 3, 4, 5, 6, 7, 8, 9, 10, 11, 12, 13, 14, 15], [], [], [18], [18, 19], [17, 18, 19, 20], [17, 18, 19, 20, 21], [17, 18, 19, 20, 21, 22], [17, 18, 19, 20, 21, 22, 23], [1, 2, 3, 4, 5, 6, 7, 8, 9, 10, 11, 12, 13, 14, 15, 16, 17, 18, 19, 20, 21, 22, 23, 24], [], [], [27], [27, 28], [26, 27, 28, 29], [26, 27, 28, 29, 30], [26, 27, 28, 29, 30, 31], [1, 2, 3, 4, 5, 6, 7, 8, 9, 10, 11, 12, 13, 14, 15, 16, 17, 18, 19, 20, 21, 22, 23, 24, 25, 26, 27, 28, 29, 30, 31, 32], [0, 1, 2, 3, 4, 5, 6, 7, 8, 9, 10, 11, 12, 13, 14, 15, 16, 17, 18, 19, 20, 21, 22, 23, 24, 25, 26, 27, 28, 29, 30, 31, 32, 33], [0, 1, 2, 3, 4, 5, 6, 7, 8, 9, 10, 11, 12, 13, 14, 15, 16, 17, 18, 19, 20, 21, 22, 23, 24, 25, 26, 27, 28, 29, 30, 31, 32, 33, 34]], .sel [0, 2, 3, 8] [0, 1]]) (.c h2 (.c h3 (.c (of_decide_eq_true (p := (0 ≤ (24 : Int))) (by kernel_rfl)) (.c h4 (.c (of_decide_eq_true (p := (0 ≤ (16 : Int))) (by kernel_rfl)) (.c h5 (.c (of_decide_eq_true (p := (0 ≤ (8 : Int))) (by kernel_rfl)) (.c h6 (.c h7 .n))))))))) (by kernel_rfl)
  · injection h with h; subst h
    exact ⟨by intro e; simp [sha_spread_1_ex] at e, env.code (its := [.br false, .sel [2, 3] [0, 1]]) (.c h2 .n) (by kernel_rfl)⟩
theorem sha_spread_1_ok (x0 : List UInt8) (x1 : Int) (x2 : List UInt32) (x3 : List UInt32) (o : List UInt32 × List UInt32) (h : sha_spread_1 x0 x1 x2 x3 = some o) : CodeOK prog (codeAt (bodyOf f123) [1, 1, 0, 1, 0]) (sha_spread_1_in x0 x1 x2 x3) (sha_spread_1_ex o) (sha_spread_1_st o) :=
  LoopOK.of_step (st := fun s => sha_spread_1_in x0 s.1 x2 s.2) (ex := sha_spread_1_ex) (stO := sha_spread_1_st) (fun s s2 hs => sha_spread_1_body x0 s.1 x2 s.2 (.inl s2) hs) (fun s r hs => sha_spread_1_body x0 s.1 x2 s.2 (.inr r) hs) _ o h
def sha_spread_2_in (x0 : Int) (x1 : List UInt32) (x2 : List UInt32) : St := ⟨[(2, (.ptr 0 [])), (3, (.ptr 1 [])), (5, (.v (.int .i64) x0))], [.box (.arr 64 (.int .u32)) (.v (.arr 64 (.int .u32)) x1) true, .box (.arr 64 (.int .u32)) (.v (.arr 64 (.int .u32)) x2) true], 89, 0⟩
def sha_spread_2_ex (o : List UInt32 × List UInt32) : Exit := (.exit 2)
def sha_spread_2_st (o : List UInt32 × List UInt32) : St := ⟨[(2, (.ptr 0 [])), (3, (.ptr 1 []))], [.box (.arr 64 (.int .u32)) (.v (.arr 64 (.int .u32)) o.1) true, .box (.arr 64 (.int .u32)) (.v (.arr 64 (.int .u32)) o.2) true], 89, 0⟩
theorem sha_spread_2_body (x0 : Int) (x1 : List UInt32) (x2 : List UInt32) : ∀ r, sha_spread_2_step x0 x1 x2 = some r → (match r with | .inl s => CodeOK prog (codeAt (bodyOf f123) [1, 1, 1, 0, 1, 0, 0]) (sha_spread_2_in x0 x1 x2) .normal (sha_spread_2_in s.1 x1 s.2) | .inr o => sha_spread_2_ex o ≠ .normal ∧ CodeOK prog (codeAt (bodyOf f123) [1, 1, 1, 0, 1, 0, 0]) (sha_spread_2_in x0 x1 x2) (sha_spread_2_ex o) (sha_spread_2_st o)) := by
  intro r h
  unfold sha_spread_2_step at h
  rcases fork_some h with ⟨h11, h⟩ | ⟨h11, h⟩
  · obtain ⟨h12, h⟩ := need_some h
    obtain ⟨h13, h⟩ := need_some h
    obtain ⟨h14, h⟩ := need_some h
    obtain ⟨u15, h16, h⟩ := andThen_some h
    obtain ⟨u17, h18, h⟩ := andThen_some h
    obtain ⟨h19, h⟩ := need_some h
    obtain ⟨u20, h21, h⟩ := andThen_some h
    obtain ⟨u22, h23, h⟩ := andThen_some h
    obtain ⟨h24, h⟩ := need_some h
    injection h with h; subst h
    exact env.code (its := [.br true, .pre [[], [0], [0, 1], [0, 1, 2], [], [4], [4, 5], [4, 5, 6], [0, 1, 2, 3], [0, 1, 2, 3, 4, 5, 6, 7, 8]], .pre [[], [], [1], [1, 2], [1, 2, 3], [], [5], [], [5, 6, 7], [5, 6, 7, 8], [], [10], [5, 6, 7, 8, 9, 10, 11], [1, 2, 3, 4, 5, 6, 7, 8, 9, 10, 11, 12], [], [14], [14, 15], [14, 15, 16], [1, 2, 3, 4, 5, 6, 7, 8, 9, 10, 11, 12, 13, 14, 15, 16, 17], [], [5, 6, 7, 8, 19], [], [5, 6, 7, 8, 19, 20, 21], [5, 6, 7, 8, 19, 20, 21, 22], [], [24], [5, 6, 7, 8, 19, 20, 21, 22, 23, 24, 25], [1, 2, 3, 4, 5, 6, 7, 8, 9, 10, 11, 12, 13, 14, 15, 16, 17, 18, 19, 20, 21, 22, 23, 24, 25, 26], [0, 1, 2, 3, 4, 5, 6, 7, 8, 9, 10, 11, 12, 13, 14, 15, 16, 17, 18, 19, 20, 21, 22, 23, 24, 25, 26, 27], [0, 1, 2, 3, 4, 5, 6, 7, 8, 9, 10, 11, 12, 13, 14, 15, 16, 17, 18, 19, 20, 21, 22, 23, 24, 25, 26, 27, 28]], .asis, .call [none, none] [] [] true (sha_right_R (List.getD x2 (Int.toNat (w64 (x0 - (15 : Int)))) (0 : UInt32)) (7 : Int) u15) (sha_right_O (List.getD x2 (Int.toNat (w64 (x0 - (15 : Int)))) (0 : UInt32)) (7 : Int) u15), .asis, .call [none, none] [] [] true (sha_right_R (List.getD x2 (Int.toNat (w64 (x0 - (15 : Int)))) (0 : UInt32)) (18 : Int) u17) (sha_right_O (List.getD x2 (Int.toNat (w64 (x0 - (15 : Int)))) (0 : UInt32)) (18 : Int) u17), .asis, .call [none, none] [] [] true (sha_right_R (List.getD x2 (Int.toNat (w64 (x0 - (2 : Int)))) (0 : UInt32)) (17 : Int) u20) (sha_right_O (List.getD x2 (Int.toNat (w64 (x0 - (2 : Int)))) (0 : UInt32)) (17 : Int) u20), .asis, .call [none, none] [] [] true (sha_right_R (List.getD x2 (Int.toNat (w64 (x0 - (2 : Int)))) (0 : UInt32)) (19 : Int) u22) (sha_right_O (List.getD x2 (Int.toNat (w64 (x0 - (2 : Int)))) (0 : UInt32)) (19 : Int) u22), .sel [2, 3, 5] [0, 1]]) (.c h11 (.c h12 (.c h13 (.c h14 (.c (rfl : ([] : List AObj) = []) (.c (sha_right_ok (List.getD x2 (Int.toNat (w64 (x0 - (15 : Int)))) (0 : UInt32)) (7 : Int) u15 h16) (.c (rfl : ([] : List AObj) = []) (.c (sha_right_ok (List.getD x2 (Int.toNat (w64 (x0 - (15 : Int)))) (0 : UInt32)) (18 : Int) u17 h18) (.c (of_decide_eq_true (p := (0 ≤ (3 : Int))) (by kernel_rfl)) (.c h19 (.c (rfl : ([] : List AObj) = []) (.c (sha_right_ok (List.getD x2 (Int.toNat (w64 (x0 - (2 : Int)))) (0 : UInt32)) (17 : Int) u20 h21) (.c (rfl : ([] : List AObj) = []) (.c (sha_right_ok (List.getD x2 (Int.toNat (w64 (x0 - (2 : Int)))) (0 : UInt32)) (19 : Int) u22 h23) (.c (of_decide_eq_true (p := (0 ≤ (10 : Int))) (by kernel_rfl)) (.c h24 .n)))))))))))))))) (by kernel_rfl)
  · injection h with h; subst h
    exact ⟨by intro e; simp [sha_spread_2_ex] at e, env.code (its := [.br false, .sel [2, 3] [0, 1]]) (.c h11 .n) (by kernel_rfl)⟩
theorem sha_spread_2_ok (x0 : Int) (x1 : List UInt32) (x2 : List UInt32) (o : List UInt32 × List UInt32) (h : sha_spread_2 x0 x1 x2 = some o) : CodeOK prog (codeAt (bodyOf f123) [1, 1, 1, 0, 1, 0]) (sha_spread_2_in x0 x1 x2) (sha_spread_2_ex o) (sha_spread_2_st o) :=
  LoopOK.of_step (st := fun s => sha_spread_2_in s.1 x1 s.2) (ex := sha_spread_2_ex) (stO := sha_spread_2_st) (fun s s2 hs => sha_spread_2_body s.1 x1 s.2 (.inl s2) hs) (fun s r hs => sha_spread_2_body s.1 x1 s.2 (.inr r) hs) _ o h
def sha_spread_R (a0 : List UInt8) (u : List UInt32) : Slot := (.v (.arr 64 (.int .u32)) u)
def sha_spread_O (a0 : List UInt8) (u : List UInt32) : List AObj := []
theorem sha_spread_ok (a0 : List UInt8) (u : List UInt32) (h : sha_spread a0 = some u) : CallC prog 123 [(.v (.slice (.int .u8)) a0)] [] (sha_spread_R a0 u) (sha_spread_O a0 u) := by
  unfold sha_spread at h
  obtain ⟨o8, h9, h⟩ := andThen_some h
  obtain ⟨o25, h26, h⟩ := andThen_some h
  injection h with h; subst h
  exact env.fun func123 can123 (its := [.dive, .sel [0, 2, 3, 8] [0, 1], .part (sha_spread_1_ex o8) (sha_spread_1_st o8), .dive, .sel [2, 3, 5] [0, 1], .part (sha_spread_2_ex o25) (sha_spread_2_st o25)]) (pos := [.sel []]) (.c (sha_spread_1_ok a0 (0 : Int) (List.replicate 64 (0 : UInt32)) (List.replicate 64 (0 : UInt32)) o8 h9) (.c (sha_spread_2_ok (16 : Int) o8.1 o8.2 o25 h26) .n)) (by kernel_rfl)
theorem can120 : Callable prog 120 := ⟨_, func120, by kernel_rfl, by kernel_rfl⟩
def sha_mix_655a_1_in (x0 : UInt32) (x1 : UInt32) (x2 : UInt32) (x3 : UInt32) (x4 : UInt32) (x5 : UInt32) (x6 : UInt32) (x7 : UInt32) (x8 : Int) (x9 : List UInt32) (x10 : List UInt32) (x11 : List UInt32) : St := ⟨[(0, (.ptr 0 [])), (1, (.ptr 1 [])), (6, (.ptr 2 [])), (7, (.v (.int .u32) x0)), (8, (.v (.int .u32) x1)), (9, (.v (.int .u32) x2)), (10, (.v (.int .u32) x3)), (11, (.v (.int .u32) x4)), (12, (.v (.int .u32) x5)), (13, (.v (.int .u32) x6)), (14, (.v (.int .u32) x7)), (56, (.v (.int .i64) x8))], [.box (.arr 8 (.int .u32)) (.v (.arr 8 (.int .u32)) x9) true, .box (.arr 64 (.int .u32)) (.v (.arr 64 (.int .u32)) x10) true, .box (.arr 64 (.int .u32)) (.v (.arr 64 (.int .u32)) x11) true], 146, 2⟩
def sha_mix_655a_1_ex (o : UInt32 × UInt32 × UInt32 × UInt32 × UInt32 × UInt32 × UInt32 × UInt32 × List UInt32 × List UInt32) : Exit := (.exit 0)
def sha_mix_655a_1_st (o : UInt32 × UInt32 × UInt32 × UInt32 × UInt32 × UInt32 × UInt32 × UInt32 × List UInt32 × List UInt32) : St := ⟨[(0, (.ptr 0 [])), (7, (.v (.int .u32) o.1)), (8, (.v (.int .u32) o.2.1)), (9, (.v (.int .u32) o.2.2.1)), (10, (.v (.int .u32) o.2.2.2.1)), (11, (.v (.int .u32) o.2.2.2.2.1)), (12, (.v (.int .u32) o.2.2.2.2.2.1)), (13, (.v (.int .u32) o.2.2.2.2.2.2.1)), (14, (.v (.int .u32) o.2.2.2.2.2.2.2.1))], [.box (.arr 8 (.int .u32)) (.v (.arr 8 (.int .u32)) o.2.2.2.2.2.2.2.2.1) true, .box (.arr 64 (.int .u32)) (.v (.arr 64 (.int .u32)) o.2.2.2.2.2.2.2.2.2) true], 146, 2⟩
theorem sha_mix_655a_1_body (x0 : UInt32) (x1 : UInt32) (x2 : UInt32) (x3 : UInt32) (x4 : UInt32) (x5 : UInt32) (x6 : UInt32) (x7 : UInt32) (x8 : Int) (x9 : List UInt32) (x10 : List UInt32) (x11 : List UInt32) : ∀ r, sha_mix_655a_1_step x0 x1 x2 x3 x4 x5 x6 x7 x8 x9 x10 x11 = some r → (match r with | .inl s => CodeOK prog (codeAt (bodyOf f120) [1, 1, 0, 1, 0, 0]) (sha_mix_655a_1_in x0 x1 x2 x3 x4 x5 x6 x7 x8 x9 x10 x11) .normal (sha_mix_655a_1_in s.1 s.2.1 s.2.2.1 s.2.2.2.1 s.2.2.2.2.1 s.2.2.2.2.2.1 s.2.2.2.2.2.2.1 s.2.2.2.2.2.2.2.1 s.2.2.2.2.2.2.2.2 x9 x10 x11) | .inr o => sha_mix_655a_1_ex o ≠ .normal ∧ CodeOK prog (codeAt (bodyOf f120) [1, 1, 0, 1, 0, 0]) (sha_mix_655a_1_in x0 x1 x2 x3 x4 x5 x6 x7 x8 x9 x10 x11) (sha_mix_655a_1_ex o) (sha_mix_655a_1_st o)) := by
  intro r h
  unfold sha_mix_655a_1_step at h
  rcases fork_some h with ⟨h4, h⟩ | ⟨h4, h⟩
  · obtain ⟨u5, h6, h⟩ := andThen_some h
    obtain ⟨u7, h8, h⟩ := andThen_some h
    obtain ⟨u9, h10, h⟩ := andThen_some h
    obtain ⟨h11, h⟩ := need_some h
    obtain ⟨u12, h13, h⟩ := andThen_some h
    obtain ⟨u14, h15, h⟩ := andThen_some h
    obtain ⟨u16, h17, h⟩ := andThen_some h
    injection h with h; subst h
    exact env.code (its := [.br true, .pre [[], [], [1], [], [1, 2, 3], [1, 2, 3, 4], [], [1, 2, 3, 4, 6], [1, 2, 3, 4, 5, 6, 7], [0, 1, 2, 3, 4, 5, 6, 7, 8], [], [0, 1, 2, 3, 4, 5, 6, 7, 8, 9, 10], [], [], [12], [12, 13, 14], [12, 13, 14, 15], [0, 1, 2, 3, 4, 5, 6, 7, 8, 9, 10, 11, 12, 13, 14, 15, 16], [], [18], [18, 19], [0, 1, 2, 3, 4, 5, 6, 7, 8, 9, 10, 11, 12, 13, 14, 15, 16, 17, 18, 19, 20], [0, 1, 2, 3, 4, 5, 6, 7, 8, 9, 10, 11, 12, 13, 14, 15, 16, 17, 18, 19, 20, 21]], .asis, .call [none, none] [] [] true (sha_right_R x4 (6 : Int) u5) (sha_right_O x4 (6 : Int) u5), .asis, .call [none, none] [] [] true (sha_right_R x4 (11 : Int) u7) (sha_right_O x4 (11 : Int) u7), .asis, .call [none, none] [] [] true (sha_right_R x4 (25 : Int) u9) (sha_right_O x4 (25 : Int) u9), .call [none, none] [] [] true (sha_right_R x0 (2 : Int) u12) (sha_right_O x0 (2 : Int) u12), .call [none, none] [] [] true (sha_right_R x0 (13 : Int) u14) (sha_right_O x0 (13 : Int) u14), .call [none, none] [] [] true (sha_right_R x0 (22 : Int) u16) (sha_right_O x0 (22 : Int) u16), .sel [0, 1, 6, 7, 8, 9, 10, 11, 12, 13, 14, 56] [0, 1, 2]]) (.c h4 (.c (rfl : ([] : List AObj) = []) (.c (sha_right_ok x4 (6 : Int) u5 h6) (.c (rfl : ([] : List AObj) = []) (.c (sha_right_ok x4 (11 : Int) u7 h8) (.c (rfl : ([] : List AObj) = []) (.c (sha_right_ok x4 (25 : Int) u9 h10) (.c h11 (.c h11 (.c (sha_right_ok x0 (2 : Int) u12 h13) (.c (sha_right_ok x0 (13 : Int) u14 h15) (.c (sha_right_ok x0 (22 : Int) u16 h17) .n)))))))))))) (by kernel_rfl)
  · injection h with h; subst h
    exact ⟨by intro e; simp [sha_mix_655a_1_ex] at e, env.code (its := [.br false, .sel [0, 7, 8, 9, 10, 11, 12, 13, 14] [0, 1]]) (.c h4 .n) (by kernel_rfl)⟩
theorem sha_mix_655a_1_ok (x0 : UInt32) (x1 : UInt32) (x2 : UInt32) (x3 : UInt32) (x4 : UInt32) (x5 : UInt32) (x6 : UInt32) (x7 : UInt32) (x8 : Int) (x9 : List UInt32) (x10 : List UInt32) (x11 : List UInt32) (o : UInt32 × UInt32 × UInt32 × UInt32 × UInt32 × UInt32 × UInt32 × UInt32 × List UInt32 × List UInt32) (h : sha_mix_655a_1 x0 x1 x2 x3 x4 x5 x6 x7 x8 x9 x10 x11 = some o) : CodeOK prog (codeAt (bodyOf f120) [1, 1, 0, 1, 0]) (sha_mix_655a_1_in x0 x1 x2 x3 x4 x5 x6 x7 x8 x9 x10 x11) (sha_mix_655a_1_ex o) (sha_mix_655a_1_st o) :=
  LoopOK.of_step (st := fun s => sha_mix_655a_1_in s.1 s.2.1 s.2.2.1 s.2.2.2.1 s.2.2.2.2.1 s.2.2.2.2.2.1 s.2.2.2.2.2.2.1 s.2.2.2.2.2.2.2.1 s.2.2.2.2.2.2.2.2 x9 x10 x11) (ex := sha_mix_655a_1_ex) (stO := sha_mix_655a_1_st) (fun s s2 hs => sha_mix_655a_1_body s.1 s.2.1 s.2.2.1 s.2.2.2.1 s.2.2.2.2.1 s.2.2.2.2.2.1 s.2.2.2.2.2.2.1 s.2.2.2.2.2.2.2.1 s.2.2.2.2.2.2.2.2 x9 x10 x11 (.inl s2) hs) (fun s r hs => sha_mix_655a_1_body s.1 s.2.1 s.2.2.1 s.2.2.2.1 s.2.2.2.2.1 s.2.2.2.2.2.1 s.2.2.2.2.2.2.1 s.2.2.2.2.2.2.2.1 s.2.2.2.2.2.2.2.2 x9 x10 x11 (.inr r) hs) _ o h
def sha_mix_655a_2_in (x0 : List UInt32) (x1 : Int) (x2 : List UInt32) (x3 : List UInt32) : St := ⟨[(0, (.ptr 0 [])), (131, (.v (.arr 8 (.int .u32)) x0)), (132, (.v (.int .i64) x1))], [.box (.arr 8 (.int .u32)) (.v (.arr 8 (.int .u32)) x2) true, .box (.arr 64 (.int .u32)) (.v (.arr 64 (.int .u32)) x3) true], 146, 2⟩
def sha_mix_655a_2_ex (o : List UInt32 × List UInt32) : Exit := (.exit 2)
def sha_mix_655a_2_st (o : List UInt32 × List UInt32) : St := ⟨[], [.box (.arr 8 (.int .u32)) (.v (.arr 8 (.int .u32)) o.1) true, .box (.arr 64 (.int .u32)) (.v (.arr 64 (.int .u32)) o.2) true], 146, 2⟩
theorem sha_mix_655a_2_body (x0 : List UInt32) (x1 : Int) (x2 : List UInt32) (x3 : List UInt32) : ∀ r, sha_mix_655a_2_step x0 x1 x2 x3 = some r → (match r with | .inl s => CodeOK prog (codeAt (bodyOf f120) [1, 1, 1, 1, 0, 0]) (sha_mix_655a_2_in x0 x1 x2 x3) .normal (sha_mix_655a_2_in x0 s.1 s.2 x3) | .inr o => sha_mix_655a_2_ex o ≠ .normal ∧ CodeOK prog (codeAt (bodyOf f120) [1, 1, 1, 1, 0, 0]) (sha_mix_655a_2_in x0 x1 x2 x3) (sha_mix_655a_2_ex o) (sha_mix_655a_2_st o)) := by
  intro r h
  unfold sha_mix_655a_2_step at h
  rcases fork_some h with ⟨h21, h⟩ | ⟨h21, h⟩
  · obtain ⟨h22, h⟩ := need_some h
    injection h with h; subst h
    exact env.code (its := [.br true, .pre [[], [], [0], [0, 1, 2], [0, 1, 2, 3], [], [0, 1, 2, 3, 4, 5], [0], [0, 1, 2, 3, 4, 5, 6, 7], [0, 1, 2, 3, 4, 5, 6, 7, 8]], .sel [0, 131, 132] [0, 1]]) (.c h21 (.c h22 (.c h22 (.c h22 .n)))) (by kernel_rfl)
  · injection h with h; subst h
    exact ⟨by intro e; simp [sha_mix_655a_2_ex] at e, env.code (its := [.br false, .sel [] [0, 1]]) (.c h21 .n) (by kernel_rfl)⟩
theorem sha_mix_655a_2_ok (x0 : List UInt32) (x1 : Int) (x2 : List UInt32) (x3 : List UInt32) (o : List UInt32 × List UInt32) (h : sha_mix_655a_2 x0 x1 x2 x3 = some o) : CodeOK prog (codeAt (bodyOf f120) [1, 1, 1, 1, 0]) (sha_mix_655a_2_in x0 x1 x2 x3) (sha_mix_655a_2_ex o) (sha_mix_655a_2_st o) :=
  LoopOK.of_step (st := fun s => sha_mix_655a_2_in x0 s.1 s.2 x3) (ex := sha_mix_655a_2_ex) (stO := sha_mix_655a_2_st) (fun s s2 hs => sha_mix_655a_2_body x0 s.1 s.2 x3 (.inl s2) hs) (fun s r hs => sha_mix_655a_2_body x0 s.1 s.2 x3 (.inr r) hs) _ o h
def sha_mix_655a_R (a0 : List UInt8) (a1 : List UInt32) (a2 : List UInt32) (u : List UInt32 × List UInt32) : Slot := .tnil
def sha_mix_655a_O (a0 : List UInt8) (a1 : List UInt32) (a2 : List UInt32) (u : List UInt32 × List UInt32) : List AObj := [.box (.arr 8 (.int .u32)) (.v (.arr 8 (.int .u32)) u.1) true, .box (.arr 64 (.int .u32)) (.v (.arr 64 (.int .u32)) u.2) true]
theorem sha_mix_655a_ok (a0 : List UInt8) (a1 : List UInt32) (a2 : List UInt32) (u : List UInt32 × List UInt32) (h : sha_mix_655a a0 a1 a2 = some u) : CallC prog 120 [(.ptr 0 []), (.ptr 1 []), (.v (.slice (.int .u8)) a0)] [.box (.arr 8 (.int .u32)) (.v (.arr 8 (.int .u32)) a1) true, .box (.arr 64 (.int .u32)) (.v (.arr 64 (.int .u32)) a2) true] (sha_mix_655a_R a0 a1 a2 u) (sha_mix_655a_O a0 a1 a2 u) := by
  unfold sha_mix_655a at h
  obtain ⟨u1, h2, h⟩ := andThen_some h
  obtain ⟨o18, h19, h⟩ := andThen_some h
  obtain ⟨o23, h24, h⟩ := andThen_some h
  injection h with h; subst h
  exact env.fun func120 can120 (its := [.call [none] [] [] true (sha_spread_R a0 u1) (sha_spread_O a0 u1), .pre [[], [0], [0, 1], [0, 1, 2], [], [4], [4, 5], [4, 5, 6], [], [8], [8, 9], [8, 9, 10], [], [12], [12, 13], [12, 13, 14], [], [16], [16, 17], [16, 17, 18], [], [20], [20, 21], [20, 21, 22], [], [24], [24, 25], [24, 25, 26], [], [28], [28, 29], [28, 29, 30], [0, 1, 2, 3], [0, 1, 2, 3, 4, 5, 6, 7, 32], [0, 1, 2, 3, 4, 5, 6, 7, 8, 9, 10, 11, 32, 33], [0, 1, 2, 3, 4, 5, 6, 7, 8, 9, 10, 11, 12, 13, 14, 15, 32, 33, 34], [0, 1, 2, 3, 4, 5, 6, 7, 8, 9, 10, 11, 12, 13, 14, 15, 16, 17, 18, 19, 32, 33, 34, 35], [0, 1, 2, 3, 4, 5, 6, 7, 8, 9, 10, 11, 12, 13, 14, 15, 16, 17, 18, 19, 20, 21, 22, 23, 32, 33, 34, 35, 36], [0, 1, 2, 3, 4, 5, 6, 7, 8, 9, 10, 11, 12, 13, 14, 15, 16, 17, 18, 19, 20, 21, 22, 23, 24, 25, 26, 27, 32, 33, 34, 35, 36, 37], [0, 1, 2, 3, 4, 5, 6, 7, 8, 9, 10, 11, 12, 13, 14, 15, 16, 17, 18, 19, 20, 21, 22, 23, 24, 25, 26, 27, 28, 29, 30, 31, 32, 33, 34, 35, 36, 37, 38]], .dive, .sel [0, 1, 6, 7, 8, 9, 10, 11, 12, 13, 14, 56] [0, 1, 2], .part (sha_mix_655a_1_ex o18) (sha_mix_655a_1_st o18), .dive, .sel [0, 131, 132] [0, 1], .part (sha_mix_655a_2_ex o23) (sha_mix_655a_2_st o23)]) (pos := [.sel [0, 1]]) (.c (sha_spread_ok a0 u1 h2) (.c (of_decide_eq_true (p := (0 ≤ (0 : Int) ∧ (0 : Int) < (8 : Int))) (by kernel_rfl)) (.c (of_decide_eq_true (p := (0 ≤ (1 : Int) ∧ (1 : Int) < (8 : Int))) (by kernel_rfl)) (.c (of_decide_eq_true (p := (0 ≤ (2 : Int) ∧ (2 : Int) < (8 : Int))) (by kernel_rfl)) (.c (of_decide_eq_true (p := (0 ≤ (3 : Int) ∧ (3 : Int) < (8 : Int))) (by kernel_rfl)) (.c (of_decide_eq_true (p := (0 ≤ (4 : Int) ∧ (4 : Int) < (8 : Int))) (by kernel_rfl)) (.c (of_decide_eq_true (p := (0 ≤ (5 : Int) ∧ (5 : Int) < (8 : Int))) (by kernel_rfl)) (.c (of_decide_eq_true (p := (0 ≤ (6 : Int) ∧ (6 : Int) < (8 : Int))) (by kernel_rfl)) (.c (of_decide_eq_true (p := (0 ≤ (7 : Int) ∧ (7 : Int) < (8 : Int))) (by kernel_rfl)) (.c (sha_mix_655a_1_ok (List.getD a1 (Int.toNat (0 : Int)) (0 : UInt32)) (List.getD a1 (Int.toNat (1 : Int)) (0 : UInt32)) (List.getD a1 (Int.toNat (2 : Int)) (0 : UInt32)) (List.getD a1 (Int.toNat (3 : Int)) (0 : UInt32)) (List.getD a1 (Int.toNat (4 : Int)) (0 : UInt32)) (List.getD a1 (Int.toNat (5 : Int)) (0 : UInt32)) (List.getD a1 (Int.toNat (6 : Int)) (0 : UInt32)) (List.getD a1 (Int.toNat (7 : Int)) (0 : UInt32)) (0 : Int) a1 a2 u1 o18 h19) (.c (sha_mix_655a_2_ok (List.set (List.set (List.set (List.set (List.set (List.set (List.set (List.set (List.replicate 8 (0 : UInt32)) 0 o18.1) 1 o18.2.1) 2 o18.2.2.1) 3 o18.2.2.2.1) 4 o18.2.2.2.2.1) 5 o18.2.2.2.2.2.1) 6 o18.2.2.2.2.2.2.1) 7 o18.2.2.2.2.2.2.2.1) (0 : Int) o18.2.2.2.2.2.2.2.2.1 o18.2.2.2.2.2.2.2.2.2 o23 h24) .n))))))))))) (by kernel_rfl)
theorem can112 : Callable prog 112 := ⟨_, func112, by kernel_rfl, by kernel_rfl⟩
def sha_Sum_1_in (x0 : List UInt8) (x1 : List UInt8) (x2 : List UInt32) (x3 : List UInt32) : St := ⟨[(2, (.ptr 0 [])), (3, (.ptr 1 [])), (4, (.ptr 2 [])), (5, (.v (.slice (.int .u8)) x0))], [.box (.arr 32 (.int .u8)) (.v (.arr 32 (.int .u8)) x1) true, .box (.arr 8 (.int .u32)) (.v (.arr 8 (.int .u32)) x2) true, .box (.arr 64 (.int .u32)) (.v (.arr 64 (.int .u32)) x3) true], 44, 0⟩
def sha_Sum_1_ex (o : List UInt8 × List UInt32) : Exit := (.exit 0)
def sha_Sum_1_st (o : List UInt8 × List UInt32) : St := ⟨[(2, (.ptr 0 [])), (3, (.ptr 1 []))], [.box (.arr 32 (.int .u8)) (.v (.arr 32 (.int .u8)) o.1) true, .box (.arr 8 (.int .u32)) (.v (.arr 8 (.int .u32)) o.2) true], 44, 0⟩
theorem sha_Sum_1_body (x0 : List UInt8) (x1 : List UInt8) (x2 : List UInt32) (x3 : List UInt32) : ∀ r, sha_Sum_1_step x0 x1 x2 x3 = some r → (match r with | .inl s => CodeOK prog (codeAt (bodyOf f112) [1, 1, 0, 1, 0, 0]) (sha_Sum_1_in x0 x1 x2 x3) .normal (sha_Sum_1_in s.1 x1 s.2.1 s.2.2) | .inr o => sha_Sum_1_ex o ≠ .normal ∧ CodeOK prog (codeAt (bodyOf f112) [1, 1, 0, 1, 0, 0]) (sha_Sum_1_in x0 x1 x2 x3) (sha_Sum_1_ex o) (sha_Sum_1_st o)) := by
  intro r h
  unfold sha_Sum_1_step at h
  rcases fork_some h with ⟨h8, h⟩ | ⟨h8, h⟩
  · obtain ⟨h9, h⟩ := need_some h
    obtain ⟨u10, h11, h⟩ := andThen_some h
    obtain ⟨h12, h⟩ := need_some h
    injection h with h; subst h
    exact env.code (its := [.br true, .br false, .call [none, none, none] [1, 2] [] true (sha_mix_655a_R (cutL x0 (0 : Int) (64 : Int)) x2 x3 u10) (sha_mix_655a_O (cutL x0 (0 : Int) (64 : Int)) x2 x3 u10), .br false, .sel [2, 3, 4, 5] [0, 1, 2]]) (.c h8 (.c h9 (.c (sha_mix_655a_ok (cutL x0 (0 : Int) (64 : Int)) x2 x3 u10 h11) (.c h12 .n)))) (by kernel_rfl)
  · injection h with h; subst h
    exact ⟨by intro e; simp [sha_Sum_1_ex] at e, env.code (its := [.br false, .sel [2, 3] [0, 1]]) (.c h8 .n) (by kernel_rfl)⟩
theorem sha_Sum_1_ok (x0 : List UInt8) (x1 : List UInt8) (x2 : List UInt32) (x3 : List UInt32) (o : List UInt8 × List UInt32) (h : sha_Sum_1 x0 x1 x2 x3 = some o) : CodeOK prog (codeAt (bodyOf f112) [1, 1, 0, 1, 0]) (sha_Sum_1_in x0 x1 x2 x3) (sha_Sum_1_ex o) (sha_Sum_1_st o) :=
  LoopOK.of_step (st := fun s => sha_Sum_1_in s.1 x1 s.2.1 s.2.2) (ex := sha_Sum_1_ex) (stO := sha_Sum_1_st) (fun s s2 hs => sha_Sum_1_body s.1 x1 s.2.1 s.2.2 (.inl s2) hs) (fun s r hs => sha_Sum_1_body s.1 x1 s.2.1 s.2.2 (.inr r) hs) _ o h
def sha_Sum_2_in (x0 : Int) (x1 : UInt32) (x2 : List UInt32) (x3 : Int) (x4 : Int) (x5 : List UInt8) (x6 : List UInt8) : St := ⟨[(2, (.ptr 0 [])), (6, (.ptr 1 [])), (7, (.v (.int .i64) x0)), (8, (.v (.int .u32) x1)), (22, (.v (.arr 8 (.int .u32)) x2)), (23, (.v (.int .i64) x3)), (27, (.v (.int .i64) x4))], [.box (.arr 32 (.int .u8)) (.v (.arr 32 (.int .u8)) x5) true, .box (.arr 32 (.int .u8)) (.v (.arr 32 (.int .u8)) x6) true], 44, 0⟩
def sha_Sum_2_ex (o : List UInt32 × Int × List UInt8 × List UInt8) : Exit := (.exit 4)
def sha_Sum_2_st (o : List UInt32 × Int × List UInt8 × List UInt8) : St := ⟨[(2, (.ptr 0 [])), (6, (.ptr 1 [])), (22, (.v (.arr 8 (.int .u32)) o.1)), (23, (.v (.int .i64) o.2.1))], [.box (.arr 32 (.int .u8)) (.v (.arr 32 (.int .u8)) o.2.2.1) true, .box (.arr 32 (.int .u8)) (.v (.arr 32 (.int .u8)) o.2.2.2) true], 44, 0⟩
theorem sha_Sum_2_body (x0 : Int) (x1 : UInt32) (x2 : List UInt32) (x3 : Int) (x4 : Int) (x5 : List UInt8) (x6 : List UInt8) : ∀ r, sha_Sum_2_step x0 x1 x2 x3 x4 x5 x6 = some r → (match r with | .inl s => CodeOK prog (codeAt (bodyOf f112) [1, 1, 1, 1, 0, 1, 0, 0, 1, 1, 0, 0, 1, 1, 0, 0]) (sha_Sum_2_in x0 x1 x2 x3 x4 x5 x6) .normal (sha_Sum_2_in x0 x1 x2 x3 s.1 x5 s.2) | .inr o => sha_Sum_2_ex o ≠ .normal ∧ CodeOK prog (codeAt (bodyOf f112) [1, 1, 1, 1, 0, 1, 0, 0, 1, 1, 0, 0, 1, 1, 0, 0]) (sha_Sum_2_in x0 x1 x2 x3 x4 x5 x6) (sha_Sum_2_ex o) (sha_Sum_2_st o)) := by
  intro r h
  unfold sha_Sum_2_step at h
  rcases fork_some h with ⟨h19, h⟩ | ⟨h19, h⟩
  · obtain ⟨h20, h⟩ := need_some h
    obtain ⟨h21, h⟩ := need_some h
    injection h with h; subst h
    exact env.code (its := [.br true, .dive, .sel [2, 6, 7, 8, 22, 23, 27] [0, 1]]) (.c h19 (.c h20 (.c h21 .n))) (by kernel_rfl)
  · injection h with h; subst h
    exact ⟨by intro e; simp [sha_Sum_2_ex] at e, env.code (its := [.br false, .sel [2, 6, 22, 23] [0, 1]]) (.c h19 .n) (by kernel_rfl)⟩
theorem sha_Sum_2_ok (x0 : Int) (x1 : UInt32) (x2 : List UInt32) (x3 : Int) (x4 : Int) (x5 : List UInt8) (x6 : List UInt8) (o : List UInt32 × Int × List UInt8 × List UInt8) (h : sha_Sum_2 x0 x1 x2 x3 x4 x5 x6 = some o) : CodeOK prog (codeAt (bodyOf f112) [1, 1, 1, 1, 0, 1, 0, 0, 1, 1, 0, 0, 1, 1, 0]) (sha_Sum_2_in x0 x1 x2 x3 x4 x5 x6) (sha_Sum_2_ex o) (sha_Sum_2_st o) :=
  LoopOK.of_step (st := fun s => sha_Sum_2_in x0 x1 x2 x3 s.1 x5 s.2) (ex := sha_Sum_2_ex) (stO := sha_Sum_2_st) (fun s s2 hs => sha_Sum_2_body x0 x1 x2 x3 s.1 x5 s.2 (.inl s2) hs) (fun s r hs => sha_Sum_2_body x0 x1 x2 x3 s.1 x5 s.2 (.inr r) hs) _ o h
def sha_Sum_3_in (x0 : List UInt32) (x1 : Int) (x2 : List UInt8) (x3 : List UInt8) : St := ⟨[(2, (.ptr 0 [])), (6, (.ptr 1 [])), (22, (.v (.arr 8 (.int .u32)) x0)), (23, (.v (.int .i64) x1))], [.box (.arr 32 (.int .u8)) (.v (.arr 32 (.int .u8)) x2) true, .box (.arr 32 (.int .u8)) (.v (.arr 32 (.int .u8)) x3) true], 44, 0⟩
def sha_Sum_3_ex (o : List UInt8 × List UInt8) : Exit := (.exit 2)
def sha_Sum_3_st (o : List UInt8 × List UInt8) : St := ⟨[(2, (.ptr 0 [])), (6, (.ptr 1 []))], [.box (.arr 32 (.int .u8)) (.v (.arr 32 (.int .u8)) o.1) true, .box (.arr 32 (.int .u8)) (.v (.arr 32 (.int .u8)) o.2) true], 44, 0⟩
theorem sha_Sum_3_body (x0 : List UInt32) (x1 : Int) (x2 : List UInt8) (x3 : List UInt8) : ∀ r, sha_Sum_3_step x0 x1 x2 x3 = some r → (match r with | .inl s => CodeOK prog (codeAt (bodyOf f112) [1, 1, 1, 1, 0, 1, 0, 0]) (sha_Sum_3_in x0 x1 x2 x3) .normal (sha_Sum_3_in s.1 s.2.1 s.2.2.1 s.2.2.2) | .inr o => sha_Sum_3_ex o ≠ .normal ∧ CodeOK prog (codeAt (bodyOf f112) [1, 1, 1, 1, 0, 1, 0, 0]) (sha_Sum_3_in x0 x1 x2 x3) (sha_Sum_3_ex o) (sha_Sum_3_st o)) := by
  intro r h
  unfold sha_Sum_3_step at h
  rcases fork_some h with ⟨h16, h⟩ | ⟨h16, h⟩
  · obtain ⟨h17, h⟩ := need_some h
    obtain ⟨o22, h23, h⟩ := andThen_some h
    injection h with h; subst h
    exact env.code (its := [.br true, .dive, .dive, .sel [2, 6, 7, 8, 22, 23, 27] [0, 1], .part (sha_Sum_2_ex o22) (sha_Sum_2_st o22), .sel [2, 6, 22, 23] [0, 1]]) (.c h16 (.c h17 (.c (sha_Sum_2_ok x1 (List.getD x0 (Int.toNat x1) (0 : UInt32)) x0 x1 (0 : Int) x2 x3 o22 h23) .n))) (by kernel_rfl)
  · injection h with h; subst h
    exact ⟨by intro e; simp [sha_Sum_3_ex] at e, env.code (its := [.br false, .sel [2, 6] [0, 1]]) (.c h16 .n) (by kernel_rfl)⟩
theorem sha_Sum_3_ok (x0 : List UInt32) (x1 : Int) (x2 : List UInt8) (x3 : List UInt8) (o : List UInt8 × List UInt8) (h : sha_Sum_3 x0 x1 x2 x3 = some o) : CodeOK prog (codeAt (bodyOf f112) [1, 1, 1, 1, 0, 1, 0]) (sha_Sum_3_in x0 x1 x2 x3) (sha_Sum_3_ex o) (sha_Sum_3_st o) :=
  LoopOK.of_step (st := fun s => sha_Sum_3_in s.1 s.2.1 s.2.2.1 s.2.2.2) (ex := sha_Sum_3_ex) (stO := sha_Sum_3_st) (fun s s2 hs => sha_Sum_3_body s.1 s.2.1 s.2.2.1 s.2.2.2 (.inl s2) hs) (fun s r hs => sha_Sum_3_body s.1 s.2.1 s.2.2.1 s.2.2.2 (.inr r) hs) _ o h
def sha_Sum_R (a0 : List UInt8) (u : List UInt8) : Slot := (.v (.arr 32 (.int .u8)) u)
def sha_Sum_O (a0 : List UInt8) (u : List UInt8) : List AObj := []
theorem sha_Sum_ok (a0 : List UInt8) (u : List UInt8) (h : sha_Sum a0 = some u) : CallC prog 112 [(.v (.slice (.int .u8)) a0)] [] (sha_Sum_R a0 u) (sha_Sum_O a0 u) := by
  unfold sha_Sum at h
  obtain ⟨u1, h2, h⟩ := andThen_some h
  obtain ⟨u3, h4, h⟩ := andThen_some h
  obtain ⟨u5, h6, h⟩ := andThen_some h
  obtain ⟨o13, h14, h⟩ := andThen_some h
  obtain ⟨o24, h25, h⟩ := andThen_some h
  injection h with h; subst h
  exact env.fun func112 can112 (its := [.call [] [] [] true (sha_first_R u1) (sha_first_O u1), .call [] [] [] true (sha_added_R u3) (sha_added_O u3), .call [none] [] [] true (sha_padded_R a0 u5) (sha_padded_O a0 u5), .dive, .val 5 (.slice (.int .u8)), .sel [2, 3, 4, 5] [0, 1, 2], .part (sha_Sum_1_ex o13) (sha_Sum_1_st o13), .dive, .sel [2, 6, 22, 23] [0, 2], .part (sha_Sum_3_ex o24) (sha_Sum_3_st o24)]) (pos := [.sel []]) (.c (sha_first_ok u1 h2) (.c (sha_added_ok u3 h4) (.c (sha_padded_ok a0 u5 h6) (.c (sha_Sum_1_ok u5 (List.replicate 32 (0 : UInt8)) u1 u3 o13 h14) (.c (sha_Sum_3_ok o13.2 (0 : Int) o13.1 (List.replicate 32 (0 : UInt8)) o24 h25) .n))))) (by kernel_rfl)
theorem can89 : Callable prog 89 := ⟨_, func89, by kernel_rfl, by kernel_rfl⟩
def sha_Tagged_1_in (x0 : List (List UInt8)) (x1 : Int) (x2 : Int) (x3 : List UInt8) (x4 : List UInt8) : St := ⟨[(4, (.ptr 0 [])), (5, (.own 1 [])), (10, (.v (.slice (.slice (.int .u8))) x0)), (11, (.v (.int .i64) x1)), (12, (.v (.int .i64) x2))], [.box (.arr 32 (.int .u8)) (.v (.arr 32 (.int .u8)) x3) true, .row (.int .u8) x4 true], 22, 0⟩
def sha_Tagged_1_ex (o : List UInt8 × List UInt8) : Exit := (.exit 0)
def sha_Tagged_1_st (o : List UInt8 × List UInt8) : St := ⟨[(4, (.ptr 0 [])), (5, (.own 1 []))], [.box (.arr 32 (.int .u8)) (.v (.arr 32 (.int .u8)) o.1) true, .row (.int .u8) o.2 true], 22, 0⟩
theorem sha_Tagged_1_body (x0 : List (List UInt8)) (x1 : Int) (x2 : Int) (x3 : List UInt8) (x4 : List UInt8) : ∀ r, sha_Tagged_1_step x0 x1 x2 x3 x4 = some r → (match r with | .inl s => CodeOK prog (codeAt (bodyOf f89) [1, 1, 0, 1, 0, 0]) (sha_Tagged_1_in x0 x1 x2 x3 x4) .normal (sha_Tagged_1_in x0 x1 s.1 x3 s.2) | .inr o => sha_Tagged_1_ex o ≠ .normal ∧ CodeOK prog (codeAt (bodyOf f89) [1, 1, 0, 1, 0, 0]) (sha_Tagged_1_in x0 x1 x2 x3 x4) (sha_Tagged_1_ex o) (sha_Tagged_1_st o)) := by
  intro r h
  unfold sha_Tagged_1_step at h
  rcases fork_some h with ⟨h2, h⟩ | ⟨h2, h⟩
  · obtain ⟨h3, h⟩ := need_some h
    obtain ⟨h4, h⟩ := need_some h
    injection h with h; subst h
    exact env.code (its := [.br true, .dive, .sel [4, 5, 10, 11, 12] [0, 2]]) (.c h2 (.c h3 (.c h4 .n))) (by kernel_rfl)
  · injection h with h; subst h
    exact ⟨by intro e; simp [sha_Tagged_1_ex] at e, env.code (its := [.br false, .sel [4, 5] [0, 1]]) (.c h2 .n) (by kernel_rfl)⟩
theorem sha_Tagged_1_ok (x0 : List (List UInt8)) (x1 : Int) (x2 : Int) (x3 : List UInt8) (x4 : List UInt8) (o : List UInt8 × List UInt8) (h : sha_Tagged_1 x0 x1 x2 x3 x4 = some o) : CodeOK prog (codeAt (bodyOf f89) [1, 1, 0, 1, 0]) (sha_Tagged_1_in x0 x1 x2 x3 x4) (sha_Tagged_1_ex o) (sha_Tagged_1_st o) :=
  LoopOK.of_step (st := fun s => sha_Tagged_1_in x0 x1 s.1 x3 s.2) (ex := sha_Tagged_1_ex) (stO := sha_Tagged_1_st) (fun s s2 hs => sha_Tagged_1_body x0 x1 s.1 x3 s.2 (.inl s2) hs) (fun s r hs => sha_Tagged_1_body x0 x1 s.1 x3 s.2 (.inr r) hs) _ o h
def sha_Tagged_R (a0 : UInt8) (a1 : List (List UInt8)) (u : List UInt8) : Slot := (.v (.arr 32 (.int .u8)) u)
def sha_Tagged_O (a0 : UInt8) (a1 : List (List UInt8)) (u : List UInt8) : List AObj := []
theorem sha_Tagged_ok (a0 : UInt8) (a1 : List (List UInt8)) (u : List UInt8) (h : sha_Tagged a0 a1 = some u) : CallC prog 89 [(.v (.int .u8) a0), (.v (.slice (.slice (.int .u8))) a1)] [] (sha_Tagged_R a0 a1 u) (sha_Tagged_O a0 a1 u) := by
  unfold sha_Tagged at h
  obtain ⟨o5, h6, h⟩ := andThen_some h
  obtain ⟨u7, h8, h⟩ := andThen_some h
  injection h with h; subst h
  exact env.fun func89 can89 (its := [.dive, .sel [4, 5, 10, 11, 12] [0, 1], .part (sha_Tagged_1_ex o5) (sha_Tagged_1_st o5), .call [none] [] [1] true (sha_Sum_R o5.2 u7) (sha_Sum_O o5.2 u7)]) (pos := [.sel []]) (.c (sha_Tagged_1_ok a1 (List.length a1 : Int) (0 : Int) (List.replicate 32 (0 : UInt8)) ([a0] : List (UInt8)) o5 h6) (.c (sha_Sum_ok o5.2 u7 h8) .n)) (by kernel_rfl)
theorem can68 : Callable prog 68 := ⟨_, func68, by kernel_rfl, by kernel_rfl⟩
def ring_Seed_R (a0 : List UInt8) (a1 : Int) (u : List UInt8) : Slot := (.v (.arr 32 (.int .u8)) u)
def ring_Seed_O (a0 : List UInt8) (a1 : Int) (u : List UInt8) : List AObj := []
theorem ring_Seed_ok (a0 : List UInt8) (a1 : Int) (u : List UInt8) (h : ring_Seed a0 a1 = some u) : CallC prog 68 [(.v (.arr 32 (.int .u8)) a0), (.v (.int .i64) a1)] [] (ring_Seed_R a0 a1 u) (ring_Seed_O a0 a1 u) := by
  unfold ring_Seed at h
  obtain ⟨u1, h2, h⟩ := andThen_some h
  injection h with h; subst h
  exact env.fun func68 can68 (its := [.br true, .call [none, none] [] [3] true (sha_Tagged_R (114 : UInt8) ([a0, ([(UInt8.ofNat (Int.toNat (a1 % 256)))] : List (UInt8))] : List (List UInt8)) u1) (sha_Tagged_O (114 : UInt8) ([a0, ([(UInt8.ofNat (Int.toNat (a1 % 256)))] : List (UInt8))] : List (List UInt8)) u1)]) (pos := [.sel []]) (.c (sha_Tagged_ok (114 : UInt8) ([a0, ([(UInt8.ofNat (Int.toNat (a1 % 256)))] : List (UInt8))] : List (List UInt8)) u1 h2) .n) (by kernel_rfl)
theorem can97 : Callable prog 97 := ⟨_, func97, by kernel_rfl, by kernel_rfl⟩
def lam_secret_R (a0 : List UInt8) (a1 : Int) (a2 : Int) (u : List UInt8) : Slot := (.v (.arr 32 (.int .u8)) u)
def lam_secret_O (a0 : List UInt8) (a1 : Int) (a2 : Int) (u : List UInt8) : List AObj := []
theorem lam_secret_ok (a0 : List UInt8) (a1 : Int) (a2 : Int) (u : List UInt8) (h : lam_secret a0 a1 a2 = some u) : CallC prog 97 [(.v (.arr 32 (.int .u8)) a0), (.v (.int .i64) a1), (.v (.int .i64) a2)] [] (lam_secret_R a0 a1 a2 u) (lam_secret_O a0 a1 a2 u) := by
  unfold lam_secret at h
  obtain ⟨u1, h2, h⟩ := andThen_some h
  injection h with h; subst h
  exact env.fun func97 can97 (its := [.br true, .call [none, none] [] [3] true (sha_Tagged_R (115 : UInt8) ([a0, ([(UInt8.ofNat (Int.toNat (a1 % 256))), (UInt8.ofNat (Int.toNat (a2 % 256)))] : List (UInt8))] : List (List UInt8)) u1) (sha_Tagged_O (115 : UInt8) ([a0, ([(UInt8.ofNat (Int.toNat (a1 % 256))), (UInt8.ofNat (Int.toNat (a2 % 256)))] : List (UInt8))] : List (List UInt8)) u1)]) (pos := [.sel []]) (.c (sha_Tagged_ok (115 : UInt8) ([a0, ([(UInt8.ofNat (Int.toNat (a1 % 256))), (UInt8.ofNat (Int.toNat (a2 % 256)))] : List (UInt8))] : List (List UInt8)) u1 h2) .n) (by kernel_rfl)
theorem can96 : Callable prog 96 := ⟨_, func96, by kernel_rfl, by kernel_rfl⟩
def lam_public_R (a0 : List UInt8) (u : List UInt8) : Slot := (.v (.arr 32 (.int .u8)) u)
def lam_public_O (a0 : List UInt8) (u : List UInt8) : List AObj := []
theorem lam_public_ok (a0 : List UInt8) (u : List UInt8) (h : lam_public a0 = some u) : CallC prog 96 [(.v (.arr 32 (.int .u8)) a0)] [] (lam_public_R a0 u) (lam_public_O a0 u) := by
  unfold lam_public at h
  obtain ⟨u1, h2, h⟩ := andThen_some h
  injection h with h; subst h
  exact env.fun func96 can96 (its := [.br true, .call [none, none] [] [2] true (sha_Tagged_R (112 : UInt8) ([a0] : List (List UInt8)) u1) (sha_Tagged_O (112 : UInt8) ([a0] : List (List UInt8)) u1)]) (pos := [.sel []]) (.c (sha_Tagged_ok (112 : UInt8) ([a0] : List (List UInt8)) u1 h2) .n) (by kernel_rfl)
theorem can98 : Callable prog 98 := ⟨_, func98, by kernel_rfl, by kernel_rfl⟩
def lam_key_1_in (x0 : List (List UInt8)) (x1 : Int) (x2 : Int) (x3 : List UInt8) (x4 : List UInt8) : St := ⟨[(2, (.ptr 0 [])), (3, (.own 1 [])), (6, (.v (.slice (.arr 32 (.int .u8))) x0)), (7, (.v (.int .i64) x1)), (8, (.v (.int .i64) x2))], [.box (.arr 32 (.int .u8)) (.v (.arr 32 (.int .u8)) x3) true, .row (.int .u8) x4 true], 19, 0⟩
def lam_key_1_ex (o : List UInt8 × List UInt8) : Exit := (.exit 0)
def lam_key_1_st (o : List UInt8 × List UInt8) : St := ⟨[(2, (.ptr 0 [])), (3, (.own 1 []))], [.box (.arr 32 (.int .u8)) (.v (.arr 32 (.int .u8)) o.1) true, .row (.int .u8) o.2 true], 19, 0⟩
theorem lam_key_1_body (x0 : List (List UInt8)) (x1 : Int) (x2 : Int) (x3 : List UInt8) (x4 : List UInt8) : ∀ r, lam_key_1_step x0 x1 x2 x3 x4 = some r → (match r with | .inl s => CodeOK prog (codeAt (bodyOf f98) [1, 1, 0, 1, 0, 0]) (lam_key_1_in x0 x1 x2 x3 x4) .normal (lam_key_1_in x0 x1 s.1 x3 s.2) | .inr o => lam_key_1_ex o ≠ .normal ∧ CodeOK prog (codeAt (bodyOf f98) [1, 1, 0, 1, 0, 0]) (lam_key_1_in x0 x1 x2 x3 x4) (lam_key_1_ex o) (lam_key_1_st o)) := by
  intro r h
  unfold lam_key_1_step at h
  rcases fork_some h with ⟨h2, h⟩ | ⟨h2, h⟩
  · obtain ⟨h3, h⟩ := need_some h
    obtain ⟨h4, h⟩ := need_some h
    injection h with h; subst h
    exact env.code (its := [.br true, .br true, .sel [2, 3, 6, 7, 8] [0, 3]]) (.c h2 (.c h3 (.c h4 .n))) (by kernel_rfl)
  · injection h with h; subst h
    exact ⟨by intro e; simp [lam_key_1_ex] at e, env.code (its := [.br false, .sel [2, 3] [0, 1]]) (.c h2 .n) (by kernel_rfl)⟩
theorem lam_key_1_ok (x0 : List (List UInt8)) (x1 : Int) (x2 : Int) (x3 : List UInt8) (x4 : List UInt8) (o : List UInt8 × List UInt8) (h : lam_key_1 x0 x1 x2 x3 x4 = some o) : CodeOK prog (codeAt (bodyOf f98) [1, 1, 0, 1, 0]) (lam_key_1_in x0 x1 x2 x3 x4) (lam_key_1_ex o) (lam_key_1_st o) :=
  LoopOK.of_step (st := fun s => lam_key_1_in x0 x1 s.1 x3 s.2) (ex := lam_key_1_ex) (stO := lam_key_1_st) (fun s s2 hs => lam_key_1_body x0 x1 s.1 x3 s.2 (.inl s2) hs) (fun s r hs => lam_key_1_body x0 x1 s.1 x3 s.2 (.inr r) hs) _ o h
def lam_key_R (a0 : List (List UInt8)) (u : List UInt8) : Slot := (.v (.arr 32 (.int .u8)) u)
def lam_key_O (a0 : List (List UInt8)) (u : List UInt8) : List AObj := []
theorem lam_key_ok (a0 : List (List UInt8)) (u : List UInt8) (h : lam_key a0 = some u) : CallC prog 98 [(.v (.slice (.arr 32 (.int .u8))) a0)] [] (lam_key_R a0 u) (lam_key_O a0 u) := by
  unfold lam_key at h
  obtain ⟨o5, h6, h⟩ := andThen_some h
  obtain ⟨u7, h8, h⟩ := andThen_some h
  injection h with h; subst h
  exact env.fun func98 can98 (its := [.dive, .promote 3 (.int .u8), .sel [2, 3, 6, 7, 8] [0, 1], .part (lam_key_1_ex o5) (lam_key_1_st o5), .call [none, none] [] [2] true (sha_Tagged_R (107 : UInt8) ([o5.2] : List (List UInt8)) u7) (sha_Tagged_O (107 : UInt8) ([o5.2] : List (List UInt8)) u7)]) (pos := [.sel []]) (.c (lam_key_1_ok a0 (List.length a0 : Int) (0 : Int) (List.replicate 32 (0 : UInt8)) ([] : List (UInt8)) o5 h6) (.c (sha_Tagged_ok (107 : UInt8) ([o5.2] : List (List UInt8)) u7 h8) .n)) (by kernel_rfl)
theorem can67 : Callable prog 67 := ⟨_, func67, by kernel_rfl, by kernel_rfl⟩
def lam_Key_1_in (x0 : Int) (x1 : List UInt8) (x2 : List UInt8) (x3 : List (List UInt8)) : St := ⟨[(1, (.ptr 0 [])), (2, (.ptr 1 [])), (3, (.own 2 [])), (5, (.v (.int .i64) x0))], [.box (.arr 32 (.int .u8)) (.v (.arr 32 (.int .u8)) x1) true, .box (.arr 32 (.int .u8)) (.v (.arr 32 (.int .u8)) x2) true, .row (.arr 32 (.int .u8)) x3 true], 22, 0⟩
def lam_Key_1_ex (o : List UInt8 × List (List UInt8)) : Exit := (.exit 0)
def lam_Key_1_st (o : List UInt8 × List (List UInt8)) : St := ⟨[(2, (.ptr 0 [])), (3, (.own 1 []))], [.box (.arr 32 (.int .u8)) (.v (.arr 32 (.int .u8)) o.1) true, .row (.arr 32 (.int .u8)) o.2 true], 22, 0⟩
theorem lam_Key_1_body (x0 : Int) (x1 : List UInt8) (x2 : List UInt8) (x3 : List (List UInt8)) : ∀ r, lam_Key_1_step x0 x1 x2 x3 = some r → (match r with | .inl s => CodeOK prog (codeAt (bodyOf f67) [1, 1, 0, 1, 0, 0]) (lam_Key_1_in x0 x1 x2 x3) .normal (lam_Key_1_in s.1 x1 x2 s.2) | .inr o => lam_Key_1_ex o ≠ .normal ∧ CodeOK prog (codeAt (bodyOf f67) [1, 1, 0, 1, 0, 0]) (lam_Key_1_in x0 x1 x2 x3) (lam_Key_1_ex o) (lam_Key_1_st o)) := by
  intro r h
  unfold lam_Key_1_step at h
  rcases fork_some h with ⟨h2, h⟩ | ⟨h2, h⟩
  · obtain ⟨u3, h4, h⟩ := andThen_some h
    obtain ⟨u5, h6, h⟩ := andThen_some h
    obtain ⟨u7, h8, h⟩ := andThen_some h
    obtain ⟨u9, h10, h⟩ := andThen_some h
    obtain ⟨h11, h⟩ := need_some h
    injection h with h; subst h
    exact env.code (its := [.br true, .pre [[], [], [], [1, 2], [1, 2, 3], [], [], [1, 2, 3, 4, 5, 6], [1, 2, 3, 4, 5, 6, 7], [1, 2, 3, 4, 5, 6, 7, 8], [0, 1, 2, 3, 4, 5, 6, 7, 8, 9], [0, 1, 2, 3, 4, 5, 6, 7, 8, 9, 10]], .asis, .call [none, none, none] [] [] true (lam_secret_R x1 x0 (0 : Int) u3) (lam_secret_O x1 x0 (0 : Int) u3), .asis, .call [none] [] [] true (lam_public_R u3 u5) (lam_public_O u3 u5), .asis, .call [none, none, none] [] [] true (lam_secret_R x1 x0 (1 : Int) u7) (lam_secret_O x1 x0 (1 : Int) u7), .asis, .call [none] [] [] true (lam_public_R u7 u9) (lam_public_O u7 u9), .sel [1, 2, 3, 5] [0, 1, 4]]) (.c h2 (.c (rfl : ([] : List AObj) = []) (.c (lam_secret_ok x1 x0 (0 : Int) u3 h4) (.c (rfl : ([] : List AObj) = []) (.c (lam_public_ok u3 u5 h6) (.c (rfl : ([] : List AObj) = []) (.c (lam_secret_ok x1 x0 (1 : Int) u7 h8) (.c (rfl : ([] : List AObj) = []) (.c (lam_public_ok u7 u9 h10) (.c h11 .n)))))))))) (by kernel_rfl)
  · injection h with h; subst h
    exact ⟨by intro e; simp [lam_Key_1_ex] at e, env.code (its := [.br false, .sel [2, 3] [1, 2]]) (.c h2 .n) (by kernel_rfl)⟩
theorem lam_Key_1_ok (x0 : Int) (x1 : List UInt8) (x2 : List UInt8) (x3 : List (List UInt8)) (o : List UInt8 × List (List UInt8)) (h : lam_Key_1 x0 x1 x2 x3 = some o) : CodeOK prog (codeAt (bodyOf f67) [1, 1, 0, 1, 0]) (lam_Key_1_in x0 x1 x2 x3) (lam_Key_1_ex o) (lam_Key_1_st o) :=
  LoopOK.of_step (st := fun s => lam_Key_1_in s.1 x1 x2 s.2) (ex := lam_Key_1_ex) (stO := lam_Key_1_st) (fun s s2 hs => lam_Key_1_body s.1 x1 x2 s.2 (.inl s2) hs) (fun s r hs => lam_Key_1_body s.1 x1 x2 s.2 (.inr r) hs) _ o h
def lam_Key_R (a0 : List UInt8) (u : List UInt8) : Slot := (.v (.arr 32 (.int .u8)) u)
def lam_Key_O (a0 : List UInt8) (u : List UInt8) : List AObj := []
theorem lam_Key_ok (a0 : List UInt8) (u : List UInt8) (h : lam_Key a0 = some u) : CallC prog 67 [(.v (.arr 32 (.int .u8)) a0)] [] (lam_Key_R a0 u) (lam_Key_O a0 u) := by
  unfold lam_Key at h
  obtain ⟨o12, h13, h⟩ := andThen_some h
  obtain ⟨u14, h15, h⟩ := andThen_some h
  injection h with h; subst h
  exact env.fun func67 can67 (its := [.dive, .promote 3 (.arr 32 (.int .u8)), .sel [1, 2, 3, 5] [0, 1, 2], .part (lam_Key_1_ex o12) (lam_Key_1_st o12), .call [none] [] [1] true (lam_key_R o12.2 u14) (lam_key_O o12.2 u14)]) (pos := [.sel []]) (.c (lam_Key_1_ok (0 : Int) a0 (List.replicate 32 (0 : UInt8)) ([] : List (List UInt8)) o12 h13) (.c (lam_key_ok o12.2 u14 h15) .n)) (by kernel_rfl)
theorem can40 : Callable prog 40 := ⟨_, func40, by kernel_rfl, by kernel_rfl⟩
def ring_Keys_1_in (x0 : Int) (x1 : List UInt8) (x2 : List (List UInt8)) : St := ⟨[(1, (.ptr 0 [])), (3, (.own 1 [])), (4, (.v (.int .i64) x0))], [.box (.arr 32 (.int .u8)) (.v (.arr 32 (.int .u8)) x1) true, .row (.slice (.int .u8)) x2 true], 19, 0⟩
def ring_Keys_1_ex (o : List (List UInt8)) : Exit := (.exit 0)
def ring_Keys_1_st (o : List (List UInt8)) : St := ⟨[(3, (.own 0 []))], [.row (.slice (.int .u8)) o true], 19, 0⟩
theorem ring_Keys_1_body (x0 : Int) (x1 : List UInt8) (x2 : List (List UInt8)) : ∀ r, ring_Keys_1_step x0 x1 x2 = some r → (match r with | .inl s => CodeOK prog (codeAt (bodyOf f40) [1, 1, 0, 1, 0, 0]) (ring_Keys_1_in x0 x1 x2) .normal (ring_Keys_1_in s.1 x1 s.2) | .inr o => ring_Keys_1_ex o ≠ .normal ∧ CodeOK prog (codeAt (bodyOf f40) [1, 1, 0, 1, 0, 0]) (ring_Keys_1_in x0 x1 x2) (ring_Keys_1_ex o) (ring_Keys_1_st o)) := by
  intro r h
  unfold ring_Keys_1_step at h
  rcases fork_some h with ⟨h2, h⟩ | ⟨h2, h⟩
  · obtain ⟨u3, h4, h⟩ := andThen_some h
    obtain ⟨u5, h6, h⟩ := andThen_some h
    obtain ⟨h7, h⟩ := need_some h
    injection h with h; subst h
    exact env.code (its := [.br true, .call [none, none] [] [] true (ring_Seed_R x1 x0 u3) (ring_Seed_O x1 x0 u3), .call [none] [] [] true (lam_Key_R u3 u5) (lam_Key_O u3 u5), .br true, .sel [1, 3, 4] [0, 4]]) (.c h2 (.c (ring_Seed_ok x1 x0 u3 h4) (.c (lam_Key_ok u3 u5 h6) (.c h7 .n)))) (by kernel_rfl)
  · injection h with h; subst h
    exact ⟨by intro e; simp [ring_Keys_1_ex] at e, env.code (its := [.br false, .sel [3] [1]]) (.c h2 .n) (by kernel_rfl)⟩
theorem ring_Keys_1_ok (x0 : Int) (x1 : List UInt8) (x2 : List (List UInt8)) (o : List (List UInt8)) (h : ring_Keys_1 x0 x1 x2 = some o) : CodeOK prog (codeAt (bodyOf f40) [1, 1, 0, 1, 0]) (ring_Keys_1_in x0 x1 x2) (ring_Keys_1_ex o) (ring_Keys_1_st o) :=
  LoopOK.of_step (st := fun s => ring_Keys_1_in s.1 x1 s.2) (ex := ring_Keys_1_ex) (stO := ring_Keys_1_st) (fun s s2 hs => ring_Keys_1_body s.1 x1 s.2 (.inl s2) hs) (fun s r hs => ring_Keys_1_body s.1 x1 s.2 (.inr r) hs) _ o h
def ring_Keys_R (a0 : List UInt8) (u : List (List UInt8)) : Slot := (.own 0 [])
def ring_Keys_O (a0 : List UInt8) (u : List (List UInt8)) : List AObj := [.row (.slice (.int .u8)) u true]
theorem ring_Keys_ok (a0 : List UInt8) (u : List (List UInt8)) (h : ring_Keys a0 = some u) : CallC prog 40 [(.v (.arr 32 (.int .u8)) a0)] [] (ring_Keys_R a0 u) (ring_Keys_O a0 u) := by
  unfold ring_Keys at h
  obtain ⟨o8, h9, h⟩ := andThen_some h
  injection h with h; subst h
  exact env.fun func40 can40 (its := [.dive, .promote 3 (.slice (.int .u8)), .sel [1, 3, 4] [0, 1], .part (ring_Keys_1_ex o8) (ring_Keys_1_st o8)]) (pos := [.sel [0]]) (.c (ring_Keys_1_ok (1 : Int) a0 ([] : List (List UInt8)) o8 h9) .n) (by kernel_rfl)
theorem can52 : Callable prog 52 := ⟨_, func52, by kernel_rfl, by kernel_rfl⟩
def head_Right_R (a0 : Int × Int × List UInt8 × List UInt8 × List UInt8 × List UInt8 × Unit) (u : Bool) : Slot := (.v .bool u)
def head_Right_O (a0 : Int × Int × List UInt8 × List UInt8 × List UInt8 × List UInt8 × Unit) (u : Bool) : List AObj := []
theorem head_Right_ok (a0 : Int × Int × List UInt8 × List UInt8 × List UInt8 × List UInt8 × Unit) (u : Bool) (h : head_Right a0 = some u) : CallC prog 52 [(.v (.fld (.int .i64) (.fld (.int .i64) (.fld (.arr 32 (.int .u8)) (.fld (.arr 32 (.int .u8)) (.fld (.arr 32 (.int .u8)) (.fld (.arr 32 (.int .u8)) .unit)))))) a0)] [] (head_Right_R a0 u) (head_Right_O a0 u) := by
  unfold head_Right at h
  rcases fork_some h with ⟨h1, h⟩ | ⟨h1, h⟩
  · rcases fork_some h with ⟨h2, h⟩ | ⟨h2, h⟩
    · rcases fork_some h with ⟨h3, h⟩ | ⟨h3, h⟩
      · injection h with h; subst h
        exact env.fun func52 can52 (its := [.br true, .br true, .br true, .br true, .br true, .br true, .br true, .br true, .br true, .br true, .br true, .br true]) (pos := [.sel []]) (.c h1 (.c h1 (.c h1 (.c h1 (.c h2 (.c h2 (.c h2 (.c h2 (.c h3 (.c h3 (.c h3 (.c h3 .n)))))))))))) (by kernel_rfl)
      · injection h with h; subst h
        exact env.fun func52 can52 (its := [.br true, .br true, .br true, .br true, .br true, .br true, .br true, .br true, .br false, .br false, .br false, .br false]) (pos := [.sel []]) (.c h1 (.c h1 (.c h1 (.c h1 (.c h2 (.c h2 (.c h2 (.c h2 (.c h3 (.c h3 (.c h3 (.c h3 .n)))))))))))) (by kernel_rfl)
    · injection h with h; subst h
      exact env.fun func52 can52 (its := [.br true, .br true, .br true, .br true, .br false, .br false, .br false, .br false, .br false, .br false, .br false, .br false]) (pos := [.sel []]) (.c h1 (.c h1 (.c h1 (.c h1 (.c h2 (.c h2 (.c h2 (.c h2 (.c (rfl : (false : Bool) = false) (.c (rfl : (false : Bool) = false) (.c (rfl : (false : Bool) = false) (.c (rfl : (false : Bool) = false) .n)))))))))))) (by kernel_rfl)
  · injection h with h; subst h
    exact env.fun func52 can52 (its := [.br false, .br false, .br false, .br false, .br false, .br false, .br false, .br false, .br false, .br false, .br false, .br false]) (pos := [.sel []]) (.c h1 (.c h1 (.c h1 (.c h1 (.c (rfl : (false : Bool) = false) (.c (rfl : (false : Bool) = false) (.c (rfl : (false : Bool) = false) (.c (rfl : (false : Bool) = false) (.c (rfl : (false : Bool) = false) (.c (rfl : (false : Bool) = false) (.c (rfl : (false : Bool) = false) (.c (rfl : (false : Bool) = false) .n)))))))))))) (by kernel_rfl)
theorem can110 : Callable prog 110 := ⟨_, func110, by kernel_rfl, by kernel_rfl⟩
def vint_one_1_in (x0 : Int) (x1 : List UInt8) : St := ⟨[(0, (.v (.int .i64) x0)), (3, (.own 0 []))], [.row (.int .u8) x1 true], 26, 0⟩
def vint_one_1_ex (o : Int × List UInt8) : Exit := (.exit 0)
def vint_one_1_st (o : Int × List UInt8) : St := ⟨[(0, (.v (.int .i64) o.1)), (3, (.own 0 []))], [.row (.int .u8) o.2 true], 26, 0⟩
theorem vint_one_1_body (x0 : Int) (x1 : List UInt8) : ∀ r, vint_one_1_step x0 x1 = some r → (match r with | .inl s => CodeOK prog (codeAt (bodyOf f110) [1, 1, 1, 0, 0, 0]) (vint_one_1_in x0 x1) .normal (vint_one_1_in s.1 s.2) | .inr o => vint_one_1_ex o ≠ .normal ∧ CodeOK prog (codeAt (bodyOf f110) [1, 1, 1, 0, 0, 0]) (vint_one_1_in x0 x1) (vint_one_1_ex o) (vint_one_1_st o)) := by
  intro r h
  unfold vint_one_1_step at h
  rcases fork_some h with ⟨h4, h⟩ | ⟨h4, h⟩
  · obtain ⟨h5, h⟩ := need_some h
    injection h with h; subst h
    exact env.code (its := [.br true, .dive, .sel [0, 3] [2]]) (.c h4 (.c h5 (.c (of_decide_eq_true (p := (0 ≤ (7 : Int))) (by kernel_rfl)) .n))) (by kernel_rfl)
  · injection h with h; subst h
    exact ⟨by intro e; simp [vint_one_1_ex] at e, env.code (its := [.br false, .sel [0, 3] [0]]) (.c h4 .n) (by kernel_rfl)⟩
theorem vint_one_1_ok (x0 : Int) (x1 : List UInt8) (o : Int × List UInt8) (h : vint_one_1 x0 x1 = some o) : CodeOK prog (codeAt (bodyOf f110) [1, 1, 1, 0, 0]) (vint_one_1_in x0 x1) (vint_one_1_ex o) (vint_one_1_st o) :=
  LoopOK.of_step (st := fun s => vint_one_1_in s.1 s.2) (ex := vint_one_1_ex) (stO := vint_one_1_st) (fun s s2 hs => vint_one_1_body s.1 s.2 (.inl s2) hs) (fun s r hs => vint_one_1_body s.1 s.2 (.inr r) hs) _ o h
def vint_one_R (a0 : Int) (u : List UInt8) : Slot := (.own 0 [])
def vint_one_O (a0 : Int) (u : List UInt8) : List AObj := [.row (.int .u8) u true]
theorem vint_one_ok (a0 : Int) (u : List UInt8) (h : vint_one a0 = some u) : CallC prog 110 [(.v (.int .i64) a0)] [] (vint_one_R a0 u) (vint_one_O a0 u) := by
  unfold vint_one at h
  rcases fork_some h with ⟨h1, h⟩ | ⟨h1, h⟩
  · injection h with h; subst h
    exact env.fun func110 can110 (its := [.br true, .br true, .br true, .br true]) (pos := [.promote (.int .u8), .sel [0]]) (.c h1 (.c h1 (.c h1 (.c (rfl : (true : Bool) = true) .n)))) (by kernel_rfl)
  · rcases fork_some h with ⟨h2, h⟩ | ⟨h2, h⟩
    · injection h with h; subst h
      exact env.fun func110 can110 (its := [.br false, .br false, .br false, .br true]) (pos := [.promote (.int .u8), .sel [0]]) (.c h1 (.c h1 (.c h1 (.c h2 .n)))) (by kernel_rfl)
    · obtain ⟨o6, h7, h⟩ := andThen_some h
      obtain ⟨h8, h⟩ := need_some h
      injection h with h; subst h
      exact env.fun func110 can110 (its := [.br false, .br false, .br false, .br false, .dive, .promote 3 (.int .u8), .sel [0, 3] [0], .part (vint_one_1_ex o6) (vint_one_1_st o6)]) (pos := [.sel [2]]) (.c h1 (.c h1 (.c h1 (.c h2 (.c (vint_one_1_ok a0 ([] : List (UInt8)) o6 h7) (.c h8 .n)))))) (by kernel_rfl)
theorem can85 : Callable prog 85 := ⟨_, func85, by kernel_rfl, by kernel_rfl⟩
def vint_Put_1_in (x0 : List Int) (x1 : Int) (x2 : Int) (x3 : List UInt8) : St := ⟨[(3, (.own 0 [])), (6, (.v (.slice (.int .i64)) x0)), (7, (.v (.int .i64) x1)), (8, (.v (.int .i64) x2))], [.row (.int .u8) x3 true], 18, 0⟩
def vint_Put_1_ex (o : List UInt8) : Exit := (.exit 0)
def vint_Put_1_st (o : List UInt8) : St := ⟨[(3, (.own 0 []))], [.row (.int .u8) o true], 18, 0⟩
theorem vint_Put_1_body (x0 : List Int) (x1 : Int) (x2 : Int) (x3 : List UInt8) : ∀ r, vint_Put_1_step x0 x1 x2 x3 = some r → (match r with | .inl s => CodeOK prog (codeAt (bodyOf f85) [1, 1, 0, 1, 0, 0]) (vint_Put_1_in x0 x1 x2 x3) .normal (vint_Put_1_in x0 x1 s.1 s.2) | .inr o => vint_Put_1_ex o ≠ .normal ∧ CodeOK prog (codeAt (bodyOf f85) [1, 1, 0, 1, 0, 0]) (vint_Put_1_in x0 x1 x2 x3) (vint_Put_1_ex o) (vint_Put_1_st o)) := by
  intro r h
  unfold vint_Put_1_step at h
  rcases fork_some h with ⟨h2, h⟩ | ⟨h2, h⟩
  · obtain ⟨h3, h⟩ := need_some h
    obtain ⟨u4, h5, h⟩ := andThen_some h
    obtain ⟨h6, h⟩ := need_some h
    injection h with h; subst h
    exact env.code (its := [.br true, .call [none] [] [] true (vint_one_R (List.getD x0 (Int.toNat x2) (0 : Int)) u4) (vint_one_O (List.getD x0 (Int.toNat x2) (0 : Int)) u4), .sel [3, 6, 7, 8] [2]]) (.c h2 (.c h3 (.c (vint_one_ok (List.getD x0 (Int.toNat x2) (0 : Int)) u4 h5) (.c h6 .n)))) (by kernel_rfl)
  · injection h with h; subst h
    exact ⟨by intro e; simp [vint_Put_1_ex] at e, env.code (its := [.br false, .sel [3] [0]]) (.c h2 .n) (by kernel_rfl)⟩
theorem vint_Put_1_ok (x0 : List Int) (x1 : Int) (x2 : Int) (x3 : List UInt8) (o : List UInt8) (h : vint_Put_1 x0 x1 x2 x3 = some o) : CodeOK prog (codeAt (bodyOf f85) [1, 1, 0, 1, 0]) (vint_Put_1_in x0 x1 x2 x3) (vint_Put_1_ex o) (vint_Put_1_st o) :=
  LoopOK.of_step (st := fun s => vint_Put_1_in x0 x1 s.1 s.2) (ex := vint_Put_1_ex) (stO := vint_Put_1_st) (fun s s2 hs => vint_Put_1_body x0 x1 s.1 s.2 (.inl s2) hs) (fun s r hs => vint_Put_1_body x0 x1 s.1 s.2 (.inr r) hs) _ o h
def vint_Put_R (a0 : List Int) (u : List UInt8) : Slot := (.own 0 [])
def vint_Put_O (a0 : List Int) (u : List UInt8) : List AObj := [.row (.int .u8) u true]
theorem vint_Put_ok (a0 : List Int) (u : List UInt8) (h : vint_Put a0 = some u) : CallC prog 85 [(.v (.slice (.int .i64)) a0)] [] (vint_Put_R a0 u) (vint_Put_O a0 u) := by
  unfold vint_Put at h
  obtain ⟨o7, h8, h⟩ := andThen_some h
  injection h with h; subst h
  exact env.fun func85 can85 (its := [.dive, .promote 3 (.int .u8), .sel [3, 6, 7, 8] [0], .part (vint_Put_1_ex o7) (vint_Put_1_st o7)]) (pos := [.sel [0]]) (.c (vint_Put_1_ok a0 (List.length a0 : Int) (0 : Int) ([] : List (UInt8)) o7 h8) .n) (by kernel_rfl)
theorem can88 : Callable prog 88 := ⟨_, func88, by kernel_rfl, by kernel_rfl⟩
def vint_Hash_1_in (x0 : List (List UInt8)) (x1 : Int) (x2 : Int) (x3 : List UInt8) : St := ⟨[(3, (.own 0 [])), (6, (.v (.slice (.arr 32 (.int .u8))) x0)), (7, (.v (.int .i64) x1)), (8, (.v (.int .i64) x2))], [.row (.int .u8) x3 true], 17, 0⟩
def vint_Hash_1_ex (o : List UInt8) : Exit := (.exit 0)
def vint_Hash_1_st (o : List UInt8) : St := ⟨[(3, (.own 0 []))], [.row (.int .u8) o true], 17, 0⟩
theorem vint_Hash_1_body (x0 : List (List UInt8)) (x1 : Int) (x2 : Int) (x3 : List UInt8) : ∀ r, vint_Hash_1_step x0 x1 x2 x3 = some r → (match r with | .inl s => CodeOK prog (codeAt (bodyOf f88) [1, 1, 0, 1, 0, 0]) (vint_Hash_1_in x0 x1 x2 x3) .normal (vint_Hash_1_in x0 x1 s.1 s.2) | .inr o => vint_Hash_1_ex o ≠ .normal ∧ CodeOK prog (codeAt (bodyOf f88) [1, 1, 0, 1, 0, 0]) (vint_Hash_1_in x0 x1 x2 x3) (vint_Hash_1_ex o) (vint_Hash_1_st o)) := by
  intro r h
  unfold vint_Hash_1_step at h
  rcases fork_some h with ⟨h2, h⟩ | ⟨h2, h⟩
  · obtain ⟨h3, h⟩ := need_some h
    obtain ⟨h4, h⟩ := need_some h
    injection h with h; subst h
    exact env.code (its := [.br true, .br true, .sel [3, 6, 7, 8] [2]]) (.c h2 (.c h3 (.c h4 .n))) (by kernel_rfl)
  · injection h with h; subst h
    exact ⟨by intro e; simp [vint_Hash_1_ex] at e, env.code (its := [.br false, .sel [3] [0]]) (.c h2 .n) (by kernel_rfl)⟩
theorem vint_Hash_1_ok (x0 : List (List UInt8)) (x1 : Int) (x2 : Int) (x3 : List UInt8) (o : List UInt8) (h : vint_Hash_1 x0 x1 x2 x3 = some o) : CodeOK prog (codeAt (bodyOf f88) [1, 1, 0, 1, 0]) (vint_Hash_1_in x0 x1 x2 x3) (vint_Hash_1_ex o) (vint_Hash_1_st o) :=
  LoopOK.of_step (st := fun s => vint_Hash_1_in x0 x1 s.1 s.2) (ex := vint_Hash_1_ex) (stO := vint_Hash_1_st) (fun s s2 hs => vint_Hash_1_body x0 x1 s.1 s.2 (.inl s2) hs) (fun s r hs => vint_Hash_1_body x0 x1 s.1 s.2 (.inr r) hs) _ o h
def vint_Hash_R (a0 : List (List UInt8)) (u : List UInt8) : Slot := (.own 0 [])
def vint_Hash_O (a0 : List (List UInt8)) (u : List UInt8) : List AObj := [.row (.int .u8) u true]
theorem vint_Hash_ok (a0 : List (List UInt8)) (u : List UInt8) (h : vint_Hash a0 = some u) : CallC prog 88 [(.v (.slice (.arr 32 (.int .u8))) a0)] [] (vint_Hash_R a0 u) (vint_Hash_O a0 u) := by
  unfold vint_Hash at h
  obtain ⟨o5, h6, h⟩ := andThen_some h
  injection h with h; subst h
  exact env.fun func88 can88 (its := [.dive, .promote 3 (.int .u8), .sel [3, 6, 7, 8] [0], .part (vint_Hash_1_ex o5) (vint_Hash_1_st o5)]) (pos := [.sel [0]]) (.c (vint_Hash_1_ok a0 (List.length a0 : Int) (0 : Int) ([] : List (UInt8)) o5 h6) .n) (by kernel_rfl)
theorem can100 : Callable prog 100 := ⟨_, func100, by kernel_rfl, by kernel_rfl⟩
def head_Bytes_R (a0 : Int × Int × List UInt8 × List UInt8 × List UInt8 × List UInt8 × Unit) (u : List UInt8) : Slot := (.own 0 [])
def head_Bytes_O (a0 : Int × Int × List UInt8 × List UInt8 × List UInt8 × List UInt8 × Unit) (u : List UInt8) : List AObj := [.row (.int .u8) u true]
theorem head_Bytes_ok (a0 : Int × Int × List UInt8 × List UInt8 × List UInt8 × List UInt8 × Unit) (u : List UInt8) (h : head_Bytes a0 = some u) : CallC prog 100 [(.v (.fld (.int .i64) (.fld (.int .i64) (.fld (.arr 32 (.int .u8)) (.fld (.arr 32 (.int .u8)) (.fld (.arr 32 (.int .u8)) (.fld (.arr 32 (.int .u8)) .unit)))))) a0)] [] (head_Bytes_R a0 u) (head_Bytes_O a0 u) := by
  unfold head_Bytes at h
  obtain ⟨u1, h2, h⟩ := andThen_some h
  rcases fork_some h with ⟨h3, h⟩ | ⟨h3, h⟩
  · injection h with h; subst h
    exact env.fun func100 can100 (its := [.call [none] [] [] true (head_Right_R a0 u1) (head_Right_O a0 u1), .br true]) (pos := [.promote (.int .u8), .sel [1]]) (.c (head_Right_ok a0 u1 h2) (.c h3 .n)) (by kernel_rfl)
  · obtain ⟨u4, h5, h⟩ := andThen_some h
    obtain ⟨u6, h7, h⟩ := andThen_some h
    obtain ⟨h8, h⟩ := need_some h
    injection h with h; subst h
    exact env.fun func100 can100 (its := [.call [none] [] [] true (head_Right_R a0 u1) (head_Right_O a0 u1), .br false, .pre [[], [0], [], [2], [0, 1, 2, 3], [0, 1, 2, 3, 4], [], [6], [], [8], [], [10], [], [12], [6, 7, 8, 9, 10, 11, 12, 13], [0, 1, 2, 3, 4, 5, 6, 7, 8, 9, 10, 11, 12, 13, 14], [0, 1, 2, 3, 4, 5, 6, 7, 8, 9, 10, 11, 12, 13, 14, 15], [0, 1, 2, 3, 4, 5, 6, 7, 8, 9, 10, 11, 12, 13, 14, 15, 16]], .call [none] [] [0] true (vint_Put_R ([a0.1, a0.2.1] : List (Int)) u4) (vint_Put_O ([a0.1, a0.2.1] : List (Int)) u4), .call [none] [] [0] true (vint_Hash_R ([a0.2.2.1, a0.2.2.2.1, a0.2.2.2.2.1, a0.2.2.2.2.2.1] : List (List UInt8)) u6) (vint_Hash_O ([a0.2.2.1, a0.2.2.2.1, a0.2.2.2.2.1, a0.2.2.2.2.2.1] : List (List UInt8)) u6)]) (pos := [.sel [5]]) (.c (head_Right_ok a0 u1 h2) (.c h3 (.c (vint_Put_ok ([a0.1, a0.2.1] : List (Int)) u4 h5) (.c (vint_Hash_ok ([a0.2.2.1, a0.2.2.2.1, a0.2.2.2.2.1, a0.2.2.2.2.2.1] : List (List UInt8)) u6 h7) (.c h8 .n))))) (by kernel_rfl)
theorem can71 : Callable prog 71 := ⟨_, func71, by kernel_rfl, by kernel_rfl⟩
def head_Hash_R (a0 : Int × Int × List UInt8 × List UInt8 × List UInt8 × List UInt8 × Unit) (u : List UInt8) : Slot := (.v (.arr 32 (.int .u8)) u)
def head_Hash_O (a0 : Int × Int × List UInt8 × List UInt8 × List UInt8 × List UInt8 × Unit) (u : List UInt8) : List AObj := []
theorem head_Hash_ok (a0 : Int × Int × List UInt8 × List UInt8 × List UInt8 × List UInt8 × Unit) (u : List UInt8) (h : head_Hash a0 = some u) : CallC prog 71 [(.v (.fld (.int .i64) (.fld (.int .i64) (.fld (.arr 32 (.int .u8)) (.fld (.arr 32 (.int .u8)) (.fld (.arr 32 (.int .u8)) (.fld (.arr 32 (.int .u8)) .unit)))))) a0)] [] (head_Hash_R a0 u) (head_Hash_O a0 u) := by
  unfold head_Hash at h
  obtain ⟨u1, h2, h⟩ := andThen_some h
  obtain ⟨u3, h4, h⟩ := andThen_some h
  injection h with h; subst h
  exact env.fun func71 can71 (its := [.call [none] [] [] true (head_Bytes_R a0 u1) (head_Bytes_O a0 u1), .call [none, none] [] [3] true (sha_Tagged_R (72 : UInt8) ([u1] : List (List UInt8)) u3) (sha_Tagged_O (72 : UInt8) ([u1] : List (List UInt8)) u3)]) (pos := [.sel []]) (.c (head_Bytes_ok a0 u1 h2) (.c (sha_Tagged_ok (72 : UInt8) ([u1] : List (List UInt8)) u3 h4) .n)) (by kernel_rfl)
theorem can43 : Callable prog 43 := ⟨_, func43, by kernel_rfl, by kernel_rfl⟩
def seal_text_R (a0 : Int × Int × List UInt8 × List UInt8 × List UInt8 × List UInt8 × Unit) (u : List UInt8) : Slot := (.own 0 [])
def seal_text_O (a0 : Int × Int × List UInt8 × List UInt8 × List UInt8 × List UInt8 × Unit) (u : List UInt8) : List AObj := [.box (.arr 32 (.int .u8)) (.v (.arr 32 (.int .u8)) u) true]
theorem seal_text_ok (a0 : Int × Int × List UInt8 × List UInt8 × List UInt8 × List UInt8 × Unit) (u : List UInt8) (h : seal_text a0 = some u) : CallC prog 43 [(.v (.fld (.int .i64) (.fld (.int .i64) (.fld (.arr 32 (.int .u8)) (.fld (.arr 32 (.int .u8)) (.fld (.arr 32 (.int .u8)) (.fld (.arr 32 (.int .u8)) .unit)))))) a0)] [] (seal_text_R a0 u) (seal_text_O a0 u) := by
  unfold seal_text at h
  obtain ⟨u1, h2, h⟩ := andThen_some h
  injection h with h; subst h
  exact env.fun func43 can43 (its := [.call [none] [] [] true (head_Hash_R a0 u1) (head_Hash_O a0 u1), .br true]) (pos := [.sel [1]]) (.c (head_Hash_ok a0 u1 h2) .n) (by kernel_rfl)
theorem can72 : Callable prog 72 := ⟨_, func72, by kernel_rfl, by kernel_rfl⟩
def ring_is_R (a0 : Int) (u : Bool) : Slot := (.v .bool u)
def ring_is_O (a0 : Int) (u : Bool) : List AObj := []
theorem ring_is_ok (a0 : Int) (u : Bool) (h : ring_is a0 = some u) : CallC prog 72 [(.v (.int .i64) a0)] [] (ring_is_R a0 u) (ring_is_O a0 u) := by
  unfold ring_is at h
  rcases fork_some h with ⟨h1, h⟩ | ⟨h1, h⟩
  · injection h with h; subst h
    exact env.fun func72 can72 (its := [.br true, .br true, .br true]) (pos := [.sel []]) (.c h1 (.c h1 (.c h1 .n))) (by kernel_rfl)
  · injection h with h; subst h
    exact env.fun func72 can72 (its := [.br false, .br false, .br false]) (pos := [.sel []]) (.c h1 (.c h1 (.c h1 .n))) (by kernel_rfl)
theorem can101 : Callable prog 101 := ⟨_, func101, by kernel_rfl, by kernel_rfl⟩
def lam_bit_R (a0 : List UInt8) (a1 : Int) (u : Int) : Slot := (.v (.int .i64) u)
def lam_bit_O (a0 : List UInt8) (a1 : Int) (u : Int) : List AObj := []
theorem lam_bit_ok (a0 : List UInt8) (a1 : Int) (u : Int) (h : lam_bit a0 a1 = some u) : CallC prog 101 [(.v (.arr 32 (.int .u8)) a0), (.v (.int .i64) a1)] [] (lam_bit_R a0 a1 u) (lam_bit_O a0 a1 u) := by
  unfold lam_bit at h
  obtain ⟨h1, h⟩ := need_some h
  obtain ⟨h2, h⟩ := need_some h
  injection h with h; subst h
  exact env.fun func101 can101 (its := []) (pos := [.sel []]) (.c (of_decide_eq_true (p := ((8 : Int) ≠ 0)) (by kernel_rfl)) (.c h1 (.c (of_decide_eq_true (p := ((8 : Int) ≠ 0)) (by kernel_rfl)) (.c h2 .n)))) (by kernel_rfl)
theorem can94 : Callable prog 94 := ⟨_, func94, by kernel_rfl, by kernel_rfl⟩
def lam_Sign_1_in (x0 : Int) (x1 : List UInt8) (x2 : Unit) (x3 : Unit) (x4 : List (List UInt8)) (x5 : List (List UInt8)) (x6 : List UInt8) : St := ⟨[(2, (.ptr 0 [])), (4, (.ptr 1 [])), (5, (.ptr 2 [])), (6, (.ptr 5 [])), (12, (.v (.int .i64) x0))], [.box (.arr 32 (.int .u8)) (.v (.arr 32 (.int .u8)) x1) true, .box (.fld (.slice (.arr 32 (.int .u8))) (.fld (.slice (.arr 32 (.int .u8))) .unit)) (.node .nil (.node .nil (.v .unit x2))) true, .box (.fld (.slice (.arr 32 (.int .u8))) (.fld (.slice (.arr 32 (.int .u8))) .unit)) (.node (.own 3 []) (.node (.own 4 []) (.v .unit x3))) true, .row (.arr 32 (.int .u8)) x4 true, .row (.arr 32 (.int .u8)) x5 true, .box (.arr 32 (.int .u8)) (.v (.arr 32 (.int .u8)) x6) true], 40, 0⟩
def lam_Sign_1_ex (o : Unit × Unit × List (List UInt8) × List (List UInt8)) : Exit := (.exit 0)
def lam_Sign_1_st (o : Unit × Unit × List (List UInt8) × List (List UInt8)) : St := ⟨[(4, (.ptr 0 [])), (5, (.ptr 1 []))], [.box (.fld (.slice (.arr 32 (.int .u8))) (.fld (.slice (.arr 32 (.int .u8))) .unit)) (.node .nil (.node .nil (.v .unit o.1))) true, .box (.fld (.slice (.arr 32 (.int .u8))) (.fld (.slice (.arr 32 (.int .u8))) .unit)) (.node (.own 2 []) (.node (.own 3 []) (.v .unit o.2.1))) true, .row (.arr 32 (.int .u8)) o.2.2.1 true, .row (.arr 32 (.int .u8)) o.2.2.2 true], 40, 0⟩
theorem lam_Sign_1_body (x0 : Int) (x1 : List UInt8) (x2 : Unit) (x3 : Unit) (x4 : List (List UInt8)) (x5 : List (List UInt8)) (x6 : List UInt8) : ∀ r, lam_Sign_1_step x0 x1 x2 x3 x4 x5 x6 = some r → (match r with | .inl s => CodeOK prog (codeAt (bodyOf f94) [1, 1, 1, 0, 1, 0, 0]) (lam_Sign_1_in x0 x1 x2 x3 x4 x5 x6) .normal (lam_Sign_1_in s.1 x1 x2 x3 s.2.1 s.2.2 x6) | .inr o => lam_Sign_1_ex o ≠ .normal ∧ CodeOK prog (codeAt (bodyOf f94) [1, 1, 1, 0, 1, 0, 0]) (lam_Sign_1_in x0 x1 x2 x3 x4 x5 x6) (lam_Sign_1_ex o) (lam_Sign_1_st o)) := by
  intro r h
  unfold lam_Sign_1_step at h
  rcases fork_some h with ⟨h4, h⟩ | ⟨h4, h⟩
  · obtain ⟨u5, h6, h⟩ := andThen_some h
    obtain ⟨u7, h8, h⟩ := andThen_some h
    obtain ⟨h9, h⟩ := need_some h
    obtain ⟨u10, h11, h⟩ := andThen_some h
    obtain ⟨u12, h13, h⟩ := andThen_some h
    obtain ⟨h14, h⟩ := need_some h
    injection h with h; subst h
    exact env.code (its := [.br true, .call [none, none] [] [] true (lam_bit_R x6 x0 u5) (lam_bit_O x6 x0 u5), .pre [[], [0], [], [], [], [2, 3, 4], [2, 3, 4, 5], [0, 1, 2, 3, 4, 5, 6], [0, 1, 2, 3, 4, 5, 6, 7], [0, 1, 2, 3, 4, 5, 6, 7, 8]], .asis, .call [none, none, none] [] [] true (lam_secret_R x1 x0 u5 u7) (lam_secret_O x1 x0 u5 u7), .pre [[], [0], [], [], [], [4], [2, 3, 4, 5], [2, 3, 4, 5, 6], [2, 3, 4, 5, 6, 7], [0, 1, 2, 3, 4, 5, 6, 7, 8], [0, 1, 2, 3, 4, 5, 6, 7, 8, 9], [0, 1, 2, 3, 4, 5, 6, 7, 8, 9, 10]], .asis, .call [none, none, none] [] [] true (lam_secret_R x1 x0 (w64 ((1 : Int) - u5)) u10) (lam_secret_O x1 x0 (w64 ((1 : Int) - u5)) u10), .asis, .call [none] [] [] true (lam_public_R u10 u12) (lam_public_O u10 u12), .sel [2, 4, 5, 6, 12] [0, 1, 2, 7, 9, 5]]) (.c h4 (.c (lam_bit_ok x6 x0 u5 h6) (.c (rfl : ([] : List AObj) = []) (.c (lam_secret_ok x1 x0 u5 u7 h8) (.c h9 (.c (rfl : ([] : List AObj) = []) (.c (lam_secret_ok x1 x0 (w64 ((1 : Int) - u5)) u10 h11) (.c (rfl : ([] : List AObj) = []) (.c (lam_public_ok u10 u12 h13) (.c h14 .n)))))))))) (by kernel_rfl)
  · injection h with h; subst h
    exact ⟨by intro e; simp [lam_Sign_1_ex] at e, env.code (its := [.br false, .sel [4, 5] [1, 2, 3, 4]]) (.c h4 .n) (by kernel_rfl)⟩
theorem lam_Sign_1_ok (x0 : Int) (x1 : List UInt8) (x2 : Unit) (x3 : Unit) (x4 : List (List UInt8)) (x5 : List (List UInt8)) (x6 : List UInt8) (o : Unit × Unit × List (List UInt8) × List (List UInt8)) (h : lam_Sign_1 x0 x1 x2 x3 x4 x5 x6 = some o) : CodeOK prog (codeAt (bodyOf f94) [1, 1, 1, 0, 1, 0]) (lam_Sign_1_in x0 x1 x2 x3 x4 x5 x6) (lam_Sign_1_ex o) (lam_Sign_1_st o) :=
  LoopOK.of_step (st := fun s => lam_Sign_1_in s.1 x1 x2 x3 s.2.1 s.2.2 x6) (ex := lam_Sign_1_ex) (stO := lam_Sign_1_st) (fun s s2 hs => lam_Sign_1_body s.1 x1 x2 x3 s.2.1 s.2.2 x6 (.inl s2) hs) (fun s r hs => lam_Sign_1_body s.1 x1 x2 x3 s.2.1 s.2.2 x6 (.inr r) hs) _ o h
def lam_Sign_R (a0 : List UInt8) (a1 : List UInt8) (u : List (List UInt8) × List (List UInt8) × Unit) : Slot := (.v (.fld (.slice (.arr 32 (.int .u8))) (.fld (.slice (.arr 32 (.int .u8))) .unit)) u)
def lam_Sign_O (a0 : List UInt8) (a1 : List UInt8) (u : List (List UInt8) × List (List UInt8) × Unit) : List AObj := []
theorem lam_Sign_ok (a0 : List UInt8) (a1 : List UInt8) (u : List (List UInt8) × List (List UInt8) × Unit) (h : lam_Sign a0 a1 = some u) : CallC prog 94 [(.v (.arr 32 (.int .u8)) a0), (.v (.slice (.int .u8)) a1)] [] (lam_Sign_R a0 a1 u) (lam_Sign_O a0 a1 u) := by
  unfold lam_Sign at h
  obtain ⟨u1, h2, h⟩ := andThen_some h
  obtain ⟨o15, h16, h⟩ := andThen_some h
  injection h with h; subst h
  exact env.fun func94 can94 (its := [.call [none, none] [] [3] true (sha_Tagged_R (109 : UInt8) ([a1] : List (List UInt8)) u1) (sha_Tagged_O (109 : UInt8) ([a1] : List (List UInt8)) u1), .dive, .promoteObj 2 [.fld 0], .promoteObj 2 [.fld 1], .sel [2, 4, 5, 6, 12] [0, 1, 2, 5, 6, 4], .part (lam_Sign_1_ex o15) (lam_Sign_1_st o15)]) (pos := [.sel []]) (.c (sha_Tagged_ok (109 : UInt8) ([a1] : List (List UInt8)) u1 h2) (.c (lam_Sign_1_ok (0 : Int) a0 (()) (()) ([] : List (List UInt8)) ([] : List (List UInt8)) u1 o15 h16) .n)) (by kernel_rfl)
theorem can115 : Callable prog 115 := ⟨_, func115, by kernel_rfl, by kernel_rfl⟩
def tree_left_1_in (x0 : Int) (x1 : Int) : St := ⟨[(0, (.v (.int .i64) x0)), (3, (.v (.int .i64) x1))], [], 11, 0⟩
def tree_left_1_ex (o : Int) : Exit := (.exit 0)
def tree_left_1_st (o : Int) : St := ⟨[(3, (.v (.int .i64) o))], [], 11, 0⟩
theorem tree_left_1_body (x0 : Int) (x1 : Int) : ∀ r, tree_left_1_step x0 x1 = some r → (match r with | .inl s => CodeOK prog (codeAt (bodyOf f115) [1, 1, 0, 0, 0]) (tree_left_1_in x0 x1) .normal (tree_left_1_in x0 s) | .inr o => tree_left_1_ex o ≠ .normal ∧ CodeOK prog (codeAt (bodyOf f115) [1, 1, 0, 0, 0]) (tree_left_1_in x0 x1) (tree_left_1_ex o) (tree_left_1_st o)) := by
  intro r h
  unfold tree_left_1_step at h
  rcases fork_some h with ⟨h2, h⟩ | ⟨h2, h⟩
  · injection h with h; subst h
    exact env.code (its := [.br true, .dive, .sel [0, 3] []]) (.c h2 .n) (by kernel_rfl)
  · injection h with h; subst h
    exact ⟨by intro e; simp [tree_left_1_ex] at e, env.code (its := [.br false, .sel [3] []]) (.c h2 .n) (by kernel_rfl)⟩
theorem tree_left_1_ok (x0 : Int) (x1 : Int) (o : Int) (h : tree_left_1 x0 x1 = some o) : CodeOK prog (codeAt (bodyOf f115) [1, 1, 0, 0]) (tree_left_1_in x0 x1) (tree_left_1_ex o) (tree_left_1_st o) :=
  LoopOK.of_step (st := fun s => tree_left_1_in x0 s) (ex := tree_left_1_ex) (stO := tree_left_1_st) (fun s s2 hs => tree_left_1_body x0 s (.inl s2) hs) (fun s r hs => tree_left_1_body x0 s (.inr r) hs) _ o h
def tree_left_R (a0 : Int) (u : Int) : Slot := (.v (.int .i64) u)
def tree_left_O (a0 : Int) (u : Int) : List AObj := []
theorem tree_left_ok (a0 : Int) (u : Int) (h : tree_left a0 = some u) : CallC prog 115 [(.v (.int .i64) a0)] [] (tree_left_R a0 u) (tree_left_O a0 u) := by
  unfold tree_left at h
  obtain ⟨o3, h4, h⟩ := andThen_some h
  injection h with h; subst h
  exact env.fun func115 can115 (its := [.dive, .sel [0, 3] [], .part (tree_left_1_ex o3) (tree_left_1_st o3)]) (pos := [.sel []]) (.c (tree_left_1_ok a0 (1 : Int) o3 h4) .n) (by kernel_rfl)
theorem can106 : Callable prog 106 := ⟨_, func106, by kernel_rfl, by kernel_rfl⟩
def tree_inner_R (a0 : List UInt8) (a1 : List UInt8) (u : List UInt8) : Slot := (.v (.arr 32 (.int .u8)) u)
def tree_inner_O (a0 : List UInt8) (a1 : List UInt8) (u : List UInt8) : List AObj := []
theorem tree_inner_ok (a0 : List UInt8) (a1 : List UInt8) (u : List UInt8) (h : tree_inner a0 a1 = some u) : CallC prog 106 [(.v (.arr 32 (.int .u8)) a0), (.v (.arr 32 (.int .u8)) a1)] [] (tree_inner_R a0 a1 u) (tree_inner_O a0 a1 u) := by
  unfold tree_inner at h
  obtain ⟨u1, h2, h⟩ := andThen_some h
  injection h with h; subst h
  exact env.fun func106 can106 (its := [.pre [[], [], [0, 1], [0, 1, 2], [0, 1, 2, 3]], .br true, .br true, .asis, .call [none, none] [] [0] true (sha_Tagged_R (1 : UInt8) ([a0, a1] : List (List UInt8)) u1) (sha_Tagged_O (1 : UInt8) ([a0, a1] : List (List UInt8)) u1)]) (pos := [.sel []]) (.c (rfl : ([.row (.slice (.int .u8)) ([a0, a1] : List (List UInt8)) true] : List AObj) = [.row (.slice (.int .u8)) ([a0, a1] : List (List UInt8)) true]) (.c (sha_Tagged_ok (1 : UInt8) ([a0, a1] : List (List UInt8)) u1 h2) .n)) (by kernel_rfl)
theorem can104 : Callable prog 104 := ⟨_, func104, by kernel_rfl, by kernel_rfl⟩
def tree_Root_R (a0 : List (List UInt8)) (u : List UInt8) : Slot := (.v (.arr 32 (.int .u8)) u)
def tree_Root_O (a0 : List (List UInt8)) (u : List UInt8) : List AObj := []
theorem tree_Root_f_ok : ∀ (k : Nat) (a0 : List (List UInt8)) (u : List UInt8) (h : tree_Root_f k a0 = some u), CallC prog 104 [(.v (.slice (.slice (.int .u8))) a0)] [] (tree_Root_R a0 u) (tree_Root_O a0 u)
  | 0, a0, u, h => by cases h
  | k + 1, a0, u, h => by
    unfold tree_Root_f at h
    rcases fork_some h with ⟨h1, h⟩ | ⟨h1, h⟩
    · obtain ⟨u2, h3, h⟩ := andThen_some h
      injection h with h; subst h
      exact env.fun func104 can104 (its := [.br true, .call [none, (some (.slice (.int .u8)))] [] [] true (sha_Tagged_R (2 : UInt8) ([] : List (List UInt8)) u2) (sha_Tagged_O (2 : UInt8) ([] : List (List UInt8)) u2)]) (pos := [.sel []]) (.c h1 (.c (sha_Tagged_ok (2 : UInt8) ([] : List (List UInt8)) u2 h3) .n)) (by kernel_rfl)
    · rcases fork_some h with ⟨h4, h⟩ | ⟨h4, h⟩
      · obtain ⟨h5, h⟩ := need_some h
        obtain ⟨u6, h7, h⟩ := andThen_some h
        injection h with h; subst h
        exact env.fun func104 can104 (its := [.br false, .br true, .call [none, none] [] [1] true (sha_Tagged_R (0 : UInt8) ([(List.getD a0 (Int.toNat (0 : Int)) ([] : List UInt8))] : List (List UInt8)) u6) (sha_Tagged_O (0 : UInt8) ([(List.getD a0 (Int.toNat (0 : Int)) ([] : List UInt8))] : List (List UInt8)) u6)]) (pos := [.sel []]) (.c h1 (.c h4 (.c h5 (.c (sha_Tagged_ok (0 : UInt8) ([(List.getD a0 (Int.toNat (0 : Int)) ([] : List UInt8))] : List (List UInt8)) u6 h7) .n)))) (by kernel_rfl)
      · obtain ⟨u8, h9, h⟩ := andThen_some h
        obtain ⟨h10, h⟩ := need_some h
        obtain ⟨u11, h12, h⟩ := andThen_some h
        obtain ⟨h13, h⟩ := need_some h
        obtain ⟨u14, h15, h⟩ := andThen_some h
        obtain ⟨u16, h17, h⟩ := andThen_some h
        injection h with h; subst h
        exact env.fun func104 can104 (its := [.br false, .br false, .call [none] [] [] true (tree_left_R (List.length a0 : Int) u8) (tree_left_O (List.length a0 : Int) u8), .pre [[], [], [0, 1], [0, 1, 2], [], [], [4, 5], [0, 1, 2, 3, 4, 5, 6], [0, 1, 2, 3, 4, 5, 6, 7], [0, 1, 2, 3, 4, 5, 6, 7, 8]], .br false, .asis, .call [none] [] [] true (tree_Root_R (cutL a0 (0 : Int) u8) u11) (tree_Root_O (cutL a0 (0 : Int) u8) u11), .br false, .asis, .call [none] [] [] true (tree_Root_R (cutL a0 u8 (List.length a0 : Int)) u14) (tree_Root_O (cutL a0 u8 (List.length a0 : Int)) u14), .asis, .call [none, none] [] [] true (tree_inner_R u11 u14 u16) (tree_inner_O u11 u14 u16)]) (pos := [.sel []]) (.c h1 (.c h4 (.c (tree_left_ok (List.length a0 : Int) u8 h9) (.c h10 (.c (rfl : ([] : List AObj) = []) (.c (tree_Root_f_ok k (cutL a0 (0 : Int) u8) u11 h12) (.c h13 (.c (rfl : ([] : List AObj) = []) (.c (tree_Root_f_ok k (cutL a0 u8 (List.length a0 : Int)) u14 h15) (.c (rfl : ([] : List AObj) = []) (.c (tree_inner_ok u11 u14 u16 h17) .n))))))))))) (by kernel_rfl)
theorem tree_Root_ok (a0 : List (List UInt8)) (u : List UInt8) (h : tree_Root a0 = some u) : CallC prog 104 [(.v (.slice (.slice (.int .u8))) a0)] [] (tree_Root_R a0 u) (tree_Root_O a0 u) := tree_Root_f_ok 64 a0 u h
theorem can116 : Callable prog 116 := ⟨_, func116, by kernel_rfl, by kernel_rfl⟩
def slices_Reverse_LHash_Hash_8d4f_1_in (x0 : Int) (x1 : Int) (x2 : List (List UInt8)) : St := ⟨[(0, (.own 0 [])), (2, (.v (.int .i64) x0)), (3, (.v (.int .i64) x1))], [.row (.arr 32 (.int .u8)) x2 true], 28, 1⟩
def slices_Reverse_LHash_Hash_8d4f_1_ex (o : List (List UInt8)) : Exit := (.exit 0)
def slices_Reverse_LHash_Hash_8d4f_1_st (o : List (List UInt8)) : St := ⟨[], [.row (.arr 32 (.int .u8)) o true], 28, 1⟩
theorem slices_Reverse_LHash_Hash_8d4f_1_body (x0 : Int) (x1 : Int) (x2 : List (List UInt8)) : ∀ r, slices_Reverse_LHash_Hash_8d4f_1_step x0 x1 x2 = some r → (match r with | .inl s => CodeOK prog (codeAt (bodyOf f116) [1, 0, 0]) (slices_Reverse_LHash_Hash_8d4f_1_in x0 x1 x2) .normal (slices_Reverse_LHash_Hash_8d4f_1_in s.1 s.2.1 s.2.2) | .inr o => slices_Reverse_LHash_Hash_8d4f_1_ex o ≠ .normal ∧ CodeOK prog (codeAt (bodyOf f116) [1, 0, 0]) (slices_Reverse_LHash_Hash_8d4f_1_in x0 x1 x2) (slices_Reverse_LHash_Hash_8d4f_1_ex o) (slices_Reverse_LHash_Hash_8d4f_1_st o)) := by
  intro r h
  unfold slices_Reverse_LHash_Hash_8d4f_1_step at h
  rcases fork_some h with ⟨h2, h⟩ | ⟨h2, h⟩
  · obtain ⟨h3, h⟩ := need_some h
    obtain ⟨h4, h⟩ := need_some h
    obtain ⟨h5, h⟩ := need_some h
    injection h with h; subst h
    exact env.code (its := [.br true, .pre [[], [], [], [], [], [], [4, 5], [4, 5, 6], [], [], [8, 9], [8, 9, 10], [0, 1, 4, 5, 6, 7, 8, 9, 10, 11], [0, 1, 4, 5, 6, 7, 8, 9, 10, 11, 12], [0, 1, 2, 3, 4, 5, 6, 7, 8, 9, 10, 11, 12, 13], [0, 1, 2, 3, 4, 5, 6, 7, 8, 9, 10, 11, 12, 13, 14]], .sel [0, 2, 3] [0]]) (.c h2 (.c h3 (.c h4 (.c h4 (.c h5 .n))))) (by kernel_rfl)
  · injection h with h; subst h
    exact ⟨by intro e; simp [slices_Reverse_LHash_Hash_8d4f_1_ex] at e, env.code (its := [.br false, .sel [] [0]]) (.c h2 .n) (by kernel_rfl)⟩
theorem slices_Reverse_LHash_Hash_8d4f_1_ok (x0 : Int) (x1 : Int) (x2 : List (List UInt8)) (o : List (List UInt8)) (h : slices_Reverse_LHash_Hash_8d4f_1 x0 x1 x2 = some o) : CodeOK prog (codeAt (bodyOf f116) [1, 0]) (slices_Reverse_LHash_Hash_8d4f_1_in x0 x1 x2) (slices_Reverse_LHash_Hash_8d4f_1_ex o) (slices_Reverse_LHash_Hash_8d4f_1_st o) :=
  LoopOK.of_step (st := fun s => slices_Reverse_LHash_Hash_8d4f_1_in s.1 s.2.1 s.2.2) (ex := slices_Reverse_LHash_Hash_8d4f_1_ex) (stO := slices_Reverse_LHash_Hash_8d4f_1_st) (fun s s2 hs => slices_Reverse_LHash_Hash_8d4f_1_body s.1 s.2.1 s.2.2 (.inl s2) hs) (fun s r hs => slices_Reverse_LHash_Hash_8d4f_1_body s.1 s.2.1 s.2.2 (.inr r) hs) _ o h
def slices_Reverse_LHash_Hash_8d4f_R (a0 : List (List UInt8)) (u : List (List UInt8)) : Slot := .tnil
def slices_Reverse_LHash_Hash_8d4f_O (a0 : List (List UInt8)) (u : List (List UInt8)) : List AObj := [.row (.arr 32 (.int .u8)) u true]
theorem slices_Reverse_LHash_Hash_8d4f_ok (a0 : List (List UInt8)) (u : List (List UInt8)) (h : slices_Reverse_LHash_Hash_8d4f a0 = some u) : CallC prog 116 [(.own 0 [])] [.row (.arr 32 (.int .u8)) a0 true] (slices_Reverse_LHash_Hash_8d4f_R a0 u) (slices_Reverse_LHash_Hash_8d4f_O a0 u) := by
  unfold slices_Reverse_LHash_Hash_8d4f at h
  obtain ⟨o6, h7, h⟩ := andThen_some h
  injection h with h; subst h
  exact env.fun func116 can116 (its := [.dive, .sel [0, 2, 3] [0], .part (slices_Reverse_LHash_Hash_8d4f_1_ex o6) (slices_Reverse_LHash_Hash_8d4f_1_st o6)]) (pos := [.sel [0]]) (.c (slices_Reverse_LHash_Hash_8d4f_1_ok (0 : Int) (w64 ((List.length a0 : Int) - (1 : Int))) a0 o6 h7) .n) (by kernel_rfl)
theorem can95 : Callable prog 95 := ⟨_, func95, by kernel_rfl, by kernel_rfl⟩
def tree_Path_1_in (x0 : List (List UInt8)) (x1 : Int) (x2 : List (List UInt8)) : St := ⟨[(0, (.v (.slice (.slice (.int .u8))) x0)), (1, (.v (.int .i64) x1)), (5, (.own 0 []))], [.row (.arr 32 (.int .u8)) x2 true], 50, 0⟩
def tree_Path_1_ex (o : List (List UInt8)) : Exit := (.exit 0)
def tree_Path_1_st (o : List (List UInt8)) : St := ⟨[(5, (.own 0 []))], [.row (.arr 32 (.int .u8)) o true], 50, 0⟩
theorem tree_Path_1_body (x0 : List (List UInt8)) (x1 : Int) (x2 : List (List UInt8)) : ∀ r, tree_Path_1_step x0 x1 x2 = some r → (match r with | .inl s => CodeOK prog (codeAt (bodyOf f95) [1, 1, 1, 0, 0, 0]) (tree_Path_1_in x0 x1 x2) .normal (tree_Path_1_in s.1 s.2.1 s.2.2) | .inr o => tree_Path_1_ex o ≠ .normal ∧ CodeOK prog (codeAt (bodyOf f95) [1, 1, 1, 0, 0, 0]) (tree_Path_1_in x0 x1 x2) (tree_Path_1_ex o) (tree_Path_1_st o)) := by
  intro r h
  unfold tree_Path_1_step at h
  rcases fork_some h with ⟨h4, h⟩ | ⟨h4, h⟩
  · obtain ⟨u5, h6, h⟩ := andThen_some h
    rcases fork_some h with ⟨h7, h⟩ | ⟨h7, h⟩
    · obtain ⟨h8, h⟩ := need_some h
      obtain ⟨u9, h10, h⟩ := andThen_some h
      obtain ⟨h11, h⟩ := need_some h
      obtain ⟨h12, h⟩ := need_some h
      injection h with h; subst h
      exact env.code (its := [.br true, .call [none] [] [] true (tree_left_R (List.length x0 : Int) u5) (tree_left_O (List.length x0 : Int) u5), .br true, .br false, .call [none] [] [] true (tree_Root_R (cutL x0 u5 (List.length x0 : Int)) u9) (tree_Root_O (cutL x0 u5 (List.length x0 : Int)) u9), .br false, .sel [0, 1, 5] [2]]) (.c h4 (.c (tree_left_ok (List.length x0 : Int) u5 h6) (.c h7 (.c h8 (.c (tree_Root_ok (cutL x0 u5 (List.length x0 : Int)) u9 h10) (.c h11 (.c h12 .n))))))) (by kernel_rfl)
    · obtain ⟨h13, h⟩ := need_some h
      obtain ⟨u14, h15, h⟩ := andThen_some h
      obtain ⟨h16, h⟩ := need_some h
      obtain ⟨h17, h⟩ := need_some h
      injection h with h; subst h
      exact env.code (its := [.br true, .call [none] [] [] true (tree_left_R (List.length x0 : Int) u5) (tree_left_O (List.length x0 : Int) u5), .br false, .br false, .call [none] [] [] true (tree_Root_R (cutL x0 (0 : Int) u5) u14) (tree_Root_O (cutL x0 (0 : Int) u5) u14), .br false, .sel [0, 1, 5] [2]]) (.c h4 (.c (tree_left_ok (List.length x0 : Int) u5 h6) (.c h7 (.c h13 (.c (tree_Root_ok (cutL x0 (0 : Int) u5) u14 h15) (.c h16 (.c h17 .n))))))) (by kernel_rfl)
  · injection h with h; subst h
    exact ⟨by intro e; simp [tree_Path_1_ex] at e, env.code (its := [.br false, .sel [5] [0]]) (.c h4 .n) (by kernel_rfl)⟩
theorem tree_Path_1_ok (x0 : List (List UInt8)) (x1 : Int) (x2 : List (List UInt8)) (o : List (List UInt8)) (h : tree_Path_1 x0 x1 x2 = some o) : CodeOK prog (codeAt (bodyOf f95) [1, 1, 1, 0, 0]) (tree_Path_1_in x0 x1 x2) (tree_Path_1_ex o) (tree_Path_1_st o) :=
  LoopOK.of_step (st := fun s => tree_Path_1_in s.1 s.2.1 s.2.2) (ex := tree_Path_1_ex) (stO := tree_Path_1_st) (fun s s2 hs => tree_Path_1_body s.1 s.2.1 s.2.2 (.inl s2) hs) (fun s r hs => tree_Path_1_body s.1 s.2.1 s.2.2 (.inr r) hs) _ o h
def tree_Path_R (a0 : List (List UInt8)) (a1 : Int) (u : List (List UInt8)) : Slot := (.own 0 [])
def tree_Path_O (a0 : List (List UInt8)) (a1 : Int) (u : List (List UInt8)) : List AObj := [.row (.arr 32 (.int .u8)) u true]
theorem tree_Path_ok (a0 : List (List UInt8)) (a1 : Int) (u : List (List UInt8)) (h : tree_Path a0 a1 = some u) : CallC prog 95 [(.v (.slice (.slice (.int .u8))) a0), (.v (.int .i64) a1)] [] (tree_Path_R a0 a1 u) (tree_Path_O a0 a1 u) := by
  unfold tree_Path at h
  rcases fork_some h with ⟨h1, h⟩ | ⟨h1, h⟩
  · injection h with h; subst h
    exact env.fun func95 can95 (its := [.br true, .br true, .br true, .br true, .br true, .br true]) (pos := [.promote (.arr 32 (.int .u8)), .sel [0]]) (.c h1 (.c h1 (.c h1 (.c h1 (.c h1 (.c (rfl : (true : Bool) = true) .n)))))) (by kernel_rfl)
  · rcases fork_some h with ⟨h2, h⟩ | ⟨h2, h⟩
    · injection h with h; subst h
      exact env.fun func95 can95 (its := [.br false, .br false, .br false, .br false, .br false, .br true]) (pos := [.promote (.arr 32 (.int .u8)), .sel [0]]) (.c h1 (.c h1 (.c h1 (.c h1 (.c h1 (.c h2 .n)))))) (by kernel_rfl)
    · obtain ⟨o18, h19, h⟩ := andThen_some h
      obtain ⟨u20, h21, h⟩ := andThen_some h
      injection h with h; subst h
      exact env.fun func95 can95 (its := [.br false, .br false, .br false, .br false, .br false, .br false, .dive, .promote 5 (.arr 32 (.int .u8)), .sel [0, 1, 5] [0], .part (tree_Path_1_ex o18) (tree_Path_1_st o18), .call [none] [0] [] true (slices_Reverse_LHash_Hash_8d4f_R o18 u20) (slices_Reverse_LHash_Hash_8d4f_O o18 u20)]) (pos := [.sel [0]]) (.c h1 (.c h1 (.c h1 (.c h1 (.c h1 (.c h2 (.c (tree_Path_1_ok a0 a1 ([] : List (List UInt8)) o18 h19) (.c (slices_Reverse_LHash_Hash_8d4f_ok o18 u20 h21) .n)))))))) (by kernel_rfl)
theorem can66 : Callable prog 66 := ⟨_, func66, by kernel_rfl, by kernel_rfl⟩
def ring_By_R (a0 : List (List UInt8)) (a1 : List UInt8) (a2 : Int) (a3 : List UInt8) (u : Int × (List (List UInt8) × List (List UInt8) × Unit) × List (List UInt8) × Unit) : Slot := (.v (.fld (.int .i64) (.fld (.fld (.slice (.arr 32 (.int .u8))) (.fld (.slice (.arr 32 (.int .u8))) .unit)) (.fld (.slice (.arr 32 (.int .u8))) .unit))) u)
def ring_By_O (a0 : List (List UInt8)) (a1 : List UInt8) (a2 : Int) (a3 : List UInt8) (u : Int × (List (List UInt8) × List (List UInt8) × Unit) × List (List UInt8) × Unit) : List AObj := []
theorem ring_By_ok (a0 : List (List UInt8)) (a1 : List UInt8) (a2 : Int) (a3 : List UInt8) (u : Int × (List (List UInt8) × List (List UInt8) × Unit) × List (List UInt8) × Unit) (h : ring_By a0 a1 a2 a3 = some u) : CallC prog 66 [(.v (.slice (.slice (.int .u8))) a0), (.v (.arr 32 (.int .u8)) a1), (.v (.int .i64) a2), (.v (.slice (.int .u8)) a3)] [] (ring_By_R a0 a1 a2 a3 u) (ring_By_O a0 a1 a2 a3 u) := by
  unfold ring_By at h
  obtain ⟨u1, h2, h⟩ := andThen_some h
  rcases fork_some h with ⟨h3, h⟩ | ⟨h3, h⟩
  · injection h with h; subst h
    exact env.fun func66 can66 (its := [.call [none] [] [] true (ring_is_R a2 u1) (ring_is_O a2 u1), .br true]) (pos := [.sel []]) (.c (ring_is_ok a2 u1 h2) (.c h3 .n)) (by kernel_rfl)
  · obtain ⟨u4, h5, h⟩ := andThen_some h
    obtain ⟨u6, h7, h⟩ := andThen_some h
    obtain ⟨u8, h9, h⟩ := andThen_some h
    injection h with h; subst h
    exact env.fun func66 can66 (its := [.call [none] [] [] true (ring_is_R a2 u1) (ring_is_O a2 u1), .br false, .call [none, none] [] [] true (ring_Seed_R a1 a2 u4) (ring_Seed_O a1 a2 u4), .call [none, none] [] [] false (lam_Sign_R u4 a3 u6) (lam_Sign_O u4 a3 u6), .call [none, none] [] [] true (tree_Path_R a0 (w64 (a2 - (1 : Int))) u8) (tree_Path_O a0 (w64 (a2 - (1 : Int))) u8)]) (pos := [.sel []]) (.c (ring_is_ok a2 u1 h2) (.c h3 (.c (ring_Seed_ok a1 a2 u4 h5) (.c (lam_Sign_ok u4 a3 u6 h7) (.c (tree_Path_ok a0 (w64 (a2 - (1 : Int))) u8 h9) .n))))) (by kernel_rfl)
theorem can39 : Callable prog 39 := ⟨_, func39, by kernel_rfl, by kernel_rfl⟩
def seal_By_R (a0 : List (List UInt8)) (a1 : Int × Int × List UInt8 × List UInt8 × List UInt8 × List UInt8 × Unit) (a2 : List UInt8) (a3 : List UInt8) (u : List UInt8 × (Int × (List (List UInt8) × List (List UInt8) × Unit) × List (List UInt8) × Unit) × Unit) : Slot := (.v (.fld .str (.fld (.fld (.int .i64) (.fld (.fld (.slice (.arr 32 (.int .u8))) (.fld (.slice (.arr 32 (.int .u8))) .unit)) (.fld (.slice (.arr 32 (.int .u8))) .unit))) .unit)) u)
def seal_By_O (a0 : List (List UInt8)) (a1 : Int × Int × List UInt8 × List UInt8 × List UInt8 × List UInt8 × Unit) (a2 : List UInt8) (a3 : List UInt8) (u : List UInt8 × (Int × (List (List UInt8) × List (List UInt8) × Unit) × List (List UInt8) × Unit) × Unit) : List AObj := []
theorem seal_By_ok (a0 : List (List UInt8)) (a1 : Int × Int × List UInt8 × List UInt8 × List UInt8 × List UInt8 × Unit) (a2 : List UInt8) (a3 : List UInt8) (u : List UInt8 × (Int × (List (List UInt8) × List (List UInt8) × Unit) × List (List UInt8) × Unit) × Unit) (h : seal_By a0 a1 a2 a3 = some u) : CallC prog 39 [(.v (.slice (.slice (.int .u8))) a0), (.v (.fld (.int .i64) (.fld (.int .i64) (.fld (.arr 32 (.int .u8)) (.fld (.arr 32 (.int .u8)) (.fld (.arr 32 (.int .u8)) (.fld (.arr 32 (.int .u8)) .unit)))))) a1), (.v .str a2), (.v (.arr 32 (.int .u8)) a3)] [] (seal_By_R a0 a1 a2 a3 u) (seal_By_O a0 a1 a2 a3 u) := by
  unfold seal_By at h
  obtain ⟨u1, h2, h⟩ := andThen_some h
  obtain ⟨u3, h4, h⟩ := andThen_some h
  injection h with h; subst h
  exact env.fun func39 can39 (its := [.pre [[], [], [], [], [3], [], [5], [1, 2, 3, 4, 5, 6], [0, 1, 2, 3, 4, 5, 6, 7], [0, 1, 2, 3, 4, 5, 6, 7, 8]], .call [none] [] [] true (seal_text_R a1 u1) (seal_text_O a1 u1), .call [none, none, none, none] [] [0] false (ring_By_R a0 a3 a1.1 u1 u3) (ring_By_O a0 a3 a1.1 u1 u3)]) (pos := [.sel []]) (.c (seal_text_ok a1 u1 h2) (.c (ring_By_ok a0 a3 a1.1 u1 u3 h4) .n)) (by kernel_rfl)
theorem can11 : Callable prog 11 := ⟨_, func11, by kernel_rfl, by kernel_rfl⟩
def seal_Sign_R (a0 : Int × Int × List UInt8 × List UInt8 × List UInt8 × List UInt8 × Unit) (a1 : List UInt8) (a2 : List UInt8) (u : List UInt8 × (Int × (List (List UInt8) × List (List UInt8) × Unit) × List (List UInt8) × Unit) × Unit) : Slot := (.v (.fld .str (.fld (.fld (.int .i64) (.fld (.fld (.slice (.arr 32 (.int .u8))) (.fld (.slice (.arr 32 (.int .u8))) .unit)) (.fld (.slice (.arr 32 (.int .u8))) .unit))) .unit)) u)
def seal_Sign_O (a0 : Int × Int × List UInt8 × List UInt8 × List UInt8 × List UInt8 × Unit) (a1 : List UInt8) (a2 : List UInt8) (u : List UInt8 × (Int × (List (List UInt8) × List (List UInt8) × Unit) × List (List UInt8) × Unit) × Unit) : List AObj := []
theorem seal_Sign_ok (a0 : Int × Int × List UInt8 × List UInt8 × List UInt8 × List UInt8 × Unit) (a1 : List UInt8) (a2 : List UInt8) (u : List UInt8 × (Int × (List (List UInt8) × List (List UInt8) × Unit) × List (List UInt8) × Unit) × Unit) (h : seal_Sign a0 a1 a2 = some u) : CallC prog 11 [(.v (.fld (.int .i64) (.fld (.int .i64) (.fld (.arr 32 (.int .u8)) (.fld (.arr 32 (.int .u8)) (.fld (.arr 32 (.int .u8)) (.fld (.arr 32 (.int .u8)) .unit)))))) a0), (.v .str a1), (.v (.arr 32 (.int .u8)) a2)] [] (seal_Sign_R a0 a1 a2 u) (seal_Sign_O a0 a1 a2 u) := by
  unfold seal_Sign at h
  obtain ⟨u1, h2, h⟩ := andThen_some h
  obtain ⟨u3, h4, h⟩ := andThen_some h
  injection h with h; subst h
  exact env.fun func11 can11 (its := [.pre [[], [0], [], [], [], [0, 1, 2, 3, 4], [0, 1, 2, 3, 4, 5]], .call [none] [] [] false (ring_Keys_R a2 u1) (ring_Keys_O a2 u1), .call [none, none, none, none] [] [0] false (seal_By_R u1 a0 a1 a2 u3) (seal_By_O u1 a0 a1 a2 u3)]) (pos := [.sel []]) (.c (ring_Keys_ok a2 u1 h2) (.c (seal_By_ok u1 a0 a1 a2 u3 h4) .n)) (by kernel_rfl)
theorem can20 : Callable prog 20 := ⟨_, func20, by kernel_rfl, by kernel_rfl⟩
def seal_Right_1_in (x0 : List (List UInt8 × (Int × (List (List UInt8) × List (List UInt8) × Unit) × List (List UInt8) × Unit) × Unit)) (x1 : Int) : St := ⟨[(0, (.v (.slice (.fld .str (.fld (.fld (.int .i64) (.fld (.fld (.slice (.arr 32 (.int .u8))) (.fld (.slice (.arr 32 (.int .u8))) .unit)) (.fld (.slice (.arr 32 (.int .u8))) .unit))) .unit))) x0)), (3, (.v (.int .i64) x1))], [], 25, 0⟩
def seal_Right_1_ex (o : (Bool) ⊕ (List (List UInt8 × (Int × (List (List UInt8) × List (List UInt8) × Unit) × List (List UInt8) × Unit) × Unit))) : Exit := match o with | (.inl o) => .ret | (.inr o) => (.exit 0)
def seal_Right_1_st (o : (Bool) ⊕ (List (List UInt8 × (Int × (List (List UInt8) × List (List UInt8) × Unit) × List (List UInt8) × Unit) × Unit))) : St := match o with | (.inl o) => ⟨[(2, (.v .bool o))], [], 25, 0⟩ | (.inr o) => ⟨[(0, (.v (.slice (.fld .str (.fld (.fld (.int .i64) (.fld (.fld (.slice (.arr 32 (.int .u8))) (.fld (.slice (.arr 32 (.int .u8))) .unit)) (.fld (.slice (.arr 32 (.int .u8))) .unit))) .unit))) o))], [], 25, 0⟩
theorem seal_Right_1_body (x0 : List (List UInt8 × (Int × (List (List UInt8) × List (List UInt8) × Unit) × List (List UInt8) × Unit) × Unit)) (x1 : Int) : ∀ r, seal_Right_1_step x0 x1 = some r → (match r with | .inl s => CodeOK prog (codeAt (bodyOf f20) [1, 0, 1, 0, 0]) (seal_Right_1_in x0 x1) .normal (seal_Right_1_in x0 s) | .inr o => seal_Right_1_ex o ≠ .normal ∧ CodeOK prog (codeAt (bodyOf f20) [1, 0, 1, 0, 0]) (seal_Right_1_in x0 x1) (seal_Right_1_ex o) (seal_Right_1_st o)) := by
  intro r h
  unfold seal_Right_1_step at h
  rcases fork_some h with ⟨h2, h⟩ | ⟨h2, h⟩
  · obtain ⟨h3, h⟩ := need_some h
    obtain ⟨h4, h⟩ := need_some h
    rcases fork_some h with ⟨h5, h⟩ | ⟨h5, h⟩
    · injection h with h; subst h
      exact ⟨by intro e; simp [seal_Right_1_ex] at e, env.code (its := [.br true, .pre [[], [], [1], [0, 1, 2], [0, 1, 2, 3], [0, 1, 2, 3, 4], [], [], [6, 7], [6, 7, 8], [6, 7, 8, 9], [0, 1, 2, 3, 4, 5, 6, 7, 8, 9, 10]], .br true, .sel [2] []]) (.c h2 (.c h3 (.c h4 (.c h5 .n)))) (by kernel_rfl)⟩
    · injection h with h; subst h
      exact env.code (its := [.br true, .pre [[], [], [1], [0, 1, 2], [0, 1, 2, 3], [0, 1, 2, 3, 4], [], [], [6, 7], [6, 7, 8], [6, 7, 8, 9], [0, 1, 2, 3, 4, 5, 6, 7, 8, 9, 10]], .br false, .sel [0, 3] []]) (.c h2 (.c h3 (.c h4 (.c h5 .n)))) (by kernel_rfl)
  · injection h with h; subst h
    exact ⟨by intro e; simp [seal_Right_1_ex] at e, env.code (its := [.br false, .sel [0] []]) (.c h2 .n) (by kernel_rfl)⟩
theorem seal_Right_1_ok (x0 : List (List UInt8 × (Int × (List (List UInt8) × List (List UInt8) × Unit) × List (List UInt8) × Unit) × Unit)) (x1 : Int) (o : (Bool) ⊕ (List (List UInt8 × (Int × (List (List UInt8) × List (List UInt8) × Unit) × List (List UInt8) × Unit) × Unit))) (h : seal_Right_1 x0 x1 = some o) : CodeOK prog (codeAt (bodyOf f20) [1, 0, 1, 0]) (seal_Right_1_in x0 x1) (seal_Right_1_ex o) (seal_Right_1_st o) :=
  LoopOK.of_step (st := fun s => seal_Right_1_in x0 s) (ex := seal_Right_1_ex) (stO := seal_Right_1_st) (fun s s2 hs => seal_Right_1_body x0 s (.inl s2) hs) (fun s r hs => seal_Right_1_body x0 s (.inr r) hs) _ o h
def seal_Right_R (a0 : List (List UInt8 × (Int × (List (List UInt8) × List (List UInt8) × Unit) × List (List UInt8) × Unit) × Unit)) (u : Bool) : Slot := (.v .bool u)
def seal_Right_O (a0 : List (List UInt8 × (Int × (List (List UInt8) × List (List UInt8) × Unit) × List (List UInt8) × Unit) × Unit)) (u : Bool) : List AObj := []
theorem seal_Right_ok (a0 : List (List UInt8 × (Int × (List (List UInt8) × List (List UInt8) × Unit) × List (List UInt8) × Unit) × Unit)) (u : Bool) (h : seal_Right a0 = some u) : CallC prog 20 [(.v (.slice (.fld .str (.fld (.fld (.int .i64) (.fld (.fld (.slice (.arr 32 (.int .u8))) (.fld (.slice (.arr 32 (.int .u8))) .unit)) (.fld (.slice (.arr 32 (.int .u8))) .unit))) .unit))) a0)] [] (seal_Right_R a0 u) (seal_Right_O a0 u) := by
  unfold seal_Right at h
  obtain ⟨o6, h7, h⟩ := andThen_some h
  rcases o6 with o8 | o9
  · injection h with h; subst h
    exact env.fun func20 can20 (its := [.dive, .sel [0, 3] [], .part (seal_Right_1_ex (.inl o8)) (seal_Right_1_st (.inl o8))]) (pos := [.sel []]) (.c (seal_Right_1_ok a0 (1 : Int) (.inl o8) h7) .n) (by kernel_rfl)
  · injection h with h; subst h
    exact env.fun func20 can20 (its := [.dive, .sel [0, 3] [], .part (seal_Right_1_ex (.inr o9)) (seal_Right_1_st (.inr o9))]) (pos := [.sel []]) (.c (seal_Right_1_ok a0 (1 : Int) (.inr o9) h7) .n) (by kernel_rfl)
theorem can44 : Callable prog 44 := ⟨_, func44, by kernel_rfl, by kernel_rfl⟩
def vals_Find_1_in (x0 : List UInt8) (x1 : List (List UInt8 × Int × List UInt8 × Unit)) (x2 : Int) (x3 : Int) (x4 : List UInt8 × Int × List UInt8 × Unit) : St := ⟨[(1, (.v .str x0)), (4, (.ptr 0 [])), (8, (.v (.slice (.fld .str (.fld (.int .i64) (.fld (.arr 32 (.int .u8)) .unit)))) x1)), (9, (.v (.int .i64) x2)), (10, (.v (.int .i64) x3))], [.box (.fld .str (.fld (.int .i64) (.fld (.arr 32 (.int .u8)) .unit))) (.v (.fld .str (.fld (.int .i64) (.fld (.arr 32 (.int .u8)) .unit))) x4) true], 21, 0⟩
def vals_Find_1_ex (o : (Bool × List UInt8 × Int × List UInt8 × Unit) ⊕ (List UInt8 × Int × List UInt8 × Unit)) : Exit := match o with | (.inl o) => .ret | (.inr o) => (.exit 0)
def vals_Find_1_st (o : (Bool × List UInt8 × Int × List UInt8 × Unit) ⊕ (List UInt8 × Int × List UInt8 × Unit)) : St := match o with | (.inl o) => ⟨[(4, (.ptr 0 [])), (5, (.v .bool o.1))], [.box (.fld .str (.fld (.int .i64) (.fld (.arr 32 (.int .u8)) .unit))) (.v (.fld .str (.fld (.int .i64) (.fld (.arr 32 (.int .u8)) .unit))) o.2) true], 21, 0⟩ | (.inr o) => ⟨[(4, (.ptr 0 []))], [.box (.fld .str (.fld (.int .i64) (.fld (.arr 32 (.int .u8)) .unit))) (.v (.fld .str (.fld (.int .i64) (.fld (.arr 32 (.int .u8)) .unit))) o) true], 21, 0⟩
theorem vals_Find_1_body (x0 : List UInt8) (x1 : List (List UInt8 × Int × List UInt8 × Unit)) (x2 : Int) (x3 : Int) (x4 : List UInt8 × Int × List UInt8 × Unit) : ∀ r, vals_Find_1_step x0 x1 x2 x3 x4 = some r → (match r with | .inl s => CodeOK prog (codeAt (bodyOf f44) [1, 0, 1, 0, 0]) (vals_Find_1_in x0 x1 x2 x3 x4) .normal (vals_Find_1_in x0 x1 x2 s x4) | .inr o => vals_Find_1_ex o ≠ .normal ∧ CodeOK prog (codeAt (bodyOf f44) [1, 0, 1, 0, 0]) (vals_Find_1_in x0 x1 x2 x3 x4) (vals_Find_1_ex o) (vals_Find_1_st o)) := by
  intro r h
  unfold vals_Find_1_step at h
  rcases fork_some h with ⟨h2, h⟩ | ⟨h2, h⟩
  · obtain ⟨h3, h⟩ := need_some h
    rcases fork_some h with ⟨h4, h⟩ | ⟨h4, h⟩
    · injection h with h; subst h
      exact ⟨by intro e; simp [vals_Find_1_ex] at e, env.code (its := [.br true, .br true, .sel [4, 5] [0]]) (.c h2 (.c h3 (.c h4 .n))) (by kernel_rfl)⟩
    · injection h with h; subst h
      exact env.code (its := [.br true, .br false, .sel [1, 4, 8, 9, 10] [0]]) (.c h2 (.c h3 (.c h4 .n))) (by kernel_rfl)
  · injection h with h; subst h
    exact ⟨by intro e; simp [vals_Find_1_ex] at e, env.code (its := [.br false, .sel [4] [0]]) (.c h2 .n) (by kernel_rfl)⟩
theorem vals_Find_1_ok (x0 : List UInt8) (x1 : List (List UInt8 × Int × List UInt8 × Unit)) (x2 : Int) (x3 : Int) (x4 : List UInt8 × Int × List UInt8 × Unit) (o : (Bool × List UInt8 × Int × List UInt8 × Unit) ⊕ (List UInt8 × Int × List UInt8 × Unit)) (h : vals_Find_1 x0 x1 x2 x3 x4 = some o) : CodeOK prog (codeAt (bodyOf f44) [1, 0, 1, 0]) (vals_Find_1_in x0 x1 x2 x3 x4) (vals_Find_1_ex o) (vals_Find_1_st o) :=
  LoopOK.of_step (st := fun s => vals_Find_1_in x0 x1 x2 s x4) (ex := vals_Find_1_ex) (stO := vals_Find_1_st) (fun s s2 hs => vals_Find_1_body x0 x1 x2 s x4 (.inl s2) hs) (fun s r hs => vals_Find_1_body x0 x1 x2 s x4 (.inr r) hs) _ o h
def vals_Find_R (a0 : List (List UInt8 × Int × List UInt8 × Unit)) (a1 : List UInt8) (u : (List UInt8 × Int × List UInt8 × Unit) × Bool) : Slot := (.tup (.v (.fld .str (.fld (.int .i64) (.fld (.arr 32 (.int .u8)) .unit))) u.1) (.tup (.v .bool u.2) .tnil))
def vals_Find_O (a0 : List (List UInt8 × Int × List UInt8 × Unit)) (a1 : List UInt8) (u : (List UInt8 × Int × List UInt8 × Unit) × Bool) : List AObj := []
theorem vals_Find_ok (a0 : List (List UInt8 × Int × List UInt8 × Unit)) (a1 : List UInt8) (u : (List UInt8 × Int × List UInt8 × Unit) × Bool) (h : vals_Find a0 a1 = some u) : CallC prog 44 [(.v (.slice (.fld .str (.fld (.int .i64) (.fld (.arr 32 (.int .u8)) .unit)))) a0), (.v .str a1)] [] (vals_Find_R a0 a1 u) (vals_Find_O a0 a1 u) := by
  unfold vals_Find at h
  obtain ⟨o5, h6, h⟩ := andThen_some h
  rcases o5 with o7 | o8
  · injection h with h; subst h
    exact env.fun func44 can44 (its := [.dive, .sel [1, 4, 8, 9, 10] [0], .part (vals_Find_1_ex (.inl o7)) (vals_Find_1_st (.inl o7))]) (pos := [.sel []]) (.c (vals_Find_1_ok a1 a0 (List.length a0 : Int) (0 : Int) (([] : List UInt8), (0 : Int), (List.replicate 32 (0 : UInt8)), ()) (.inl o7) h6) .n) (by kernel_rfl)
  · injection h with h; subst h
    exact env.fun func44 can44 (its := [.dive, .sel [1, 4, 8, 9, 10] [0], .part (vals_Find_1_ex (.inr o8)) (vals_Find_1_st (.inr o8))]) (pos := [.sel []]) (.c (vals_Find_1_ok a1 a0 (List.length a0 : Int) (0 : Int) (([] : List UInt8), (0 : Int), (List.replicate 32 (0 : UInt8)), ()) (.inr o8) h6) .n) (by kernel_rfl)
theorem can73 : Callable prog 73 := ⟨_, func73, by kernel_rfl, by kernel_rfl⟩
def lam_Who_1_in (x0 : Int) (x1 : List (List UInt8) × List (List UInt8) × Unit) (x2 : List UInt8) (x3 : List UInt8) (x4 : List (List UInt8)) : St := ⟨[(3, (.ptr 0 [])), (4, (.ptr 1 [])), (6, (.ptr 2 [])), (7, (.own 3 [])), (25, (.v (.int .i64) x0))], [.box (.fld (.slice (.arr 32 (.int .u8))) (.fld (.slice (.arr 32 (.int .u8))) .unit)) (.v (.fld (.slice (.arr 32 (.int .u8))) (.fld (.slice (.arr 32 (.int .u8))) .unit)) x1) true, .box (.arr 32 (.int .u8)) (.v (.arr 32 (.int .u8)) x2) true, .box (.arr 32 (.int .u8)) (.v (.arr 32 (.int .u8)) x3) true, .row (.arr 32 (.int .u8)) x4 true], 58, 0⟩
def lam_Who_1_ex (o : List UInt8 × List (List UInt8)) : Exit := (.exit 0)
def lam_Who_1_st (o : List UInt8 × List (List UInt8)) : St := ⟨[(4, (.ptr 0 [])), (7, (.own 1 []))], [.box (.arr 32 (.int .u8)) (.v (.arr 32 (.int .u8)) o.1) true, .row (.arr 32 (.int .u8)) o.2 true], 58, 0⟩
theorem lam_Who_1_body (x0 : Int) (x1 : List (List UInt8) × List (List UInt8) × Unit) (x2 : List UInt8) (x3 : List UInt8) (x4 : List (List UInt8)) : ∀ r, lam_Who_1_step x0 x1 x2 x3 x4 = some r → (match r with | .inl s => CodeOK prog (codeAt (bodyOf f73) [1, 1, 1, 1, 0, 1, 0, 0]) (lam_Who_1_in x0 x1 x2 x3 x4) .normal (lam_Who_1_in s.1 x1 x2 x3 s.2) | .inr o => lam_Who_1_ex o ≠ .normal ∧ CodeOK prog (codeAt (bodyOf f73) [1, 1, 1, 1, 0, 1, 0, 0]) (lam_Who_1_in x0 x1 x2 x3 x4) (lam_Who_1_ex o) (lam_Who_1_st o)) := by
  intro r h
  unfold lam_Who_1_step at h
  rcases fork_some h with ⟨h7, h⟩ | ⟨h7, h⟩
  · obtain ⟨u8, h9, h⟩ := andThen_some h
    obtain ⟨h10, h⟩ := need_some h
    obtain ⟨u11, h12, h⟩ := andThen_some h
    obtain ⟨h13, h⟩ := need_some h
    obtain ⟨h14, h⟩ := need_some h
    obtain ⟨h15, h⟩ := need_some h
    injection h with h; subst h
    exact env.code (its := [.br true, .call [none, none] [] [] true (lam_bit_R x3 x0 u8) (lam_bit_O x3 x0 u8), .pre [[], [], [1], [], [1, 2, 3], [], [], [6], [6, 7], [], [6, 7, 8, 9], [], [11], [], [11, 12, 13], [11, 12, 13, 14], [11, 12, 13, 14, 15], [], [17], [], [17, 18, 19], [17, 18, 19, 20], [0, 1, 2, 3, 4, 11, 12, 13, 14, 15, 16, 17, 18, 19, 20, 21], [0, 1, 2, 3, 4, 11, 12, 13, 14, 15, 16, 17, 18, 19, 20, 21, 22], [0, 1, 2, 3, 4, 5, 6, 7, 8, 9, 10, 11, 12, 13, 14, 15, 16, 17, 18, 19, 20, 21, 22, 23], [0, 1, 2, 3, 4, 5, 6, 7, 8, 9, 10, 11, 12, 13, 14, 15, 16, 17, 18, 19, 20, 21, 22, 23, 24]], .asis, .call [none] [] [] true (lam_public_R (List.getD x1.1 (Int.toNat x0) (List.replicate 32 (0 : UInt8))) u11) (lam_public_O (List.getD x1.1 (Int.toNat x0) (List.replicate 32 (0 : UInt8))) u11), .sel [3, 4, 6, 7, 25] [0, 1, 2, 3]]) (.c h7 (.c (lam_bit_ok x3 x0 u8 h9) (.c h10 (.c (rfl : ([] : List AObj) = []) (.c (lam_public_ok (List.getD x1.1 (Int.toNat x0) (List.replicate 32 (0 : UInt8))) u11 h12) (.c h13 (.c h14 (.c h15 .n)))))))) (by kernel_rfl)
  · injection h with h; subst h
    exact ⟨by intro e; simp [lam_Who_1_ex] at e, env.code (its := [.br false, .sel [4, 7] [1, 3]]) (.c h7 .n) (by kernel_rfl)⟩
theorem lam_Who_1_ok (x0 : Int) (x1 : List (List UInt8) × List (List UInt8) × Unit) (x2 : List UInt8) (x3 : List UInt8) (x4 : List (List UInt8)) (o : List UInt8 × List (List UInt8)) (h : lam_Who_1 x0 x1 x2 x3 x4 = some o) : CodeOK prog (codeAt (bodyOf f73) [1, 1, 1, 1, 0, 1, 0]) (lam_Who_1_in x0 x1 x2 x3 x4) (lam_Who_1_ex o) (lam_Who_1_st o) :=
  LoopOK.of_step (st := fun s => lam_Who_1_in s.1 x1 x2 x3 s.2) (ex := lam_Who_1_ex) (stO := lam_Who_1_st) (fun s s2 hs => lam_Who_1_body s.1 x1 x2 x3 s.2 (.inl s2) hs) (fun s r hs => lam_Who_1_body s.1 x1 x2 x3 s.2 (.inr r) hs) _ o h
def lam_Who_R (a0 : List UInt8) (a1 : List (List UInt8) × List (List UInt8) × Unit) (u : List UInt8 × Bool) : Slot := (.tup (.v (.arr 32 (.int .u8)) u.1) (.tup (.v .bool u.2) .tnil))
def lam_Who_O (a0 : List UInt8) (a1 : List (List UInt8) × List (List UInt8) × Unit) (u : List UInt8 × Bool) : List AObj := []
theorem lam_Who_ok (a0 : List UInt8) (a1 : List (List UInt8) × List (List UInt8) × Unit) (u : List UInt8 × Bool) (h : lam_Who a0 a1 = some u) : CallC prog 73 [(.v (.slice (.int .u8)) a0), (.v (.fld (.slice (.arr 32 (.int .u8))) (.fld (.slice (.arr 32 (.int .u8))) .unit)) a1)] [] (lam_Who_R a0 a1 u) (lam_Who_O a0 a1 u) := by
  unfold lam_Who at h
  rcases fork_some h with ⟨h1, h⟩ | ⟨h1, h⟩
  · injection h with h; subst h
    exact env.fun func73 can73 (its := [.br true, .br true, .br true, .br true, .br true, .br true]) (pos := [.sel []]) (.c h1 (.c h1 (.c h1 (.c h1 (.c h1 (.c (rfl : (true : Bool) = true) .n)))))) (by kernel_rfl)
  · rcases fork_some h with ⟨h2, h⟩ | ⟨h2, h⟩
    · injection h with h; subst h
      exact env.fun func73 can73 (its := [.br false, .br false, .br false, .br false, .br false, .br true]) (pos := [.sel []]) (.c h1 (.c h1 (.c h1 (.c h1 (.c h1 (.c h2 .n)))))) (by kernel_rfl)
    · obtain ⟨u3, h4, h⟩ := andThen_some h
      obtain ⟨h5, h⟩ := need_some h
      obtain ⟨o16, h17, h⟩ := andThen_some h
      obtain ⟨u18, h19, h⟩ := andThen_some h
      injection h with h; subst h
      exact env.fun func73 can73 (its := [.br false, .br false, .br false, .br false, .br false, .br false, .call [none, none] [] [2] true (sha_Tagged_R (109 : UInt8) ([a0] : List (List UInt8)) u3) (sha_Tagged_O (109 : UInt8) ([a0] : List (List UInt8)) u3), .dive, .sel [3, 4, 6, 7, 25] [0, 1, 3, 4], .part (lam_Who_1_ex o16) (lam_Who_1_st o16), .call [none] [] [1] true (lam_key_R o16.2 u18) (lam_key_O o16.2 u18)]) (pos := [.sel []]) (.c h1 (.c h1 (.c h1 (.c h1 (.c h1 (.c h2 (.c (sha_Tagged_ok (109 : UInt8) ([a0] : List (List UInt8)) u3 h4) (.c h5 (.c (lam_Who_1_ok (0 : Int) a1 (List.replicate 32 (0 : UInt8)) u3 (List.replicate (Int.toNat (64 : Int)) (List.replicate 32 (0 : UInt8))) o16 h17) (.c (lam_key_ok o16.2 u18 h19) .n)))))))))) (by kernel_rfl)
theorem can102 : Callable prog 102 := ⟨_, func102, by kernel_rfl, by kernel_rfl⟩
def tree_is_R (a0 : Int) (a1 : Int) (u : Bool) : Slot := (.v .bool u)
def tree_is_O (a0 : Int) (a1 : Int) (u : Bool) : List AObj := []
theorem tree_is_ok (a0 : Int) (a1 : Int) (u : Bool) (h : tree_is a0 a1 = some u) : CallC prog 102 [(.v (.int .i64) a0), (.v (.int .i64) a1)] [] (tree_is_R a0 a1 u) (tree_is_O a0 a1 u) := by
  unfold tree_is at h
  rcases fork_some h with ⟨h1, h⟩ | ⟨h1, h⟩
  · rcases fork_some h with ⟨h2, h⟩ | ⟨h2, h⟩
    · injection h with h; subst h
      exact env.fun func102 can102 (its := [.br true, .br true, .br true, .br true, .br true, .br true, .br true]) (pos := [.sel []]) (.c h1 (.c h1 (.c h1 (.c h1 (.c h2 (.c h2 (.c h2 .n))))))) (by kernel_rfl)
    · injection h with h; subst h
      exact env.fun func102 can102 (its := [.br true, .br true, .br true, .br true, .br false, .br false, .br false]) (pos := [.sel []]) (.c h1 (.c h1 (.c h1 (.c h1 (.c h2 (.c h2 (.c h2 .n))))))) (by kernel_rfl)
  · injection h with h; subst h
    exact env.fun func102 can102 (its := [.br false, .br false, .br false, .br false, .br false, .br false, .br false]) (pos := [.sel []]) (.c h1 (.c h1 (.c h1 (.c h1 (.c (rfl : (false : Bool) = false) (.c (rfl : (false : Bool) = false) (.c (rfl : (false : Bool) = false) .n))))))) (by kernel_rfl)
theorem can105 : Callable prog 105 := ⟨_, func105, by kernel_rfl, by kernel_rfl⟩
def tree_sides_1_in (x0 : Int) (x1 : Int) (x2 : List Bool) : St := ⟨[(0, (.v (.int .i64) x0)), (1, (.v (.int .i64) x1)), (5, (.own 0 []))], [.row .bool x2 true], 28, 0⟩
def tree_sides_1_ex (o : List Bool) : Exit := (.exit 0)
def tree_sides_1_st (o : List Bool) : St := ⟨[(5, (.own 0 []))], [.row .bool o true], 28, 0⟩
theorem tree_sides_1_body (x0 : Int) (x1 : Int) (x2 : List Bool) : ∀ r, tree_sides_1_step x0 x1 x2 = some r → (match r with | .inl s => CodeOK prog (codeAt (bodyOf f105) [1, 1, 0, 0, 0]) (tree_sides_1_in x0 x1 x2) .normal (tree_sides_1_in s.1 s.2.1 s.2.2) | .inr o => tree_sides_1_ex o ≠ .normal ∧ CodeOK prog (codeAt (bodyOf f105) [1, 1, 0, 0, 0]) (tree_sides_1_in x0 x1 x2) (tree_sides_1_ex o) (tree_sides_1_st o)) := by
  intro r h
  unfold tree_sides_1_step at h
  rcases fork_some h with ⟨h2, h⟩ | ⟨h2, h⟩
  · obtain ⟨u3, h4, h⟩ := andThen_some h
    obtain ⟨h5, h⟩ := need_some h
    rcases fork_some h with ⟨h6, h⟩ | ⟨h6, h⟩
    · injection h with h; subst h
      exact env.code (its := [.br true, .call [none] [] [] true (tree_left_R x1 u3) (tree_left_O x1 u3), .br true, .sel [0, 1, 5] [2]]) (.c h2 (.c (tree_left_ok x1 u3 h4) (.c h5 (.c h6 .n)))) (by kernel_rfl)
    · injection h with h; subst h
      exact env.code (its := [.br true, .call [none] [] [] true (tree_left_R x1 u3) (tree_left_O x1 u3), .br false, .sel [0, 1, 5] [2]]) (.c h2 (.c (tree_left_ok x1 u3 h4) (.c h5 (.c h6 .n)))) (by kernel_rfl)
  · injection h with h; subst h
    exact ⟨by intro e; simp [tree_sides_1_ex] at e, env.code (its := [.br false, .sel [5] [0]]) (.c h2 .n) (by kernel_rfl)⟩
theorem tree_sides_1_ok (x0 : Int) (x1 : Int) (x2 : List Bool) (o : List Bool) (h : tree_sides_1 x0 x1 x2 = some o) : CodeOK prog (codeAt (bodyOf f105) [1, 1, 0, 0]) (tree_sides_1_in x0 x1 x2) (tree_sides_1_ex o) (tree_sides_1_st o) :=
  LoopOK.of_step (st := fun s => tree_sides_1_in s.1 s.2.1 s.2.2) (ex := tree_sides_1_ex) (stO := tree_sides_1_st) (fun s s2 hs => tree_sides_1_body s.1 s.2.1 s.2.2 (.inl s2) hs) (fun s r hs => tree_sides_1_body s.1 s.2.1 s.2.2 (.inr r) hs) _ o h
def tree_sides_R (a0 : Int) (a1 : Int) (u : List Bool) : Slot := (.own 0 [])
def tree_sides_O (a0 : Int) (a1 : Int) (u : List Bool) : List AObj := [.row .bool u true]
theorem tree_sides_ok (a0 : Int) (a1 : Int) (u : List Bool) (h : tree_sides a0 a1 = some u) : CallC prog 105 [(.v (.int .i64) a0), (.v (.int .i64) a1)] [] (tree_sides_R a0 a1 u) (tree_sides_O a0 a1 u) := by
  unfold tree_sides at h
  obtain ⟨o7, h8, h⟩ := andThen_some h
  injection h with h; subst h
  exact env.fun func105 can105 (its := [.dive, .promote 5 .bool, .sel [0, 1, 5] [0], .part (tree_sides_1_ex o7) (tree_sides_1_st o7)]) (pos := [.sel [0]]) (.c (tree_sides_1_ok a0 a1 ([] : List (Bool)) o7 h8) .n) (by kernel_rfl)
theorem can103 : Callable prog 103 := ⟨_, func103, by kernel_rfl, by kernel_rfl⟩
def tree_Depth_R (a0 : Int) (a1 : Int) (u : Int) : Slot := (.v (.int .i64) u)
def tree_Depth_O (a0 : Int) (a1 : Int) (u : Int) : List AObj := []
theorem tree_Depth_ok (a0 : Int) (a1 : Int) (u : Int) (h : tree_Depth a0 a1 = some u) : CallC prog 103 [(.v (.int .i64) a0), (.v (.int .i64) a1)] [] (tree_Depth_R a0 a1 u) (tree_Depth_O a0 a1 u) := by
  unfold tree_Depth at h
  obtain ⟨u1, h2, h⟩ := andThen_some h
  rcases fork_some h with ⟨h3, h⟩ | ⟨h3, h⟩
  · injection h with h; subst h
    exact env.fun func103 can103 (its := [.call [none, none] [] [] true (tree_is_R a0 a1 u1) (tree_is_O a0 a1 u1), .br true]) (pos := [.sel []]) (.c (tree_is_ok a0 a1 u1 h2) (.c h3 .n)) (by kernel_rfl)
  · obtain ⟨u4, h5, h⟩ := andThen_some h
    injection h with h; subst h
    exact env.fun func103 can103 (its := [.call [none, none] [] [] true (tree_is_R a0 a1 u1) (tree_is_O a0 a1 u1), .br false, .call [none, none] [] [] true (tree_sides_R a0 a1 u4) (tree_sides_O a0 a1 u4)]) (pos := [.sel []]) (.c (tree_is_ok a0 a1 u1 h2) (.c h3 (.c (tree_sides_ok a0 a1 u4 h5) .n))) (by kernel_rfl)
theorem can74 : Callable prog 74 := ⟨_, func74, by kernel_rfl, by kernel_rfl⟩
def tree_Up_1_in (x0 : List (List UInt8)) (x1 : Int) (x2 : Int) (x3 : List UInt8) (x4 : List UInt8) (x5 : List Bool) : St := ⟨[(8, (.ptr 0 [])), (10, (.ptr 1 [])), (11, (.own 2 [])), (33, (.v (.slice (.arr 32 (.int .u8))) x0)), (34, (.v (.int .i64) x1)), (35, (.v (.int .i64) x2))], [.box (.arr 32 (.int .u8)) (.v (.arr 32 (.int .u8)) x3) true, .box (.arr 32 (.int .u8)) (.v (.arr 32 (.int .u8)) x4) true, .row .bool x5 true], 56, 0⟩
def tree_Up_1_ex (o : List UInt8 × List UInt8) : Exit := (.exit 0)
def tree_Up_1_st (o : List UInt8 × List UInt8) : St := ⟨[(8, (.ptr 0 [])), (10, (.ptr 1 []))], [.box (.arr 32 (.int .u8)) (.v (.arr 32 (.int .u8)) o.1) true, .box (.arr 32 (.int .u8)) (.v (.arr 32 (.int .u8)) o.2) true], 56, 0⟩
theorem tree_Up_1_body (x0 : List (List UInt8)) (x1 : Int) (x2 : Int) (x3 : List UInt8) (x4 : List UInt8) (x5 : List Bool) : ∀ r, tree_Up_1_step x0 x1 x2 x3 x4 x5 = some r → (match r with | .inl s => CodeOK prog (codeAt (bodyOf f74) [1, 1, 1, 1, 0, 1, 0, 0]) (tree_Up_1_in x0 x1 x2 x3 x4 x5) .normal (tree_Up_1_in x0 x1 s.1 x3 s.2 x5) | .inr o => tree_Up_1_ex o ≠ .normal ∧ CodeOK prog (codeAt (bodyOf f74) [1, 1, 1, 1, 0, 1, 0, 0]) (tree_Up_1_in x0 x1 x2 x3 x4 x5) (tree_Up_1_ex o) (tree_Up_1_st o)) := by
  intro r h
  unfold tree_Up_1_step at h
  rcases fork_some h with ⟨h12, h⟩ | ⟨h12, h⟩
  · obtain ⟨h13, h⟩ := need_some h
    obtain ⟨h14, h⟩ := need_some h
    rcases fork_some h with ⟨h15, h⟩ | ⟨h15, h⟩
    · obtain ⟨u16, h17, h⟩ := andThen_some h
      injection h with h; subst h
      exact env.code (its := [.br true, .br true, .call [none, none] [] [] true (tree_inner_R x4 (List.getD x0 (Int.toNat x2) (List.replicate 32 (0 : UInt8))) u16) (tree_inner_O x4 (List.getD x0 (Int.toNat x2) (List.replicate 32 (0 : UInt8))) u16), .sel [8, 10, 11, 33, 34, 35] [0, 1, 2]]) (.c h12 (.c h13 (.c h14 (.c h15 (.c (tree_inner_ok x4 (List.getD x0 (Int.toNat x2) (List.replicate 32 (0 : UInt8))) u16 h17) .n))))) (by kernel_rfl)
    · obtain ⟨u18, h19, h⟩ := andThen_some h
      injection h with h; subst h
      exact env.code (its := [.br true, .br false, .call [none, none] [] [] true (tree_inner_R (List.getD x0 (Int.toNat x2) (List.replicate 32 (0 : UInt8))) x4 u18) (tree_inner_O (List.getD x0 (Int.toNat x2) (List.replicate 32 (0 : UInt8))) x4 u18), .sel [8, 10, 11, 33, 34, 35] [0, 1, 2]]) (.c h12 (.c h13 (.c h14 (.c h15 (.c (tree_inner_ok (List.getD x0 (Int.toNat x2) (List.replicate 32 (0 : UInt8))) x4 u18 h19) .n))))) (by kernel_rfl)
  · injection h with h; subst h
    exact ⟨by intro e; simp [tree_Up_1_ex] at e, env.code (its := [.br false, .sel [8, 10] [0, 1]]) (.c h12 .n) (by kernel_rfl)⟩
theorem tree_Up_1_ok (x0 : List (List UInt8)) (x1 : Int) (x2 : Int) (x3 : List UInt8) (x4 : List UInt8) (x5 : List Bool) (o : List UInt8 × List UInt8) (h : tree_Up_1 x0 x1 x2 x3 x4 x5 = some o) : CodeOK prog (codeAt (bodyOf f74) [1, 1, 1, 1, 0, 1, 0]) (tree_Up_1_in x0 x1 x2 x3 x4 x5) (tree_Up_1_ex o) (tree_Up_1_st o) :=
  LoopOK.of_step (st := fun s => tree_Up_1_in x0 x1 s.1 x3 s.2 x5) (ex := tree_Up_1_ex) (stO := tree_Up_1_st) (fun s s2 hs => tree_Up_1_body x0 x1 s.1 x3 s.2 x5 (.inl s2) hs) (fun s r hs => tree_Up_1_body x0 x1 s.1 x3 s.2 x5 (.inr r) hs) _ o h
def tree_Up_R (a0 : List UInt8) (a1 : Int) (a2 : Int) (a3 : List (List UInt8)) (u : List UInt8 × Bool) : Slot := (.tup (.v (.arr 32 (.int .u8)) u.1) (.tup (.v .bool u.2) .tnil))
def tree_Up_O (a0 : List UInt8) (a1 : Int) (a2 : Int) (a3 : List (List UInt8)) (u : List UInt8 × Bool) : List AObj := []
theorem tree_Up_ok (a0 : List UInt8) (a1 : Int) (a2 : Int) (a3 : List (List UInt8)) (u : List UInt8 × Bool) (h : tree_Up a0 a1 a2 a3 = some u) : CallC prog 74 [(.v (.slice (.int .u8)) a0), (.v (.int .i64) a1), (.v (.int .i64) a2), (.v (.slice (.arr 32 (.int .u8))) a3)] [] (tree_Up_R a0 a1 a2 a3 u) (tree_Up_O a0 a1 a2 a3 u) := by
  unfold tree_Up at h
  obtain ⟨u1, h2, h⟩ := andThen_some h
  rcases fork_some h with ⟨h3, h⟩ | ⟨h3, h⟩
  · injection h with h; subst h
    exact env.fun func74 can74 (its := [.call [none, none] [] [] true (tree_is_R a1 a2 u1) (tree_is_O a1 a2 u1), .br true, .br true, .br true, .br true, .br true, .br true, .br true, .br true]) (pos := [.sel []]) (.c (tree_is_ok a1 a2 u1 h2) (.c h3 (.c h3 (.c h3 (.c h3 (.c h3 (.c h3 (.c h3 (.c (rfl : (true : Bool) = true) .n))))))))) (by kernel_rfl)
  · obtain ⟨u4, h5, h⟩ := andThen_some h
    rcases fork_some h with ⟨h6, h⟩ | ⟨h6, h⟩
    · injection h with h; subst h
      exact env.fun func74 can74 (its := [.call [none, none] [] [] true (tree_is_R a1 a2 u1) (tree_is_O a1 a2 u1), .br false, .br false, .br false, .br false, .br false, .call [none, none] [] [] true (tree_Depth_R a1 a2 u4) (tree_Depth_O a1 a2 u4), .br false, .br false, .br true]) (pos := [.sel []]) (.c (tree_is_ok a1 a2 u1 h2) (.c h3 (.c h3 (.c h3 (.c h3 (.c h3 (.c (tree_Depth_ok a1 a2 u4 h5) (.c h3 (.c h3 (.c h6 .n)))))))))) (by kernel_rfl)
    · obtain ⟨u7, h8, h⟩ := andThen_some h
      obtain ⟨u9, h10, h⟩ := andThen_some h
      obtain ⟨o20, h21, h⟩ := andThen_some h
      injection h with h; subst h
      exact env.fun func74 can74 (its := [.call [none, none] [] [] true (tree_is_R a1 a2 u1) (tree_is_O a1 a2 u1), .br false, .br false, .br false, .br false, .br false, .call [none, none] [] [] true (tree_Depth_R a1 a2 u4) (tree_Depth_O a1 a2 u4), .br false, .br false, .br false, .call [none] [] [1] true (tree_Root_R ([a0] : List (List UInt8)) u7) (tree_Root_O ([a0] : List (List UInt8)) u7), .call [none, none] [] [] true (tree_sides_R a1 a2 u9) (tree_sides_O a1 a2 u9), .dive, .sel [8, 10, 11, 33, 34, 35] [0, 2, 3], .part (tree_Up_1_ex o20) (tree_Up_1_st o20)]) (pos := [.sel []]) (.c (tree_is_ok a1 a2 u1 h2) (.c h3 (.c h3 (.c h3 (.c h3 (.c h3 (.c (tree_Depth_ok a1 a2 u4 h5) (.c h3 (.c h3 (.c h6 (.c (tree_Root_ok ([a0] : List (List UInt8)) u7 h8) (.c (tree_sides_ok a1 a2 u9 h10) (.c (tree_Up_1_ok a3 (List.length a3 : Int) (0 : Int) (List.replicate 32 (0 : UInt8)) u7 u9 o20 h21) .n))))))))))))) (by kernel_rfl)
theorem can45 : Callable prog 45 := ⟨_, func45, by kernel_rfl, by kernel_rfl⟩
def ring_Verify_R (a0 : List UInt8) (a1 : Int) (a2 : List UInt8) (a3 : Int × (List (List UInt8) × List (List UInt8) × Unit) × List (List UInt8) × Unit) (u : Bool) : Slot := (.v .bool u)
def ring_Verify_O (a0 : List UInt8) (a1 : Int) (a2 : List UInt8) (a3 : Int × (List (List UInt8) × List (List UInt8) × Unit) × List (List UInt8) × Unit) (u : Bool) : List AObj := []
theorem ring_Verify_ok (a0 : List UInt8) (a1 : Int) (a2 : List UInt8) (a3 : Int × (List (List UInt8) × List (List UInt8) × Unit) × List (List UInt8) × Unit) (u : Bool) (h : ring_Verify a0 a1 a2 a3 = some u) : CallC prog 45 [(.v (.arr 32 (.int .u8)) a0), (.v (.int .i64) a1), (.v (.slice (.int .u8)) a2), (.v (.fld (.int .i64) (.fld (.fld (.slice (.arr 32 (.int .u8))) (.fld (.slice (.arr 32 (.int .u8))) .unit)) (.fld (.slice (.arr 32 (.int .u8))) .unit))) a3)] [] (ring_Verify_R a0 a1 a2 a3 u) (ring_Verify_O a0 a1 a2 a3 u) := by
  unfold ring_Verify at h
  obtain ⟨u1, h2, h⟩ := andThen_some h
  rcases fork_some h with ⟨h3, h⟩ | ⟨h3, h⟩
  · injection h with h; subst h
    exact env.fun func45 can45 (its := [.call [none] [] [] true (ring_is_R a1 u1) (ring_is_O a1 u1), .br true, .br true, .br true, .br true, .br true, .br true]) (pos := [.sel []]) (.c (ring_is_ok a1 u1 h2) (.c h3 (.c h3 (.c h3 (.c h3 (.c h3 (.c (rfl : (true : Bool) = true) .n))))))) (by kernel_rfl)
  · rcases fork_some h with ⟨h4, h⟩ | ⟨h4, h⟩
    · injection h with h; subst h
      exact env.fun func45 can45 (its := [.call [none] [] [] true (ring_is_R a1 u1) (ring_is_O a1 u1), .br false, .br false, .br false, .br false, .br false, .br true]) (pos := [.sel []]) (.c (ring_is_ok a1 u1 h2) (.c h3 (.c h3 (.c h3 (.c h3 (.c h3 (.c h4 .n))))))) (by kernel_rfl)
    · obtain ⟨u5, h6, h⟩ := andThen_some h
      rcases fork_some h with ⟨h7, h⟩ | ⟨h7, h⟩
      · injection h with h; subst h
        exact env.fun func45 can45 (its := [.call [none] [] [] true (ring_is_R a1 u1) (ring_is_O a1 u1), .br false, .br false, .br false, .br false, .br false, .br false, .call [none, none] [] [] true (lam_Who_R a2 a3.2.1 u5) (lam_Who_O a2 a3.2.1 u5), .br true]) (pos := [.sel []]) (.c (ring_is_ok a1 u1 h2) (.c h3 (.c h3 (.c h3 (.c h3 (.c h3 (.c h4 (.c (lam_Who_ok a2 a3.2.1 u5 h6) (.c h7 .n))))))))) (by kernel_rfl)
      · obtain ⟨u8, h9, h⟩ := andThen_some h
        rcases fork_some h with ⟨h10, h⟩ | ⟨h10, h⟩
        · injection h with h; subst h
          exact env.fun func45 can45 (its := [.call [none] [] [] true (ring_is_R a1 u1) (ring_is_O a1 u1), .br false, .br false, .br false, .br false, .br false, .br false, .call [none, none] [] [] true (lam_Who_R a2 a3.2.1 u5) (lam_Who_O a2 a3.2.1 u5), .br false, .pre [[], [], [1], [], [3], [0, 1, 2, 3, 4], [0, 1, 2, 3, 4, 5], [0, 1, 2, 3, 4, 5, 6], [0, 1, 2, 3, 4, 5, 6], [], [0, 1, 2, 3, 4, 5, 6, 7, 9], [0, 1, 2, 3, 4, 5, 6, 7, 8, 9, 10]], .br true, .asis, .call [none, none, none, none] [] [0] true (tree_Up_R u5.1 (w64 (a1 - (1 : Int))) (16 : Int) a3.2.2.1 u8) (tree_Up_O u5.1 (w64 (a1 - (1 : Int))) (16 : Int) a3.2.2.1 u8), .br true, .br true, .br true, .br true]) (pos := [.sel []]) (.c (ring_is_ok a1 u1 h2) (.c h3 (.c h3 (.c h3 (.c h3 (.c h3 (.c h4 (.c (lam_Who_ok a2 a3.2.1 u5 h6) (.c h7 (.c (rfl : ([.box (.arr 32 (.int .u8)) (.v (.arr 32 (.int .u8)) u5.1) true] : List AObj) = [.box (.arr 32 (.int .u8)) (.v (.arr 32 (.int .u8)) u5.1) true]) (.c (tree_Up_ok u5.1 (w64 (a1 - (1 : Int))) (16 : Int) a3.2.2.1 u8 h9) (.c h10 (.c h10 (.c h10 (.c h10 .n))))))))))))))) (by kernel_rfl)
        · injection h with h; subst h
          exact env.fun func45 can45 (its := [.call [none] [] [] true (ring_is_R a1 u1) (ring_is_O a1 u1), .br false, .br false, .br false, .br false, .br false, .br false, .call [none, none] [] [] true (lam_Who_R a2 a3.2.1 u5) (lam_Who_O a2 a3.2.1 u5), .br false, .pre [[], [], [1], [], [3], [0, 1, 2, 3, 4], [0, 1, 2, 3, 4, 5], [0, 1, 2, 3, 4, 5, 6], [0, 1, 2, 3, 4, 5, 6], [], [0, 1, 2, 3, 4, 5, 6, 7, 9], [0, 1, 2, 3, 4, 5, 6, 7, 8, 9, 10]], .br true, .asis, .call [none, none, none, none] [] [0] true (tree_Up_R u5.1 (w64 (a1 - (1 : Int))) (16 : Int) a3.2.2.1 u8) (tree_Up_O u5.1 (w64 (a1 - (1 : Int))) (16 : Int) a3.2.2.1 u8), .br false, .br false, .br false, .br false]) (pos := [.sel []]) (.c (ring_is_ok a1 u1 h2) (.c h3 (.c h3 (.c h3 (.c h3 (.c h3 (.c h4 (.c (lam_Who_ok a2 a3.2.1 u5 h6) (.c h7 (.c (rfl : ([.box (.arr 32 (.int .u8)) (.v (.arr 32 (.int .u8)) u5.1) true] : List AObj) = [.box (.arr 32 (.int .u8)) (.v (.arr 32 (.int .u8)) u5.1) true]) (.c (tree_Up_ok u5.1 (w64 (a1 - (1 : Int))) (16 : Int) a3.2.2.1 u8 h9) (.c h10 (.c h10 (.c h10 (.c h10 .n))))))))))))))) (by kernel_rfl)
theorem can17 : Callable prog 17 := ⟨_, func17, by kernel_rfl, by kernel_rfl⟩
def seal_Names_1_in (x0 : List (List UInt8 × Int × List UInt8 × Unit)) (x1 : List (List UInt8 × (Int × (List (List UInt8) × List (List UInt8) × Unit) × List (List UInt8) × Unit) × Unit)) (x2 : Int) (x3 : Int) (x4 : Int × Int × List UInt8 × List UInt8 × List UInt8 × List UInt8 × Unit) (x5 : List (List UInt8)) (x6 : List UInt8) : St := ⟨[(0, (.v (.slice (.fld .str (.fld (.int .i64) (.fld (.arr 32 (.int .u8)) .unit)))) x0)), (4, (.ptr 0 [])), (7, (.own 1 [])), (8, (.own 2 [])), (18, (.v (.slice (.fld .str (.fld (.fld (.int .i64) (.fld (.fld (.slice (.arr 32 (.int .u8))) (.fld (.slice (.arr 32 (.int .u8))) .unit)) (.fld (.slice (.arr 32 (.int .u8))) .unit))) .unit))) x1)), (19, (.v (.int .i64) x2)), (20, (.v (.int .i64) x3))], [.box (.fld (.int .i64) (.fld (.int .i64) (.fld (.arr 32 (.int .u8)) (.fld (.arr 32 (.int .u8)) (.fld (.arr 32 (.int .u8)) (.fld (.arr 32 (.int .u8)) .unit)))))) (.v (.fld (.int .i64) (.fld (.int .i64) (.fld (.arr 32 (.int .u8)) (.fld (.arr 32 (.int .u8)) (.fld (.arr 32 (.int .u8)) (.fld (.arr 32 (.int .u8)) .unit)))))) x4) true, .row .str x5 true, .box (.arr 32 (.int .u8)) (.v (.arr 32 (.int .u8)) x6) true], 49, 0⟩
def seal_Names_1_ex (o : List (List UInt8)) : Exit := (.exit 0)
def seal_Names_1_st (o : List (List UInt8)) : St := ⟨[(7, (.own 0 []))], [.row .str o true], 49, 0⟩
theorem seal_Names_1_body (x0 : List (List UInt8 × Int × List UInt8 × Unit)) (x1 : List (List UInt8 × (Int × (List (List UInt8) × List (List UInt8) × Unit) × List (List UInt8) × Unit) × Unit)) (x2 : Int) (x3 : Int) (x4 : Int × Int × List UInt8 × List UInt8 × List UInt8 × List UInt8 × Unit) (x5 : List (List UInt8)) (x6 : List UInt8) : ∀ r, seal_Names_1_step x0 x1 x2 x3 x4 x5 x6 = some r → (match r with | .inl s => CodeOK prog (codeAt (bodyOf f17) [1, 1, 1, 1, 0, 1, 0, 0]) (seal_Names_1_in x0 x1 x2 x3 x4 x5 x6) .normal (seal_Names_1_in x0 x1 x2 s.1 x4 s.2 x6) | .inr o => seal_Names_1_ex o ≠ .normal ∧ CodeOK prog (codeAt (bodyOf f17) [1, 1, 1, 1, 0, 1, 0, 0]) (seal_Names_1_in x0 x1 x2 x3 x4 x5 x6) (seal_Names_1_ex o) (seal_Names_1_st o)) := by
  intro r h
  unfold seal_Names_1_step at h
  rcases fork_some h with ⟨h7, h⟩ | ⟨h7, h⟩
  · obtain ⟨h8, h⟩ := need_some h
    obtain ⟨u9, h10, h⟩ := andThen_some h
    rcases fork_some h with ⟨h11, h⟩ | ⟨h11, h⟩
    · obtain ⟨u12, h13, h⟩ := andThen_some h
      rcases fork_some h with ⟨h14, h⟩ | ⟨h14, h⟩
      · obtain ⟨h15, h⟩ := need_some h
        injection h with h; subst h
        exact env.code (its := [.br true, .call [none, none] [] [] true (vals_Find_R x0 ((List.getD x1 (Int.toNat x3) (([] : List UInt8), ((0 : Int), (([] : List (List UInt8)), ([] : List (List UInt8)), ()), ([] : List (List UInt8)), ()), ())).1) u9) (vals_Find_O x0 ((List.getD x1 (Int.toNat x3) (([] : List UInt8), ((0 : Int), (([] : List (List UInt8)), ([] : List (List UInt8)), ()), ([] : List (List UInt8)), ()), ())).1) u9), .br true, .br true, .br true, .br true, .br true, .br true, .br true, .br true, .call [none, none, none, none] [] [2] true (ring_Verify_R u9.1.2.2.1 x4.1 x6 ((List.getD x1 (Int.toNat x3) (([] : List UInt8), ((0 : Int), (([] : List (List UInt8)), ([] : List (List UInt8)), ()), ([] : List (List UInt8)), ()), ())).2.1) u12) (ring_Verify_O u9.1.2.2.1 x4.1 x6 ((List.getD x1 (Int.toNat x3) (([] : List UInt8), ((0 : Int), (([] : List (List UInt8)), ([] : List (List UInt8)), ()), ([] : List (List UInt8)), ()), ())).2.1) u12), .br true, .br true, .sel [0, 4, 7, 8, 18, 19, 20] [0, 6, 2]]) (.c h7 (.c h8 (.c (vals_Find_ok x0 ((List.getD x1 (Int.toNat x3) (([] : List UInt8), ((0 : Int), (([] : List (List UInt8)), ([] : List (List UInt8)), ()), ([] : List (List UInt8)), ()), ())).1) u9 h10) (.c h11 (.c h11 (.c h11 (.c h11 (.c h11 (.c h11 (.c h11 (.c h11 (.c (ring_Verify_ok u9.1.2.2.1 x4.1 x6 ((List.getD x1 (Int.toNat x3) (([] : List UInt8), ((0 : Int), (([] : List (List UInt8)), ([] : List (List UInt8)), ()), ([] : List (List UInt8)), ()), ())).2.1) u12 h13) (.c h11 (.c h14 (.c h15 .n))))))))))))))) (by kernel_rfl)
      · injection h with h; subst h
        exact env.code (its := [.br true, .call [none, none] [] [] true (vals_Find_R x0 ((List.getD x1 (Int.toNat x3) (([] : List UInt8), ((0 : Int), (([] : List (List UInt8)), ([] : List (List UInt8)), ()), ([] : List (List UInt8)), ()), ())).1) u9) (vals_Find_O x0 ((List.getD x1 (Int.toNat x3) (([] : List UInt8), ((0 : Int), (([] : List (List UInt8)), ([] : List (List UInt8)), ()), ([] : List (List UInt8)), ()), ())).1) u9), .br true, .br true, .br true, .br true, .br true, .br true, .br true, .br true, .call [none, none, none, none] [] [2] true (ring_Verify_R u9.1.2.2.1 x4.1 x6 ((List.getD x1 (Int.toNat x3) (([] : List UInt8), ((0 : Int), (([] : List (List UInt8)), ([] : List (List UInt8)), ()), ([] : List (List UInt8)), ()), ())).2.1) u12) (ring_Verify_O u9.1.2.2.1 x4.1 x6 ((List.getD x1 (Int.toNat x3) (([] : List UInt8), ((0 : Int), (([] : List (List UInt8)), ([] : List (List UInt8)), ()), ([] : List (List UInt8)), ()), ())).2.1) u12), .br true, .br false, .sel [0, 4, 7, 8, 18, 19, 20] [0, 1, 2]]) (.c h7 (.c h8 (.c (vals_Find_ok x0 ((List.getD x1 (Int.toNat x3) (([] : List UInt8), ((0 : Int), (([] : List (List UInt8)), ([] : List (List UInt8)), ()), ([] : List (List UInt8)), ()), ())).1) u9 h10) (.c h11 (.c h11 (.c h11 (.c h11 (.c h11 (.c h11 (.c h11 (.c h11 (.c (ring_Verify_ok u9.1.2.2.1 x4.1 x6 ((List.getD x1 (Int.toNat x3) (([] : List UInt8), ((0 : Int), (([] : List (List UInt8)), ([] : List (List UInt8)), ()), ([] : List (List UInt8)), ()), ())).2.1) u12 h13) (.c h11 (.c h14 .n)))))))))))))) (by kernel_rfl)
    · injection h with h; subst h
      exact env.code (its := [.br true, .call [none, none] [] [] true (vals_Find_R x0 ((List.getD x1 (Int.toNat x3) (([] : List UInt8), ((0 : Int), (([] : List (List UInt8)), ([] : List (List UInt8)), ()), ([] : List (List UInt8)), ()), ())).1) u9) (vals_Find_O x0 ((List.getD x1 (Int.toNat x3) (([] : List UInt8), ((0 : Int), (([] : List (List UInt8)), ([] : List (List UInt8)), ()), ([] : List (List UInt8)), ()), ())).1) u9), .br false, .br false, .br false, .br false, .br false, .br false, .br false, .br false, .br false, .br false, .sel [0, 4, 7, 8, 18, 19, 20] [0, 1, 2]]) (.c h7 (.c h8 (.c (vals_Find_ok x0 ((List.getD x1 (Int.toNat x3) (([] : List UInt8), ((0 : Int), (([] : List (List UInt8)), ([] : List (List UInt8)), ()), ([] : List (List UInt8)), ()), ())).1) u9 h10) (.c h11 (.c h11 (.c h11 (.c h11 (.c h11 (.c h11 (.c h11 (.c h11 (.c h11 (.c (rfl : (false : Bool) = false) .n))))))))))))) (by kernel_rfl)
  · injection h with h; subst h
    exact ⟨by intro e; simp [seal_Names_1_ex] at e, env.code (its := [.br false, .sel [7] [1]]) (.c h7 .n) (by kernel_rfl)⟩
theorem seal_Names_1_ok (x0 : List (List UInt8 × Int × List UInt8 × Unit)) (x1 : List (List UInt8 × (Int × (List (List UInt8) × List (List UInt8) × Unit) × List (List UInt8) × Unit) × Unit)) (x2 : Int) (x3 : Int) (x4 : Int × Int × List UInt8 × List UInt8 × List UInt8 × List UInt8 × Unit) (x5 : List (List UInt8)) (x6 : List UInt8) (o : List (List UInt8)) (h : seal_Names_1 x0 x1 x2 x3 x4 x5 x6 = some o) : CodeOK prog (codeAt (bodyOf f17) [1, 1, 1, 1, 0, 1, 0]) (seal_Names_1_in x0 x1 x2 x3 x4 x5 x6) (seal_Names_1_ex o) (seal_Names_1_st o) :=
  LoopOK.of_step (st := fun s => seal_Names_1_in x0 x1 x2 s.1 x4 s.2 x6) (ex := seal_Names_1_ex) (stO := seal_Names_1_st) (fun s s2 hs => seal_Names_1_body x0 x1 x2 s.1 x4 s.2 x6 (.inl s2) hs) (fun s r hs => seal_Names_1_body x0 x1 x2 s.1 x4 s.2 x6 (.inr r) hs) _ o h
def seal_Names_R (a0 : List (List UInt8 × Int × List UInt8 × Unit)) (a1 : Int × Int × List UInt8 × List UInt8 × List UInt8 × List UInt8 × Unit) (a2 : List (List UInt8 × (Int × (List (List UInt8) × List (List UInt8) × Unit) × List (List UInt8) × Unit) × Unit)) (u : List (List UInt8)) : Slot := (.own 0 [])
def seal_Names_O (a0 : List (List UInt8 × Int × List UInt8 × Unit)) (a1 : Int × Int × List UInt8 × List UInt8 × List UInt8 × List UInt8 × Unit) (a2 : List (List UInt8 × (Int × (List (List UInt8) × List (List UInt8) × Unit) × List (List UInt8) × Unit) × Unit)) (u : List (List UInt8)) : List AObj := [.row .str u true]
theorem seal_Names_ok (a0 : List (List UInt8 × Int × List UInt8 × Unit)) (a1 : Int × Int × List UInt8 × List UInt8 × List UInt8 × List UInt8 × Unit) (a2 : List (List UInt8 × (Int × (List (List UInt8) × List (List UInt8) × Unit) × List (List UInt8) × Unit) × Unit)) (u : List (List UInt8)) (h : seal_Names a0 a1 a2 = some u) : CallC prog 17 [(.v (.slice (.fld .str (.fld (.int .i64) (.fld (.arr 32 (.int .u8)) .unit)))) a0), (.v (.fld (.int .i64) (.fld (.int .i64) (.fld (.arr 32 (.int .u8)) (.fld (.arr 32 (.int .u8)) (.fld (.arr 32 (.int .u8)) (.fld (.arr 32 (.int .u8)) .unit)))))) a1), (.v (.slice (.fld .str (.fld (.fld (.int .i64) (.fld (.fld (.slice (.arr 32 (.int .u8))) (.fld (.slice (.arr 32 (.int .u8))) .unit)) (.fld (.slice (.arr 32 (.int .u8))) .unit))) .unit))) a2)] [] (seal_Names_R a0 a1 a2 u) (seal_Names_O a0 a1 a2 u) := by
  unfold seal_Names at h
  obtain ⟨u1, h2, h⟩ := andThen_some h
  rcases fork_some h with ⟨h3, h⟩ | ⟨h3, h⟩
  · injection h with h; subst h
    exact env.fun func17 can17 (its := [.call [none] [] [] true (seal_Right_R a2 u1) (seal_Right_O a2 u1), .br true]) (pos := [.promote .str, .sel [1]]) (.c (seal_Right_ok a2 u1 h2) (.c h3 .n)) (by kernel_rfl)
  · obtain ⟨u4, h5, h⟩ := andThen_some h
    obtain ⟨o16, h17, h⟩ := andThen_some h
    injection h with h; subst h
    exact env.fun func17 can17 (its := [.call [none] [] [] true (seal_Right_R a2 u1) (seal_Right_O a2 u1), .br false, .call [none] [] [] true (seal_text_R a1 u4) (seal_text_O a1 u4), .dive, .promote 7 .str, .sel [0, 4, 7, 8, 18, 19, 20] [0, 2, 1], .part (seal_Names_1_ex o16) (seal_Names_1_st o16)]) (pos := [.sel [0]]) (.c (seal_Right_ok a2 u1 h2) (.c h3 (.c (seal_text_ok a1 u4 h5) (.c (seal_Names_1_ok a0 a2 (List.length a2 : Int) (0 : Int) a1 ([] : List (List UInt8)) u4 o16 h17) .n)))) (by kernel_rfl)
theorem can99 : Callable prog 99 := ⟨_, func99, by kernel_rfl, by kernel_rfl⟩
def slices_Index_Lstring_string_1_in (x0 : List (List UInt8)) (x1 : List UInt8) (x2 : Int) (x3 : Int) : St := ⟨[(0, (.v (.slice .str) x0)), (1, (.v .str x1)), (7, (.v (.int .i64) x2)), (8, (.v (.int .i64) x3))], [], 19, 0⟩
def slices_Index_Lstring_string_1_ex (o : (Int) ⊕ (Unit)) : Exit := match o with | (.inl o) => .ret | (.inr o) => (.exit 0)
def slices_Index_Lstring_string_1_st (o : (Int) ⊕ (Unit)) : St := match o with | (.inl o) => ⟨[(4, (.v (.int .i64) o))], [], 19, 0⟩ | (.inr o) => ⟨[], [], 19, 0⟩
theorem slices_Index_Lstring_string_1_body (x0 : List (List UInt8)) (x1 : List UInt8) (x2 : Int) (x3 : Int) : ∀ r, slices_Index_Lstring_string_1_step x0 x1 x2 x3 = some r → (match r with | .inl s => CodeOK prog (codeAt (bodyOf f99) [1, 0, 1, 0, 0]) (slices_Index_Lstring_string_1_in x0 x1 x2 x3) .normal (slices_Index_Lstring_string_1_in x0 x1 x2 s) | .inr o => slices_Index_Lstring_string_1_ex o ≠ .normal ∧ CodeOK prog (codeAt (bodyOf f99) [1, 0, 1, 0, 0]) (slices_Index_Lstring_string_1_in x0 x1 x2 x3) (slices_Index_Lstring_string_1_ex o) (slices_Index_Lstring_string_1_st o)) := by
  intro r h
  unfold slices_Index_Lstring_string_1_step at h
  rcases fork_some h with ⟨h2, h⟩ | ⟨h2, h⟩
  · obtain ⟨h3, h⟩ := need_some h
    rcases fork_some h with ⟨h4, h⟩ | ⟨h4, h⟩
    · injection h with h; subst h
      exact ⟨by intro e; simp [slices_Index_Lstring_string_1_ex] at e, env.code (its := [.br true, .br true, .sel [4] []]) (.c h2 (.c h3 (.c h4 .n))) (by kernel_rfl)⟩
    · injection h with h; subst h
      exact env.code (its := [.br true, .br false, .sel [0, 1, 7, 8] []]) (.c h2 (.c h3 (.c h4 .n))) (by kernel_rfl)
  · injection h with h; subst h
    exact ⟨by intro e; simp [slices_Index_Lstring_string_1_ex] at e, env.code (its := [.br false, .sel [] []]) (.c h2 .n) (by kernel_rfl)⟩
theorem slices_Index_Lstring_string_1_ok (x0 : List (List UInt8)) (x1 : List UInt8) (x2 : Int) (x3 : Int) (o : (Int) ⊕ (Unit)) (h : slices_Index_Lstring_string_1 x0 x1 x2 x3 = some o) : CodeOK prog (codeAt (bodyOf f99) [1, 0, 1, 0]) (slices_Index_Lstring_string_1_in x0 x1 x2 x3) (slices_Index_Lstring_string_1_ex o) (slices_Index_Lstring_string_1_st o) :=
  LoopOK.of_step (st := fun s => slices_Index_Lstring_string_1_in x0 x1 x2 s) (ex := slices_Index_Lstring_string_1_ex) (stO := slices_Index_Lstring_string_1_st) (fun s s2 hs => slices_Index_Lstring_string_1_body x0 x1 x2 s (.inl s2) hs) (fun s r hs => slices_Index_Lstring_string_1_body x0 x1 x2 s (.inr r) hs) _ o h
def slices_Index_Lstring_string_R (a0 : List (List UInt8)) (a1 : List UInt8) (u : Int) : Slot := (.v (.int .i64) u)
def slices_Index_Lstring_string_O (a0 : List (List UInt8)) (a1 : List UInt8) (u : Int) : List AObj := []
theorem slices_Index_Lstring_string_ok (a0 : List (List UInt8)) (a1 : List UInt8) (u : Int) (h : slices_Index_Lstring_string a0 a1 = some u) : CallC prog 99 [(.v (.slice .str) a0), (.v .str a1)] [] (slices_Index_Lstring_string_R a0 a1 u) (slices_Index_Lstring_string_O a0 a1 u) := by
  unfold slices_Index_Lstring_string at h
  obtain ⟨o5, h6, h⟩ := andThen_some h
  rcases o5 with o7 | o8
  · injection h with h; subst h
    exact env.fun func99 can99 (its := [.dive, .sel [0, 1, 7, 8] [], .part (slices_Index_Lstring_string_1_ex (.inl o7)) (slices_Index_Lstring_string_1_st (.inl o7))]) (pos := [.sel []]) (.c (slices_Index_Lstring_string_1_ok a0 a1 (List.length a0 : Int) (0 : Int) (.inl o7) h6) .n) (by kernel_rfl)
  · injection h with h; subst h
    exact env.fun func99 can99 (its := [.dive, .sel [0, 1, 7, 8] [], .part (slices_Index_Lstring_string_1_ex (.inr o8)) (slices_Index_Lstring_string_1_st (.inr o8))]) (pos := [.sel []]) (.c (slices_Index_Lstring_string_1_ok a0 a1 (List.length a0 : Int) (0 : Int) (.inr o8) h6) .n) (by kernel_rfl)
theorem can69 : Callable prog 69 := ⟨_, func69, by kernel_rfl, by kernel_rfl⟩
def slices_Contains_Lstring_string_R (a0 : List (List UInt8)) (a1 : List UInt8) (u : Bool) : Slot := (.v .bool u)
def slices_Contains_Lstring_string_O (a0 : List (List UInt8)) (a1 : List UInt8) (u : Bool) : List AObj := []
theorem slices_Contains_Lstring_string_ok (a0 : List (List UInt8)) (a1 : List UInt8) (u : Bool) (h : slices_Contains_Lstring_string a0 a1 = some u) : CallC prog 69 [(.v (.slice .str) a0), (.v .str a1)] [] (slices_Contains_Lstring_string_R a0 a1 u) (slices_Contains_Lstring_string_O a0 a1 u) := by
  unfold slices_Contains_Lstring_string at h
  obtain ⟨u1, h2, h⟩ := andThen_some h
  injection h with h; subst h
  exact env.fun func69 can69 (its := [.call [none, none] [] [] true (slices_Index_Lstring_string_R a0 a1 u1) (slices_Index_Lstring_string_O a0 a1 u1)]) (pos := [.sel []]) (.c (slices_Index_Lstring_string_ok a0 a1 u1 h2) .n) (by kernel_rfl)
theorem can70 : Callable prog 70 := ⟨_, func70, by kernel_rfl, by kernel_rfl⟩
def vals_Total_1_in (x0 : Int) (x1 : List (List UInt8 × Int × List UInt8 × Unit)) (x2 : Int) (x3 : Int) : St := ⟨[(3, (.v (.int .i64) x0)), (6, (.v (.slice (.fld .str (.fld (.int .i64) (.fld (.arr 32 (.int .u8)) .unit)))) x1)), (7, (.v (.int .i64) x2)), (8, (.v (.int .i64) x3))], [], 18, 0⟩
def vals_Total_1_ex (o : Int) : Exit := (.exit 0)
def vals_Total_1_st (o : Int) : St := ⟨[(3, (.v (.int .i64) o))], [], 18, 0⟩
theorem vals_Total_1_body (x0 : Int) (x1 : List (List UInt8 × Int × List UInt8 × Unit)) (x2 : Int) (x3 : Int) : ∀ r, vals_Total_1_step x0 x1 x2 x3 = some r → (match r with | .inl s => CodeOK prog (codeAt (bodyOf f70) [1, 1, 0, 1, 0, 0]) (vals_Total_1_in x0 x1 x2 x3) .normal (vals_Total_1_in s.1 x1 x2 s.2) | .inr o => vals_Total_1_ex o ≠ .normal ∧ CodeOK prog (codeAt (bodyOf f70) [1, 1, 0, 1, 0, 0]) (vals_Total_1_in x0 x1 x2 x3) (vals_Total_1_ex o) (vals_Total_1_st o)) := by
  intro r h
  unfold vals_Total_1_step at h
  rcases fork_some h with ⟨h2, h⟩ | ⟨h2, h⟩
  · obtain ⟨h3, h⟩ := need_some h
    injection h with h; subst h
    exact env.code (its := [.br true, .dive, .sel [3, 6, 7, 8] []]) (.c h2 (.c h3 .n)) (by kernel_rfl)
  · injection h with h; subst h
    exact ⟨by intro e; simp [vals_Total_1_ex] at e, env.code (its := [.br false, .sel [3] []]) (.c h2 .n) (by kernel_rfl)⟩
theorem vals_Total_1_ok (x0 : Int) (x1 : List (List UInt8 × Int × List UInt8 × Unit)) (x2 : Int) (x3 : Int) (o : Int) (h : vals_Total_1 x0 x1 x2 x3 = some o) : CodeOK prog (codeAt (bodyOf f70) [1, 1, 0, 1, 0]) (vals_Total_1_in x0 x1 x2 x3) (vals_Total_1_ex o) (vals_Total_1_st o) :=
  LoopOK.of_step (st := fun s => vals_Total_1_in s.1 x1 x2 s.2) (ex := vals_Total_1_ex) (stO := vals_Total_1_st) (fun s s2 hs => vals_Total_1_body s.1 x1 x2 s.2 (.inl s2) hs) (fun s r hs => vals_Total_1_body s.1 x1 x2 s.2 (.inr r) hs) _ o h
def vals_Total_R (a0 : List (List UInt8 × Int × List UInt8 × Unit)) (u : Int) : Slot := (.v (.int .i64) u)
def vals_Total_O (a0 : List (List UInt8 × Int × List UInt8 × Unit)) (u : Int) : List AObj := []
theorem vals_Total_ok (a0 : List (List UInt8 × Int × List UInt8 × Unit)) (u : Int) (h : vals_Total a0 = some u) : CallC prog 70 [(.v (.slice (.fld .str (.fld (.int .i64) (.fld (.arr 32 (.int .u8)) .unit)))) a0)] [] (vals_Total_R a0 u) (vals_Total_O a0 u) := by
  unfold vals_Total at h
  obtain ⟨o4, h5, h⟩ := andThen_some h
  injection h with h; subst h
  exact env.fun func70 can70 (its := [.dive, .sel [3, 6, 7, 8] [], .part (vals_Total_1_ex o4) (vals_Total_1_st o4)]) (pos := [.sel []]) (.c (vals_Total_1_ok (0 : Int) a0 (List.length a0 : Int) (0 : Int) o4 h5) .n) (by kernel_rfl)
theorem can41 : Callable prog 41 := ⟨_, func41, by kernel_rfl, by kernel_rfl⟩
def vals_Tally_1_in (x0 : List (List UInt8 × Int × List UInt8 × Unit)) (x1 : List (List UInt8)) (x2 : Int) (x3 : List (List UInt8 × Int × List UInt8 × Unit)) (x4 : Int) (x5 : Int) : St := ⟨[(0, (.v (.slice (.fld .str (.fld (.int .i64) (.fld (.arr 32 (.int .u8)) .unit)))) x0)), (1, (.v (.slice .str) x1)), (5, (.v (.int .i64) x2)), (8, (.v (.slice (.fld .str (.fld (.int .i64) (.fld (.arr 32 (.int .u8)) .unit)))) x3)), (9, (.v (.int .i64) x4)), (10, (.v (.int .i64) x5))], [], 29, 0⟩
def vals_Tally_1_ex (o : (List (List UInt8 × Int × List UInt8 × Unit)) × Int) : Exit := (.exit 0)
def vals_Tally_1_st (o : (List (List UInt8 × Int × List UInt8 × Unit)) × Int) : St := ⟨[(0, (.v (.slice (.fld .str (.fld (.int .i64) (.fld (.arr 32 (.int .u8)) .unit)))) o.1)), (5, (.v (.int .i64) o.2))], [], 29, 0⟩
theorem vals_Tally_1_body (x0 : List (List UInt8 × Int × List UInt8 × Unit)) (x1 : List (List UInt8)) (x2 : Int) (x3 : List (List UInt8 × Int × List UInt8 × Unit)) (x4 : Int) (x5 : Int) : ∀ r, vals_Tally_1_step x0 x1 x2 x3 x4 x5 = some r → (match r with | .inl s => CodeOK prog (codeAt (bodyOf f41) [1, 1, 0, 1, 0, 0]) (vals_Tally_1_in x0 x1 x2 x3 x4 x5) .normal (vals_Tally_1_in x0 x1 s.1 x3 x4 s.2) | .inr o => vals_Tally_1_ex o ≠ .normal ∧ CodeOK prog (codeAt (bodyOf f41) [1, 1, 0, 1, 0, 0]) (vals_Tally_1_in x0 x1 x2 x3 x4 x5) (vals_Tally_1_ex o) (vals_Tally_1_st o)) := by
  intro r h
  unfold vals_Tally_1_step at h
  rcases fork_some h with ⟨h2, h⟩ | ⟨h2, h⟩
  · obtain ⟨h3, h⟩ := need_some h
    obtain ⟨u4, h5, h⟩ := andThen_some h
    rcases fork_some h with ⟨h6, h⟩ | ⟨h6, h⟩
    · injection h with h; subst h
      exact env.code (its := [.br true, .call [none, none] [] [] true (slices_Contains_Lstring_string_R x1 ((List.getD x3 (Int.toNat x5) (([] : List UInt8), (0 : Int), (List.replicate 32 (0 : UInt8)), ())).1) u4) (slices_Contains_Lstring_string_O x1 ((List.getD x3 (Int.toNat x5) (([] : List UInt8), (0 : Int), (List.replicate 32 (0 : UInt8)), ())).1) u4), .br true, .sel [0, 1, 5, 8, 9, 10] []]) (.c h2 (.c h3 (.c (slices_Contains_Lstring_string_ok x1 ((List.getD x3 (Int.toNat x5) (([] : List UInt8), (0 : Int), (List.replicate 32 (0 : UInt8)), ())).1) u4 h5) (.c h6 .n)))) (by kernel_rfl)
    · injection h with h; subst h
      exact env.code (its := [.br true, .call [none, none] [] [] true (slices_Contains_Lstring_string_R x1 ((List.getD x3 (Int.toNat x5) (([] : List UInt8), (0 : Int), (List.replicate 32 (0 : UInt8)), ())).1) u4) (slices_Contains_Lstring_string_O x1 ((List.getD x3 (Int.toNat x5) (([] : List UInt8), (0 : Int), (List.replicate 32 (0 : UInt8)), ())).1) u4), .br false, .sel [0, 1, 5, 8, 9, 10] []]) (.c h2 (.c h3 (.c (slices_Contains_Lstring_string_ok x1 ((List.getD x3 (Int.toNat x5) (([] : List UInt8), (0 : Int), (List.replicate 32 (0 : UInt8)), ())).1) u4 h5) (.c h6 .n)))) (by kernel_rfl)
  · injection h with h; subst h
    exact ⟨by intro e; simp [vals_Tally_1_ex] at e, env.code (its := [.br false, .sel [0, 5] []]) (.c h2 .n) (by kernel_rfl)⟩
theorem vals_Tally_1_ok (x0 : List (List UInt8 × Int × List UInt8 × Unit)) (x1 : List (List UInt8)) (x2 : Int) (x3 : List (List UInt8 × Int × List UInt8 × Unit)) (x4 : Int) (x5 : Int) (o : (List (List UInt8 × Int × List UInt8 × Unit)) × Int) (h : vals_Tally_1 x0 x1 x2 x3 x4 x5 = some o) : CodeOK prog (codeAt (bodyOf f41) [1, 1, 0, 1, 0]) (vals_Tally_1_in x0 x1 x2 x3 x4 x5) (vals_Tally_1_ex o) (vals_Tally_1_st o) :=
  LoopOK.of_step (st := fun s => vals_Tally_1_in x0 x1 s.1 x3 x4 s.2) (ex := vals_Tally_1_ex) (stO := vals_Tally_1_st) (fun s s2 hs => vals_Tally_1_body x0 x1 s.1 x3 x4 s.2 (.inl s2) hs) (fun s r hs => vals_Tally_1_body x0 x1 s.1 x3 x4 s.2 (.inr r) hs) _ o h
def vals_Tally_R (a0 : List (List UInt8 × Int × List UInt8 × Unit)) (a1 : List (List UInt8)) (u : Int × Int) : Slot := (.v .cplx u)
def vals_Tally_O (a0 : List (List UInt8 × Int × List UInt8 × Unit)) (a1 : List (List UInt8)) (u : Int × Int) : List AObj := []
theorem vals_Tally_ok (a0 : List (List UInt8 × Int × List UInt8 × Unit)) (a1 : List (List UInt8)) (u : Int × Int) (h : vals_Tally a0 a1 = some u) : CallC prog 41 [(.v (.slice (.fld .str (.fld (.int .i64) (.fld (.arr 32 (.int .u8)) .unit)))) a0), (.v (.slice .str) a1)] [] (vals_Tally_R a0 a1 u) (vals_Tally_O a0 a1 u) := by
  unfold vals_Tally at h
  obtain ⟨o7, h8, h⟩ := andThen_some h
  obtain ⟨h9, h⟩ := need_some h
  obtain ⟨u10, h11, h⟩ := andThen_some h
  obtain ⟨h12, h⟩ := need_some h
  injection h with h; subst h
  exact env.fun func41 can41 (its := [.dive, .sel [0, 1, 5, 8, 9, 10] [], .part (vals_Tally_1_ex o7) (vals_Tally_1_st o7), .call [none] [] [] true (vals_Total_R o7.1 u10) (vals_Total_O o7.1 u10)]) (pos := [.sel []]) (.c (vals_Tally_1_ok a0 a1 (0 : Int) a0 (List.length a0 : Int) (0 : Int) o7 h8) (.c h9 (.c (vals_Total_ok o7.1 u10 h11) (.c h12 .n)))) (by kernel_rfl)
theorem can13 : Callable prog 13 := ⟨_, func13, by kernel_rfl, by kernel_rfl⟩
def seal_Tally_R (a0 : List (List UInt8 × Int × List UInt8 × Unit)) (a1 : Int × Int × List UInt8 × List UInt8 × List UInt8 × List UInt8 × Unit) (a2 : List (List UInt8 × (Int × (List (List UInt8) × List (List UInt8) × Unit) × List (List UInt8) × Unit) × Unit)) (u : Int × Int) : Slot := (.v .cplx u)
def seal_Tally_O (a0 : List (List UInt8 × Int × List UInt8 × Unit)) (a1 : Int × Int × List UInt8 × List UInt8 × List UInt8 × List UInt8 × Unit) (a2 : List (List UInt8 × (Int × (List (List UInt8) × List (List UInt8) × Unit) × List (List UInt8) × Unit) × Unit)) (u : Int × Int) : List AObj := []
theorem seal_Tally_ok (a0 : List (List UInt8 × Int × List UInt8 × Unit)) (a1 : Int × Int × List UInt8 × List UInt8 × List UInt8 × List UInt8 × Unit) (a2 : List (List UInt8 × (Int × (List (List UInt8) × List (List UInt8) × Unit) × List (List UInt8) × Unit) × Unit)) (u : Int × Int) (h : seal_Tally a0 a1 a2 = some u) : CallC prog 13 [(.v (.slice (.fld .str (.fld (.int .i64) (.fld (.arr 32 (.int .u8)) .unit)))) a0), (.v (.fld (.int .i64) (.fld (.int .i64) (.fld (.arr 32 (.int .u8)) (.fld (.arr 32 (.int .u8)) (.fld (.arr 32 (.int .u8)) (.fld (.arr 32 (.int .u8)) .unit)))))) a1), (.v (.slice (.fld .str (.fld (.fld (.int .i64) (.fld (.fld (.slice (.arr 32 (.int .u8))) (.fld (.slice (.arr 32 (.int .u8))) .unit)) (.fld (.slice (.arr 32 (.int .u8))) .unit))) .unit))) a2)] [] (seal_Tally_R a0 a1 a2 u) (seal_Tally_O a0 a1 a2 u) := by
  unfold seal_Tally at h
  obtain ⟨u1, h2, h⟩ := andThen_some h
  obtain ⟨u3, h4, h⟩ := andThen_some h
  injection h with h; subst h
  exact env.fun func13 can13 (its := [.call [none, none, none] [] [] true (seal_Names_R a0 a1 a2 u1) (seal_Names_O a0 a1 a2 u1), .call [none, none] [] [1] true (vals_Tally_R a0 u1 u3) (vals_Tally_O a0 u1 u3)]) (pos := [.sel []]) (.c (seal_Names_ok a0 a1 a2 u1 h2) (.c (vals_Tally_ok a0 u1 u3 h4) .n)) (by kernel_rfl)
theorem can42 : Callable prog 42 := ⟨_, func42, by kernel_rfl, by kernel_rfl⟩
def vals_Over_R (a0 : Int × Int) (a1 : Int) (a2 : Int) (u : Bool) : Slot := (.v .bool u)
def vals_Over_O (a0 : Int × Int) (a1 : Int) (a2 : Int) (u : Bool) : List AObj := []
theorem vals_Over_ok (a0 : Int × Int) (a1 : Int) (a2 : Int) (u : Bool) (h : vals_Over a0 a1 a2 = some u) : CallC prog 42 [(.v .cplx a0), (.v (.int .i64) a1), (.v (.int .i64) a2)] [] (vals_Over_R a0 a1 a2 u) (vals_Over_O a0 a1 a2 u) := by
  unfold vals_Over at h
  injection h with h; subst h
  exact env.fun func42 can42 (its := []) (pos := [.sel []]) .n (by kernel_rfl)
theorem can15 : Callable prog 15 := ⟨_, func15, by kernel_rfl, by kernel_rfl⟩
def seal_Enough_R (a0 : List (List UInt8 × Int × List UInt8 × Unit)) (a1 : Int × Int × List UInt8 × List UInt8 × List UInt8 × List UInt8 × Unit) (a2 : List (List UInt8 × (Int × (List (List UInt8) × List (List UInt8) × Unit) × List (List UInt8) × Unit) × Unit)) (u : Bool) : Slot := (.v .bool u)
def seal_Enough_O (a0 : List (List UInt8 × Int × List UInt8 × Unit)) (a1 : Int × Int × List UInt8 × List UInt8 × List UInt8 × List UInt8 × Unit) (a2 : List (List UInt8 × (Int × (List (List UInt8) × List (List UInt8) × Unit) × List (List UInt8) × Unit) × Unit)) (u : Bool) : List AObj := []
theorem seal_Enough_ok (a0 : List (List UInt8 × Int × List UInt8 × Unit)) (a1 : Int × Int × List UInt8 × List UInt8 × List UInt8 × List UInt8 × Unit) (a2 : List (List UInt8 × (Int × (List (List UInt8) × List (List UInt8) × Unit) × List (List UInt8) × Unit) × Unit)) (u : Bool) (h : seal_Enough a0 a1 a2 = some u) : CallC prog 15 [(.v (.slice (.fld .str (.fld (.int .i64) (.fld (.arr 32 (.int .u8)) .unit)))) a0), (.v (.fld (.int .i64) (.fld (.int .i64) (.fld (.arr 32 (.int .u8)) (.fld (.arr 32 (.int .u8)) (.fld (.arr 32 (.int .u8)) (.fld (.arr 32 (.int .u8)) .unit)))))) a1), (.v (.slice (.fld .str (.fld (.fld (.int .i64) (.fld (.fld (.slice (.arr 32 (.int .u8))) (.fld (.slice (.arr 32 (.int .u8))) .unit)) (.fld (.slice (.arr 32 (.int .u8))) .unit))) .unit))) a2)] [] (seal_Enough_R a0 a1 a2 u) (seal_Enough_O a0 a1 a2 u) := by
  unfold seal_Enough at h
  obtain ⟨u1, h2, h⟩ := andThen_some h
  obtain ⟨u3, h4, h⟩ := andThen_some h
  injection h with h; subst h
  exact env.fun func15 can15 (its := [.call [none, none, none] [] [] true (seal_Tally_R a0 a1 a2 u1) (seal_Tally_O a0 a1 a2 u1), .call [none, none, none] [] [] true (vals_Over_R u1 (2 : Int) (3 : Int) u3) (vals_Over_O u1 (2 : Int) (3 : Int) u3)]) (pos := [.sel []]) (.c (seal_Tally_ok a0 a1 a2 u1 h2) (.c (vals_Over_ok u1 (2 : Int) (3 : Int) u3 h4) .n)) (by kernel_rfl)
theorem can16 : Callable prog 16 := ⟨_, func16, by kernel_rfl, by kernel_rfl⟩
def seal_Some_R (a0 : List (List UInt8 × Int × List UInt8 × Unit)) (a1 : Int × Int × List UInt8 × List UInt8 × List UInt8 × List UInt8 × Unit) (a2 : List (List UInt8 × (Int × (List (List UInt8) × List (List UInt8) × Unit) × List (List UInt8) × Unit) × Unit)) (u : Bool) : Slot := (.v .bool u)
def seal_Some_O (a0 : List (List UInt8 × Int × List UInt8 × Unit)) (a1 : Int × Int × List UInt8 × List UInt8 × List UInt8 × List UInt8 × Unit) (a2 : List (List UInt8 × (Int × (List (List UInt8) × List (List UInt8) × Unit) × List (List UInt8) × Unit) × Unit)) (u : Bool) : List AObj := []
theorem seal_Some_ok (a0 : List (List UInt8 × Int × List UInt8 × Unit)) (a1 : Int × Int × List UInt8 × List UInt8 × List UInt8 × List UInt8 × Unit) (a2 : List (List UInt8 × (Int × (List (List UInt8) × List (List UInt8) × Unit) × List (List UInt8) × Unit) × Unit)) (u : Bool) (h : seal_Some a0 a1 a2 = some u) : CallC prog 16 [(.v (.slice (.fld .str (.fld (.int .i64) (.fld (.arr 32 (.int .u8)) .unit)))) a0), (.v (.fld (.int .i64) (.fld (.int .i64) (.fld (.arr 32 (.int .u8)) (.fld (.arr 32 (.int .u8)) (.fld (.arr 32 (.int .u8)) (.fld (.arr 32 (.int .u8)) .unit)))))) a1), (.v (.slice (.fld .str (.fld (.fld (.int .i64) (.fld (.fld (.slice (.arr 32 (.int .u8))) (.fld (.slice (.arr 32 (.int .u8))) .unit)) (.fld (.slice (.arr 32 (.int .u8))) .unit))) .unit))) a2)] [] (seal_Some_R a0 a1 a2 u) (seal_Some_O a0 a1 a2 u) := by
  unfold seal_Some at h
  obtain ⟨u1, h2, h⟩ := andThen_some h
  obtain ⟨u3, h4, h⟩ := andThen_some h
  injection h with h; subst h
  exact env.fun func16 can16 (its := [.call [none, none, none] [] [] true (seal_Tally_R a0 a1 a2 u1) (seal_Tally_O a0 a1 a2 u1), .call [none, none, none] [] [] true (vals_Over_R u1 (1 : Int) (3 : Int) u3) (vals_Over_O u1 (1 : Int) (3 : Int) u3)]) (pos := [.sel []]) (.c (seal_Tally_ok a0 a1 a2 u1 h2) (.c (vals_Over_ok u1 (1 : Int) (3 : Int) u3 h4) .n)) (by kernel_rfl)
theorem can46 : Callable prog 46 := ⟨_, func46, by kernel_rfl, by kernel_rfl⟩
def seal_Cost_R (a0 : List (List UInt8 × (Int × (List (List UInt8) × List (List UInt8) × Unit) × List (List UInt8) × Unit) × Unit)) (u : Int) : Slot := (.v (.int .i64) u)
def seal_Cost_O (a0 : List (List UInt8 × (Int × (List (List UInt8) × List (List UInt8) × Unit) × List (List UInt8) × Unit) × Unit)) (u : Int) : List AObj := []
theorem seal_Cost_ok (a0 : List (List UInt8 × (Int × (List (List UInt8) × List (List UInt8) × Unit) × List (List UInt8) × Unit) × Unit)) (u : Int) (h : seal_Cost a0 = some u) : CallC prog 46 [(.v (.slice (.fld .str (.fld (.fld (.int .i64) (.fld (.fld (.slice (.arr 32 (.int .u8))) (.fld (.slice (.arr 32 (.int .u8))) .unit)) (.fld (.slice (.arr 32 (.int .u8))) .unit))) .unit))) a0)] [] (seal_Cost_R a0 u) (seal_Cost_O a0 u) := by
  unfold seal_Cost at h
  injection h with h; subst h
  exact env.fun func46 can46 (its := []) (pos := [.sel []]) .n (by kernel_rfl)
theorem can19 : Callable prog 19 := ⟨_, func19, by kernel_rfl, by kernel_rfl⟩
def affiantlaw12_SealRuns_R  (u : Bool) : Slot := (.v .bool u)
def affiantlaw12_SealRuns_O  (u : Bool) : List AObj := []
theorem affiantlaw12_SealRuns_ok  (u : Bool) (h : affiantlaw12_SealRuns  = some u) : CallC prog 19 [] [] (affiantlaw12_SealRuns_R u) (affiantlaw12_SealRuns_O u) := by
  unfold affiantlaw12_SealRuns at h
  obtain ⟨u1, h2, h⟩ := andThen_some h
  obtain ⟨u3, h4, h⟩ := andThen_some h
  obtain ⟨u5, h6, h⟩ := andThen_some h
  obtain ⟨u7, h8, h⟩ := andThen_some h
  obtain ⟨u9, h10, h⟩ := andThen_some h
  obtain ⟨h11, h⟩ := need_some h
  obtain ⟨u12, h13, h⟩ := andThen_some h
  rcases fork_some h with ⟨h14, h⟩ | ⟨h14, h⟩
  · obtain ⟨u15, h16, h⟩ := andThen_some h
    rcases fork_some h with ⟨h17, h⟩ | ⟨h17, h⟩
    · obtain ⟨u18, h19, h⟩ := andThen_some h
      rcases fork_some h with ⟨h20, h⟩ | ⟨h20, h⟩
      · obtain ⟨h21, h⟩ := need_some h
        obtain ⟨u22, h23, h⟩ := andThen_some h
        rcases fork_some h with ⟨h24, h⟩ | ⟨h24, h⟩
        · obtain ⟨u25, h26, h⟩ := andThen_some h
          injection h with h; subst h
          exact env.fun func19 can19 (its := [.call [none] [] [0] true (affiantkeep_Ringed_R ([(1 : Int), (0 : Int)] : List (Int)) u1) (affiantkeep_Ringed_O ([(1 : Int), (0 : Int)] : List (Int)) u1), .pre [[], [], [0, 1], [], [0, 1, 2], [0, 1, 2, 3, 4], [0, 1, 2, 3, 4, 5], [0, 1, 2, 3, 4, 5, 6]], .asis, .call [none] [] [] true (affiantkeep_Seed_R (0 : Int) u3) (affiantkeep_Seed_O (0 : Int) u3), .asis, .call [none, none, none] [] [] false (seal_Sign_R ((2 : Int), (0 : Int), (List.replicate 32 (0 : UInt8)), (List.replicate 32 (0 : UInt8)), (List.replicate 32 (0 : UInt8)), (List.replicate 32 (0 : UInt8)), ()) ([118, 97] : List UInt8) u3 u5) (seal_Sign_O ((2 : Int), (0 : Int), (List.replicate 32 (0 : UInt8)), (List.replicate 32 (0 : UInt8)), (List.replicate 32 (0 : UInt8)), (List.replicate 32 (0 : UInt8)), ()) ([118, 97] : List UInt8) u3 u5), .asis, .call [none] [] [] true (affiantkeep_Seed_R (1 : Int) u7) (affiantkeep_Seed_O (1 : Int) u7), .asis, .call [none, none, none] [] [] false (seal_Sign_R ((2 : Int), (0 : Int), (List.replicate 32 (0 : UInt8)), (List.replicate 32 (0 : UInt8)), (List.replicate 32 (0 : UInt8)), (List.replicate 32 (0 : UInt8)), ()) ([118, 98] : List UInt8) u7 u9) (seal_Sign_O ((2 : Int), (0 : Int), (List.replicate 32 (0 : UInt8)), (List.replicate 32 (0 : UInt8)), (List.replicate 32 (0 : UInt8)), (List.replicate 32 (0 : UInt8)), ()) ([118, 98] : List UInt8) u7 u9), .pre [[], [], [], [2], [0, 1, 2, 3], [0, 1, 2, 3, 4], [0, 1, 2, 3, 4, 5], [0, 1, 2, 3, 4, 5, 6], [0, 1, 2, 3, 4, 5, 6], [0, 1, 2, 3, 4, 5, 6], [0, 1, 2, 3, 4, 5, 6, 7, 8, 9], [0, 1, 2, 3, 4, 5, 6, 7, 8, 9, 10], [0, 1, 2, 3, 4, 5, 6, 7, 8, 9, 10, 11], [0, 1, 2, 3, 4, 5, 6, 7, 8, 9, 10, 11, 12], [0, 1, 2, 3, 4, 5, 6, 7, 8, 9, 10, 11, 12], [0, 1, 2, 3, 4, 5, 6, 7, 8, 9, 10, 11, 12], [0, 1, 2, 3, 4, 5, 6, 7, 8, 9, 10, 11, 12, 15], [0, 1, 2, 3, 4, 5, 6, 7, 8, 9, 10, 11, 12, 13, 14, 15, 16], [0, 1, 2, 3, 4, 5, 6, 7, 8, 9, 10, 11, 12, 13, 14, 15, 16, 17], [0, 1, 2, 3, 4, 5, 6, 7, 8, 9, 10, 11, 12, 13, 14, 15, 16, 17, 18], [0, 1, 2, 3, 4, 5, 6, 7, 8, 9, 10, 11, 12, 13, 14, 15, 16, 17, 18, 19], [0, 1, 2, 3, 4, 5, 6, 7, 8, 9, 10, 11, 12, 13, 14, 15, 16, 17, 18, 19], [0, 1, 2, 3, 4, 5, 6, 7, 8, 9, 10, 11, 12, 13, 14, 15, 16, 17, 18, 19], [0, 1, 2, 3, 4, 5, 6, 7, 8, 9, 10, 11, 12, 13, 14, 15, 16, 17, 18, 19, 22], [0, 1, 2, 3, 4, 5, 6, 7, 8, 9, 10, 11, 12, 13, 14, 15, 16, 17, 18, 19, 20, 21, 22, 23], [0, 1, 2, 3, 4, 5, 6, 7, 8, 9, 10, 11, 12, 13, 14, 15, 16, 17, 18, 19, 20, 21, 22, 23, 24], [0, 1, 2, 3, 4, 5, 6, 7, 8, 9, 10, 11, 12, 13, 14, 15, 16, 17, 18, 19, 20, 21, 22, 23, 24, 25], [0, 1, 2, 3, 4, 5, 6, 7, 8, 9, 10, 11, 12, 13, 14, 15, 16, 17, 18, 19, 20, 21, 22, 23, 24, 25, 26], [0, 1, 2, 3, 4, 5, 6, 7, 8, 9, 10, 11, 12, 13, 14, 15, 16, 17, 18, 19, 20, 21, 22, 23, 24, 25, 26, 27], [0, 1, 2, 3, 4, 5, 6, 7, 8, 9, 10, 11, 12, 13, 14, 15, 16, 17, 18, 19, 20, 21, 22, 23, 24, 25, 26, 27, 28], [0, 1, 2, 3, 4, 5, 6, 7, 8, 9, 10, 11, 12, 13, 14, 15, 16, 17, 18, 19, 20, 21, 22, 23, 24, 25, 26, 27, 28, 29], [0, 1, 2, 3, 4, 5, 6, 7, 8, 9, 10, 11, 12, 13, 14, 15, 16, 17, 18, 19, 20, 21, 22, 23, 24, 25, 26, 27, 28, 29, 30], [0, 1, 2, 3, 4, 5, 6, 7, 8, 9, 10, 11, 12, 13, 14, 15, 16, 17, 18, 19, 20, 21, 22, 23, 24, 25, 26, 27, 28, 29, 30, 31]], .br false, .asis, .call [none, none, none] [] [0] true (seal_Enough_R u1 ((2 : Int), (0 : Int), (List.replicate 32 (0 : UInt8)), (List.replicate 32 (0 : UInt8)), (List.replicate 32 (0 : UInt8)), (List.replicate 32 (0 : UInt8)), ()) (cutL ([u5, u9] : List (List UInt8 × (Int × (List (List UInt8) × List (List UInt8) × Unit) × List (List UInt8) × Unit) × Unit)) (0 : Int) (1 : Int)) u12) (seal_Enough_O u1 ((2 : Int), (0 : Int), (List.replicate 32 (0 : UInt8)), (List.replicate 32 (0 : UInt8)), (List.replicate 32 (0 : UInt8)), (List.replicate 32 (0 : UInt8)), ()) (cutL ([u5, u9] : List (List UInt8 × (Int × (List (List UInt8) × List (List UInt8) × Unit) × List (List UInt8) × Unit) × Unit)) (0 : Int) (1 : Int)) u12), .br true, .br true, .br true, .br true, .asis, .call [none, none, none] [] [0, 1] true (seal_Enough_R u1 ((2 : Int), (0 : Int), (List.replicate 32 (0 : UInt8)), (List.replicate 32 (0 : UInt8)), (List.replicate 32 (0 : UInt8)), (List.replicate 32 (0 : UInt8)), ()) ([u5, u9] : List (List UInt8 × (Int × (List (List UInt8) × List (List UInt8) × Unit) × List (List UInt8) × Unit) × Unit)) u15) (seal_Enough_O u1 ((2 : Int), (0 : Int), (List.replicate 32 (0 : UInt8)), (List.replicate 32 (0 : UInt8)), (List.replicate 32 (0 : UInt8)), (List.replicate 32 (0 : UInt8)), ()) ([u5, u9] : List (List UInt8 × (Int × (List (List UInt8) × List (List UInt8) × Unit) × List (List UInt8) × Unit) × Unit)) u15), .br true, .br true, .br true, .br true, .br true, .br false, .br true, .asis, .call [none, none, none] [] [0] true (seal_Some_R u1 ((2 : Int), (0 : Int), (List.replicate 32 (0 : UInt8)), (List.replicate 32 (0 : UInt8)), (List.replicate 32 (0 : UInt8)), (List.replicate 32 (0 : UInt8)), ()) (cutL ([u5, u9] : List (List UInt8 × (Int × (List (List UInt8) × List (List UInt8) × Unit) × List (List UInt8) × Unit) × Unit)) (0 : Int) (1 : Int)) u18) (seal_Some_O u1 ((2 : Int), (0 : Int), (List.replicate 32 (0 : UInt8)), (List.replicate 32 (0 : UInt8)), (List.replicate 32 (0 : UInt8)), (List.replicate 32 (0 : UInt8)), ()) (cutL ([u5, u9] : List (List UInt8 × (Int × (List (List UInt8) × List (List UInt8) × Unit) × List (List UInt8) × Unit) × Unit)) (0 : Int) (1 : Int)) u18), .br true, .br true, .br true, .br true, .br true, .br false, .br true, .asis, .call [none, none, none] [] [0] true (seal_Some_R u1 ((2 : Int), (0 : Int), (List.replicate 32 (0 : UInt8)), (List.replicate 32 (0 : UInt8)), (List.replicate 32 (0 : UInt8)), (List.replicate 32 (0 : UInt8)), ()) (cutL ([u5, u9] : List (List UInt8 × (Int × (List (List UInt8) × List (List UInt8) × Unit) × List (List UInt8) × Unit) × Unit)) (1 : Int) (List.length ([u5, u9] : List (List UInt8 × (Int × (List (List UInt8) × List (List UInt8) × Unit) × List (List UInt8) × Unit) × Unit)) : Int)) u22) (seal_Some_O u1 ((2 : Int), (0 : Int), (List.replicate 32 (0 : UInt8)), (List.replicate 32 (0 : UInt8)), (List.replicate 32 (0 : UInt8)), (List.replicate 32 (0 : UInt8)), ()) (cutL ([u5, u9] : List (List UInt8 × (Int × (List (List UInt8) × List (List UInt8) × Unit) × List (List UInt8) × Unit) × Unit)) (1 : Int) (List.length ([u5, u9] : List (List UInt8 × (Int × (List (List UInt8) × List (List UInt8) × Unit) × List (List UInt8) × Unit) × Unit)) : Int)) u22), .br true, .br true, .br true, .br true, .asis, .call [none] [] [0] true (seal_Cost_R ([u5, u9] : List (List UInt8 × (Int × (List (List UInt8) × List (List UInt8) × Unit) × List (List UInt8) × Unit) × Unit)) u25) (seal_Cost_O ([u5, u9] : List (List UInt8 × (Int × (List (List UInt8) × List (List UInt8) × Unit) × List (List UInt8) × Unit) × Unit)) u25), .br true, .br true]) (pos := [.sel []]) (.c (affiantkeep_Ringed_ok ([(1 : Int), (0 : Int)] : List (Int)) u1 h2) (.c (rfl : ([] : List AObj) = []) (.c (affiantkeep_Seed_ok (0 : Int) u3 h4) (.c (rfl : ([] : List AObj) = []) (.c (seal_Sign_ok ((2 : Int), (0 : Int), (List.replicate 32 (0 : UInt8)), (List.replicate 32 (0 : UInt8)), (List.replicate 32 (0 : UInt8)), (List.replicate 32 (0 : UInt8)), ()) ([118, 97] : List UInt8) u3 u5 h6) (.c (rfl : ([] : List AObj) = []) (.c (affiantkeep_Seed_ok (1 : Int) u7 h8) (.c (rfl : ([] : List AObj) = []) (.c (seal_Sign_ok ((2 : Int), (0 : Int), (List.replicate 32 (0 : UInt8)), (List.replicate 32 (0 : UInt8)), (List.replicate 32 (0 : UInt8)), (List.replicate 32 (0 : UInt8)), ()) ([118, 98] : List UInt8) u7 u9 h10) (.c h11 (.c (rfl : ([.row (.fld .str (.fld (.int .i64) (.fld (.arr 32 (.int .u8)) .unit))) u1 true] : List AObj) = [.row (.fld .str (.fld (.int .i64) (.fld (.arr 32 (.int .u8)) .unit))) u1 true]) (.c (seal_Enough_ok u1 ((2 : Int), (0 : Int), (List.replicate 32 (0 : UInt8)), (List.replicate 32 (0 : UInt8)), (List.replicate 32 (0 : UInt8)), (List.replicate 32 (0 : UInt8)), ()) (cutL ([u5, u9] : List (List UInt8 × (Int × (List (List UInt8) × List (List UInt8) × Unit) × List (List UInt8) × Unit) × Unit)) (0 : Int) (1 : Int)) u12 h13) (.c h14 (.c h14 (.c h14 (.c h14 (.c (rfl : ([.row (.fld .str (.fld (.int .i64) (.fld (.arr 32 (.int .u8)) .unit))) u1 true, .row (.fld .str (.fld (.fld (.int .i64) (.fld (.fld (.slice (.arr 32 (.int .u8))) (.fld (.slice (.arr 32 (.int .u8))) .unit)) (.fld (.slice (.arr 32 (.int .u8))) .unit))) .unit)) ([u5, u9] : List (List UInt8 × (Int × (List (List UInt8) × List (List UInt8) × Unit) × List (List UInt8) × Unit) × Unit)) false] : List AObj) = [.row (.fld .str (.fld (.int .i64) (.fld (.arr 32 (.int .u8)) .unit))) u1 true, .row (.fld .str (.fld (.fld (.int .i64) (.fld (.fld (.slice (.arr 32 (.int .u8))) (.fld (.slice (.arr 32 (.int .u8))) .unit)) (.fld (.slice (.arr 32 (.int .u8))) .unit))) .unit)) ([u5, u9] : List (List UInt8 × (Int × (List (List UInt8) × List (List UInt8) × Unit) × List (List UInt8) × Unit) × Unit)) false]) (.c (seal_Enough_ok u1 ((2 : Int), (0 : Int), (List.replicate 32 (0 : UInt8)), (List.replicate 32 (0 : UInt8)), (List.replicate 32 (0 : UInt8)), (List.replicate 32 (0 : UInt8)), ()) ([u5, u9] : List (List UInt8 × (Int × (List (List UInt8) × List (List UInt8) × Unit) × List (List UInt8) × Unit) × Unit)) u15 h16) (.c h14 (.c h17 (.c h17 (.c h17 (.c h17 (.c h11 (.c h17 (.c (rfl : ([.row (.fld .str (.fld (.int .i64) (.fld (.arr 32 (.int .u8)) .unit))) u1 true] : List AObj) = [.row (.fld .str (.fld (.int .i64) (.fld (.arr 32 (.int .u8)) .unit))) u1 true]) (.c (seal_Some_ok u1 ((2 : Int), (0 : Int), (List.replicate 32 (0 : UInt8)), (List.replicate 32 (0 : UInt8)), (List.replicate 32 (0 : UInt8)), (List.replicate 32 (0 : UInt8)), ()) (cutL ([u5, u9] : List (List UInt8 × (Int × (List (List UInt8) × List (List UInt8) × Unit) × List (List UInt8) × Unit) × Unit)) (0 : Int) (1 : Int)) u18 h19) (.c h17 (.c h20 (.c h20 (.c h20 (.c h20 (.c h21 (.c h20 (.c (rfl : ([.row (.fld .str (.fld (.int .i64) (.fld (.arr 32 (.int .u8)) .unit))) u1 true] : List AObj) = [.row (.fld .str (.fld (.int .i64) (.fld (.arr 32 (.int .u8)) .unit))) u1 true]) (.c (seal_Some_ok u1 ((2 : Int), (0 : Int), (List.replicate 32 (0 : UInt8)), (List.replicate 32 (0 : UInt8)), (List.replicate 32 (0 : UInt8)), (List.replicate 32 (0 : UInt8)), ()) (cutL ([u5, u9] : List (List UInt8 × (Int × (List (List UInt8) × List (List UInt8) × Unit) × List (List UInt8) × Unit) × Unit)) (1 : Int) (List.length ([u5, u9] : List (List UInt8 × (Int × (List (List UInt8) × List (List UInt8) × Unit) × List (List UInt8) × Unit) × Unit)) : Int)) u22 h23) (.c h20 (.c h20 (.c h24 (.c h24 (.c (rfl : ([.row (.fld .str (.fld (.fld (.int .i64) (.fld (.fld (.slice (.arr 32 (.int .u8))) (.fld (.slice (.arr 32 (.int .u8))) .unit)) (.fld (.slice (.arr 32 (.int .u8))) .unit))) .unit)) ([u5, u9] : List (List UInt8 × (Int × (List (List UInt8) × List (List UInt8) × Unit) × List (List UInt8) × Unit) × Unit)) false] : List AObj) = [.row (.fld .str (.fld (.fld (.int .i64) (.fld (.fld (.slice (.arr 32 (.int .u8))) (.fld (.slice (.arr 32 (.int .u8))) .unit)) (.fld (.slice (.arr 32 (.int .u8))) .unit))) .unit)) ([u5, u9] : List (List UInt8 × (Int × (List (List UInt8) × List (List UInt8) × Unit) × List (List UInt8) × Unit) × Unit)) false]) (.c (seal_Cost_ok ([u5, u9] : List (List UInt8 × (Int × (List (List UInt8) × List (List UInt8) × Unit) × List (List UInt8) × Unit) × Unit)) u25 h26) (.c h24 (.c h24 .n)))))))))))))))))))))))))))))))))))))))))))) (by kernel_rfl)
        · cases h
      · cases h
    · cases h
  · cases h
end
end Go.Proofs.Ytcfaippbnmmelaa.sealForms
