/-
  The functions, walked through: each call comes to what the pure text says.
-/
import Derived.Test.YtgjebofbjdfdhaaProg
import Derived.Test.YtgjebofbjdfdhaaAxC
import Derived.Test.YtgjebofbjdfdhaaCRingSeedsP
namespace Go.Proofs.Ytgjebofbjdfdhaa.ringSeeds
open Go.Ax Go.Ax.V Go.Proofs.Try
set_option maxRecDepth 100000
set_option linter.unusedVariables false
noncomputable section
def T : Tab := [(3, (.int .i64), 8), (4, .bool, 1), (5, (.int .u8), 1), (9, .str, 16), (23, (.arr 32 (.int .u8)), 32), (24, (.slice (.arr 32 (.int .u8))), 24), (26, (.fld (.slice (.arr 32 (.int .u8))) (.fld (.slice (.arr 32 (.int .u8))) .unit)), 48), (28, (.fld (.int .i64) (.fld (.fld (.slice (.arr 32 (.int .u8))) (.fld (.slice (.arr 32 (.int .u8))) .unit)) (.fld (.slice (.arr 32 (.int .u8))) .unit))), 80), (30, (.slice (.int .u8)), 24), (39, (.int .u64), 8), (44, (.slice (.slice (.int .u8))), 24), (49, (.slice (.fld .str (.fld (.int .i64) (.fld (.arr 32 (.int .u8)) .unit)))), 24), (51, (.slice (.int .i64)), 24), (53, (.fld (.int .i64) (.fld (.int .i64) (.fld (.arr 32 (.int .u8)) (.fld (.arr 32 (.int .u8)) (.fld (.arr 32 (.int .u8)) (.fld (.arr 32 (.int .u8)) .unit)))))), 144), (55, (.fld .str (.fld (.fld (.int .i64) (.fld (.fld (.slice (.arr 32 (.int .u8))) (.fld (.slice (.arr 32 (.int .u8))) .unit)) (.fld (.slice (.arr 32 (.int .u8))) .unit))) .unit)), 96), (58, (.slice (.fld .str (.fld (.fld (.int .i64) (.fld (.fld (.slice (.arr 32 (.int .u8))) (.fld (.slice (.arr 32 (.int .u8))) .unit)) (.fld (.slice (.arr 32 (.int .u8))) .unit))) .unit))), 24), (62, (.fld (.int .i64) (.fld (.int .i64) (.fld (.int .i64) (.fld (.int .i64) (.fld (.int .i64) (.fld (.int .i64) .unit)))))), 48), (64, (.slice .str), 24), (69, .cplx, 16), (72, (.fld .str (.fld (.int .i64) (.fld (.arr 32 (.int .u8)) .unit))), 56), (73, .flt, 8), (76, (.slice .bool), 24), (102, (.slice (.int .u32)), 24), (104, (.int .u32), 4), (105, (.arr 8 (.int .u32)), 32), (106, (.int .u64), 8), (111, (.arr 64 (.int .u32)), 256)]
theorem tab : TabOK prog T := tab_of_b (by kernel_rfl)
theorem bytes : bytesB T = true := by kernel_rfl
theorem mix : prog.follows .mixedOrders = true := by kernel_rfl
theorem eqs : eqTypes prog T [23] = true := by kernel_rfl
theorem env : Env prog T [23] := ⟨tab, eqs, mix⟩
theorem can87 : Callable prog 87 := ⟨_, func87, by kernel_rfl, by kernel_rfl⟩
def sha_first_R  (u : List UInt32) : Slot := (.v (.arr 8 (.int .u32)) u)
def sha_first_O  (u : List UInt32) : List AObj := []
theorem sha_first_ok  (u : List UInt32) (h : sha_first  = some u) : CallC prog 87 [] [] (sha_first_R u) (sha_first_O u) := by
  unfold sha_first at h
  injection h with h; subst h
  exact env.fun func87 can87 (its := []) (pos := [.sel []]) .n (by kernel_rfl)
theorem can88 : Callable prog 88 := ⟨_, func88, by kernel_rfl, by kernel_rfl⟩
def sha_added_R  (u : List UInt32) : Slot := (.v (.arr 64 (.int .u32)) u)
def sha_added_O  (u : List UInt32) : List AObj := []
theorem sha_added_ok  (u : List UInt32) (h : sha_added  = some u) : CallC prog 88 [] [] (sha_added_R u) (sha_added_O u) := by
  unfold sha_added at h
  injection h with h; subst h
  exact env.fun func88 can88 (its := []) (pos := [.sel []]) .n (by kernel_rfl)
theorem can95 : Callable prog 95 := ⟨_, func95, by kernel_rfl, by kernel_rfl⟩
def sha_Blocks_R (a0 : Int) (u : Int) : Slot := (.v (.int .i64) u)
def sha_Blocks_O (a0 : Int) (u : Int) : List AObj := []
theorem sha_Blocks_ok (a0 : Int) (u : Int) (h : sha_Blocks a0 = some u) : CallC prog 95 [(.v (.int .i64) a0)] [] (sha_Blocks_R a0 u) (sha_Blocks_O a0 u) := by
  unfold sha_Blocks at h
  injection h with h; subst h
  exact env.fun func95 can95 (its := []) (pos := [.sel []]) (.c (of_decide_eq_true (p := ((64 : Int) ≠ 0)) (by kernel_rfl)) .n) (by kernel_rfl)
theorem can89 : Callable prog 89 := ⟨_, func89, by kernel_rfl, by kernel_rfl⟩
def sha_padded_1_in (x0 : UInt64) (x1 : Int) (x2 : List UInt8) : St := ⟨[(3, (.own 0 [])), (4, (.v (.int .u64) x0)), (22, (.v (.int .i64) x1))], [.row (.int .u8) x2 true], 39, 0⟩
def sha_padded_1_ex (o : List UInt8) : Exit := (.exit 0)
def sha_padded_1_st (o : List UInt8) : St := ⟨[(3, (.own 0 []))], [.row (.int .u8) o true], 39, 0⟩
theorem sha_padded_1_body (x0 : UInt64) (x1 : Int) (x2 : List UInt8) : ∀ r, sha_padded_1_step x0 x1 x2 = some r → (match r with | .inl s => CodeOK prog (codeAt (bodyOf f89) [1, 1, 1, 1, 1, 0, 1, 0, 0]) (sha_padded_1_in x0 x1 x2) .normal (sha_padded_1_in x0 s.1 s.2) | .inr o => sha_padded_1_ex o ≠ .normal ∧ CodeOK prog (codeAt (bodyOf f89) [1, 1, 1, 1, 1, 0, 1, 0, 0]) (sha_padded_1_in x0 x1 x2) (sha_padded_1_ex o) (sha_padded_1_st o)) := by
  intro r h
  unfold sha_padded_1_step at h
  rcases fork_some h with ⟨h6, h⟩ | ⟨h6, h⟩
  · obtain ⟨h7, h⟩ := need_some h
    obtain ⟨h8, h⟩ := need_some h
    injection h with h; subst h
    exact env.code (its := [.br true, .dive, .sel [3, 4, 22] [0]]) (.c h6 (.c h7 (.c h8 .n))) (by kernel_rfl)
  · injection h with h; subst h
    exact ⟨by intro e; simp [sha_padded_1_ex] at e, env.code (its := [.br false, .sel [3] [0]]) (.c h6 .n) (by kernel_rfl)⟩
theorem sha_padded_1_ok (x0 : UInt64) (x1 : Int) (x2 : List UInt8) (o : List UInt8) (h : sha_padded_1 x0 x1 x2 = some o) : CodeOK prog (codeAt (bodyOf f89) [1, 1, 1, 1, 1, 0, 1, 0]) (sha_padded_1_in x0 x1 x2) (sha_padded_1_ex o) (sha_padded_1_st o) :=
  LoopOK.of_step (st := fun s => sha_padded_1_in x0 s.1 s.2) (ex := sha_padded_1_ex) (stO := sha_padded_1_st) (fun s s2 hs => sha_padded_1_body x0 s.1 s.2 (.inl s2) hs) (fun s r hs => sha_padded_1_body x0 s.1 s.2 (.inr r) hs) _ o h
def sha_padded_R (a0 : List UInt8) (u : List UInt8) : Slot := (.own 0 [])
def sha_padded_O (a0 : List UInt8) (u : List UInt8) : List AObj := [.row (.int .u8) u true]
theorem sha_padded_ok (a0 : List UInt8) (u : List UInt8) (h : sha_padded a0 = some u) : CallC prog 89 [(.v (.slice (.int .u8)) a0)] [] (sha_padded_R a0 u) (sha_padded_O a0 u) := by
  unfold sha_padded at h
  obtain ⟨u1, h2, h⟩ := andThen_some h
  obtain ⟨h3, h⟩ := need_some h
  obtain ⟨h4, h⟩ := need_some h
  obtain ⟨o9, h10, h⟩ := andThen_some h
  injection h with h; subst h
  exact env.fun func89 can89 (its := [.call [none] [] [] true (sha_Blocks_R (List.length a0 : Int) u1) (sha_Blocks_O (List.length a0 : Int) u1), .dive, .sel [3, 4, 22] [0], .part (sha_padded_1_ex o9) (sha_padded_1_st o9)]) (pos := [.sel [0]]) (.c (sha_Blocks_ok (List.length a0 : Int) u1 h2) (.c h3 (.c h4 (.c (sha_padded_1_ok ((UInt64.ofNat (Int.toNat ((List.length a0 : Int) % 18446744073709551616))) * (8 : UInt64)) (0 : Int) (List.set (List.take (List.length (List.replicate (Int.toNat (w64 (u1 * (64 : Int)))) (0 : UInt8))) a0 ++ List.drop (List.length a0) (List.replicate (Int.toNat (w64 (u1 * (64 : Int)))) (0 : UInt8))) (Int.toNat (List.length a0 : Int)) (128 : UInt8)) o9 h10) .n)))) (by kernel_rfl)
theorem can101 : Callable prog 101 := ⟨_, func101, by kernel_rfl, by kernel_rfl⟩
def bits_RotateLeft32_R (a0 : UInt32) (a1 : Int) (u : UInt32) : Slot := (.v (.int .u32) u)
def bits_RotateLeft32_O (a0 : UInt32) (a1 : Int) (u : UInt32) : List AObj := []
theorem bits_RotateLeft32_ok (a0 : UInt32) (a1 : Int) (u : UInt32) (h : bits_RotateLeft32 a0 a1 = some u) : CallC prog 101 [(.v (.int .u32) a0), (.v (.int .i64) a1)] [] (bits_RotateLeft32_R a0 a1 u) (bits_RotateLeft32_O a0 a1 u) := by
  unfold bits_RotateLeft32 at h
  obtain ⟨h1, h⟩ := need_some h
  obtain ⟨h2, h⟩ := need_some h
  injection h with h; subst h
  exact env.fun func101 can101 (its := []) (pos := [.sel []]) (.c h1 (.c h2 .n)) (by kernel_rfl)
theorem can97 : Callable prog 97 := ⟨_, func97, by kernel_rfl, by kernel_rfl⟩
def sha_right_R (a0 : UInt32) (a1 : Int) (u : UInt32) : Slot := (.v (.int .u32) u)
def sha_right_O (a0 : UInt32) (a1 : Int) (u : UInt32) : List AObj := []
theorem sha_right_ok (a0 : UInt32) (a1 : Int) (u : UInt32) (h : sha_right a0 a1 = some u) : CallC prog 97 [(.v (.int .u32) a0), (.v (.int .i64) a1)] [] (sha_right_R a0 a1 u) (sha_right_O a0 a1 u) := by
  unfold sha_right at h
  obtain ⟨u1, h2, h⟩ := andThen_some h
  injection h with h; subst h
  exact env.fun func97 can97 (its := [.call [none, none] [] [] true (bits_RotateLeft32_R a0 (w64 (0 - a1)) u1) (bits_RotateLeft32_O a0 (w64 (0 - a1)) u1)]) (pos := [.sel []]) (.c (bits_RotateLeft32_ok a0 (w64 (0 - a1)) u1 h2) .n) (by kernel_rfl)
theorem can96 : Callable prog 96 := ⟨_, func96, by kernel_rfl, by kernel_rfl⟩
def sha_spread_1_in (x0 : List UInt8) (x1 : Int) (x2 : List UInt32) (x3 : List UInt32) : St := ⟨[(0, (.v (.slice (.int .u8)) x0)), (2, (.ptr 0 [])), (3, (.ptr 1 [])), (8, (.v (.int .i64) x1))], [.box (.arr 64 (.int .u32)) (.v (.arr 64 (.int .u32)) x2) true, .box (.arr 64 (.int .u32)) (.v (.arr 64 (.int .u32)) x3) true], 89, 0⟩
def sha_spread_1_ex (o : List UInt32 × List UInt32) : Exit := (.exit 0)
def sha_spread_1_st (o : List UInt32 × List UInt32) : St := ⟨[(2, (.ptr 0 [])), (3, (.ptr 1 []))], [.box (.arr 64 (.int .u32)) (.v (.arr 64 (.int .u32)) o.1) true, .box (.arr 64 (.int .u32)) (.v (.arr 64 (.int .u32)) o.2) true], 89, 0⟩
theorem sha_spread_1_body (x0 : List UInt8) (x1 : Int) (x2 : List UInt32) (x3 : List UInt32) : ∀ r, sha_spread_1_step x0 x1 x2 x3 = some r → (match r with | .inl s => CodeOK prog (codeAt (bodyOf f96) [1, 1, 0, 1, 0, 0]) (sha_spread_1_in x0 x1 x2 x3) .normal (sha_spread_1_in x0 s.1 x2 s.2) | .inr o => sha_spread_1_ex o ≠ .normal ∧ CodeOK prog (codeAt (bodyOf f96) [1, 1, 0, 1, 0, 0]) (sha_spread_1_in x0 x1 x2 x3) (sha_spread_1_ex o) (sha_spread_1_st o)) := by
  intro r h
  unfold sha_spread_1_step at h
  rcases fork_some h with ⟨h2, h⟩ | ⟨h2, h⟩
  · obtain ⟨h3, h⟩ := need_some h
    obtain ⟨h4, h⟩ := need_some h
    obtain ⟨h5, h⟩ := need_some h
    obtain ⟨h6, h⟩ := need_some h
    obtain ⟨h7, h⟩ := need_some h
    injection h with h; subst h
    exact env.code (its := [.br true, .pre [[], [], [], [2], [1, 2, 3], [1, 2, 3, 4], [1, 2, 3, 4, 5], [1, 2, 3, 4, 5, 6], [], [], [9], [9, 10], [8, 9, 10, 11], [8, 9, 10, 11, 12], [8, 9, 10, 11, 12, 13], [8, 9, 10, 11, 12, 13, 14], [1, 2, 3, 4, 5, 6, 7, 8, 9, 10, 11, 12, 13, 14, 15], [], [], [18], [18, 19], [17, 18, 19, 20], [17, 18, 19, 20, 21], [17, 18, 19, 20, 21, 22], [17, 18, 19, 20, 21, 22, 23], [1, 2, 3, 4, 5, 6, 7, 8, 9, 10, 11, 12, 13, 14, 15, 16, 17, 18, 19, 20, 21, 22, 23, 24], [], [], [27], [27, 28], [26, 27, 28, 29], [26, 27, 28, 29, 30], [26, 27, 28, 29, 30, 31], [1, 2, 3, 4, 5, 6, 7, 8, 9, 10, 11, 12, 13, 14, 15, 16, 17, 18, 19, 20, 21, 22, 23, 24, 25, 26, 27, 28, 29, 30, 31, 32], [0, 1, 2, 3, 4, 5, 6, 7, 8, 9, 10, 11, 12, 13, 14, 15, 16, 17, 18, 19, 20, 21, 22, 23, 24, 25, 26, 27, 28, 29, 30, 31, 32, 33], [0, 1, 2, 3, 4, 5, 6, 7, 8, 9, 10, 11, 12, 13, 14, 15, 16, 17, 18, 19, 20, 21, 22, 23, 24, 25, 26, 27, 28, 29, 30, 31, 32, 33, 34]], .sel [0, 2, 3, 8] [0, 1]]) (.c h2 (.c h3 (.c (of_decide_eq_true (p := (0 ≤ (24 : Int))) (by kernel_rfl)) (.c h4 (.c (of_decide_eq_true (p := (0 ≤ (16 : Int))) (by kernel_rfl)) (.c h5 (.c (of_decide_eq_true (p := (0 ≤ (8 : Int))) (by kernel_rfl)) (.c h6 (.c h7 .n))))))))) (by kernel_rfl)
  · injection h with h; subst h
    exact ⟨by intro e; simp [sha_spread_1_ex] at e, env.code (its := [.br false, .sel [2, 3] [0, 1]]) (.c h2 .n) (by kernel_rfl)⟩
theorem sha_spread_1_ok (x0 : List UInt8) (x1 : Int) (x2 : List UInt32) (x3 : List UInt32) (o : List UInt32 × List UInt32) (h : sha_spread_1 x0 x1 x2 x3 = some o) : CodeOK prog (codeAt (bodyOf f96) [1, 1, 0, 1, 0]) (sha_spread_1_in x0 x1 x2 x3) (sha_spread_1_ex o) (sha_spread_1_st o) :=
  LoopOK.of_step (st := fun s => sha_spread_1_in x0 s.1 x2 s.2) (ex := sha_spread_1_ex) (stO := sha_spread_1_st) (fun s s2 hs => sha_spread_1_body x0 s.1 x2 s.2 (.inl s2) hs) (fun s r hs => sha_spread_1_body x0 s.1 x2 s.2 (.inr r) hs) _ o h
def sha_spread_2_in (x0 : Int) (x1 : List UInt32) (x2 : List UInt32) : St := ⟨[(2, (.ptr 0 [])), (3, (.ptr 1 [])), (5, (.v (.int .i64) x0))], [.box (.arr 64 (.int .u32)) (.v (.arr 64 (.int .u32)) x1) true, .box (.arr 64 (.int .u32)) (.v (.arr 64 (.int .u32)) x2) true], 89, 0⟩
def sha_spread_2_ex (o : List UInt32 × List UInt32) : Exit := (.exit 2)
def sha_spread_2_st (o : List UInt32 × List UInt32) : St := ⟨[(2, (.ptr 0 [])), (3, (.ptr 1 []))], [.box (.arr 64 (.int .u32)) (.v (.arr 64 (.int .u32)) o.1) true, .box (.arr 64 (.int .u32)) (.v (.arr 64 (.int .u32)) o.2) true], 89, 0⟩
theorem sha_spread_2_body (x0 : Int) (x1 : List UInt32) (x2 : List UInt32) : ∀ r, sha_spread_2_step x0 x1 x2 = some r → (match r with | .inl s => CodeOK prog (codeAt (bodyOf f96) [1, 1, 1, 0, 1, 0, 0]) (sha_spread_2_in x0 x1 x2) .normal (sha_spread_2_in s.1 x1 s.2) | .inr o => sha_spread_2_ex o ≠ .normal ∧ CodeOK prog (codeAt (bodyOf f96) [1, 1, 1, 0, 1, 0, 0]) (sha_spread_2_in x0 x1 x2) (sha_spread_2_ex o) (sha_spread_2_st o)) := by
  intro r h
  unfold sha_spread_2_step at h
  rcases fork_some h with ⟨h11, h⟩ | ⟨h11, h⟩
  · obtain ⟨h12, h⟩ := need_some h
    obtain ⟨h13, h⟩ := need_some h
    obtain ⟨h14, h⟩ := need_some h
    obtain ⟨u15, h16, h⟩ := andThen_some h
    obtain ⟨u17, h18, h⟩ := andThen_some h
    obtain ⟨h19, h⟩ := need_some h
    obtain ⟨u20, h21, h⟩ := andThen_some h
    obtain ⟨u22, h23, h⟩ := andThen_some h
    obtain ⟨h24, h⟩ := need_some h
    injection h with h; subst h
    exact env.code (its := [.br true, .pre [[], [0], [0, 1], [0, 1, 2], [], [4], [4, 5], [4, 5, 6], [0, 1, 2, 3], [0, 1, 2, 3, 4, 5, 6, 7, 8]], .pre [[], [], [1], [1, 2], [1, 2, 3], [], [5], [], [5, 6, 7], [5, 6, 7, 8], [], [10], [5, 6, 7, 8, 9, 10, 11], [1, 2, 3, 4, 5, 6, 7, 8, 9, 10, 11, 12], [], [14], [14, 15], [14, 15, 16], [1, 2, 3, 4, 5, 6, 7, 8, 9, 10, 11, 12, 13, 14, 15, 16, 17], [], [5, 6, 7, 8, 19], [], [5, 6, 7, 8, 19, 20, 21], [5, 6, 7, 8, 19, 20, 21, 22], [], [24], [5, 6, 7, 8, 19, 20, 21, 22, 23, 24, 25], [1, 2, 3, 4, 5, 6, 7, 8, 9, 10, 11, 12, 13, 14, 15, 16, 17, 18, 19, 20, 21, 22, 23, 24, 25, 26], [0, 1, 2, 3, 4, 5, 6, 7, 8, 9, 10, 11, 12, 13, 14, 15, 16, 17, 18, 19, 20, 21, 22, 23, 24, 25, 26, 27], [0, 1, 2, 3, 4, 5, 6, 7, 8, 9, 10, 11, 12, 13, 14, 15, 16, 17, 18, 19, 20, 21, 22, 23, 24, 25, 26, 27, 28]], .call [none, none] [] [] true (sha_right_R (List.getD x2 (Int.toNat (w64 (x0 - (15 : Int)))) (0 : UInt32)) (7 : Int) u15) (sha_right_O (List.getD x2 (Int.toNat (w64 (x0 - (15 : Int)))) (0 : UInt32)) (7 : Int) u15), .call [none, none] [] [] true (sha_right_R (List.getD x2 (Int.toNat (w64 (x0 - (15 : Int)))) (0 : UInt32)) (18 : Int) u17) (sha_right_O (List.getD x2 (Int.toNat (w64 (x0 - (15 : Int)))) (0 : UInt32)) (18 : Int) u17), .call [none, none] [] [] true (sha_right_R (List.getD x2 (Int.toNat (w64 (x0 - (2 : Int)))) (0 : UInt32)) (17 : Int) u20) (sha_right_O (List.getD x2 (Int.toNat (w64 (x0 - (2 : Int)))) (0 : UInt32)) (17 : Int) u20), .call [none, none] [] [] true (sha_right_R (List.getD x2 (Int.toNat (w64 (x0 - (2 : Int)))) (0 : UInt32)) (19 : Int) u22) (sha_right_O (List.getD x2 (Int.toNat (w64 (x0 - (2 : Int)))) (0 : UInt32)) (19 : Int) u22), .sel [2, 3, 5] [0, 1]]) (.c h11 (.c h12 (.c h13 (.c h14 (.c (sha_right_ok (List.getD x2 (Int.toNat (w64 (x0 - (15 : Int)))) (0 : UInt32)) (7 : Int) u15 h16) (.c (sha_right_ok (List.getD x2 (Int.toNat (w64 (x0 - (15 : Int)))) (0 : UInt32)) (18 : Int) u17 h18) (.c (of_decide_eq_true (p := (0 ≤ (3 : Int))) (by kernel_rfl)) (.c h19 (.c (sha_right_ok (List.getD x2 (Int.toNat (w64 (x0 - (2 : Int)))) (0 : UInt32)) (17 : Int) u20 h21) (.c (sha_right_ok (List.getD x2 (Int.toNat (w64 (x0 - (2 : Int)))) (0 : UInt32)) (19 : Int) u22 h23) (.c (of_decide_eq_true (p := (0 ≤ (10 : Int))) (by kernel_rfl)) (.c h24 .n)))))))))))) (by kernel_rfl)
  · injection h with h; subst h
    exact ⟨by intro e; simp [sha_spread_2_ex] at e, env.code (its := [.br false, .sel [2, 3] [0, 1]]) (.c h11 .n) (by kernel_rfl)⟩
theorem sha_spread_2_ok (x0 : Int) (x1 : List UInt32) (x2 : List UInt32) (o : List UInt32 × List UInt32) (h : sha_spread_2 x0 x1 x2 = some o) : CodeOK prog (codeAt (bodyOf f96) [1, 1, 1, 0, 1, 0]) (sha_spread_2_in x0 x1 x2) (sha_spread_2_ex o) (sha_spread_2_st o) :=
  LoopOK.of_step (st := fun s => sha_spread_2_in s.1 x1 s.2) (ex := sha_spread_2_ex) (stO := sha_spread_2_st) (fun s s2 hs => sha_spread_2_body s.1 x1 s.2 (.inl s2) hs) (fun s r hs => sha_spread_2_body s.1 x1 s.2 (.inr r) hs) _ o h
def sha_spread_R (a0 : List UInt8) (u : List UInt32) : Slot := (.v (.arr 64 (.int .u32)) u)
def sha_spread_O (a0 : List UInt8) (u : List UInt32) : List AObj := []
theorem sha_spread_ok (a0 : List UInt8) (u : List UInt32) (h : sha_spread a0 = some u) : CallC prog 96 [(.v (.slice (.int .u8)) a0)] [] (sha_spread_R a0 u) (sha_spread_O a0 u) := by
  unfold sha_spread at h
  obtain ⟨o8, h9, h⟩ := andThen_some h
  obtain ⟨o25, h26, h⟩ := andThen_some h
  injection h with h; subst h
  exact env.fun func96 can96 (its := [.dive, .sel [0, 2, 3, 8] [0, 1], .part (sha_spread_1_ex o8) (sha_spread_1_st o8), .dive, .sel [2, 3, 5] [0, 1], .part (sha_spread_2_ex o25) (sha_spread_2_st o25)]) (pos := [.sel []]) (.c (sha_spread_1_ok a0 (0 : Int) (List.replicate 64 (0 : UInt32)) (List.replicate 64 (0 : UInt32)) o8 h9) (.c (sha_spread_2_ok (16 : Int) o8.1 o8.2 o25 h26) .n)) (by kernel_rfl)
theorem can90 : Callable prog 90 := ⟨_, func90, by kernel_rfl, by kernel_rfl⟩
def sha_mix_655a_1_in (x0 : UInt32) (x1 : UInt32) (x2 : UInt32) (x3 : UInt32) (x4 : UInt32) (x5 : UInt32) (x6 : UInt32) (x7 : UInt32) (x8 : Int) (x9 : List UInt32) (x10 : List UInt32) (x11 : List UInt32) : St := ⟨[(0, (.ptr 0 [])), (1, (.ptr 1 [])), (6, (.ptr 2 [])), (7, (.v (.int .u32) x0)), (8, (.v (.int .u32) x1)), (9, (.v (.int .u32) x2)), (10, (.v (.int .u32) x3)), (11, (.v (.int .u32) x4)), (12, (.v (.int .u32) x5)), (13, (.v (.int .u32) x6)), (14, (.v (.int .u32) x7)), (56, (.v (.int .i64) x8))], [.box (.arr 8 (.int .u32)) (.v (.arr 8 (.int .u32)) x9) true, .box (.arr 64 (.int .u32)) (.v (.arr 64 (.int .u32)) x10) true, .box (.arr 64 (.int .u32)) (.v (.arr 64 (.int .u32)) x11) true], 146, 2⟩
def sha_mix_655a_1_ex (o : UInt32 × UInt32 × UInt32 × UInt32 × UInt32 × UInt32 × UInt32 × UInt32 × List UInt32 × List UInt32) : Exit := (.exit 0)
def sha_mix_655a_1_st (o : UInt32 × UInt32 × UInt32 × UInt32 × UInt32 × UInt32 × UInt32 × UInt32 × List UInt32 × List UInt32) : St := ⟨[(0, (.ptr 0 [])), (7, (.v (.int .u32) o.1)), (8, (.v (.int .u32) o.2.1)), (9, (.v (.int .u32) o.2.2.1)), (10, (.v (.int .u32) o.2.2.2.1)), (11, (.v (.int .u32) o.2.2.2.2.1)), (12, (.v (.int .u32) o.2.2.2.2.2.1)), (13, (.v (.int .u32) o.2.2.2.2.2.2.1)), (14, (.v (.int .u32) o.2.2.2.2.2.2.2.1))], [.box (.arr 8 (.int .u32)) (.v (.arr 8 (.int .u32)) o.2.2.2.2.2.2.2.2.1) true, .box (.arr 64 (.int .u32)) (.v (.arr 64 (.int .u32)) o.2.2.2.2.2.2.2.2.2) true], 146, 2⟩
theorem sha_mix_655a_1_body (x0 : UInt32) (x1 : UInt32) (x2 : UInt32) (x3 : UInt32) (x4 : UInt32) (x5 : UInt32) (x6 : UInt32) (x7 : UInt32) (x8 : Int) (x9 : List UInt32) (x10 : List UInt32) (x11 : List UInt32) : ∀ r, sha_mix_655a_1_step x0 x1 x2 x3 x4 x5 x6 x7 x8 x9 x10 x11 = some r → (match r with | .inl s => CodeOK prog (codeAt (bodyOf f90) [1, 1, 0, 1, 0, 0]) (sha_mix_655a_1_in x0 x1 x2 x3 x4 x5 x6 x7 x8 x9 x10 x11) .normal (sha_mix_655a_1_in s.1 s.2.1 s.2.2.1 s.2.2.2.1 s.2.2.2.2.1 s.2.2.2.2.2.1 s.2.2.2.2.2.2.1 s.2.2.2.2.2.2.2.1 s.2.2.2.2.2.2.2.2 x9 x10 x11) | .inr o => sha_mix_655a_1_ex o ≠ .normal ∧ CodeOK prog (codeAt (bodyOf f90) [1, 1, 0, 1, 0, 0]) (sha_mix_655a_1_in x0 x1 x2 x3 x4 x5 x6 x7 x8 x9 x10 x11) (sha_mix_655a_1_ex o) (sha_mix_655a_1_st o)) := by
  intro r h
  unfold sha_mix_655a_1_step at h
  rcases fork_some h with ⟨h4, h⟩ | ⟨h4, h⟩
  · obtain ⟨u5, h6, h⟩ := andThen_some h
    obtain ⟨u7, h8, h⟩ := andThen_some h
    obtain ⟨u9, h10, h⟩ := andThen_some h
    obtain ⟨h11, h⟩ := need_some h
    obtain ⟨u12, h13, h⟩ := andThen_some h
    obtain ⟨u14, h15, h⟩ := andThen_some h
    obtain ⟨u16, h17, h⟩ := andThen_some h
    injection h with h; subst h
    exact env.code (its := [.br true, .pre [[], [], [1], [], [1, 2, 3], [1, 2, 3, 4], [], [1, 2, 3, 4, 6], [1, 2, 3, 4, 5, 6, 7], [0, 1, 2, 3, 4, 5, 6, 7, 8], [], [0, 1, 2, 3, 4, 5, 6, 7, 8, 9, 10], [], [], [12], [12, 13, 14], [12, 13, 14, 15], [0, 1, 2, 3, 4, 5, 6, 7, 8, 9, 10, 11, 12, 13, 14, 15, 16], [], [18], [18, 19], [0, 1, 2, 3, 4, 5, 6, 7, 8, 9, 10, 11, 12, 13, 14, 15, 16, 17, 18, 19, 20], [0, 1, 2, 3, 4, 5, 6, 7, 8, 9, 10, 11, 12, 13, 14, 15, 16, 17, 18, 19, 20, 21]], .call [none, none] [] [] true (sha_right_R x4 (6 : Int) u5) (sha_right_O x4 (6 : Int) u5), .call [none, none] [] [] true (sha_right_R x4 (11 : Int) u7) (sha_right_O x4 (11 : Int) u7), .call [none, none] [] [] true (sha_right_R x4 (25 : Int) u9) (sha_right_O x4 (25 : Int) u9), .call [none, none] [] [] true (sha_right_R x0 (2 : Int) u12) (sha_right_O x0 (2 : Int) u12), .call [none, none] [] [] true (sha_right_R x0 (13 : Int) u14) (sha_right_O x0 (13 : Int) u14), .call [none, none] [] [] true (sha_right_R x0 (22 : Int) u16) (sha_right_O x0 (22 : Int) u16), .sel [0, 1, 6, 7, 8, 9, 10, 11, 12, 13, 14, 56] [0, 1, 2]]) (.c h4 (.c (sha_right_ok x4 (6 : Int) u5 h6) (.c (sha_right_ok x4 (11 : Int) u7 h8) (.c (sha_right_ok x4 (25 : Int) u9 h10) (.c h11 (.c h11 (.c (sha_right_ok x0 (2 : Int) u12 h13) (.c (sha_right_ok x0 (13 : Int) u14 h15) (.c (sha_right_ok x0 (22 : Int) u16 h17) .n))))))))) (by kernel_rfl)
  · injection h with h; subst h
    exact ⟨by intro e; simp [sha_mix_655a_1_ex] at e, env.code (its := [.br false, .sel [0, 7, 8, 9, 10, 11, 12, 13, 14] [0, 1]]) (.c h4 .n) (by kernel_rfl)⟩
theorem sha_mix_655a_1_ok (x0 : UInt32) (x1 : UInt32) (x2 : UInt32) (x3 : UInt32) (x4 : UInt32) (x5 : UInt32) (x6 : UInt32) (x7 : UInt32) (x8 : Int) (x9 : List UInt32) (x10 : List UInt32) (x11 : List UInt32) (o : UInt32 × UInt32 × UInt32 × UInt32 × UInt32 × UInt32 × UInt32 × UInt32 × List UInt32 × List UInt32) (h : sha_mix_655a_1 x0 x1 x2 x3 x4 x5 x6 x7 x8 x9 x10 x11 = some o) : CodeOK prog (codeAt (bodyOf f90) [1, 1, 0, 1, 0]) (sha_mix_655a_1_in x0 x1 x2 x3 x4 x5 x6 x7 x8 x9 x10 x11) (sha_mix_655a_1_ex o) (sha_mix_655a_1_st o) :=
  LoopOK.of_step (st := fun s => sha_mix_655a_1_in s.1 s.2.1 s.2.2.1 s.2.2.2.1 s.2.2.2.2.1 s.2.2.2.2.2.1 s.2.2.2.2.2.2.1 s.2.2.2.2.2.2.2.1 s.2.2.2.2.2.2.2.2 x9 x10 x11) (ex := sha_mix_655a_1_ex) (stO := sha_mix_655a_1_st) (fun s s2 hs => sha_mix_655a_1_body s.1 s.2.1 s.2.2.1 s.2.2.2.1 s.2.2.2.2.1 s.2.2.2.2.2.1 s.2.2.2.2.2.2.1 s.2.2.2.2.2.2.2.1 s.2.2.2.2.2.2.2.2 x9 x10 x11 (.inl s2) hs) (fun s r hs => sha_mix_655a_1_body s.1 s.2.1 s.2.2.1 s.2.2.2.1 s.2.2.2.2.1 s.2.2.2.2.2.1 s.2.2.2.2.2.2.1 s.2.2.2.2.2.2.2.1 s.2.2.2.2.2.2.2.2 x9 x10 x11 (.inr r) hs) _ o h
def sha_mix_655a_2_in (x0 : List UInt32) (x1 : Int) (x2 : List UInt32) (x3 : List UInt32) : St := ⟨[(0, (.ptr 0 [])), (131, (.v (.arr 8 (.int .u32)) x0)), (132, (.v (.int .i64) x1))], [.box (.arr 8 (.int .u32)) (.v (.arr 8 (.int .u32)) x2) true, .box (.arr 64 (.int .u32)) (.v (.arr 64 (.int .u32)) x3) true], 146, 2⟩
def sha_mix_655a_2_ex (o : List UInt32 × List UInt32) : Exit := (.exit 2)
def sha_mix_655a_2_st (o : List UInt32 × List UInt32) : St := ⟨[], [.box (.arr 8 (.int .u32)) (.v (.arr 8 (.int .u32)) o.1) true, .box (.arr 64 (.int .u32)) (.v (.arr 64 (.int .u32)) o.2) true], 146, 2⟩
theorem sha_mix_655a_2_body (x0 : List UInt32) (x1 : Int) (x2 : List UInt32) (x3 : List UInt32) : ∀ r, sha_mix_655a_2_step x0 x1 x2 x3 = some r → (match r with | .inl s => CodeOK prog (codeAt (bodyOf f90) [1, 1, 1, 1, 0, 0]) (sha_mix_655a_2_in x0 x1 x2 x3) .normal (sha_mix_655a_2_in x0 s.1 s.2 x3) | .inr o => sha_mix_655a_2_ex o ≠ .normal ∧ CodeOK prog (codeAt (bodyOf f90) [1, 1, 1, 1, 0, 0]) (sha_mix_655a_2_in x0 x1 x2 x3) (sha_mix_655a_2_ex o) (sha_mix_655a_2_st o)) := by
  intro r h
  unfold sha_mix_655a_2_step at h
  rcases fork_some h with ⟨h21, h⟩ | ⟨h21, h⟩
  · obtain ⟨h22, h⟩ := need_some h
    injection h with h; subst h
    exact env.code (its := [.br true, .pre [[], [], [0], [0, 1, 2], [0, 1, 2, 3], [], [0, 1, 2, 3, 4, 5], [0], [0, 1, 2, 3, 4, 5, 6, 7], [0, 1, 2, 3, 4, 5, 6, 7, 8]], .sel [0, 131, 132] [0, 1]]) (.c h21 (.c h22 (.c h22 (.c h22 .n)))) (by kernel_rfl)
  · injection h with h; subst h
    exact ⟨by intro e; simp [sha_mix_655a_2_ex] at e, env.code (its := [.br false, .sel [] [0, 1]]) (.c h21 .n) (by kernel_rfl)⟩
theorem sha_mix_655a_2_ok (x0 : List UInt32) (x1 : Int) (x2 : List UInt32) (x3 : List UInt32) (o : List UInt32 × List UInt32) (h : sha_mix_655a_2 x0 x1 x2 x3 = some o) : CodeOK prog (codeAt (bodyOf f90) [1, 1, 1, 1, 0]) (sha_mix_655a_2_in x0 x1 x2 x3) (sha_mix_655a_2_ex o) (sha_mix_655a_2_st o) :=
  LoopOK.of_step (st := fun s => sha_mix_655a_2_in x0 s.1 s.2 x3) (ex := sha_mix_655a_2_ex) (stO := sha_mix_655a_2_st) (fun s s2 hs => sha_mix_655a_2_body x0 s.1 s.2 x3 (.inl s2) hs) (fun s r hs => sha_mix_655a_2_body x0 s.1 s.2 x3 (.inr r) hs) _ o h
def sha_mix_655a_R (a0 : List UInt8) (a1 : List UInt32) (a2 : List UInt32) (u : List UInt32 × List UInt32) : Slot := .tnil
def sha_mix_655a_O (a0 : List UInt8) (a1 : List UInt32) (a2 : List UInt32) (u : List UInt32 × List UInt32) : List AObj := [.box (.arr 8 (.int .u32)) (.v (.arr 8 (.int .u32)) u.1) true, .box (.arr 64 (.int .u32)) (.v (.arr 64 (.int .u32)) u.2) true]
theorem sha_mix_655a_ok (a0 : List UInt8) (a1 : List UInt32) (a2 : List UInt32) (u : List UInt32 × List UInt32) (h : sha_mix_655a a0 a1 a2 = some u) : CallC prog 90 [(.ptr 0 []), (.ptr 1 []), (.v (.slice (.int .u8)) a0)] [.box (.arr 8 (.int .u32)) (.v (.arr 8 (.int .u32)) a1) true, .box (.arr 64 (.int .u32)) (.v (.arr 64 (.int .u32)) a2) true] (sha_mix_655a_R a0 a1 a2 u) (sha_mix_655a_O a0 a1 a2 u) := by
  unfold sha_mix_655a at h
  obtain ⟨u1, h2, h⟩ := andThen_some h
  obtain ⟨o18, h19, h⟩ := andThen_some h
  obtain ⟨o23, h24, h⟩ := andThen_some h
  injection h with h; subst h
  exact env.fun func90 can90 (its := [.call [none] [] [] true (sha_spread_R a0 u1) (sha_spread_O a0 u1), .pre [[], [0], [0, 1], [0, 1, 2], [], [4], [4, 5], [4, 5, 6], [], [8], [8, 9], [8, 9, 10], [], [12], [12, 13], [12, 13, 14], [], [16], [16, 17], [16, 17, 18], [], [20], [20, 21], [20, 21, 22], [], [24], [24, 25], [24, 25, 26], [], [28], [28, 29], [28, 29, 30], [0, 1, 2, 3], [0, 1, 2, 3, 4, 5, 6, 7, 32], [0, 1, 2, 3, 4, 5, 6, 7, 8, 9, 10, 11, 32, 33], [0, 1, 2, 3, 4, 5, 6, 7, 8, 9, 10, 11, 12, 13, 14, 15, 32, 33, 34], [0, 1, 2, 3, 4, 5, 6, 7, 8, 9, 10, 11, 12, 13, 14, 15, 16, 17, 18, 19, 32, 33, 34, 35], [0, 1, 2, 3, 4, 5, 6, 7, 8, 9, 10, 11, 12, 13, 14, 15, 16, 17, 18, 19, 20, 21, 22, 23, 32, 33, 34, 35, 36], [0, 1, 2, 3, 4, 5, 6, 7, 8, 9, 10, 11, 12, 13, 14, 15, 16, 17, 18, 19, 20, 21, 22, 23, 24, 25, 26, 27, 32, 33, 34, 35, 36, 37], [0, 1, 2, 3, 4, 5, 6, 7, 8, 9, 10, 11, 12, 13, 14, 15, 16, 17, 18, 19, 20, 21, 22, 23, 24, 25, 26, 27, 28, 29, 30, 31, 32, 33, 34, 35, 36, 37, 38]], .dive, .sel [0, 1, 6, 7, 8, 9, 10, 11, 12, 13, 14, 56] [0, 1, 2], .part (sha_mix_655a_1_ex o18) (sha_mix_655a_1_st o18), .dive, .sel [0, 131, 132] [0, 1], .part (sha_mix_655a_2_ex o23) (sha_mix_655a_2_st o23)]) (pos := [.sel [0, 1]]) (.c (sha_spread_ok a0 u1 h2) (.c (of_decide_eq_true (p := (0 ≤ (0 : Int) ∧ (0 : Int) < (8 : Int))) (by kernel_rfl)) (.c (of_decide_eq_true (p := (0 ≤ (1 : Int) ∧ (1 : Int) < (8 : Int))) (by kernel_rfl)) (.c (of_decide_eq_true (p := (0 ≤ (2 : Int) ∧ (2 : Int) < (8 : Int))) (by kernel_rfl)) (.c (of_decide_eq_true (p := (0 ≤ (3 : Int) ∧ (3 : Int) < (8 : Int))) (by kernel_rfl)) (.c (of_decide_eq_true (p := (0 ≤ (4 : Int) ∧ (4 : Int) < (8 : Int))) (by kernel_rfl)) (.c (of_decide_eq_true (p := (0 ≤ (5 : Int) ∧ (5 : Int) < (8 : Int))) (by kernel_rfl)) (.c (of_decide_eq_true (p := (0 ≤ (6 : Int) ∧ (6 : Int) < (8 : Int))) (by kernel_rfl)) (.c (of_decide_eq_true (p := (0 ≤ (7 : Int) ∧ (7 : Int) < (8 : Int))) (by kernel_rfl)) (.c (sha_mix_655a_1_ok (List.getD a1 (Int.toNat (0 : Int)) (0 : UInt32)) (List.getD a1 (Int.toNat (1 : Int)) (0 : UInt32)) (List.getD a1 (Int.toNat (2 : Int)) (0 : UInt32)) (List.getD a1 (Int.toNat (3 : Int)) (0 : UInt32)) (List.getD a1 (Int.toNat (4 : Int)) (0 : UInt32)) (List.getD a1 (Int.toNat (5 : Int)) (0 : UInt32)) (List.getD a1 (Int.toNat (6 : Int)) (0 : UInt32)) (List.getD a1 (Int.toNat (7 : Int)) (0 : UInt32)) (0 : Int) a1 a2 u1 o18 h19) (.c (sha_mix_655a_2_ok (List.set (List.set (List.set (List.set (List.set (List.set (List.set (List.set (List.replicate 8 (0 : UInt32)) 0 o18.1) 1 o18.2.1) 2 o18.2.2.1) 3 o18.2.2.2.1) 4 o18.2.2.2.2.1) 5 o18.2.2.2.2.2.1) 6 o18.2.2.2.2.2.2.1) 7 o18.2.2.2.2.2.2.2.1) (0 : Int) o18.2.2.2.2.2.2.2.2.1 o18.2.2.2.2.2.2.2.2.2 o23 h24) .n))))))))))) (by kernel_rfl)
theorem can76 : Callable prog 76 := ⟨_, func76, by kernel_rfl, by kernel_rfl⟩
def sha_Sum_1_in (x0 : List UInt8) (x1 : List UInt8) (x2 : List UInt32) (x3 : List UInt32) : St := ⟨[(2, (.ptr 0 [])), (3, (.ptr 1 [])), (4, (.ptr 2 [])), (5, (.v (.slice (.int .u8)) x0))], [.box (.arr 32 (.int .u8)) (.v (.arr 32 (.int .u8)) x1) true, .box (.arr 8 (.int .u32)) (.v (.arr 8 (.int .u32)) x2) true, .box (.arr 64 (.int .u32)) (.v (.arr 64 (.int .u32)) x3) true], 44, 0⟩
def sha_Sum_1_ex (o : List UInt8 × List UInt32) : Exit := (.exit 0)
def sha_Sum_1_st (o : List UInt8 × List UInt32) : St := ⟨[(2, (.ptr 0 [])), (3, (.ptr 1 []))], [.box (.arr 32 (.int .u8)) (.v (.arr 32 (.int .u8)) o.1) true, .box (.arr 8 (.int .u32)) (.v (.arr 8 (.int .u32)) o.2) true], 44, 0⟩
theorem sha_Sum_1_body (x0 : List UInt8) (x1 : List UInt8) (x2 : List UInt32) (x3 : List UInt32) : ∀ r, sha_Sum_1_step x0 x1 x2 x3 = some r → (match r with | .inl s => CodeOK prog (codeAt (bodyOf f76) [1, 1, 0, 1, 0, 0]) (sha_Sum_1_in x0 x1 x2 x3) .normal (sha_Sum_1_in s.1 x1 s.2.1 s.2.2) | .inr o => sha_Sum_1_ex o ≠ .normal ∧ CodeOK prog (codeAt (bodyOf f76) [1, 1, 0, 1, 0, 0]) (sha_Sum_1_in x0 x1 x2 x3) (sha_Sum_1_ex o) (sha_Sum_1_st o)) := by
  intro r h
  unfold sha_Sum_1_step at h
  rcases fork_some h with ⟨h8, h⟩ | ⟨h8, h⟩
  · obtain ⟨h9, h⟩ := need_some h
    obtain ⟨u10, h11, h⟩ := andThen_some h
    obtain ⟨h12, h⟩ := need_some h
    injection h with h; subst h
    exact env.code (its := [.br true, .br false, .call [none, none, none] [1, 2] [] true (sha_mix_655a_R (cutL x0 (0 : Int) (64 : Int)) x2 x3 u10) (sha_mix_655a_O (cutL x0 (0 : Int) (64 : Int)) x2 x3 u10), .br false, .sel [2, 3, 4, 5] [0, 1, 2]]) (.c h8 (.c h9 (.c (sha_mix_655a_ok (cutL x0 (0 : Int) (64 : Int)) x2 x3 u10 h11) (.c h12 .n)))) (by kernel_rfl)
  · injection h with h; subst h
    exact ⟨by intro e; simp [sha_Sum_1_ex] at e, env.code (its := [.br false, .sel [2, 3] [0, 1]]) (.c h8 .n) (by kernel_rfl)⟩
theorem sha_Sum_1_ok (x0 : List UInt8) (x1 : List UInt8) (x2 : List UInt32) (x3 : List UInt32) (o : List UInt8 × List UInt32) (h : sha_Sum_1 x0 x1 x2 x3 = some o) : CodeOK prog (codeAt (bodyOf f76) [1, 1, 0, 1, 0]) (sha_Sum_1_in x0 x1 x2 x3) (sha_Sum_1_ex o) (sha_Sum_1_st o) :=
  LoopOK.of_step (st := fun s => sha_Sum_1_in s.1 x1 s.2.1 s.2.2) (ex := sha_Sum_1_ex) (stO := sha_Sum_1_st) (fun s s2 hs => sha_Sum_1_body s.1 x1 s.2.1 s.2.2 (.inl s2) hs) (fun s r hs => sha_Sum_1_body s.1 x1 s.2.1 s.2.2 (.inr r) hs) _ o h
def sha_Sum_2_in (x0 : Int) (x1 : UInt32) (x2 : List UInt32) (x3 : Int) (x4 : Int) (x5 : List UInt8) (x6 : List UInt8) : St := ⟨[(2, (.ptr 0 [])), (6, (.ptr 1 [])), (7, (.v (.int .i64) x0)), (8, (.v (.int .u32) x1)), (22, (.v (.arr 8 (.int .u32)) x2)), (23, (.v (.int .i64) x3)), (27, (.v (.int .i64) x4))], [.box (.arr 32 (.int .u8)) (.v (.arr 32 (.int .u8)) x5) true, .box (.arr 32 (.int .u8)) (.v (.arr 32 (.int .u8)) x6) true], 44, 0⟩
def sha_Sum_2_ex (o : List UInt32 × Int × List UInt8 × List UInt8) : Exit := (.exit 4)
def sha_Sum_2_st (o : List UInt32 × Int × List UInt8 × List UInt8) : St := ⟨[(2, (.ptr 0 [])), (6, (.ptr 1 [])), (22, (.v (.arr 8 (.int .u32)) o.1)), (23, (.v (.int .i64) o.2.1))], [.box (.arr 32 (.int .u8)) (.v (.arr 32 (.int .u8)) o.2.2.1) true, .box (.arr 32 (.int .u8)) (.v (.arr 32 (.int .u8)) o.2.2.2) true], 44, 0⟩
theorem sha_Sum_2_body (x0 : Int) (x1 : UInt32) (x2 : List UInt32) (x3 : Int) (x4 : Int) (x5 : List UInt8) (x6 : List UInt8) : ∀ r, sha_Sum_2_step x0 x1 x2 x3 x4 x5 x6 = some r → (match r with | .inl s => CodeOK prog (codeAt (bodyOf f76) [1, 1, 1, 1, 0, 1, 0, 0, 1, 1, 0, 0, 1, 1, 0, 0]) (sha_Sum_2_in x0 x1 x2 x3 x4 x5 x6) .normal (sha_Sum_2_in x0 x1 x2 x3 s.1 x5 s.2) | .inr o => sha_Sum_2_ex o ≠ .normal ∧ CodeOK prog (codeAt (bodyOf f76) [1, 1, 1, 1, 0, 1, 0, 0, 1, 1, 0, 0, 1, 1, 0, 0]) (sha_Sum_2_in x0 x1 x2 x3 x4 x5 x6) (sha_Sum_2_ex o) (sha_Sum_2_st o)) := by
  intro r h
  unfold sha_Sum_2_step at h
  rcases fork_some h with ⟨h19, h⟩ | ⟨h19, h⟩
  · obtain ⟨h20, h⟩ := need_some h
    obtain ⟨h21, h⟩ := need_some h
    injection h with h; subst h
    exact env.code (its := [.br true, .dive, .sel [2, 6, 7, 8, 22, 23, 27] [0, 1]]) (.c h19 (.c h20 (.c h21 .n))) (by kernel_rfl)
  · injection h with h; subst h
    exact ⟨by intro e; simp [sha_Sum_2_ex] at e, env.code (its := [.br false, .sel [2, 6, 22, 23] [0, 1]]) (.c h19 .n) (by kernel_rfl)⟩
theorem sha_Sum_2_ok (x0 : Int) (x1 : UInt32) (x2 : List UInt32) (x3 : Int) (x4 : Int) (x5 : List UInt8) (x6 : List UInt8) (o : List UInt32 × Int × List UInt8 × List UInt8) (h : sha_Sum_2 x0 x1 x2 x3 x4 x5 x6 = some o) : CodeOK prog (codeAt (bodyOf f76) [1, 1, 1, 1, 0, 1, 0, 0, 1, 1, 0, 0, 1, 1, 0]) (sha_Sum_2_in x0 x1 x2 x3 x4 x5 x6) (sha_Sum_2_ex o) (sha_Sum_2_st o) :=
  LoopOK.of_step (st := fun s => sha_Sum_2_in x0 x1 x2 x3 s.1 x5 s.2) (ex := sha_Sum_2_ex) (stO := sha_Sum_2_st) (fun s s2 hs => sha_Sum_2_body x0 x1 x2 x3 s.1 x5 s.2 (.inl s2) hs) (fun s r hs => sha_Sum_2_body x0 x1 x2 x3 s.1 x5 s.2 (.inr r) hs) _ o h
def sha_Sum_3_in (x0 : List UInt32) (x1 : Int) (x2 : List UInt8) (x3 : List UInt8) : St := ⟨[(2, (.ptr 0 [])), (6, (.ptr 1 [])), (22, (.v (.arr 8 (.int .u32)) x0)), (23, (.v (.int .i64) x1))], [.box (.arr 32 (.int .u8)) (.v (.arr 32 (.int .u8)) x2) true, .box (.arr 32 (.int .u8)) (.v (.arr 32 (.int .u8)) x3) true], 44, 0⟩
def sha_Sum_3_ex (o : List UInt8 × List UInt8) : Exit := (.exit 2)
def sha_Sum_3_st (o : List UInt8 × List UInt8) : St := ⟨[(2, (.ptr 0 [])), (6, (.ptr 1 []))], [.box (.arr 32 (.int .u8)) (.v (.arr 32 (.int .u8)) o.1) true, .box (.arr 32 (.int .u8)) (.v (.arr 32 (.int .u8)) o.2) true], 44, 0⟩
theorem sha_Sum_3_body (x0 : List UInt32) (x1 : Int) (x2 : List UInt8) (x3 : List UInt8) : ∀ r, sha_Sum_3_step x0 x1 x2 x3 = some r → (match r with | .inl s => CodeOK prog (codeAt (bodyOf f76) [1, 1, 1, 1, 0, 1, 0, 0]) (sha_Sum_3_in x0 x1 x2 x3) .normal (sha_Sum_3_in s.1 s.2.1 s.2.2.1 s.2.2.2) | .inr o => sha_Sum_3_ex o ≠ .normal ∧ CodeOK prog (codeAt (bodyOf f76) [1, 1, 1, 1, 0, 1, 0, 0]) (sha_Sum_3_in x0 x1 x2 x3) (sha_Sum_3_ex o) (sha_Sum_3_st o)) := by
  intro r h
  unfold sha_Sum_3_step at h
  rcases fork_some h with ⟨h16, h⟩ | ⟨h16, h⟩
  · obtain ⟨h17, h⟩ := need_some h
    obtain ⟨o22, h23, h⟩ := andThen_some h
    injection h with h; subst h
    exact env.code (its := [.br true, .dive, .dive, .sel [2, 6, 7, 8, 22, 23, 27] [0, 1], .part (sha_Sum_2_ex o22) (sha_Sum_2_st o22), .sel [2, 6, 22, 23] [0, 1]]) (.c h16 (.c h17 (.c (sha_Sum_2_ok x1 (List.getD x0 (Int.toNat x1) (0 : UInt32)) x0 x1 (0 : Int) x2 x3 o22 h23) .n))) (by kernel_rfl)
  · injection h with h; subst h
    exact ⟨by intro e; simp [sha_Sum_3_ex] at e, env.code (its := [.br false, .sel [2, 6] [0, 1]]) (.c h16 .n) (by kernel_rfl)⟩
theorem sha_Sum_3_ok (x0 : List UInt32) (x1 : Int) (x2 : List UInt8) (x3 : List UInt8) (o : List UInt8 × List UInt8) (h : sha_Sum_3 x0 x1 x2 x3 = some o) : CodeOK prog (codeAt (bodyOf f76) [1, 1, 1, 1, 0, 1, 0]) (sha_Sum_3_in x0 x1 x2 x3) (sha_Sum_3_ex o) (sha_Sum_3_st o) :=
  LoopOK.of_step (st := fun s => sha_Sum_3_in s.1 s.2.1 s.2.2.1 s.2.2.2) (ex := sha_Sum_3_ex) (stO := sha_Sum_3_st) (fun s s2 hs => sha_Sum_3_body s.1 s.2.1 s.2.2.1 s.2.2.2 (.inl s2) hs) (fun s r hs => sha_Sum_3_body s.1 s.2.1 s.2.2.1 s.2.2.2 (.inr r) hs) _ o h
def sha_Sum_R (a0 : List UInt8) (u : List UInt8) : Slot := (.v (.arr 32 (.int .u8)) u)
def sha_Sum_O (a0 : List UInt8) (u : List UInt8) : List AObj := []
theorem sha_Sum_ok (a0 : List UInt8) (u : List UInt8) (h : sha_Sum a0 = some u) : CallC prog 76 [(.v (.slice (.int .u8)) a0)] [] (sha_Sum_R a0 u) (sha_Sum_O a0 u) := by
  unfold sha_Sum at h
  obtain ⟨u1, h2, h⟩ := andThen_some h
  obtain ⟨u3, h4, h⟩ := andThen_some h
  obtain ⟨u5, h6, h⟩ := andThen_some h
  obtain ⟨o13, h14, h⟩ := andThen_some h
  obtain ⟨o24, h25, h⟩ := andThen_some h
  injection h with h; subst h
  exact env.fun func76 can76 (its := [.call [] [] [] true (sha_first_R u1) (sha_first_O u1), .call [] [] [] true (sha_added_R u3) (sha_added_O u3), .call [none] [] [] true (sha_padded_R a0 u5) (sha_padded_O a0 u5), .dive, .val 5 (.slice (.int .u8)), .sel [2, 3, 4, 5] [0, 1, 2], .part (sha_Sum_1_ex o13) (sha_Sum_1_st o13), .dive, .sel [2, 6, 22, 23] [0, 2], .part (sha_Sum_3_ex o24) (sha_Sum_3_st o24)]) (pos := [.sel []]) (.c (sha_first_ok u1 h2) (.c (sha_added_ok u3 h4) (.c (sha_padded_ok a0 u5 h6) (.c (sha_Sum_1_ok u5 (List.replicate 32 (0 : UInt8)) u1 u3 o13 h14) (.c (sha_Sum_3_ok o13.2 (0 : Int) o13.1 (List.replicate 32 (0 : UInt8)) o24 h25) .n))))) (by kernel_rfl)
theorem can48 : Callable prog 48 := ⟨_, func48, by kernel_rfl, by kernel_rfl⟩
def sha_Tagged_1_in (x0 : List (List UInt8)) (x1 : Int) (x2 : Int) (x3 : List UInt8) (x4 : List UInt8) : St := ⟨[(4, (.ptr 0 [])), (5, (.own 1 [])), (10, (.v (.slice (.slice (.int .u8))) x0)), (11, (.v (.int .i64) x1)), (12, (.v (.int .i64) x2))], [.box (.arr 32 (.int .u8)) (.v (.arr 32 (.int .u8)) x3) true, .row (.int .u8) x4 true], 22, 0⟩
def sha_Tagged_1_ex (o : List UInt8 × List UInt8) : Exit := (.exit 0)
def sha_Tagged_1_st (o : List UInt8 × List UInt8) : St := ⟨[(4, (.ptr 0 [])), (5, (.own 1 []))], [.box (.arr 32 (.int .u8)) (.v (.arr 32 (.int .u8)) o.1) true, .row (.int .u8) o.2 true], 22, 0⟩
theorem sha_Tagged_1_body (x0 : List (List UInt8)) (x1 : Int) (x2 : Int) (x3 : List UInt8) (x4 : List UInt8) : ∀ r, sha_Tagged_1_step x0 x1 x2 x3 x4 = some r → (match r with | .inl s => CodeOK prog (codeAt (bodyOf f48) [1, 1, 0, 1, 0, 0]) (sha_Tagged_1_in x0 x1 x2 x3 x4) .normal (sha_Tagged_1_in x0 x1 s.1 x3 s.2) | .inr o => sha_Tagged_1_ex o ≠ .normal ∧ CodeOK prog (codeAt (bodyOf f48) [1, 1, 0, 1, 0, 0]) (sha_Tagged_1_in x0 x1 x2 x3 x4) (sha_Tagged_1_ex o) (sha_Tagged_1_st o)) := by
  intro r h
  unfold sha_Tagged_1_step at h
  rcases fork_some h with ⟨h2, h⟩ | ⟨h2, h⟩
  · obtain ⟨h3, h⟩ := need_some h
    obtain ⟨h4, h⟩ := need_some h
    injection h with h; subst h
    exact env.code (its := [.br true, .dive, .sel [4, 5, 10, 11, 12] [0, 2]]) (.c h2 (.c h3 (.c h4 .n))) (by kernel_rfl)
  · injection h with h; subst h
    exact ⟨by intro e; simp [sha_Tagged_1_ex] at e, env.code (its := [.br false, .sel [4, 5] [0, 1]]) (.c h2 .n) (by kernel_rfl)⟩
theorem sha_Tagged_1_ok (x0 : List (List UInt8)) (x1 : Int) (x2 : Int) (x3 : List UInt8) (x4 : List UInt8) (o : List UInt8 × List UInt8) (h : sha_Tagged_1 x0 x1 x2 x3 x4 = some o) : CodeOK prog (codeAt (bodyOf f48) [1, 1, 0, 1, 0]) (sha_Tagged_1_in x0 x1 x2 x3 x4) (sha_Tagged_1_ex o) (sha_Tagged_1_st o) :=
  LoopOK.of_step (st := fun s => sha_Tagged_1_in x0 x1 s.1 x3 s.2) (ex := sha_Tagged_1_ex) (stO := sha_Tagged_1_st) (fun s s2 hs => sha_Tagged_1_body x0 x1 s.1 x3 s.2 (.inl s2) hs) (fun s r hs => sha_Tagged_1_body x0 x1 s.1 x3 s.2 (.inr r) hs) _ o h
def sha_Tagged_R (a0 : UInt8) (a1 : List (List UInt8)) (u : List UInt8) : Slot := (.v (.arr 32 (.int .u8)) u)
def sha_Tagged_O (a0 : UInt8) (a1 : List (List UInt8)) (u : List UInt8) : List AObj := []
theorem sha_Tagged_ok (a0 : UInt8) (a1 : List (List UInt8)) (u : List UInt8) (h : sha_Tagged a0 a1 = some u) : CallC prog 48 [(.v (.int .u8) a0), (.v (.slice (.slice (.int .u8))) a1)] [] (sha_Tagged_R a0 a1 u) (sha_Tagged_O a0 a1 u) := by
  unfold sha_Tagged at h
  obtain ⟨o5, h6, h⟩ := andThen_some h
  obtain ⟨u7, h8, h⟩ := andThen_some h
  injection h with h; subst h
  exact env.fun func48 can48 (its := [.dive, .sel [4, 5, 10, 11, 12] [0, 1], .part (sha_Tagged_1_ex o5) (sha_Tagged_1_st o5), .call [none] [] [1] true (sha_Sum_R o5.2 u7) (sha_Sum_O o5.2 u7)]) (pos := [.sel []]) (.c (sha_Tagged_1_ok a1 (List.length a1 : Int) (0 : Int) (List.replicate 32 (0 : UInt8)) ([a0] : List (UInt8)) o5 h6) (.c (sha_Sum_ok o5.2 u7 h8) .n)) (by kernel_rfl)
theorem can18 : Callable prog 18 := ⟨_, func18, by kernel_rfl, by kernel_rfl⟩
def ring_Seed_R (a0 : List UInt8) (a1 : Int) (u : List UInt8) : Slot := (.v (.arr 32 (.int .u8)) u)
def ring_Seed_O (a0 : List UInt8) (a1 : Int) (u : List UInt8) : List AObj := []
theorem ring_Seed_ok (a0 : List UInt8) (a1 : Int) (u : List UInt8) (h : ring_Seed a0 a1 = some u) : CallC prog 18 [(.v (.arr 32 (.int .u8)) a0), (.v (.int .i64) a1)] [] (ring_Seed_R a0 a1 u) (ring_Seed_O a0 a1 u) := by
  unfold ring_Seed at h
  obtain ⟨u1, h2, h⟩ := andThen_some h
  injection h with h; subst h
  exact env.fun func18 can18 (its := [.br true, .call [none, none] [] [3] true (sha_Tagged_R (114 : UInt8) ([a0, ([(UInt8.ofNat (Int.toNat (a1 % 256)))] : List (UInt8))] : List (List UInt8)) u1) (sha_Tagged_O (114 : UInt8) ([a0, ([(UInt8.ofNat (Int.toNat (a1 % 256)))] : List (UInt8))] : List (List UInt8)) u1)]) (pos := [.sel []]) (.c (sha_Tagged_ok (114 : UInt8) ([a0, ([(UInt8.ofNat (Int.toNat (a1 % 256)))] : List (UInt8))] : List (List UInt8)) u1 h2) .n) (by kernel_rfl)
theorem can55 : Callable prog 55 := ⟨_, func55, by kernel_rfl, by kernel_rfl⟩
def lam_secret_R (a0 : List UInt8) (a1 : Int) (a2 : Int) (u : List UInt8) : Slot := (.v (.arr 32 (.int .u8)) u)
def lam_secret_O (a0 : List UInt8) (a1 : Int) (a2 : Int) (u : List UInt8) : List AObj := []
theorem lam_secret_ok (a0 : List UInt8) (a1 : Int) (a2 : Int) (u : List UInt8) (h : lam_secret a0 a1 a2 = some u) : CallC prog 55 [(.v (.arr 32 (.int .u8)) a0), (.v (.int .i64) a1), (.v (.int .i64) a2)] [] (lam_secret_R a0 a1 a2 u) (lam_secret_O a0 a1 a2 u) := by
  unfold lam_secret at h
  obtain ⟨u1, h2, h⟩ := andThen_some h
  injection h with h; subst h
  exact env.fun func55 can55 (its := [.br true, .call [none, none] [] [3] true (sha_Tagged_R (115 : UInt8) ([a0, ([(UInt8.ofNat (Int.toNat (a1 % 256))), (UInt8.ofNat (Int.toNat (a2 % 256)))] : List (UInt8))] : List (List UInt8)) u1) (sha_Tagged_O (115 : UInt8) ([a0, ([(UInt8.ofNat (Int.toNat (a1 % 256))), (UInt8.ofNat (Int.toNat (a2 % 256)))] : List (UInt8))] : List (List UInt8)) u1)]) (pos := [.sel []]) (.c (sha_Tagged_ok (115 : UInt8) ([a0, ([(UInt8.ofNat (Int.toNat (a1 % 256))), (UInt8.ofNat (Int.toNat (a2 % 256)))] : List (UInt8))] : List (List UInt8)) u1 h2) .n) (by kernel_rfl)
theorem can53 : Callable prog 53 := ⟨_, func53, by kernel_rfl, by kernel_rfl⟩
def lam_public_R (a0 : List UInt8) (u : List UInt8) : Slot := (.v (.arr 32 (.int .u8)) u)
def lam_public_O (a0 : List UInt8) (u : List UInt8) : List AObj := []
theorem lam_public_ok (a0 : List UInt8) (u : List UInt8) (h : lam_public a0 = some u) : CallC prog 53 [(.v (.arr 32 (.int .u8)) a0)] [] (lam_public_R a0 u) (lam_public_O a0 u) := by
  unfold lam_public at h
  obtain ⟨u1, h2, h⟩ := andThen_some h
  injection h with h; subst h
  exact env.fun func53 can53 (its := [.br true, .call [none, none] [] [2] true (sha_Tagged_R (112 : UInt8) ([a0] : List (List UInt8)) u1) (sha_Tagged_O (112 : UInt8) ([a0] : List (List UInt8)) u1)]) (pos := [.sel []]) (.c (sha_Tagged_ok (112 : UInt8) ([a0] : List (List UInt8)) u1 h2) .n) (by kernel_rfl)
theorem can54 : Callable prog 54 := ⟨_, func54, by kernel_rfl, by kernel_rfl⟩
def lam_key_1_in (x0 : List (List UInt8)) (x1 : Int) (x2 : Int) (x3 : List UInt8) (x4 : List UInt8) : St := ⟨[(2, (.ptr 0 [])), (3, (.own 1 [])), (6, (.v (.slice (.arr 32 (.int .u8))) x0)), (7, (.v (.int .i64) x1)), (8, (.v (.int .i64) x2))], [.box (.arr 32 (.int .u8)) (.v (.arr 32 (.int .u8)) x3) true, .row (.int .u8) x4 true], 19, 0⟩
def lam_key_1_ex (o : List UInt8 × List UInt8) : Exit := (.exit 0)
def lam_key_1_st (o : List UInt8 × List UInt8) : St := ⟨[(2, (.ptr 0 [])), (3, (.own 1 []))], [.box (.arr 32 (.int .u8)) (.v (.arr 32 (.int .u8)) o.1) true, .row (.int .u8) o.2 true], 19, 0⟩
theorem lam_key_1_body (x0 : List (List UInt8)) (x1 : Int) (x2 : Int) (x3 : List UInt8) (x4 : List UInt8) : ∀ r, lam_key_1_step x0 x1 x2 x3 x4 = some r → (match r with | .inl s => CodeOK prog (codeAt (bodyOf f54) [1, 1, 0, 1, 0, 0]) (lam_key_1_in x0 x1 x2 x3 x4) .normal (lam_key_1_in x0 x1 s.1 x3 s.2) | .inr o => lam_key_1_ex o ≠ .normal ∧ CodeOK prog (codeAt (bodyOf f54) [1, 1, 0, 1, 0, 0]) (lam_key_1_in x0 x1 x2 x3 x4) (lam_key_1_ex o) (lam_key_1_st o)) := by
  intro r h
  unfold lam_key_1_step at h
  rcases fork_some h with ⟨h2, h⟩ | ⟨h2, h⟩
  · obtain ⟨h3, h⟩ := need_some h
    obtain ⟨h4, h⟩ := need_some h
    injection h with h; subst h
    exact env.code (its := [.br true, .br true, .sel [2, 3, 6, 7, 8] [0, 3]]) (.c h2 (.c h3 (.c h4 .n))) (by kernel_rfl)
  · injection h with h; subst h
    exact ⟨by intro e; simp [lam_key_1_ex] at e, env.code (its := [.br false, .sel [2, 3] [0, 1]]) (.c h2 .n) (by kernel_rfl)⟩
theorem lam_key_1_ok (x0 : List (List UInt8)) (x1 : Int) (x2 : Int) (x3 : List UInt8) (x4 : List UInt8) (o : List UInt8 × List UInt8) (h : lam_key_1 x0 x1 x2 x3 x4 = some o) : CodeOK prog (codeAt (bodyOf f54) [1, 1, 0, 1, 0]) (lam_key_1_in x0 x1 x2 x3 x4) (lam_key_1_ex o) (lam_key_1_st o) :=
  LoopOK.of_step (st := fun s => lam_key_1_in x0 x1 s.1 x3 s.2) (ex := lam_key_1_ex) (stO := lam_key_1_st) (fun s s2 hs => lam_key_1_body x0 x1 s.1 x3 s.2 (.inl s2) hs) (fun s r hs => lam_key_1_body x0 x1 s.1 x3 s.2 (.inr r) hs) _ o h
def lam_key_R (a0 : List (List UInt8)) (u : List UInt8) : Slot := (.v (.arr 32 (.int .u8)) u)
def lam_key_O (a0 : List (List UInt8)) (u : List UInt8) : List AObj := []
theorem lam_key_ok (a0 : List (List UInt8)) (u : List UInt8) (h : lam_key a0 = some u) : CallC prog 54 [(.v (.slice (.arr 32 (.int .u8))) a0)] [] (lam_key_R a0 u) (lam_key_O a0 u) := by
  unfold lam_key at h
  obtain ⟨o5, h6, h⟩ := andThen_some h
  obtain ⟨u7, h8, h⟩ := andThen_some h
  injection h with h; subst h
  exact env.fun func54 can54 (its := [.dive, .promote 3 (.int .u8), .sel [2, 3, 6, 7, 8] [0, 1], .part (lam_key_1_ex o5) (lam_key_1_st o5), .call [none, none] [] [2] true (sha_Tagged_R (107 : UInt8) ([o5.2] : List (List UInt8)) u7) (sha_Tagged_O (107 : UInt8) ([o5.2] : List (List UInt8)) u7)]) (pos := [.sel []]) (.c (lam_key_1_ok a0 (List.length a0 : Int) (0 : Int) (List.replicate 32 (0 : UInt8)) ([] : List (UInt8)) o5 h6) (.c (sha_Tagged_ok (107 : UInt8) ([o5.2] : List (List UInt8)) u7 h8) .n)) (by kernel_rfl)
theorem can22 : Callable prog 22 := ⟨_, func22, by kernel_rfl, by kernel_rfl⟩
def lam_Key_1_in (x0 : Int) (x1 : List UInt8) (x2 : List UInt8) (x3 : List (List UInt8)) : St := ⟨[(1, (.ptr 0 [])), (2, (.ptr 1 [])), (3, (.own 2 [])), (5, (.v (.int .i64) x0))], [.box (.arr 32 (.int .u8)) (.v (.arr 32 (.int .u8)) x1) true, .box (.arr 32 (.int .u8)) (.v (.arr 32 (.int .u8)) x2) true, .row (.arr 32 (.int .u8)) x3 true], 22, 0⟩
def lam_Key_1_ex (o : List UInt8 × List (List UInt8)) : Exit := (.exit 0)
def lam_Key_1_st (o : List UInt8 × List (List UInt8)) : St := ⟨[(2, (.ptr 0 [])), (3, (.own 1 []))], [.box (.arr 32 (.int .u8)) (.v (.arr 32 (.int .u8)) o.1) true, .row (.arr 32 (.int .u8)) o.2 true], 22, 0⟩
theorem lam_Key_1_body (x0 : Int) (x1 : List UInt8) (x2 : List UInt8) (x3 : List (List UInt8)) : ∀ r, lam_Key_1_step x0 x1 x2 x3 = some r → (match r with | .inl s => CodeOK prog (codeAt (bodyOf f22) [1, 1, 0, 1, 0, 0]) (lam_Key_1_in x0 x1 x2 x3) .normal (lam_Key_1_in s.1 x1 x2 s.2) | .inr o => lam_Key_1_ex o ≠ .normal ∧ CodeOK prog (codeAt (bodyOf f22) [1, 1, 0, 1, 0, 0]) (lam_Key_1_in x0 x1 x2 x3) (lam_Key_1_ex o) (lam_Key_1_st o)) := by
  intro r h
  unfold lam_Key_1_step at h
  rcases fork_some h with ⟨h2, h⟩ | ⟨h2, h⟩
  · obtain ⟨u3, h4, h⟩ := andThen_some h
    obtain ⟨u5, h6, h⟩ := andThen_some h
    obtain ⟨u7, h8, h⟩ := andThen_some h
    obtain ⟨u9, h10, h⟩ := andThen_some h
    obtain ⟨h11, h⟩ := need_some h
    injection h with h; subst h
    exact env.code (its := [.br true, .pre [[], [], [], [1, 2], [1, 2, 3], [], [], [1, 2, 3, 4, 5, 6], [1, 2, 3, 4, 5, 6, 7], [1, 2, 3, 4, 5, 6, 7, 8], [0, 1, 2, 3, 4, 5, 6, 7, 8, 9], [0, 1, 2, 3, 4, 5, 6, 7, 8, 9, 10]], .call [none, none, none] [] [] true (lam_secret_R x1 x0 (0 : Int) u3) (lam_secret_O x1 x0 (0 : Int) u3), .call [none] [] [] true (lam_public_R u3 u5) (lam_public_O u3 u5), .call [none, none, none] [] [] true (lam_secret_R x1 x0 (1 : Int) u7) (lam_secret_O x1 x0 (1 : Int) u7), .call [none] [] [] true (lam_public_R u7 u9) (lam_public_O u7 u9), .sel [1, 2, 3, 5] [0, 1, 4]]) (.c h2 (.c (lam_secret_ok x1 x0 (0 : Int) u3 h4) (.c (lam_public_ok u3 u5 h6) (.c (lam_secret_ok x1 x0 (1 : Int) u7 h8) (.c (lam_public_ok u7 u9 h10) (.c h11 .n)))))) (by kernel_rfl)
  · injection h with h; subst h
    exact ⟨by intro e; simp [lam_Key_1_ex] at e, env.code (its := [.br false, .sel [2, 3] [1, 2]]) (.c h2 .n) (by kernel_rfl)⟩
theorem lam_Key_1_ok (x0 : Int) (x1 : List UInt8) (x2 : List UInt8) (x3 : List (List UInt8)) (o : List UInt8 × List (List UInt8)) (h : lam_Key_1 x0 x1 x2 x3 = some o) : CodeOK prog (codeAt (bodyOf f22) [1, 1, 0, 1, 0]) (lam_Key_1_in x0 x1 x2 x3) (lam_Key_1_ex o) (lam_Key_1_st o) :=
  LoopOK.of_step (st := fun s => lam_Key_1_in s.1 x1 x2 s.2) (ex := lam_Key_1_ex) (stO := lam_Key_1_st) (fun s s2 hs => lam_Key_1_body s.1 x1 x2 s.2 (.inl s2) hs) (fun s r hs => lam_Key_1_body s.1 x1 x2 s.2 (.inr r) hs) _ o h
def lam_Key_R (a0 : List UInt8) (u : List UInt8) : Slot := (.v (.arr 32 (.int .u8)) u)
def lam_Key_O (a0 : List UInt8) (u : List UInt8) : List AObj := []
theorem lam_Key_ok (a0 : List UInt8) (u : List UInt8) (h : lam_Key a0 = some u) : CallC prog 22 [(.v (.arr 32 (.int .u8)) a0)] [] (lam_Key_R a0 u) (lam_Key_O a0 u) := by
  unfold lam_Key at h
  obtain ⟨o12, h13, h⟩ := andThen_some h
  obtain ⟨u14, h15, h⟩ := andThen_some h
  injection h with h; subst h
  exact env.fun func22 can22 (its := [.dive, .promote 3 (.arr 32 (.int .u8)), .sel [1, 2, 3, 5] [0, 1, 2], .part (lam_Key_1_ex o12) (lam_Key_1_st o12), .call [none] [] [1] true (lam_key_R o12.2 u14) (lam_key_O o12.2 u14)]) (pos := [.sel []]) (.c (lam_Key_1_ok (0 : Int) a0 (List.replicate 32 (0 : UInt8)) ([] : List (List UInt8)) o12 h13) (.c (lam_key_ok o12.2 u14 h15) .n)) (by kernel_rfl)
theorem can14 : Callable prog 14 := ⟨_, func14, by kernel_rfl, by kernel_rfl⟩
def affiantbook_Within_R (a0 : Int) (a1 : Int) (a2 : Int) (u : Int) : Slot := (.v (.int .i64) u)
def affiantbook_Within_O (a0 : Int) (a1 : Int) (a2 : Int) (u : Int) : List AObj := []
theorem affiantbook_Within_ok (a0 : Int) (a1 : Int) (a2 : Int) (u : Int) (h : affiantbook_Within a0 a1 a2 = some u) : CallC prog 14 [(.v (.int .i64) a0), (.v (.int .i64) a1), (.v (.int .i64) a2)] [] (affiantbook_Within_R a0 a1 a2 u) (affiantbook_Within_O a0 a1 a2 u) := by
  unfold affiantbook_Within at h
  obtain ⟨h1, h⟩ := need_some h
  rcases fork_some h with ⟨h2, h⟩ | ⟨h2, h⟩
  · injection h with h; subst h
    exact env.fun func14 can14 (its := [.br true]) (pos := [.sel []]) (.c h1 (.c h2 .n)) (by kernel_rfl)
  · injection h with h; subst h
    exact env.fun func14 can14 (its := [.br false]) (pos := [.sel []]) (.c h1 (.c h2 .n)) (by kernel_rfl)
theorem can42 : Callable prog 42 := ⟨_, func42, by kernel_rfl, by kernel_rfl⟩
def ring_Keys_1_in (x0 : Int) (x1 : List UInt8) (x2 : List (List UInt8)) : St := ⟨[(1, (.ptr 0 [])), (3, (.own 1 [])), (4, (.v (.int .i64) x0))], [.box (.arr 32 (.int .u8)) (.v (.arr 32 (.int .u8)) x1) true, .row (.slice (.int .u8)) x2 true], 19, 0⟩
def ring_Keys_1_ex (o : List (List UInt8)) : Exit := (.exit 0)
def ring_Keys_1_st (o : List (List UInt8)) : St := ⟨[(3, (.own 0 []))], [.row (.slice (.int .u8)) o true], 19, 0⟩
theorem ring_Keys_1_body (x0 : Int) (x1 : List UInt8) (x2 : List (List UInt8)) : ∀ r, ring_Keys_1_step x0 x1 x2 = some r → (match r with | .inl s => CodeOK prog (codeAt (bodyOf f42) [1, 1, 0, 1, 0, 0]) (ring_Keys_1_in x0 x1 x2) .normal (ring_Keys_1_in s.1 x1 s.2) | .inr o => ring_Keys_1_ex o ≠ .normal ∧ CodeOK prog (codeAt (bodyOf f42) [1, 1, 0, 1, 0, 0]) (ring_Keys_1_in x0 x1 x2) (ring_Keys_1_ex o) (ring_Keys_1_st o)) := by
  intro r h
  unfold ring_Keys_1_step at h
  rcases fork_some h with ⟨h2, h⟩ | ⟨h2, h⟩
  · obtain ⟨u3, h4, h⟩ := andThen_some h
    obtain ⟨u5, h6, h⟩ := andThen_some h
    obtain ⟨h7, h⟩ := need_some h
    injection h with h; subst h
    exact env.code (its := [.br true, .call [none, none] [] [] true (ring_Seed_R x1 x0 u3) (ring_Seed_O x1 x0 u3), .call [none] [] [] true (lam_Key_R u3 u5) (lam_Key_O u3 u5), .br true, .sel [1, 3, 4] [0, 4]]) (.c h2 (.c (ring_Seed_ok x1 x0 u3 h4) (.c (lam_Key_ok u3 u5 h6) (.c h7 .n)))) (by kernel_rfl)
  · injection h with h; subst h
    exact ⟨by intro e; simp [ring_Keys_1_ex] at e, env.code (its := [.br false, .sel [3] [1]]) (.c h2 .n) (by kernel_rfl)⟩
theorem ring_Keys_1_ok (x0 : Int) (x1 : List UInt8) (x2 : List (List UInt8)) (o : List (List UInt8)) (h : ring_Keys_1 x0 x1 x2 = some o) : CodeOK prog (codeAt (bodyOf f42) [1, 1, 0, 1, 0]) (ring_Keys_1_in x0 x1 x2) (ring_Keys_1_ex o) (ring_Keys_1_st o) :=
  LoopOK.of_step (st := fun s => ring_Keys_1_in s.1 x1 s.2) (ex := ring_Keys_1_ex) (stO := ring_Keys_1_st) (fun s s2 hs => ring_Keys_1_body s.1 x1 s.2 (.inl s2) hs) (fun s r hs => ring_Keys_1_body s.1 x1 s.2 (.inr r) hs) _ o h
def ring_Keys_R (a0 : List UInt8) (u : List (List UInt8)) : Slot := (.own 0 [])
def ring_Keys_O (a0 : List UInt8) (u : List (List UInt8)) : List AObj := [.row (.slice (.int .u8)) u true]
theorem ring_Keys_ok (a0 : List UInt8) (u : List (List UInt8)) (h : ring_Keys a0 = some u) : CallC prog 42 [(.v (.arr 32 (.int .u8)) a0)] [] (ring_Keys_R a0 u) (ring_Keys_O a0 u) := by
  unfold ring_Keys at h
  obtain ⟨o8, h9, h⟩ := andThen_some h
  injection h with h; subst h
  exact env.fun func42 can42 (its := [.dive, .promote 3 (.slice (.int .u8)), .sel [1, 3, 4] [0, 1], .part (ring_Keys_1_ex o8) (ring_Keys_1_st o8)]) (pos := [.sel [0]]) (.c (ring_Keys_1_ok (1 : Int) a0 ([] : List (List UInt8)) o8 h9) .n) (by kernel_rfl)
theorem can43 : Callable prog 43 := ⟨_, func43, by kernel_rfl, by kernel_rfl⟩
def ring_is_R (a0 : Int) (u : Bool) : Slot := (.v .bool u)
def ring_is_O (a0 : Int) (u : Bool) : List AObj := []
theorem ring_is_ok (a0 : Int) (u : Bool) (h : ring_is a0 = some u) : CallC prog 43 [(.v (.int .i64) a0)] [] (ring_is_R a0 u) (ring_is_O a0 u) := by
  unfold ring_is at h
  rcases fork_some h with ⟨h1, h⟩ | ⟨h1, h⟩
  · injection h with h; subst h
    exact env.fun func43 can43 (its := [.br true, .br true, .br true]) (pos := [.sel []]) (.c h1 (.c h1 (.c h1 .n))) (by kernel_rfl)
  · injection h with h; subst h
    exact env.fun func43 can43 (its := [.br false, .br false, .br false]) (pos := [.sel []]) (.c h1 (.c h1 (.c h1 .n))) (by kernel_rfl)
theorem can52 : Callable prog 52 := ⟨_, func52, by kernel_rfl, by kernel_rfl⟩
def lam_bit_R (a0 : List UInt8) (a1 : Int) (u : Int) : Slot := (.v (.int .i64) u)
def lam_bit_O (a0 : List UInt8) (a1 : Int) (u : Int) : List AObj := []
theorem lam_bit_ok (a0 : List UInt8) (a1 : Int) (u : Int) (h : lam_bit a0 a1 = some u) : CallC prog 52 [(.v (.arr 32 (.int .u8)) a0), (.v (.int .i64) a1)] [] (lam_bit_R a0 a1 u) (lam_bit_O a0 a1 u) := by
  unfold lam_bit at h
  obtain ⟨h1, h⟩ := need_some h
  obtain ⟨h2, h⟩ := need_some h
  injection h with h; subst h
  exact env.fun func52 can52 (its := []) (pos := [.sel []]) (.c (of_decide_eq_true (p := ((8 : Int) ≠ 0)) (by kernel_rfl)) (.c h1 (.c (of_decide_eq_true (p := ((8 : Int) ≠ 0)) (by kernel_rfl)) (.c h2 .n)))) (by kernel_rfl)
theorem can70 : Callable prog 70 := ⟨_, func70, by kernel_rfl, by kernel_rfl⟩
def lam_Sign_1_in (x0 : Int) (x1 : List UInt8) (x2 : Unit) (x3 : Unit) (x4 : List (List UInt8)) (x5 : List (List UInt8)) (x6 : List UInt8) : St := ⟨[(2, (.ptr 0 [])), (4, (.ptr 1 [])), (5, (.ptr 2 [])), (6, (.ptr 5 [])), (12, (.v (.int .i64) x0))], [.box (.arr 32 (.int .u8)) (.v (.arr 32 (.int .u8)) x1) true, .box (.fld (.slice (.arr 32 (.int .u8))) (.fld (.slice (.arr 32 (.int .u8))) .unit)) (.node .nil (.node .nil (.v .unit x2))) true, .box (.fld (.slice (.arr 32 (.int .u8))) (.fld (.slice (.arr 32 (.int .u8))) .unit)) (.node (.own 3 []) (.node (.own 4 []) (.v .unit x3))) true, .row (.arr 32 (.int .u8)) x4 true, .row (.arr 32 (.int .u8)) x5 true, .box (.arr 32 (.int .u8)) (.v (.arr 32 (.int .u8)) x6) true], 40, 0⟩
def lam_Sign_1_ex (o : Unit × Unit × List (List UInt8) × List (List UInt8)) : Exit := (.exit 0)
def lam_Sign_1_st (o : Unit × Unit × List (List UInt8) × List (List UInt8)) : St := ⟨[(4, (.ptr 0 [])), (5, (.ptr 1 []))], [.box (.fld (.slice (.arr 32 (.int .u8))) (.fld (.slice (.arr 32 (.int .u8))) .unit)) (.node .nil (.node .nil (.v .unit o.1))) true, .box (.fld (.slice (.arr 32 (.int .u8))) (.fld (.slice (.arr 32 (.int .u8))) .unit)) (.node (.own 2 []) (.node (.own 3 []) (.v .unit o.2.1))) true, .row (.arr 32 (.int .u8)) o.2.2.1 true, .row (.arr 32 (.int .u8)) o.2.2.2 true], 40, 0⟩
theorem lam_Sign_1_body (x0 : Int) (x1 : List UInt8) (x2 : Unit) (x3 : Unit) (x4 : List (List UInt8)) (x5 : List (List UInt8)) (x6 : List UInt8) : ∀ r, lam_Sign_1_step x0 x1 x2 x3 x4 x5 x6 = some r → (match r with | .inl s => CodeOK prog (codeAt (bodyOf f70) [1, 1, 1, 0, 1, 0, 0]) (lam_Sign_1_in x0 x1 x2 x3 x4 x5 x6) .normal (lam_Sign_1_in s.1 x1 x2 x3 s.2.1 s.2.2 x6) | .inr o => lam_Sign_1_ex o ≠ .normal ∧ CodeOK prog (codeAt (bodyOf f70) [1, 1, 1, 0, 1, 0, 0]) (lam_Sign_1_in x0 x1 x2 x3 x4 x5 x6) (lam_Sign_1_ex o) (lam_Sign_1_st o)) := by
  intro r h
  unfold lam_Sign_1_step at h
  rcases fork_some h with ⟨h4, h⟩ | ⟨h4, h⟩
  · obtain ⟨u5, h6, h⟩ := andThen_some h
    obtain ⟨u7, h8, h⟩ := andThen_some h
    obtain ⟨h9, h⟩ := need_some h
    obtain ⟨u10, h11, h⟩ := andThen_some h
    obtain ⟨u12, h13, h⟩ := andThen_some h
    obtain ⟨h14, h⟩ := need_some h
    injection h with h; subst h
    exact env.code (its := [.br true, .call [none, none] [] [] true (lam_bit_R x6 x0 u5) (lam_bit_O x6 x0 u5), .pre [[], [0], [], [], [], [2, 3, 4], [2, 3, 4, 5], [0, 1, 2, 3, 4, 5, 6], [0, 1, 2, 3, 4, 5, 6, 7], [0, 1, 2, 3, 4, 5, 6, 7, 8]], .call [none, none, none] [] [] true (lam_secret_R x1 x0 u5 u7) (lam_secret_O x1 x0 u5 u7), .pre [[], [0], [], [], [], [4], [2, 3, 4, 5], [2, 3, 4, 5, 6], [2, 3, 4, 5, 6, 7], [0, 1, 2, 3, 4, 5, 6, 7, 8], [0, 1, 2, 3, 4, 5, 6, 7, 8, 9], [0, 1, 2, 3, 4, 5, 6, 7, 8, 9, 10]], .call [none, none, none] [] [] true (lam_secret_R x1 x0 (w64 ((1 : Int) - u5)) u10) (lam_secret_O x1 x0 (w64 ((1 : Int) - u5)) u10), .call [none] [] [] true (lam_public_R u10 u12) (lam_public_O u10 u12), .sel [2, 4, 5, 6, 12] [0, 1, 2, 7, 9, 5]]) (.c h4 (.c (lam_bit_ok x6 x0 u5 h6) (.c (lam_secret_ok x1 x0 u5 u7 h8) (.c h9 (.c (lam_secret_ok x1 x0 (w64 ((1 : Int) - u5)) u10 h11) (.c (lam_public_ok u10 u12 h13) (.c h14 .n))))))) (by kernel_rfl)
  · injection h with h; subst h
    exact ⟨by intro e; simp [lam_Sign_1_ex] at e, env.code (its := [.br false, .sel [4, 5] [1, 2, 3, 4]]) (.c h4 .n) (by kernel_rfl)⟩
theorem lam_Sign_1_ok (x0 : Int) (x1 : List UInt8) (x2 : Unit) (x3 : Unit) (x4 : List (List UInt8)) (x5 : List (List UInt8)) (x6 : List UInt8) (o : Unit × Unit × List (List UInt8) × List (List UInt8)) (h : lam_Sign_1 x0 x1 x2 x3 x4 x5 x6 = some o) : CodeOK prog (codeAt (bodyOf f70) [1, 1, 1, 0, 1, 0]) (lam_Sign_1_in x0 x1 x2 x3 x4 x5 x6) (lam_Sign_1_ex o) (lam_Sign_1_st o) :=
  LoopOK.of_step (st := fun s => lam_Sign_1_in s.1 x1 x2 x3 s.2.1 s.2.2 x6) (ex := lam_Sign_1_ex) (stO := lam_Sign_1_st) (fun s s2 hs => lam_Sign_1_body s.1 x1 x2 x3 s.2.1 s.2.2 x6 (.inl s2) hs) (fun s r hs => lam_Sign_1_body s.1 x1 x2 x3 s.2.1 s.2.2 x6 (.inr r) hs) _ o h
def lam_Sign_R (a0 : List UInt8) (a1 : List UInt8) (u : List (List UInt8) × List (List UInt8) × Unit) : Slot := (.v (.fld (.slice (.arr 32 (.int .u8))) (.fld (.slice (.arr 32 (.int .u8))) .unit)) u)
def lam_Sign_O (a0 : List UInt8) (a1 : List UInt8) (u : List (List UInt8) × List (List UInt8) × Unit) : List AObj := []
theorem lam_Sign_ok (a0 : List UInt8) (a1 : List UInt8) (u : List (List UInt8) × List (List UInt8) × Unit) (h : lam_Sign a0 a1 = some u) : CallC prog 70 [(.v (.arr 32 (.int .u8)) a0), (.v (.slice (.int .u8)) a1)] [] (lam_Sign_R a0 a1 u) (lam_Sign_O a0 a1 u) := by
  unfold lam_Sign at h
  obtain ⟨u1, h2, h⟩ := andThen_some h
  obtain ⟨o15, h16, h⟩ := andThen_some h
  injection h with h; subst h
  exact env.fun func70 can70 (its := [.call [none, none] [] [3] true (sha_Tagged_R (109 : UInt8) ([a1] : List (List UInt8)) u1) (sha_Tagged_O (109 : UInt8) ([a1] : List (List UInt8)) u1), .dive, .promoteObj 2 [.fld 0], .promoteObj 2 [.fld 1], .sel [2, 4, 5, 6, 12] [0, 1, 2, 5, 6, 4], .part (lam_Sign_1_ex o15) (lam_Sign_1_st o15)]) (pos := [.sel []]) (.c (sha_Tagged_ok (109 : UInt8) ([a1] : List (List UInt8)) u1 h2) (.c (lam_Sign_1_ok (0 : Int) a0 (()) (()) ([] : List (List UInt8)) ([] : List (List UInt8)) u1 o15 h16) .n)) (by kernel_rfl)
theorem can56 : Callable prog 56 := ⟨_, func56, by kernel_rfl, by kernel_rfl⟩
def tree_left_1_in (x0 : Int) (x1 : Int) : St := ⟨[(0, (.v (.int .i64) x0)), (3, (.v (.int .i64) x1))], [], 11, 0⟩
def tree_left_1_ex (o : Int) : Exit := (.exit 0)
def tree_left_1_st (o : Int) : St := ⟨[(3, (.v (.int .i64) o))], [], 11, 0⟩
theorem tree_left_1_body (x0 : Int) (x1 : Int) : ∀ r, tree_left_1_step x0 x1 = some r → (match r with | .inl s => CodeOK prog (codeAt (bodyOf f56) [1, 1, 0, 0, 0]) (tree_left_1_in x0 x1) .normal (tree_left_1_in x0 s) | .inr o => tree_left_1_ex o ≠ .normal ∧ CodeOK prog (codeAt (bodyOf f56) [1, 1, 0, 0, 0]) (tree_left_1_in x0 x1) (tree_left_1_ex o) (tree_left_1_st o)) := by
  intro r h
  unfold tree_left_1_step at h
  rcases fork_some h with ⟨h2, h⟩ | ⟨h2, h⟩
  · injection h with h; subst h
    exact env.code (its := [.br true, .dive, .sel [0, 3] []]) (.c h2 .n) (by kernel_rfl)
  · injection h with h; subst h
    exact ⟨by intro e; simp [tree_left_1_ex] at e, env.code (its := [.br false, .sel [3] []]) (.c h2 .n) (by kernel_rfl)⟩
theorem tree_left_1_ok (x0 : Int) (x1 : Int) (o : Int) (h : tree_left_1 x0 x1 = some o) : CodeOK prog (codeAt (bodyOf f56) [1, 1, 0, 0]) (tree_left_1_in x0 x1) (tree_left_1_ex o) (tree_left_1_st o) :=
  LoopOK.of_step (st := fun s => tree_left_1_in x0 s) (ex := tree_left_1_ex) (stO := tree_left_1_st) (fun s s2 hs => tree_left_1_body x0 s (.inl s2) hs) (fun s r hs => tree_left_1_body x0 s (.inr r) hs) _ o h
def tree_left_R (a0 : Int) (u : Int) : Slot := (.v (.int .i64) u)
def tree_left_O (a0 : Int) (u : Int) : List AObj := []
theorem tree_left_ok (a0 : Int) (u : Int) (h : tree_left a0 = some u) : CallC prog 56 [(.v (.int .i64) a0)] [] (tree_left_R a0 u) (tree_left_O a0 u) := by
  unfold tree_left at h
  obtain ⟨o3, h4, h⟩ := andThen_some h
  injection h with h; subst h
  exact env.fun func56 can56 (its := [.dive, .sel [0, 3] [], .part (tree_left_1_ex o3) (tree_left_1_st o3)]) (pos := [.sel []]) (.c (tree_left_1_ok a0 (1 : Int) o3 h4) .n) (by kernel_rfl)
theorem can57 : Callable prog 57 := ⟨_, func57, by kernel_rfl, by kernel_rfl⟩
def tree_inner_R (a0 : List UInt8) (a1 : List UInt8) (u : List UInt8) : Slot := (.v (.arr 32 (.int .u8)) u)
def tree_inner_O (a0 : List UInt8) (a1 : List UInt8) (u : List UInt8) : List AObj := []
theorem tree_inner_ok (a0 : List UInt8) (a1 : List UInt8) (u : List UInt8) (h : tree_inner a0 a1 = some u) : CallC prog 57 [(.v (.arr 32 (.int .u8)) a0), (.v (.arr 32 (.int .u8)) a1)] [] (tree_inner_R a0 a1 u) (tree_inner_O a0 a1 u) := by
  unfold tree_inner at h
  obtain ⟨u1, h2, h⟩ := andThen_some h
  injection h with h; subst h
  exact env.fun func57 can57 (its := [.pre [[], [], [0, 1], [0, 1, 2], [0, 1, 2, 3]], .br true, .br true, .call [none, none] [] [0] true (sha_Tagged_R (1 : UInt8) ([a0, a1] : List (List UInt8)) u1) (sha_Tagged_O (1 : UInt8) ([a0, a1] : List (List UInt8)) u1)]) (pos := [.sel []]) (.c (sha_Tagged_ok (1 : UInt8) ([a0, a1] : List (List UInt8)) u1 h2) .n) (by kernel_rfl)
theorem can23 : Callable prog 23 := ⟨_, func23, by kernel_rfl, by kernel_rfl⟩
def tree_Root_R (a0 : List (List UInt8)) (u : List UInt8) : Slot := (.v (.arr 32 (.int .u8)) u)
def tree_Root_O (a0 : List (List UInt8)) (u : List UInt8) : List AObj := []
theorem tree_Root_f_ok : ∀ (k : Nat) (a0 : List (List UInt8)) (u : List UInt8) (h : tree_Root_f k a0 = some u), CallC prog 23 [(.v (.slice (.slice (.int .u8))) a0)] [] (tree_Root_R a0 u) (tree_Root_O a0 u)
  | 0, a0, u, h => by cases h
  | k + 1, a0, u, h => by
    unfold tree_Root_f at h
    rcases fork_some h with ⟨h1, h⟩ | ⟨h1, h⟩
    · obtain ⟨u2, h3, h⟩ := andThen_some h
      injection h with h; subst h
      exact env.fun func23 can23 (its := [.br true, .call [none, (some (.slice (.int .u8)))] [] [] true (sha_Tagged_R (2 : UInt8) ([] : List (List UInt8)) u2) (sha_Tagged_O (2 : UInt8) ([] : List (List UInt8)) u2)]) (pos := [.sel []]) (.c h1 (.c (sha_Tagged_ok (2 : UInt8) ([] : List (List UInt8)) u2 h3) .n)) (by kernel_rfl)
    · rcases fork_some h with ⟨h4, h⟩ | ⟨h4, h⟩
      · obtain ⟨h5, h⟩ := need_some h
        obtain ⟨u6, h7, h⟩ := andThen_some h
        injection h with h; subst h
        exact env.fun func23 can23 (its := [.br false, .br true, .call [none, none] [] [1] true (sha_Tagged_R (0 : UInt8) ([(List.getD a0 (Int.toNat (0 : Int)) ([] : List UInt8))] : List (List UInt8)) u6) (sha_Tagged_O (0 : UInt8) ([(List.getD a0 (Int.toNat (0 : Int)) ([] : List UInt8))] : List (List UInt8)) u6)]) (pos := [.sel []]) (.c h1 (.c h4 (.c h5 (.c (sha_Tagged_ok (0 : UInt8) ([(List.getD a0 (Int.toNat (0 : Int)) ([] : List UInt8))] : List (List UInt8)) u6 h7) .n)))) (by kernel_rfl)
      · obtain ⟨u8, h9, h⟩ := andThen_some h
        obtain ⟨h10, h⟩ := need_some h
        obtain ⟨u11, h12, h⟩ := andThen_some h
        obtain ⟨h13, h⟩ := need_some h
        obtain ⟨u14, h15, h⟩ := andThen_some h
        obtain ⟨u16, h17, h⟩ := andThen_some h
        injection h with h; subst h
        exact env.fun func23 can23 (its := [.br false, .br false, .call [none] [] [] true (tree_left_R (List.length a0 : Int) u8) (tree_left_O (List.length a0 : Int) u8), .pre [[], [], [0, 1], [0, 1, 2], [], [], [4, 5], [0, 1, 2, 3, 4, 5, 6], [0, 1, 2, 3, 4, 5, 6, 7], [0, 1, 2, 3, 4, 5, 6, 7, 8]], .br false, .call [none] [] [] true (tree_Root_R (cutL a0 (0 : Int) u8) u11) (tree_Root_O (cutL a0 (0 : Int) u8) u11), .br false, .call [none] [] [] true (tree_Root_R (cutL a0 u8 (List.length a0 : Int)) u14) (tree_Root_O (cutL a0 u8 (List.length a0 : Int)) u14), .call [none, none] [] [] true (tree_inner_R u11 u14 u16) (tree_inner_O u11 u14 u16)]) (pos := [.sel []]) (.c h1 (.c h4 (.c (tree_left_ok (List.length a0 : Int) u8 h9) (.c h10 (.c (tree_Root_f_ok k (cutL a0 (0 : Int) u8) u11 h12) (.c h13 (.c (tree_Root_f_ok k (cutL a0 u8 (List.length a0 : Int)) u14 h15) (.c (tree_inner_ok u11 u14 u16 h17) .n)))))))) (by kernel_rfl)
theorem tree_Root_ok (a0 : List (List UInt8)) (u : List UInt8) (h : tree_Root a0 = some u) : CallC prog 23 [(.v (.slice (.slice (.int .u8))) a0)] [] (tree_Root_R a0 u) (tree_Root_O a0 u) := tree_Root_f_ok 64 a0 u h
theorem can58 : Callable prog 58 := ⟨_, func58, by kernel_rfl, by kernel_rfl⟩
def slices_Reverse_LHash_Hash_8d4f_1_in (x0 : Int) (x1 : Int) (x2 : List (List UInt8)) : St := ⟨[(0, (.own 0 [])), (2, (.v (.int .i64) x0)), (3, (.v (.int .i64) x1))], [.row (.arr 32 (.int .u8)) x2 true], 28, 1⟩
def slices_Reverse_LHash_Hash_8d4f_1_ex (o : List (List UInt8)) : Exit := (.exit 0)
def slices_Reverse_LHash_Hash_8d4f_1_st (o : List (List UInt8)) : St := ⟨[], [.row (.arr 32 (.int .u8)) o true], 28, 1⟩
theorem slices_Reverse_LHash_Hash_8d4f_1_body (x0 : Int) (x1 : Int) (x2 : List (List UInt8)) : ∀ r, slices_Reverse_LHash_Hash_8d4f_1_step x0 x1 x2 = some r → (match r with | .inl s => CodeOK prog (codeAt (bodyOf f58) [1, 0, 0]) (slices_Reverse_LHash_Hash_8d4f_1_in x0 x1 x2) .normal (slices_Reverse_LHash_Hash_8d4f_1_in s.1 s.2.1 s.2.2) | .inr o => slices_Reverse_LHash_Hash_8d4f_1_ex o ≠ .normal ∧ CodeOK prog (codeAt (bodyOf f58) [1, 0, 0]) (slices_Reverse_LHash_Hash_8d4f_1_in x0 x1 x2) (slices_Reverse_LHash_Hash_8d4f_1_ex o) (slices_Reverse_LHash_Hash_8d4f_1_st o)) := by
  intro r h
  unfold slices_Reverse_LHash_Hash_8d4f_1_step at h
  rcases fork_some h with ⟨h2, h⟩ | ⟨h2, h⟩
  · obtain ⟨h3, h⟩ := need_some h
    obtain ⟨h4, h⟩ := need_some h
    obtain ⟨h5, h⟩ := need_some h
    injection h with h; subst h
    exact env.code (its := [.br true, .pre [[], [], [], [], [], [], [4, 5], [4, 5, 6], [], [], [8, 9], [8, 9, 10], [0, 1, 4, 5, 6, 7, 8, 9, 10, 11], [0, 1, 4, 5, 6, 7, 8, 9, 10, 11, 12], [0, 1, 2, 3, 4, 5, 6, 7, 8, 9, 10, 11, 12, 13], [0, 1, 2, 3, 4, 5, 6, 7, 8, 9, 10, 11, 12, 13, 14]], .sel [0, 2, 3] [0]]) (.c h2 (.c h3 (.c h4 (.c h4 (.c h5 .n))))) (by kernel_rfl)
  · injection h with h; subst h
    exact ⟨by intro e; simp [slices_Reverse_LHash_Hash_8d4f_1_ex] at e, env.code (its := [.br false, .sel [] [0]]) (.c h2 .n) (by kernel_rfl)⟩
theorem slices_Reverse_LHash_Hash_8d4f_1_ok (x0 : Int) (x1 : Int) (x2 : List (List UInt8)) (o : List (List UInt8)) (h : slices_Reverse_LHash_Hash_8d4f_1 x0 x1 x2 = some o) : CodeOK prog (codeAt (bodyOf f58) [1, 0]) (slices_Reverse_LHash_Hash_8d4f_1_in x0 x1 x2) (slices_Reverse_LHash_Hash_8d4f_1_ex o) (slices_Reverse_LHash_Hash_8d4f_1_st o) :=
  LoopOK.of_step (st := fun s => slices_Reverse_LHash_Hash_8d4f_1_in s.1 s.2.1 s.2.2) (ex := slices_Reverse_LHash_Hash_8d4f_1_ex) (stO := slices_Reverse_LHash_Hash_8d4f_1_st) (fun s s2 hs => slices_Reverse_LHash_Hash_8d4f_1_body s.1 s.2.1 s.2.2 (.inl s2) hs) (fun s r hs => slices_Reverse_LHash_Hash_8d4f_1_body s.1 s.2.1 s.2.2 (.inr r) hs) _ o h
def slices_Reverse_LHash_Hash_8d4f_R (a0 : List (List UInt8)) (u : List (List UInt8)) : Slot := .tnil
def slices_Reverse_LHash_Hash_8d4f_O (a0 : List (List UInt8)) (u : List (List UInt8)) : List AObj := [.row (.arr 32 (.int .u8)) u true]
theorem slices_Reverse_LHash_Hash_8d4f_ok (a0 : List (List UInt8)) (u : List (List UInt8)) (h : slices_Reverse_LHash_Hash_8d4f a0 = some u) : CallC prog 58 [(.own 0 [])] [.row (.arr 32 (.int .u8)) a0 true] (slices_Reverse_LHash_Hash_8d4f_R a0 u) (slices_Reverse_LHash_Hash_8d4f_O a0 u) := by
  unfold slices_Reverse_LHash_Hash_8d4f at h
  obtain ⟨o6, h7, h⟩ := andThen_some h
  injection h with h; subst h
  exact env.fun func58 can58 (its := [.dive, .sel [0, 2, 3] [0], .part (slices_Reverse_LHash_Hash_8d4f_1_ex o6) (slices_Reverse_LHash_Hash_8d4f_1_st o6)]) (pos := [.sel [0]]) (.c (slices_Reverse_LHash_Hash_8d4f_1_ok (0 : Int) (w64 ((List.length a0 : Int) - (1 : Int))) a0 o6 h7) .n) (by kernel_rfl)
theorem can24 : Callable prog 24 := ⟨_, func24, by kernel_rfl, by kernel_rfl⟩
def tree_Path_1_in (x0 : List (List UInt8)) (x1 : Int) (x2 : List (List UInt8)) : St := ⟨[(0, (.v (.slice (.slice (.int .u8))) x0)), (1, (.v (.int .i64) x1)), (5, (.own 0 []))], [.row (.arr 32 (.int .u8)) x2 true], 50, 0⟩
def tree_Path_1_ex (o : List (List UInt8)) : Exit := (.exit 0)
def tree_Path_1_st (o : List (List UInt8)) : St := ⟨[(5, (.own 0 []))], [.row (.arr 32 (.int .u8)) o true], 50, 0⟩
theorem tree_Path_1_body (x0 : List (List UInt8)) (x1 : Int) (x2 : List (List UInt8)) : ∀ r, tree_Path_1_step x0 x1 x2 = some r → (match r with | .inl s => CodeOK prog (codeAt (bodyOf f24) [1, 1, 1, 0, 0, 0]) (tree_Path_1_in x0 x1 x2) .normal (tree_Path_1_in s.1 s.2.1 s.2.2) | .inr o => tree_Path_1_ex o ≠ .normal ∧ CodeOK prog (codeAt (bodyOf f24) [1, 1, 1, 0, 0, 0]) (tree_Path_1_in x0 x1 x2) (tree_Path_1_ex o) (tree_Path_1_st o)) := by
  intro r h
  unfold tree_Path_1_step at h
  rcases fork_some h with ⟨h4, h⟩ | ⟨h4, h⟩
  · obtain ⟨u5, h6, h⟩ := andThen_some h
    rcases fork_some h with ⟨h7, h⟩ | ⟨h7, h⟩
    · obtain ⟨h8, h⟩ := need_some h
      obtain ⟨u9, h10, h⟩ := andThen_some h
      obtain ⟨h11, h⟩ := need_some h
      obtain ⟨h12, h⟩ := need_some h
      injection h with h; subst h
      exact env.code (its := [.br true, .call [none] [] [] true (tree_left_R (List.length x0 : Int) u5) (tree_left_O (List.length x0 : Int) u5), .br true, .br false, .call [none] [] [] true (tree_Root_R (cutL x0 u5 (List.length x0 : Int)) u9) (tree_Root_O (cutL x0 u5 (List.length x0 : Int)) u9), .br false, .sel [0, 1, 5] [2]]) (.c h4 (.c (tree_left_ok (List.length x0 : Int) u5 h6) (.c h7 (.c h8 (.c (tree_Root_ok (cutL x0 u5 (List.length x0 : Int)) u9 h10) (.c h11 (.c h12 .n))))))) (by kernel_rfl)
    · obtain ⟨h13, h⟩ := need_some h
      obtain ⟨u14, h15, h⟩ := andThen_some h
      obtain ⟨h16, h⟩ := need_some h
      obtain ⟨h17, h⟩ := need_some h
      injection h with h; subst h
      exact env.code (its := [.br true, .call [none] [] [] true (tree_left_R (List.length x0 : Int) u5) (tree_left_O (List.length x0 : Int) u5), .br false, .br false, .call [none] [] [] true (tree_Root_R (cutL x0 (0 : Int) u5) u14) (tree_Root_O (cutL x0 (0 : Int) u5) u14), .br false, .sel [0, 1, 5] [2]]) (.c h4 (.c (tree_left_ok (List.length x0 : Int) u5 h6) (.c h7 (.c h13 (.c (tree_Root_ok (cutL x0 (0 : Int) u5) u14 h15) (.c h16 (.c h17 .n))))))) (by kernel_rfl)
  · injection h with h; subst h
    exact ⟨by intro e; simp [tree_Path_1_ex] at e, env.code (its := [.br false, .sel [5] [0]]) (.c h4 .n) (by kernel_rfl)⟩
theorem tree_Path_1_ok (x0 : List (List UInt8)) (x1 : Int) (x2 : List (List UInt8)) (o : List (List UInt8)) (h : tree_Path_1 x0 x1 x2 = some o) : CodeOK prog (codeAt (bodyOf f24) [1, 1, 1, 0, 0]) (tree_Path_1_in x0 x1 x2) (tree_Path_1_ex o) (tree_Path_1_st o) :=
  LoopOK.of_step (st := fun s => tree_Path_1_in s.1 s.2.1 s.2.2) (ex := tree_Path_1_ex) (stO := tree_Path_1_st) (fun s s2 hs => tree_Path_1_body s.1 s.2.1 s.2.2 (.inl s2) hs) (fun s r hs => tree_Path_1_body s.1 s.2.1 s.2.2 (.inr r) hs) _ o h
def tree_Path_R (a0 : List (List UInt8)) (a1 : Int) (u : List (List UInt8)) : Slot := (.own 0 [])
def tree_Path_O (a0 : List (List UInt8)) (a1 : Int) (u : List (List UInt8)) : List AObj := [.row (.arr 32 (.int .u8)) u true]
theorem tree_Path_ok (a0 : List (List UInt8)) (a1 : Int) (u : List (List UInt8)) (h : tree_Path a0 a1 = some u) : CallC prog 24 [(.v (.slice (.slice (.int .u8))) a0), (.v (.int .i64) a1)] [] (tree_Path_R a0 a1 u) (tree_Path_O a0 a1 u) := by
  unfold tree_Path at h
  rcases fork_some h with ⟨h1, h⟩ | ⟨h1, h⟩
  · injection h with h; subst h
    exact env.fun func24 can24 (its := [.br true, .br true, .br true, .br true, .br true, .br true]) (pos := [.promote (.arr 32 (.int .u8)), .sel [0]]) (.c h1 (.c h1 (.c h1 (.c h1 (.c h1 (.c (rfl : (true : Bool) = true) .n)))))) (by kernel_rfl)
  · rcases fork_some h with ⟨h2, h⟩ | ⟨h2, h⟩
    · injection h with h; subst h
      exact env.fun func24 can24 (its := [.br false, .br false, .br false, .br false, .br false, .br true]) (pos := [.promote (.arr 32 (.int .u8)), .sel [0]]) (.c h1 (.c h1 (.c h1 (.c h1 (.c h1 (.c h2 .n)))))) (by kernel_rfl)
    · obtain ⟨o18, h19, h⟩ := andThen_some h
      obtain ⟨u20, h21, h⟩ := andThen_some h
      injection h with h; subst h
      exact env.fun func24 can24 (its := [.br false, .br false, .br false, .br false, .br false, .br false, .dive, .promote 5 (.arr 32 (.int .u8)), .sel [0, 1, 5] [0], .part (tree_Path_1_ex o18) (tree_Path_1_st o18), .call [none] [0] [] true (slices_Reverse_LHash_Hash_8d4f_R o18 u20) (slices_Reverse_LHash_Hash_8d4f_O o18 u20)]) (pos := [.sel [0]]) (.c h1 (.c h1 (.c h1 (.c h1 (.c h1 (.c h2 (.c (tree_Path_1_ok a0 a1 ([] : List (List UInt8)) o18 h19) (.c (slices_Reverse_LHash_Hash_8d4f_ok o18 u20 h21) .n)))))))) (by kernel_rfl)
theorem can41 : Callable prog 41 := ⟨_, func41, by kernel_rfl, by kernel_rfl⟩
def ring_By_R (a0 : List (List UInt8)) (a1 : List UInt8) (a2 : Int) (a3 : List UInt8) (u : Int × (List (List UInt8) × List (List UInt8) × Unit) × List (List UInt8) × Unit) : Slot := (.v (.fld (.int .i64) (.fld (.fld (.slice (.arr 32 (.int .u8))) (.fld (.slice (.arr 32 (.int .u8))) .unit)) (.fld (.slice (.arr 32 (.int .u8))) .unit))) u)
def ring_By_O (a0 : List (List UInt8)) (a1 : List UInt8) (a2 : Int) (a3 : List UInt8) (u : Int × (List (List UInt8) × List (List UInt8) × Unit) × List (List UInt8) × Unit) : List AObj := []
theorem ring_By_ok (a0 : List (List UInt8)) (a1 : List UInt8) (a2 : Int) (a3 : List UInt8) (u : Int × (List (List UInt8) × List (List UInt8) × Unit) × List (List UInt8) × Unit) (h : ring_By a0 a1 a2 a3 = some u) : CallC prog 41 [(.v (.slice (.slice (.int .u8))) a0), (.v (.arr 32 (.int .u8)) a1), (.v (.int .i64) a2), (.v (.slice (.int .u8)) a3)] [] (ring_By_R a0 a1 a2 a3 u) (ring_By_O a0 a1 a2 a3 u) := by
  unfold ring_By at h
  obtain ⟨u1, h2, h⟩ := andThen_some h
  rcases fork_some h with ⟨h3, h⟩ | ⟨h3, h⟩
  · injection h with h; subst h
    exact env.fun func41 can41 (its := [.call [none] [] [] true (ring_is_R a2 u1) (ring_is_O a2 u1), .br true]) (pos := [.sel []]) (.c (ring_is_ok a2 u1 h2) (.c h3 .n)) (by kernel_rfl)
  · obtain ⟨u4, h5, h⟩ := andThen_some h
    obtain ⟨u6, h7, h⟩ := andThen_some h
    obtain ⟨u8, h9, h⟩ := andThen_some h
    injection h with h; subst h
    exact env.fun func41 can41 (its := [.call [none] [] [] true (ring_is_R a2 u1) (ring_is_O a2 u1), .br false, .call [none, none] [] [] true (ring_Seed_R a1 a2 u4) (ring_Seed_O a1 a2 u4), .call [none, none] [] [] false (lam_Sign_R u4 a3 u6) (lam_Sign_O u4 a3 u6), .call [none, none] [] [] true (tree_Path_R a0 (w64 (a2 - (1 : Int))) u8) (tree_Path_O a0 (w64 (a2 - (1 : Int))) u8)]) (pos := [.sel []]) (.c (ring_is_ok a2 u1 h2) (.c h3 (.c (ring_Seed_ok a1 a2 u4 h5) (.c (lam_Sign_ok u4 a3 u6 h7) (.c (tree_Path_ok a0 (w64 (a2 - (1 : Int))) u8 h9) .n))))) (by kernel_rfl)
theorem can11 : Callable prog 11 := ⟨_, func11, by kernel_rfl, by kernel_rfl⟩
def ring_Sign_R (a0 : List UInt8) (a1 : Int) (a2 : List UInt8) (u : Int × (List (List UInt8) × List (List UInt8) × Unit) × List (List UInt8) × Unit) : Slot := (.v (.fld (.int .i64) (.fld (.fld (.slice (.arr 32 (.int .u8))) (.fld (.slice (.arr 32 (.int .u8))) .unit)) (.fld (.slice (.arr 32 (.int .u8))) .unit))) u)
def ring_Sign_O (a0 : List UInt8) (a1 : Int) (a2 : List UInt8) (u : Int × (List (List UInt8) × List (List UInt8) × Unit) × List (List UInt8) × Unit) : List AObj := []
theorem ring_Sign_ok (a0 : List UInt8) (a1 : Int) (a2 : List UInt8) (u : Int × (List (List UInt8) × List (List UInt8) × Unit) × List (List UInt8) × Unit) (h : ring_Sign a0 a1 a2 = some u) : CallC prog 11 [(.v (.arr 32 (.int .u8)) a0), (.v (.int .i64) a1), (.v (.slice (.int .u8)) a2)] [] (ring_Sign_R a0 a1 a2 u) (ring_Sign_O a0 a1 a2 u) := by
  unfold ring_Sign at h
  obtain ⟨u1, h2, h⟩ := andThen_some h
  obtain ⟨u3, h4, h⟩ := andThen_some h
  injection h with h; subst h
  exact env.fun func11 can11 (its := [.pre [[], [0], [], [], [], [0, 1, 2, 3, 4], [0, 1, 2, 3, 4, 5]], .call [none] [] [] false (ring_Keys_R a0 u1) (ring_Keys_O a0 u1), .call [none, none, none, none] [] [0] false (ring_By_R u1 a0 a1 a2 u3) (ring_By_O u1 a0 a1 a2 u3)]) (pos := [.sel []]) (.c (ring_Keys_ok a0 u1 h2) (.c (ring_By_ok u1 a0 a1 a2 u3 h4) .n)) (by kernel_rfl)
theorem can12 : Callable prog 12 := ⟨_, func12, by kernel_rfl, by kernel_rfl⟩
def ring_Ident_R (a0 : List UInt8) (u : List UInt8) : Slot := (.v (.arr 32 (.int .u8)) u)
def ring_Ident_O (a0 : List UInt8) (u : List UInt8) : List AObj := []
theorem ring_Ident_ok (a0 : List UInt8) (u : List UInt8) (h : ring_Ident a0 = some u) : CallC prog 12 [(.v (.arr 32 (.int .u8)) a0)] [] (ring_Ident_R a0 u) (ring_Ident_O a0 u) := by
  unfold ring_Ident at h
  obtain ⟨u1, h2, h⟩ := andThen_some h
  obtain ⟨u3, h4, h⟩ := andThen_some h
  injection h with h; subst h
  exact env.fun func12 can12 (its := [.call [none] [] [] false (ring_Keys_R a0 u1) (ring_Keys_O a0 u1), .call [none] [] [2] true (tree_Root_R u1 u3) (tree_Root_O u1 u3)]) (pos := [.sel []]) (.c (ring_Keys_ok a0 u1 h2) (.c (tree_Root_ok u1 u3 h4) .n)) (by kernel_rfl)
theorem can16 : Callable prog 16 := ⟨_, func16, by kernel_rfl, by kernel_rfl⟩
def affiantbook_Same_Hash_1_in (x0 : List (List UInt8)) (x1 : List (List UInt8)) (x2 : Int) : St := ⟨[(0, (.v (.slice (.arr 32 (.int .u8))) x0)), (1, (.v (.slice (.arr 32 (.int .u8))) x1)), (5, (.v (.int .i64) x2))], [], 26, 0⟩
def affiantbook_Same_Hash_1_ex (o : (Bool) ⊕ (Unit)) : Exit := match o with | (.inl o) => .ret | (.inr o) => (.exit 0)
def affiantbook_Same_Hash_1_st (o : (Bool) ⊕ (Unit)) : St := match o with | (.inl o) => ⟨[(4, (.v .bool o))], [], 26, 0⟩ | (.inr o) => ⟨[], [], 26, 0⟩
theorem affiantbook_Same_Hash_1_body (x0 : List (List UInt8)) (x1 : List (List UInt8)) (x2 : Int) : ∀ r, affiantbook_Same_Hash_1_step x0 x1 x2 = some r → (match r with | .inl s => CodeOK prog (codeAt (bodyOf f16) [1, 1, 0, 1, 0, 0]) (affiantbook_Same_Hash_1_in x0 x1 x2) .normal (affiantbook_Same_Hash_1_in x0 x1 s) | .inr o => affiantbook_Same_Hash_1_ex o ≠ .normal ∧ CodeOK prog (codeAt (bodyOf f16) [1, 1, 0, 1, 0, 0]) (affiantbook_Same_Hash_1_in x0 x1 x2) (affiantbook_Same_Hash_1_ex o) (affiantbook_Same_Hash_1_st o)) := by
  intro r h
  unfold affiantbook_Same_Hash_1_step at h
  rcases fork_some h with ⟨h3, h⟩ | ⟨h3, h⟩
  · obtain ⟨h4, h⟩ := need_some h
    obtain ⟨h5, h⟩ := need_some h
    rcases fork_some h with ⟨h6, h⟩ | ⟨h6, h⟩
    · injection h with h; subst h
      exact ⟨by intro e; simp [affiantbook_Same_Hash_1_ex] at e, env.code (its := [.br true, .pre [[], [], [0, 1], [0, 1, 2], [], [], [4, 5], [4, 5, 6], [0, 1, 2, 3, 4, 5, 6, 7]], .br true, .sel [4] []]) (.c h3 (.c h4 (.c h5 (.c h6 .n)))) (by kernel_rfl)⟩
    · injection h with h; subst h
      exact env.code (its := [.br true, .pre [[], [], [0, 1], [0, 1, 2], [], [], [4, 5], [4, 5, 6], [0, 1, 2, 3, 4, 5, 6, 7]], .br false, .sel [0, 1, 5] []]) (.c h3 (.c h4 (.c h5 (.c h6 .n)))) (by kernel_rfl)
  · injection h with h; subst h
    exact ⟨by intro e; simp [affiantbook_Same_Hash_1_ex] at e, env.code (its := [.br false, .sel [] []]) (.c h3 .n) (by kernel_rfl)⟩
theorem affiantbook_Same_Hash_1_ok (x0 : List (List UInt8)) (x1 : List (List UInt8)) (x2 : Int) (o : (Bool) ⊕ (Unit)) (h : affiantbook_Same_Hash_1 x0 x1 x2 = some o) : CodeOK prog (codeAt (bodyOf f16) [1, 1, 0, 1, 0]) (affiantbook_Same_Hash_1_in x0 x1 x2) (affiantbook_Same_Hash_1_ex o) (affiantbook_Same_Hash_1_st o) :=
  LoopOK.of_step (st := fun s => affiantbook_Same_Hash_1_in x0 x1 s) (ex := affiantbook_Same_Hash_1_ex) (stO := affiantbook_Same_Hash_1_st) (fun s s2 hs => affiantbook_Same_Hash_1_body x0 x1 s (.inl s2) hs) (fun s r hs => affiantbook_Same_Hash_1_body x0 x1 s (.inr r) hs) _ o h
def affiantbook_Same_Hash_R (a0 : List (List UInt8)) (a1 : List (List UInt8)) (u : Bool) : Slot := (.v .bool u)
def affiantbook_Same_Hash_O (a0 : List (List UInt8)) (a1 : List (List UInt8)) (u : Bool) : List AObj := []
theorem affiantbook_Same_Hash_ok (a0 : List (List UInt8)) (a1 : List (List UInt8)) (u : Bool) (h : affiantbook_Same_Hash a0 a1 = some u) : CallC prog 16 [(.v (.slice (.arr 32 (.int .u8))) a0), (.v (.slice (.arr 32 (.int .u8))) a1)] [] (affiantbook_Same_Hash_R a0 a1 u) (affiantbook_Same_Hash_O a0 a1 u) := by
  unfold affiantbook_Same_Hash at h
  rcases fork_some h with ⟨h1, h⟩ | ⟨h1, h⟩
  · injection h with h; subst h
    exact env.fun func16 can16 (its := [.br true]) (pos := [.sel []]) (.c h1 .n) (by kernel_rfl)
  · obtain ⟨o7, h8, h⟩ := andThen_some h
    rcases o7 with o9 | o10
    · injection h with h; subst h
      exact env.fun func16 can16 (its := [.br false, .dive, .sel [0, 1, 5] [], .part (affiantbook_Same_Hash_1_ex (.inl o9)) (affiantbook_Same_Hash_1_st (.inl o9))]) (pos := [.sel []]) (.c h1 (.c (affiantbook_Same_Hash_1_ok a0 a1 (0 : Int) (.inl o9) h8) .n)) (by kernel_rfl)
    · injection h with h; subst h
      exact env.fun func16 can16 (its := [.br false, .dive, .sel [0, 1, 5] [], .part (affiantbook_Same_Hash_1_ex (.inr o10)) (affiantbook_Same_Hash_1_st (.inr o10))]) (pos := [.sel []]) (.c h1 (.c (affiantbook_Same_Hash_1_ok a0 a1 (0 : Int) (.inr o10) h8) .n)) (by kernel_rfl)
theorem can59 : Callable prog 59 := ⟨_, func59, by kernel_rfl, by kernel_rfl⟩
def tree_is_R (a0 : Int) (a1 : Int) (u : Bool) : Slot := (.v .bool u)
def tree_is_O (a0 : Int) (a1 : Int) (u : Bool) : List AObj := []
theorem tree_is_ok (a0 : Int) (a1 : Int) (u : Bool) (h : tree_is a0 a1 = some u) : CallC prog 59 [(.v (.int .i64) a0), (.v (.int .i64) a1)] [] (tree_is_R a0 a1 u) (tree_is_O a0 a1 u) := by
  unfold tree_is at h
  rcases fork_some h with ⟨h1, h⟩ | ⟨h1, h⟩
  · rcases fork_some h with ⟨h2, h⟩ | ⟨h2, h⟩
    · injection h with h; subst h
      exact env.fun func59 can59 (its := [.br true, .br true, .br true, .br true, .br true, .br true, .br true]) (pos := [.sel []]) (.c h1 (.c h1 (.c h1 (.c h1 (.c h2 (.c h2 (.c h2 .n))))))) (by kernel_rfl)
    · injection h with h; subst h
      exact env.fun func59 can59 (its := [.br true, .br true, .br true, .br true, .br false, .br false, .br false]) (pos := [.sel []]) (.c h1 (.c h1 (.c h1 (.c h1 (.c h2 (.c h2 (.c h2 .n))))))) (by kernel_rfl)
  · injection h with h; subst h
    exact env.fun func59 can59 (its := [.br false, .br false, .br false, .br false, .br false, .br false, .br false]) (pos := [.sel []]) (.c h1 (.c h1 (.c h1 (.c h1 (.c (rfl : (false : Bool) = false) (.c (rfl : (false : Bool) = false) (.c (rfl : (false : Bool) = false) .n))))))) (by kernel_rfl)
theorem can60 : Callable prog 60 := ⟨_, func60, by kernel_rfl, by kernel_rfl⟩
def tree_sides_1_in (x0 : Int) (x1 : Int) (x2 : List Bool) : St := ⟨[(0, (.v (.int .i64) x0)), (1, (.v (.int .i64) x1)), (5, (.own 0 []))], [.row .bool x2 true], 28, 0⟩
def tree_sides_1_ex (o : List Bool) : Exit := (.exit 0)
def tree_sides_1_st (o : List Bool) : St := ⟨[(5, (.own 0 []))], [.row .bool o true], 28, 0⟩
theorem tree_sides_1_body (x0 : Int) (x1 : Int) (x2 : List Bool) : ∀ r, tree_sides_1_step x0 x1 x2 = some r → (match r with | .inl s => CodeOK prog (codeAt (bodyOf f60) [1, 1, 0, 0, 0]) (tree_sides_1_in x0 x1 x2) .normal (tree_sides_1_in s.1 s.2.1 s.2.2) | .inr o => tree_sides_1_ex o ≠ .normal ∧ CodeOK prog (codeAt (bodyOf f60) [1, 1, 0, 0, 0]) (tree_sides_1_in x0 x1 x2) (tree_sides_1_ex o) (tree_sides_1_st o)) := by
  intro r h
  unfold tree_sides_1_step at h
  rcases fork_some h with ⟨h2, h⟩ | ⟨h2, h⟩
  · obtain ⟨u3, h4, h⟩ := andThen_some h
    obtain ⟨h5, h⟩ := need_some h
    rcases fork_some h with ⟨h6, h⟩ | ⟨h6, h⟩
    · injection h with h; subst h
      exact env.code (its := [.br true, .call [none] [] [] true (tree_left_R x1 u3) (tree_left_O x1 u3), .br true, .sel [0, 1, 5] [2]]) (.c h2 (.c (tree_left_ok x1 u3 h4) (.c h5 (.c h6 .n)))) (by kernel_rfl)
    · injection h with h; subst h
      exact env.code (its := [.br true, .call [none] [] [] true (tree_left_R x1 u3) (tree_left_O x1 u3), .br false, .sel [0, 1, 5] [2]]) (.c h2 (.c (tree_left_ok x1 u3 h4) (.c h5 (.c h6 .n)))) (by kernel_rfl)
  · injection h with h; subst h
    exact ⟨by intro e; simp [tree_sides_1_ex] at e, env.code (its := [.br false, .sel [5] [0]]) (.c h2 .n) (by kernel_rfl)⟩
theorem tree_sides_1_ok (x0 : Int) (x1 : Int) (x2 : List Bool) (o : List Bool) (h : tree_sides_1 x0 x1 x2 = some o) : CodeOK prog (codeAt (bodyOf f60) [1, 1, 0, 0]) (tree_sides_1_in x0 x1 x2) (tree_sides_1_ex o) (tree_sides_1_st o) :=
  LoopOK.of_step (st := fun s => tree_sides_1_in s.1 s.2.1 s.2.2) (ex := tree_sides_1_ex) (stO := tree_sides_1_st) (fun s s2 hs => tree_sides_1_body s.1 s.2.1 s.2.2 (.inl s2) hs) (fun s r hs => tree_sides_1_body s.1 s.2.1 s.2.2 (.inr r) hs) _ o h
def tree_sides_R (a0 : Int) (a1 : Int) (u : List Bool) : Slot := (.own 0 [])
def tree_sides_O (a0 : Int) (a1 : Int) (u : List Bool) : List AObj := [.row .bool u true]
theorem tree_sides_ok (a0 : Int) (a1 : Int) (u : List Bool) (h : tree_sides a0 a1 = some u) : CallC prog 60 [(.v (.int .i64) a0), (.v (.int .i64) a1)] [] (tree_sides_R a0 a1 u) (tree_sides_O a0 a1 u) := by
  unfold tree_sides at h
  obtain ⟨o7, h8, h⟩ := andThen_some h
  injection h with h; subst h
  exact env.fun func60 can60 (its := [.dive, .promote 5 .bool, .sel [0, 1, 5] [0], .part (tree_sides_1_ex o7) (tree_sides_1_st o7)]) (pos := [.sel [0]]) (.c (tree_sides_1_ok a0 a1 ([] : List (Bool)) o7 h8) .n) (by kernel_rfl)
theorem can25 : Callable prog 25 := ⟨_, func25, by kernel_rfl, by kernel_rfl⟩
def tree_Depth_R (a0 : Int) (a1 : Int) (u : Int) : Slot := (.v (.int .i64) u)
def tree_Depth_O (a0 : Int) (a1 : Int) (u : Int) : List AObj := []
theorem tree_Depth_ok (a0 : Int) (a1 : Int) (u : Int) (h : tree_Depth a0 a1 = some u) : CallC prog 25 [(.v (.int .i64) a0), (.v (.int .i64) a1)] [] (tree_Depth_R a0 a1 u) (tree_Depth_O a0 a1 u) := by
  unfold tree_Depth at h
  obtain ⟨u1, h2, h⟩ := andThen_some h
  rcases fork_some h with ⟨h3, h⟩ | ⟨h3, h⟩
  · injection h with h; subst h
    exact env.fun func25 can25 (its := [.call [none, none] [] [] true (tree_is_R a0 a1 u1) (tree_is_O a0 a1 u1), .br true]) (pos := [.sel []]) (.c (tree_is_ok a0 a1 u1 h2) (.c h3 .n)) (by kernel_rfl)
  · obtain ⟨u4, h5, h⟩ := andThen_some h
    injection h with h; subst h
    exact env.fun func25 can25 (its := [.call [none, none] [] [] true (tree_is_R a0 a1 u1) (tree_is_O a0 a1 u1), .br false, .call [none, none] [] [] true (tree_sides_R a0 a1 u4) (tree_sides_O a0 a1 u4)]) (pos := [.sel []]) (.c (tree_is_ok a0 a1 u1 h2) (.c h3 (.c (tree_sides_ok a0 a1 u4 h5) .n))) (by kernel_rfl)
theorem can21 : Callable prog 21 := ⟨_, func21, by kernel_rfl, by kernel_rfl⟩
def lam_Who_1_in (x0 : Int) (x1 : List (List UInt8) × List (List UInt8) × Unit) (x2 : List UInt8) (x3 : List UInt8) (x4 : List (List UInt8)) : St := ⟨[(3, (.ptr 0 [])), (4, (.ptr 1 [])), (6, (.ptr 2 [])), (7, (.own 3 [])), (25, (.v (.int .i64) x0))], [.box (.fld (.slice (.arr 32 (.int .u8))) (.fld (.slice (.arr 32 (.int .u8))) .unit)) (.v (.fld (.slice (.arr 32 (.int .u8))) (.fld (.slice (.arr 32 (.int .u8))) .unit)) x1) true, .box (.arr 32 (.int .u8)) (.v (.arr 32 (.int .u8)) x2) true, .box (.arr 32 (.int .u8)) (.v (.arr 32 (.int .u8)) x3) true, .row (.arr 32 (.int .u8)) x4 true], 58, 0⟩
def lam_Who_1_ex (o : List UInt8 × List (List UInt8)) : Exit := (.exit 0)
def lam_Who_1_st (o : List UInt8 × List (List UInt8)) : St := ⟨[(4, (.ptr 0 [])), (7, (.own 1 []))], [.box (.arr 32 (.int .u8)) (.v (.arr 32 (.int .u8)) o.1) true, .row (.arr 32 (.int .u8)) o.2 true], 58, 0⟩
theorem lam_Who_1_body (x0 : Int) (x1 : List (List UInt8) × List (List UInt8) × Unit) (x2 : List UInt8) (x3 : List UInt8) (x4 : List (List UInt8)) : ∀ r, lam_Who_1_step x0 x1 x2 x3 x4 = some r → (match r with | .inl s => CodeOK prog (codeAt (bodyOf f21) [1, 1, 1, 1, 0, 1, 0, 0]) (lam_Who_1_in x0 x1 x2 x3 x4) .normal (lam_Who_1_in s.1 x1 x2 x3 s.2) | .inr o => lam_Who_1_ex o ≠ .normal ∧ CodeOK prog (codeAt (bodyOf f21) [1, 1, 1, 1, 0, 1, 0, 0]) (lam_Who_1_in x0 x1 x2 x3 x4) (lam_Who_1_ex o) (lam_Who_1_st o)) := by
  intro r h
  unfold lam_Who_1_step at h
  rcases fork_some h with ⟨h7, h⟩ | ⟨h7, h⟩
  · obtain ⟨u8, h9, h⟩ := andThen_some h
    obtain ⟨h10, h⟩ := need_some h
    obtain ⟨u11, h12, h⟩ := andThen_some h
    obtain ⟨h13, h⟩ := need_some h
    obtain ⟨h14, h⟩ := need_some h
    obtain ⟨h15, h⟩ := need_some h
    injection h with h; subst h
    exact env.code (its := [.br true, .call [none, none] [] [] true (lam_bit_R x3 x0 u8) (lam_bit_O x3 x0 u8), .pre [[], [], [1], [], [1, 2, 3], [], [], [6], [6, 7], [], [6, 7, 8, 9], [], [11], [], [11, 12, 13], [11, 12, 13, 14], [11, 12, 13, 14, 15], [], [17], [], [17, 18, 19], [17, 18, 19, 20], [0, 1, 2, 3, 4, 11, 12, 13, 14, 15, 16, 17, 18, 19, 20, 21], [0, 1, 2, 3, 4, 11, 12, 13, 14, 15, 16, 17, 18, 19, 20, 21, 22], [0, 1, 2, 3, 4, 5, 6, 7, 8, 9, 10, 11, 12, 13, 14, 15, 16, 17, 18, 19, 20, 21, 22, 23], [0, 1, 2, 3, 4, 5, 6, 7, 8, 9, 10, 11, 12, 13, 14, 15, 16, 17, 18, 19, 20, 21, 22, 23, 24]], .call [none] [] [] true (lam_public_R (List.getD x1.1 (Int.toNat x0) (List.replicate 32 (0 : UInt8))) u11) (lam_public_O (List.getD x1.1 (Int.toNat x0) (List.replicate 32 (0 : UInt8))) u11), .sel [3, 4, 6, 7, 25] [0, 1, 2, 3]]) (.c h7 (.c (lam_bit_ok x3 x0 u8 h9) (.c h10 (.c (lam_public_ok (List.getD x1.1 (Int.toNat x0) (List.replicate 32 (0 : UInt8))) u11 h12) (.c h13 (.c h14 (.c h15 .n))))))) (by kernel_rfl)
  · injection h with h; subst h
    exact ⟨by intro e; simp [lam_Who_1_ex] at e, env.code (its := [.br false, .sel [4, 7] [1, 3]]) (.c h7 .n) (by kernel_rfl)⟩
theorem lam_Who_1_ok (x0 : Int) (x1 : List (List UInt8) × List (List UInt8) × Unit) (x2 : List UInt8) (x3 : List UInt8) (x4 : List (List UInt8)) (o : List UInt8 × List (List UInt8)) (h : lam_Who_1 x0 x1 x2 x3 x4 = some o) : CodeOK prog (codeAt (bodyOf f21) [1, 1, 1, 1, 0, 1, 0]) (lam_Who_1_in x0 x1 x2 x3 x4) (lam_Who_1_ex o) (lam_Who_1_st o) :=
  LoopOK.of_step (st := fun s => lam_Who_1_in s.1 x1 x2 x3 s.2) (ex := lam_Who_1_ex) (stO := lam_Who_1_st) (fun s s2 hs => lam_Who_1_body s.1 x1 x2 x3 s.2 (.inl s2) hs) (fun s r hs => lam_Who_1_body s.1 x1 x2 x3 s.2 (.inr r) hs) _ o h
def lam_Who_R (a0 : List UInt8) (a1 : List (List UInt8) × List (List UInt8) × Unit) (u : List UInt8 × Bool) : Slot := (.tup (.v (.arr 32 (.int .u8)) u.1) (.tup (.v .bool u.2) .tnil))
def lam_Who_O (a0 : List UInt8) (a1 : List (List UInt8) × List (List UInt8) × Unit) (u : List UInt8 × Bool) : List AObj := []
theorem lam_Who_ok (a0 : List UInt8) (a1 : List (List UInt8) × List (List UInt8) × Unit) (u : List UInt8 × Bool) (h : lam_Who a0 a1 = some u) : CallC prog 21 [(.v (.slice (.int .u8)) a0), (.v (.fld (.slice (.arr 32 (.int .u8))) (.fld (.slice (.arr 32 (.int .u8))) .unit)) a1)] [] (lam_Who_R a0 a1 u) (lam_Who_O a0 a1 u) := by
  unfold lam_Who at h
  rcases fork_some h with ⟨h1, h⟩ | ⟨h1, h⟩
  · injection h with h; subst h
    exact env.fun func21 can21 (its := [.br true, .br true, .br true, .br true, .br true, .br true]) (pos := [.sel []]) (.c h1 (.c h1 (.c h1 (.c h1 (.c h1 (.c (rfl : (true : Bool) = true) .n)))))) (by kernel_rfl)
  · rcases fork_some h with ⟨h2, h⟩ | ⟨h2, h⟩
    · injection h with h; subst h
      exact env.fun func21 can21 (its := [.br false, .br false, .br false, .br false, .br false, .br true]) (pos := [.sel []]) (.c h1 (.c h1 (.c h1 (.c h1 (.c h1 (.c h2 .n)))))) (by kernel_rfl)
    · obtain ⟨u3, h4, h⟩ := andThen_some h
      obtain ⟨h5, h⟩ := need_some h
      obtain ⟨o16, h17, h⟩ := andThen_some h
      obtain ⟨u18, h19, h⟩ := andThen_some h
      injection h with h; subst h
      exact env.fun func21 can21 (its := [.br false, .br false, .br false, .br false, .br false, .br false, .call [none, none] [] [2] true (sha_Tagged_R (109 : UInt8) ([a0] : List (List UInt8)) u3) (sha_Tagged_O (109 : UInt8) ([a0] : List (List UInt8)) u3), .dive, .sel [3, 4, 6, 7, 25] [0, 1, 3, 4], .part (lam_Who_1_ex o16) (lam_Who_1_st o16), .call [none] [] [1] true (lam_key_R o16.2 u18) (lam_key_O o16.2 u18)]) (pos := [.sel []]) (.c h1 (.c h1 (.c h1 (.c h1 (.c h1 (.c h2 (.c (sha_Tagged_ok (109 : UInt8) ([a0] : List (List UInt8)) u3 h4) (.c h5 (.c (lam_Who_1_ok (0 : Int) a1 (List.replicate 32 (0 : UInt8)) u3 (List.replicate (Int.toNat (64 : Int)) (List.replicate 32 (0 : UInt8))) o16 h17) (.c (lam_key_ok o16.2 u18 h19) .n)))))))))) (by kernel_rfl)
theorem can44 : Callable prog 44 := ⟨_, func44, by kernel_rfl, by kernel_rfl⟩
def tree_Up_1_in (x0 : List (List UInt8)) (x1 : Int) (x2 : Int) (x3 : List UInt8) (x4 : List UInt8) (x5 : List Bool) : St := ⟨[(8, (.ptr 0 [])), (10, (.ptr 1 [])), (11, (.own 2 [])), (33, (.v (.slice (.arr 32 (.int .u8))) x0)), (34, (.v (.int .i64) x1)), (35, (.v (.int .i64) x2))], [.box (.arr 32 (.int .u8)) (.v (.arr 32 (.int .u8)) x3) true, .box (.arr 32 (.int .u8)) (.v (.arr 32 (.int .u8)) x4) true, .row .bool x5 true], 56, 0⟩
def tree_Up_1_ex (o : List UInt8 × List UInt8) : Exit := (.exit 0)
def tree_Up_1_st (o : List UInt8 × List UInt8) : St := ⟨[(8, (.ptr 0 [])), (10, (.ptr 1 []))], [.box (.arr 32 (.int .u8)) (.v (.arr 32 (.int .u8)) o.1) true, .box (.arr 32 (.int .u8)) (.v (.arr 32 (.int .u8)) o.2) true], 56, 0⟩
theorem tree_Up_1_body (x0 : List (List UInt8)) (x1 : Int) (x2 : Int) (x3 : List UInt8) (x4 : List UInt8) (x5 : List Bool) : ∀ r, tree_Up_1_step x0 x1 x2 x3 x4 x5 = some r → (match r with | .inl s => CodeOK prog (codeAt (bodyOf f44) [1, 1, 1, 1, 0, 1, 0, 0]) (tree_Up_1_in x0 x1 x2 x3 x4 x5) .normal (tree_Up_1_in x0 x1 s.1 x3 s.2 x5) | .inr o => tree_Up_1_ex o ≠ .normal ∧ CodeOK prog (codeAt (bodyOf f44) [1, 1, 1, 1, 0, 1, 0, 0]) (tree_Up_1_in x0 x1 x2 x3 x4 x5) (tree_Up_1_ex o) (tree_Up_1_st o)) := by
  intro r h
  unfold tree_Up_1_step at h
  rcases fork_some h with ⟨h12, h⟩ | ⟨h12, h⟩
  · obtain ⟨h13, h⟩ := need_some h
    obtain ⟨h14, h⟩ := need_some h
    rcases fork_some h with ⟨h15, h⟩ | ⟨h15, h⟩
    · obtain ⟨u16, h17, h⟩ := andThen_some h
      injection h with h; subst h
      exact env.code (its := [.br true, .br true, .call [none, none] [] [] true (tree_inner_R x4 (List.getD x0 (Int.toNat x2) (List.replicate 32 (0 : UInt8))) u16) (tree_inner_O x4 (List.getD x0 (Int.toNat x2) (List.replicate 32 (0 : UInt8))) u16), .sel [8, 10, 11, 33, 34, 35] [0, 1, 2]]) (.c h12 (.c h13 (.c h14 (.c h15 (.c (tree_inner_ok x4 (List.getD x0 (Int.toNat x2) (List.replicate 32 (0 : UInt8))) u16 h17) .n))))) (by kernel_rfl)
    · obtain ⟨u18, h19, h⟩ := andThen_some h
      injection h with h; subst h
      exact env.code (its := [.br true, .br false, .call [none, none] [] [] true (tree_inner_R (List.getD x0 (Int.toNat x2) (List.replicate 32 (0 : UInt8))) x4 u18) (tree_inner_O (List.getD x0 (Int.toNat x2) (List.replicate 32 (0 : UInt8))) x4 u18), .sel [8, 10, 11, 33, 34, 35] [0, 1, 2]]) (.c h12 (.c h13 (.c h14 (.c h15 (.c (tree_inner_ok (List.getD x0 (Int.toNat x2) (List.replicate 32 (0 : UInt8))) x4 u18 h19) .n))))) (by kernel_rfl)
  · injection h with h; subst h
    exact ⟨by intro e; simp [tree_Up_1_ex] at e, env.code (its := [.br false, .sel [8, 10] [0, 1]]) (.c h12 .n) (by kernel_rfl)⟩
theorem tree_Up_1_ok (x0 : List (List UInt8)) (x1 : Int) (x2 : Int) (x3 : List UInt8) (x4 : List UInt8) (x5 : List Bool) (o : List UInt8 × List UInt8) (h : tree_Up_1 x0 x1 x2 x3 x4 x5 = some o) : CodeOK prog (codeAt (bodyOf f44) [1, 1, 1, 1, 0, 1, 0]) (tree_Up_1_in x0 x1 x2 x3 x4 x5) (tree_Up_1_ex o) (tree_Up_1_st o) :=
  LoopOK.of_step (st := fun s => tree_Up_1_in x0 x1 s.1 x3 s.2 x5) (ex := tree_Up_1_ex) (stO := tree_Up_1_st) (fun s s2 hs => tree_Up_1_body x0 x1 s.1 x3 s.2 x5 (.inl s2) hs) (fun s r hs => tree_Up_1_body x0 x1 s.1 x3 s.2 x5 (.inr r) hs) _ o h
def tree_Up_R (a0 : List UInt8) (a1 : Int) (a2 : Int) (a3 : List (List UInt8)) (u : List UInt8 × Bool) : Slot := (.tup (.v (.arr 32 (.int .u8)) u.1) (.tup (.v .bool u.2) .tnil))
def tree_Up_O (a0 : List UInt8) (a1 : Int) (a2 : Int) (a3 : List (List UInt8)) (u : List UInt8 × Bool) : List AObj := []
theorem tree_Up_ok (a0 : List UInt8) (a1 : Int) (a2 : Int) (a3 : List (List UInt8)) (u : List UInt8 × Bool) (h : tree_Up a0 a1 a2 a3 = some u) : CallC prog 44 [(.v (.slice (.int .u8)) a0), (.v (.int .i64) a1), (.v (.int .i64) a2), (.v (.slice (.arr 32 (.int .u8))) a3)] [] (tree_Up_R a0 a1 a2 a3 u) (tree_Up_O a0 a1 a2 a3 u) := by
  unfold tree_Up at h
  obtain ⟨u1, h2, h⟩ := andThen_some h
  rcases fork_some h with ⟨h3, h⟩ | ⟨h3, h⟩
  · injection h with h; subst h
    exact env.fun func44 can44 (its := [.call [none, none] [] [] true (tree_is_R a1 a2 u1) (tree_is_O a1 a2 u1), .br true, .br true, .br true, .br true, .br true, .br true, .br true, .br true]) (pos := [.sel []]) (.c (tree_is_ok a1 a2 u1 h2) (.c h3 (.c h3 (.c h3 (.c h3 (.c h3 (.c h3 (.c h3 (.c (rfl : (true : Bool) = true) .n))))))))) (by kernel_rfl)
  · obtain ⟨u4, h5, h⟩ := andThen_some h
    rcases fork_some h with ⟨h6, h⟩ | ⟨h6, h⟩
    · injection h with h; subst h
      exact env.fun func44 can44 (its := [.call [none, none] [] [] true (tree_is_R a1 a2 u1) (tree_is_O a1 a2 u1), .br false, .br false, .br false, .br false, .br false, .call [none, none] [] [] true (tree_Depth_R a1 a2 u4) (tree_Depth_O a1 a2 u4), .br false, .br false, .br true]) (pos := [.sel []]) (.c (tree_is_ok a1 a2 u1 h2) (.c h3 (.c h3 (.c h3 (.c h3 (.c h3 (.c (tree_Depth_ok a1 a2 u4 h5) (.c h3 (.c h3 (.c h6 .n)))))))))) (by kernel_rfl)
    · obtain ⟨u7, h8, h⟩ := andThen_some h
      obtain ⟨u9, h10, h⟩ := andThen_some h
      obtain ⟨o20, h21, h⟩ := andThen_some h
      injection h with h; subst h
      exact env.fun func44 can44 (its := [.call [none, none] [] [] true (tree_is_R a1 a2 u1) (tree_is_O a1 a2 u1), .br false, .br false, .br false, .br false, .br false, .call [none, none] [] [] true (tree_Depth_R a1 a2 u4) (tree_Depth_O a1 a2 u4), .br false, .br false, .br false, .call [none] [] [1] true (tree_Root_R ([a0] : List (List UInt8)) u7) (tree_Root_O ([a0] : List (List UInt8)) u7), .call [none, none] [] [] true (tree_sides_R a1 a2 u9) (tree_sides_O a1 a2 u9), .dive, .sel [8, 10, 11, 33, 34, 35] [0, 2, 3], .part (tree_Up_1_ex o20) (tree_Up_1_st o20)]) (pos := [.sel []]) (.c (tree_is_ok a1 a2 u1 h2) (.c h3 (.c h3 (.c h3 (.c h3 (.c h3 (.c (tree_Depth_ok a1 a2 u4 h5) (.c h3 (.c h3 (.c h6 (.c (tree_Root_ok ([a0] : List (List UInt8)) u7 h8) (.c (tree_sides_ok a1 a2 u9 h10) (.c (tree_Up_1_ok a3 (List.length a3 : Int) (0 : Int) (List.replicate 32 (0 : UInt8)) u7 u9 o20 h21) .n))))))))))))) (by kernel_rfl)
theorem can13 : Callable prog 13 := ⟨_, func13, by kernel_rfl, by kernel_rfl⟩
def ring_Verify_R (a0 : List UInt8) (a1 : Int) (a2 : List UInt8) (a3 : Int × (List (List UInt8) × List (List UInt8) × Unit) × List (List UInt8) × Unit) (u : Bool) : Slot := (.v .bool u)
def ring_Verify_O (a0 : List UInt8) (a1 : Int) (a2 : List UInt8) (a3 : Int × (List (List UInt8) × List (List UInt8) × Unit) × List (List UInt8) × Unit) (u : Bool) : List AObj := []
theorem ring_Verify_ok (a0 : List UInt8) (a1 : Int) (a2 : List UInt8) (a3 : Int × (List (List UInt8) × List (List UInt8) × Unit) × List (List UInt8) × Unit) (u : Bool) (h : ring_Verify a0 a1 a2 a3 = some u) : CallC prog 13 [(.v (.arr 32 (.int .u8)) a0), (.v (.int .i64) a1), (.v (.slice (.int .u8)) a2), (.v (.fld (.int .i64) (.fld (.fld (.slice (.arr 32 (.int .u8))) (.fld (.slice (.arr 32 (.int .u8))) .unit)) (.fld (.slice (.arr 32 (.int .u8))) .unit))) a3)] [] (ring_Verify_R a0 a1 a2 a3 u) (ring_Verify_O a0 a1 a2 a3 u) := by
  unfold ring_Verify at h
  obtain ⟨u1, h2, h⟩ := andThen_some h
  rcases fork_some h with ⟨h3, h⟩ | ⟨h3, h⟩
  · injection h with h; subst h
    exact env.fun func13 can13 (its := [.call [none] [] [] true (ring_is_R a1 u1) (ring_is_O a1 u1), .br true, .br true, .br true, .br true, .br true, .br true]) (pos := [.sel []]) (.c (ring_is_ok a1 u1 h2) (.c h3 (.c h3 (.c h3 (.c h3 (.c h3 (.c (rfl : (true : Bool) = true) .n))))))) (by kernel_rfl)
  · rcases fork_some h with ⟨h4, h⟩ | ⟨h4, h⟩
    · injection h with h; subst h
      exact env.fun func13 can13 (its := [.call [none] [] [] true (ring_is_R a1 u1) (ring_is_O a1 u1), .br false, .br false, .br false, .br false, .br false, .br true]) (pos := [.sel []]) (.c (ring_is_ok a1 u1 h2) (.c h3 (.c h3 (.c h3 (.c h3 (.c h3 (.c h4 .n))))))) (by kernel_rfl)
    · obtain ⟨u5, h6, h⟩ := andThen_some h
      rcases fork_some h with ⟨h7, h⟩ | ⟨h7, h⟩
      · injection h with h; subst h
        exact env.fun func13 can13 (its := [.call [none] [] [] true (ring_is_R a1 u1) (ring_is_O a1 u1), .br false, .br false, .br false, .br false, .br false, .br false, .call [none, none] [] [] true (lam_Who_R a2 a3.2.1 u5) (lam_Who_O a2 a3.2.1 u5), .br true]) (pos := [.sel []]) (.c (ring_is_ok a1 u1 h2) (.c h3 (.c h3 (.c h3 (.c h3 (.c h3 (.c h4 (.c (lam_Who_ok a2 a3.2.1 u5 h6) (.c h7 .n))))))))) (by kernel_rfl)
      · obtain ⟨u8, h9, h⟩ := andThen_some h
        rcases fork_some h with ⟨h10, h⟩ | ⟨h10, h⟩
        · injection h with h; subst h
          exact env.fun func13 can13 (its := [.call [none] [] [] true (ring_is_R a1 u1) (ring_is_O a1 u1), .br false, .br false, .br false, .br false, .br false, .br false, .call [none, none] [] [] true (lam_Who_R a2 a3.2.1 u5) (lam_Who_O a2 a3.2.1 u5), .br false, .pre [[], [], [1], [], [3], [0, 1, 2, 3, 4], [0, 1, 2, 3, 4, 5], [0, 1, 2, 3, 4, 5, 6], [0, 1, 2, 3, 4, 5, 6], [], [0, 1, 2, 3, 4, 5, 6, 7, 9], [0, 1, 2, 3, 4, 5, 6, 7, 8, 9, 10]], .br true, .call [none, none, none, none] [] [0] true (tree_Up_R u5.1 (w64 (a1 - (1 : Int))) (16 : Int) a3.2.2.1 u8) (tree_Up_O u5.1 (w64 (a1 - (1 : Int))) (16 : Int) a3.2.2.1 u8), .br true, .br true, .br true, .br true]) (pos := [.sel []]) (.c (ring_is_ok a1 u1 h2) (.c h3 (.c h3 (.c h3 (.c h3 (.c h3 (.c h4 (.c (lam_Who_ok a2 a3.2.1 u5 h6) (.c h7 (.c (tree_Up_ok u5.1 (w64 (a1 - (1 : Int))) (16 : Int) a3.2.2.1 u8 h9) (.c h10 (.c h10 (.c h10 (.c h10 .n)))))))))))))) (by kernel_rfl)
        · injection h with h; subst h
          exact env.fun func13 can13 (its := [.call [none] [] [] true (ring_is_R a1 u1) (ring_is_O a1 u1), .br false, .br false, .br false, .br false, .br false, .br false, .call [none, none] [] [] true (lam_Who_R a2 a3.2.1 u5) (lam_Who_O a2 a3.2.1 u5), .br false, .pre [[], [], [1], [], [3], [0, 1, 2, 3, 4], [0, 1, 2, 3, 4, 5], [0, 1, 2, 3, 4, 5, 6], [0, 1, 2, 3, 4, 5, 6], [], [0, 1, 2, 3, 4, 5, 6, 7, 9], [0, 1, 2, 3, 4, 5, 6, 7, 8, 9, 10]], .br true, .call [none, none, none, none] [] [0] true (tree_Up_R u5.1 (w64 (a1 - (1 : Int))) (16 : Int) a3.2.2.1 u8) (tree_Up_O u5.1 (w64 (a1 - (1 : Int))) (16 : Int) a3.2.2.1 u8), .br false, .br false, .br false, .br false]) (pos := [.sel []]) (.c (ring_is_ok a1 u1 h2) (.c h3 (.c h3 (.c h3 (.c h3 (.c h3 (.c h4 (.c (lam_Who_ok a2 a3.2.1 u5 h6) (.c h7 (.c (tree_Up_ok u5.1 (w64 (a1 - (1 : Int))) (16 : Int) a3.2.2.1 u8 h9) (.c h10 (.c h10 (.c h10 (.c h10 .n)))))))))))))) (by kernel_rfl)
theorem can3 : Callable prog 3 := ⟨_, func3, by kernel_rfl, by kernel_rfl⟩
def affiantlaw5_RingRuns_R  (u : Bool) : Slot := (.v .bool u)
def affiantlaw5_RingRuns_O  (u : Bool) : List AObj := []
theorem affiantlaw5_RingRuns_ok  (u : Bool) (h : affiantlaw5_RingRuns  = some u) : CallC prog 3 [] [] (affiantlaw5_RingRuns_R u) (affiantlaw5_RingRuns_O u) := by
  unfold affiantlaw5_RingRuns at h
  obtain ⟨u1, h2, h⟩ := andThen_some h
  obtain ⟨u3, h4, h⟩ := andThen_some h
  obtain ⟨u5, h6, h⟩ := andThen_some h
  rcases fork_some h with ⟨h7, h⟩ | ⟨h7, h⟩
  · obtain ⟨u8, h9, h⟩ := andThen_some h
    rcases fork_some h with ⟨h10, h⟩ | ⟨h10, h⟩
    · obtain ⟨u11, h12, h⟩ := andThen_some h
      obtain ⟨u13, h14, h⟩ := andThen_some h
      rcases fork_some h with ⟨h15, h⟩ | ⟨h15, h⟩
      · obtain ⟨u16, h17, h⟩ := andThen_some h
        injection h with h; subst h
        exact env.fun func3 can3 (its := [.call [none, none, none] [] [] false (ring_Sign_R (List.set (List.replicate 32 (0 : UInt8)) 0 (7 : UInt8)) (3 : Int) ([(120 : UInt8)] : List (UInt8)) u1) (ring_Sign_O (List.set (List.replicate 32 (0 : UInt8)) 0 (7 : UInt8)) (3 : Int) ([(120 : UInt8)] : List (UInt8)) u1), .call [none] [] [] true (ring_Ident_R (List.set (List.replicate 32 (0 : UInt8)) 0 (7 : UInt8)) u3) (ring_Ident_O (List.set (List.replicate 32 (0 : UInt8)) 0 (7 : UInt8)) u3), .pre [[], [], [1], [], [0, 1, 2, 3], [0, 1, 2, 3, 4], [0, 1, 2, 3, 4, 5], [0, 1, 2, 3, 4, 5], [0, 1, 2, 3, 4, 5, 7], [0, 1, 2, 3, 4, 5], [0, 1, 2, 3, 4, 5, 6, 7, 8, 9], [0, 1, 2, 3, 4, 5, 6, 7, 8, 9, 10], [0, 1, 2, 3, 4, 5, 6, 7, 8, 9, 10, 11], [0, 1, 2, 3, 4, 5, 6, 7, 8, 9, 10, 11, 12], [0, 1, 2, 3, 4, 5, 6, 7, 8, 9, 10, 11, 12, 13], [0, 1, 2, 3, 4, 5, 6, 7, 8, 9, 10, 11, 12, 13, 14], [0, 1, 2, 3, 4, 5, 6, 7, 8, 9, 10, 11, 12, 13], [0, 1, 2, 3, 4, 5, 6, 7, 8, 9, 10, 11, 12, 13, 16], [0, 1, 2, 3, 4, 5, 6, 7, 8, 9, 10, 11, 12, 13], [0, 1, 2, 3, 4, 5, 6, 7, 8, 9, 10, 11, 12, 13, 14, 15, 16, 17, 18], [0, 1, 2, 3, 4, 5, 6, 7, 8, 9, 10, 11, 12, 13, 14, 15, 16, 17, 18, 19], [0, 1, 2, 3, 4, 5, 6, 7, 8, 9, 10, 11, 12, 13, 14, 15, 16, 17, 18, 19, 20], [0, 1, 2, 3, 4, 5, 6, 7, 8, 9, 10, 11, 12, 13, 14, 15, 16, 17, 18, 19, 20, 21], [0, 1, 2, 3, 4, 5, 6, 7, 8, 9, 10, 11, 12, 13, 14, 15, 16, 17, 18, 19, 20, 21, 22], [0, 1, 2, 3, 4, 5, 6, 7, 8, 9, 10, 11, 12, 13, 14, 15, 16, 17, 18, 19, 20, 21, 22, 23], [0, 1, 2, 3, 4, 5, 6, 7, 8, 9, 10, 11, 12, 13, 14, 15, 16, 17, 18, 19, 20, 21, 22, 23, 24], [0, 1, 2, 3, 4, 5, 6, 7, 8, 9, 10, 11, 12, 13, 14, 15, 16, 17, 18, 19, 20, 21, 22, 23, 24, 25], [0, 1, 2, 3, 4, 5, 6, 7, 8, 9, 10, 11, 12, 13, 14, 15, 16, 17, 18, 19, 20, 21, 22, 23, 24, 25, 26], [0, 1, 2, 3, 4, 5, 6, 7, 8, 9, 10, 11, 12, 13, 14, 15, 16, 17, 18, 19, 20, 21, 22, 23, 24, 25, 26, 27]], .call [none, none, none, none] [] [] true (ring_Verify_R u3 (3 : Int) ([(120 : UInt8)] : List (UInt8)) u1 u5) (ring_Verify_O u3 (3 : Int) ([(120 : UInt8)] : List (UInt8)) u1 u5), .br true, .br true, .br true, .br true, .br true, .call [none, none, none, none] [] [] true (ring_Verify_R u3 (4 : Int) ([(120 : UInt8)] : List (UInt8)) u1 u8) (ring_Verify_O u3 (4 : Int) ([(120 : UInt8)] : List (UInt8)) u1 u8), .br true, .br true, .br true, .br true, .call [none] [] [] true (ring_Ident_R (List.set (List.replicate 32 (0 : UInt8)) 0 (8 : UInt8)) u11) (ring_Ident_O (List.set (List.replicate 32 (0 : UInt8)) 0 (8 : UInt8)) u11), .br true, .br true, .br true, .br true, .call [none, none, none, none] [] [] true (ring_Verify_R u11 (3 : Int) ([(120 : UInt8)] : List (UInt8)) u1 u13) (ring_Verify_O u11 (3 : Int) ([(120 : UInt8)] : List (UInt8)) u1 u13), .br true, .br true, .br true, .br true, .call [none, none, (some (.int .u8))] [] [] false (ring_Sign_R (List.set (List.replicate 32 (0 : UInt8)) 0 (7 : UInt8)) (0 : Int) ([] : List (UInt8)) u16) (ring_Sign_O (List.set (List.replicate 32 (0 : UInt8)) 0 (7 : UInt8)) (0 : Int) ([] : List (UInt8)) u16), .br true, .br true, .br true]) (pos := [.sel []]) (.c (ring_Sign_ok (List.set (List.replicate 32 (0 : UInt8)) 0 (7 : UInt8)) (3 : Int) ([(120 : UInt8)] : List (UInt8)) u1 h2) (.c (ring_Ident_ok (List.set (List.replicate 32 (0 : UInt8)) 0 (7 : UInt8)) u3 h4) (.c (ring_Verify_ok u3 (3 : Int) ([(120 : UInt8)] : List (UInt8)) u1 u5 h6) (.c h7 (.c h7 (.c h7 (.c h7 (.c h7 (.c (ring_Verify_ok u3 (4 : Int) ([(120 : UInt8)] : List (UInt8)) u1 u8 h9) (.c h7 (.c h7 (.c h10 (.c h10 (.c (ring_Ident_ok (List.set (List.replicate 32 (0 : UInt8)) 0 (8 : UInt8)) u11 h12) (.c h10 (.c h10 (.c h10 (.c h10 (.c (ring_Verify_ok u11 (3 : Int) ([(120 : UInt8)] : List (UInt8)) u1 u13 h14) (.c h10 (.c h10 (.c h15 (.c h15 (.c (ring_Sign_ok (List.set (List.replicate 32 (0 : UInt8)) 0 (7 : UInt8)) (0 : Int) ([] : List (UInt8)) u16 h17) (.c h15 (.c h15 (.c h15 .n))))))))))))))))))))))))))) (by kernel_rfl)
      · cases h
    · cases h
  · cases h
theorem can7 : Callable prog 7 := ⟨_, func7, by kernel_rfl, by kernel_rfl⟩
def affiantlaw5_RingSeeds_1_in (x0 : Int) (x1 : Int) (x2 : List UInt8) (x3 : List (List UInt8)) : St := ⟨[(1, (.v (.int .i64) x0)), (2, (.ptr 0 [])), (5, (.own 1 [])), (6, (.v (.int .i64) x1))], [.box (.arr 32 (.int .u8)) (.v (.arr 32 (.int .u8)) x2) true, .row (.slice (.int .u8)) x3 true], 59, 0⟩
def affiantlaw5_RingSeeds_1_ex (o : Int × List UInt8 × List (List UInt8)) : Exit := (.exit 0)
def affiantlaw5_RingSeeds_1_st (o : Int × List UInt8 × List (List UInt8)) : St := ⟨[(1, (.v (.int .i64) o.1)), (2, (.ptr 0 [])), (5, (.own 1 []))], [.box (.arr 32 (.int .u8)) (.v (.arr 32 (.int .u8)) o.2.1) true, .row (.slice (.int .u8)) o.2.2 true], 59, 0⟩
theorem affiantlaw5_RingSeeds_1_body (x0 : Int) (x1 : Int) (x2 : List UInt8) (x3 : List (List UInt8)) : ∀ r, affiantlaw5_RingSeeds_1_step x0 x1 x2 x3 = some r → (match r with | .inl s => CodeOK prog (codeAt (bodyOf f7) [1, 1, 0, 1, 0, 0]) (affiantlaw5_RingSeeds_1_in x0 x1 x2 x3) .normal (affiantlaw5_RingSeeds_1_in x0 s.1 x2 s.2) | .inr o => affiantlaw5_RingSeeds_1_ex o ≠ .normal ∧ CodeOK prog (codeAt (bodyOf f7) [1, 1, 0, 1, 0, 0]) (affiantlaw5_RingSeeds_1_in x0 x1 x2 x3) (affiantlaw5_RingSeeds_1_ex o) (affiantlaw5_RingSeeds_1_st o)) := by
  intro r h
  unfold affiantlaw5_RingSeeds_1_step at h
  rcases fork_some h with ⟨h2, h⟩ | ⟨h2, h⟩
  · obtain ⟨u3, h4, h⟩ := andThen_some h
    obtain ⟨u5, h6, h⟩ := andThen_some h
    obtain ⟨h7, h⟩ := need_some h
    obtain ⟨h8, h⟩ := need_some h
    injection h with h; subst h
    exact env.code (its := [.br true, .call [none, none] [] [] true (ring_Seed_R x2 x1 u3) (ring_Seed_O x2 x1 u3), .call [none] [] [] true (lam_Key_R u3 u5) (lam_Key_O u3 u5), .br true, .sel [1, 2, 5, 6] [0, 7]]) (.c h2 (.c (ring_Seed_ok x2 x1 u3 h4) (.c (lam_Key_ok u3 u5 h6) (.c h7 (.c h8 .n))))) (by kernel_rfl)
  · injection h with h; subst h
    exact ⟨by intro e; simp [affiantlaw5_RingSeeds_1_ex] at e, env.code (its := [.br false, .sel [1, 2, 5] [0, 1]]) (.c h2 .n) (by kernel_rfl)⟩
theorem affiantlaw5_RingSeeds_1_ok (x0 : Int) (x1 : Int) (x2 : List UInt8) (x3 : List (List UInt8)) (o : Int × List UInt8 × List (List UInt8)) (h : affiantlaw5_RingSeeds_1 x0 x1 x2 x3 = some o) : CodeOK prog (codeAt (bodyOf f7) [1, 1, 0, 1, 0]) (affiantlaw5_RingSeeds_1_in x0 x1 x2 x3) (affiantlaw5_RingSeeds_1_ex o) (affiantlaw5_RingSeeds_1_st o) :=
  LoopOK.of_step (st := fun s => affiantlaw5_RingSeeds_1_in x0 s.1 x2 s.2) (ex := affiantlaw5_RingSeeds_1_ex) (stO := affiantlaw5_RingSeeds_1_st) (fun s s2 hs => affiantlaw5_RingSeeds_1_body x0 s.1 x2 s.2 (.inl s2) hs) (fun s r hs => affiantlaw5_RingSeeds_1_body x0 s.1 x2 s.2 (.inr r) hs) _ o h
def affiantlaw5_RingSeeds_R (a0 : List UInt8) (a1 : Int) (u : Bool) : Slot := (.v .bool u)
def affiantlaw5_RingSeeds_O (a0 : List UInt8) (a1 : Int) (u : Bool) : List AObj := []
theorem affiantlaw5_RingSeeds_ok (a0 : List UInt8) (a1 : Int) (u : Bool) (h : affiantlaw5_RingSeeds a0 a1 = some u) : CallC prog 7 [(.v (.arr 32 (.int .u8)) a0), (.v (.int .i64) a1)] [] (affiantlaw5_RingSeeds_R a0 a1 u) (affiantlaw5_RingSeeds_O a0 a1 u) := by
  unfold affiantlaw5_RingSeeds at h
  obtain ⟨o9, h10, h⟩ := andThen_some h
  obtain ⟨u11, h12, h⟩ := andThen_some h
  obtain ⟨u13, h14, h⟩ := andThen_some h
  obtain ⟨u15, h16, h⟩ := andThen_some h
  obtain ⟨u17, h18, h⟩ := andThen_some h
  rcases fork_some h with ⟨h19, h⟩ | ⟨h19, h⟩
  · obtain ⟨u20, h21, h⟩ := andThen_some h
    obtain ⟨u22, h23, h⟩ := andThen_some h
    rcases fork_some h with ⟨h24, h⟩ | ⟨h24, h⟩
    · obtain ⟨u25, h26, h⟩ := andThen_some h
      rcases fork_some h with ⟨h27, h⟩ | ⟨h27, h⟩
      · obtain ⟨u28, h29, h⟩ := andThen_some h
        injection h with h; subst h
        exact env.fun func7 can7 (its := [.dive, .promote 5 (.slice (.int .u8)), .sel [1, 2, 5, 6] [0, 1], .part (affiantlaw5_RingSeeds_1_ex o9) (affiantlaw5_RingSeeds_1_st o9), .call [none, none, none] [] [] true (affiantbook_Within_R o9.1 (1 : Int) (16 : Int) u11) (affiantbook_Within_O o9.1 (1 : Int) (16 : Int) u11), .call [none, none, none] [] [] false (ring_Sign_R o9.2.1 u11 ([(109 : UInt8)] : List (UInt8)) u13) (ring_Sign_O o9.2.1 u11 ([(109 : UInt8)] : List (UInt8)) u13), .pre [[], [0], [], [0, 1, 2], [0, 1, 2, 3], [0, 1, 2, 3, 4], [0, 1, 2, 3, 4, 5], [0, 1, 2, 3, 4, 5, 6], [0, 1, 2, 3, 4, 5], [0, 1, 2, 3, 4, 5], [0, 1, 2, 3, 4, 5, 9], [0, 1, 2, 3, 4, 5, 8, 9, 10], [0, 1, 2, 3, 4, 5, 6, 7, 8, 9, 10, 11], [0, 1, 2, 3, 4, 5, 6, 7, 8, 9, 10, 11, 12], [0, 1, 2, 3, 4, 5, 6, 7, 8, 9, 10, 11, 12, 13], [0, 1, 2, 3, 4, 5, 6, 7, 8, 9, 10, 11, 12, 13, 14], [0, 1, 2, 3, 4, 5, 6, 7, 8, 9, 10, 11, 12, 13, 14, 15], [0, 1, 2, 3, 4, 5, 6, 7, 8, 9, 10, 11, 12, 13, 14, 15, 16], [0, 1, 2, 3, 4, 5, 6, 7, 8, 9, 10, 11, 12, 13, 14], [0, 1, 2, 3, 4, 5, 6, 7, 8, 9, 10, 11, 12, 13, 14, 18], [0, 1, 2, 3, 4, 5, 6, 7, 8, 9, 10, 11, 12, 13, 14, 18, 19], [0, 1, 2, 3, 4, 5, 6, 7, 8, 9, 10, 11, 12, 13, 14, 15, 16, 17, 18, 19, 20], [0, 1, 2, 3, 4, 5, 6, 7, 8, 9, 10, 11, 12, 13, 14, 15, 16, 17, 18, 19, 20, 21], [0, 1, 2, 3, 4, 5, 6, 7, 8, 9, 10, 11, 12, 13, 14, 15, 16, 17, 18, 19, 20, 21, 22], [0, 1, 2, 3, 4, 5, 6, 7, 8, 9, 10, 11, 12, 13, 14, 15, 16, 17, 18, 19, 20, 21, 22, 23], [0, 1, 2, 3, 4, 5, 6, 7, 8, 9, 10, 11, 12, 13, 14, 15, 16, 17, 18, 19, 20, 21, 22, 23, 24], [0, 1, 2, 3, 4, 5, 6, 7, 8, 9, 10, 11, 12, 13, 14, 15, 16, 17, 18, 19, 20, 21, 22, 23, 24, 25]], .call [none] [] [] true (ring_Ident_R o9.2.1 u15) (ring_Ident_O o9.2.1 u15), .call [none] [] [0] true (tree_Root_R o9.2.2 u17) (tree_Root_O o9.2.2 u17), .br true, .br true, .br true, .br true, .br true, .br true, .call [none, none] [] [0] true (tree_Path_R o9.2.2 (w64 (u11 - (1 : Int))) u20) (tree_Path_O o9.2.2 (w64 (u11 - (1 : Int))) u20), .br true, .call [none, none] [] [0] true (affiantbook_Same_Hash_R u13.2.2.1 u20 u22) (affiantbook_Same_Hash_O u13.2.2.1 u20 u22), .br true, .br true, .br true, .br true, .br true, .br true, .br true, .call [none, none] [] [] true (tree_Depth_R (w64 (u11 - (1 : Int))) (16 : Int) u25) (tree_Depth_O (w64 (u11 - (1 : Int))) (16 : Int) u25), .br true, .br true, .br true, .call [] [] [] true (affiantlaw5_RingRuns_R u28) (affiantlaw5_RingRuns_O u28), .br true]) (pos := [.sel []]) (.c (affiantlaw5_RingSeeds_1_ok a1 (1 : Int) a0 ([] : List (List UInt8)) o9 h10) (.c (affiantbook_Within_ok o9.1 (1 : Int) (16 : Int) u11 h12) (.c (ring_Sign_ok o9.2.1 u11 ([(109 : UInt8)] : List (UInt8)) u13 h14) (.c (ring_Ident_ok o9.2.1 u15 h16) (.c (tree_Root_ok o9.2.2 u17 h18) (.c h19 (.c h19 (.c h19 (.c h19 (.c h19 (.c h19 (.c (tree_Path_ok o9.2.2 (w64 (u11 - (1 : Int))) u20 h21) (.c h19 (.c (affiantbook_Same_Hash_ok u13.2.2.1 u20 u22 h23) (.c h19 (.c h24 (.c h24 (.c h24 (.c h24 (.c h24 (.c h24 (.c (tree_Depth_ok (w64 (u11 - (1 : Int))) (16 : Int) u25 h26) (.c h24 (.c h24 (.c h27 (.c (affiantlaw5_RingRuns_ok u28 h29) (.c h27 .n))))))))))))))))))))))))))) (by kernel_rfl)
      · cases h
    · cases h
  · cases h
end
end Go.Proofs.Ytgjebofbjdfdhaa.ringSeeds
