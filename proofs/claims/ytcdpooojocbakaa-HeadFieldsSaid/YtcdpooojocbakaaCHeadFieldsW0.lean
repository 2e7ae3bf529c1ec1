/-
  The functions, walked through: each call comes to what the pure text says.
-/
import Derived.Test.YtcdpooojocbakaaProg
import Derived.Test.YtcdpooojocbakaaAxC
import Derived.Test.YtcdpooojocbakaaCHeadFieldsP
namespace Go.Proofs.Ytcdpooojocbakaa.headFields
open Go.Ax Go.Ax.V Go.Proofs.Try
set_option maxRecDepth 100000
set_option linter.unusedVariables false
noncomputable section
def T : Tab := [(3, (.int .i64), 8), (4, .bool, 1), (5, (.int .u8), 1), (9, .str, 16), (23, (.arr 32 (.int .u8)), 32), (25, (.fld (.int .i64) (.fld (.int .i64) (.fld (.arr 32 (.int .u8)) (.fld (.arr 32 (.int .u8)) (.fld (.arr 32 (.int .u8)) (.fld (.arr 32 (.int .u8)) .unit)))))), 144), (27, (.fld (.int .i64) (.fld (.int .i64) (.fld (.int .i64) (.fld (.int .i64) (.fld (.int .i64) (.fld (.int .i64) .unit)))))), 48), (30, (.slice (.int .u8)), 24), (33, (.int .i64), 8), (43, (.slice (.slice (.int .u8))), 24), (44, (.slice (.arr 32 (.int .u8))), 24), (51, (.slice .str), 24), (56, (.int .u64), 8), (70, (.slice .bool), 24), (73, (.slice (.int .i64)), 24), (75, (.fld (.slice (.int .u8)) (.fld .bool .unit)), 32), (76, (.slice (.int .u32)), 24), (78, (.int .u32), 4), (79, (.arr 8 (.int .u32)), 32), (80, (.int .u64), 8), (83, (.arr 64 (.int .u32)), 256)]
theorem tab : TabOK prog T := tab_of_b (by kernel_rfl)
theorem bytes : bytesB T = true := by kernel_rfl
theorem mix : prog.follows .mixedOrders = true := by kernel_rfl
theorem eqs : eqTypes prog T [23, 25] = true := by kernel_rfl
theorem env : Env prog T [23, 25] := ⟨tab, eqs, mix⟩
theorem can21 : Callable prog 21 := ⟨_, func21, by kernel_rfl, by kernel_rfl⟩
def affiantbook_Within_R (a0 : Int) (a1 : Int) (a2 : Int) (u : Int) : Slot := (.v (.int .i64) u)
def affiantbook_Within_O (a0 : Int) (a1 : Int) (a2 : Int) (u : Int) : List AObj := []
theorem affiantbook_Within_ok (a0 : Int) (a1 : Int) (a2 : Int) (u : Int) (h : affiantbook_Within a0 a1 a2 = some u) : CallC prog 21 [(.v (.int .i64) a0), (.v (.int .i64) a1), (.v (.int .i64) a2)] [] (affiantbook_Within_R a0 a1 a2 u) (affiantbook_Within_O a0 a1 a2 u) := by
  unfold affiantbook_Within at h
  obtain ⟨h1, h⟩ := need_some h
  rcases fork_some h with ⟨h2, h⟩ | ⟨h2, h⟩
  · injection h with h; subst h
    exact env.fun func21 can21 (its := [.br true]) (pos := [.sel []]) (.c h1 (.c h2 .n)) (by kernel_rfl)
  · injection h with h; subst h
    exact env.fun func21 can21 (its := [.br false]) (pos := [.sel []]) (.c h1 (.c h2 .n)) (by kernel_rfl)
theorem can33 : Callable prog 33 := ⟨_, func33, by kernel_rfl, by kernel_rfl⟩
def affiantkeep_hash_R (a0 : Int) (u : List UInt8) : Slot := (.v (.arr 32 (.int .u8)) u)
def affiantkeep_hash_O (a0 : Int) (u : List UInt8) : List AObj := []
theorem affiantkeep_hash_ok (a0 : Int) (u : List UInt8) (h : affiantkeep_hash a0 = some u) : CallC prog 33 [(.v (.int .i64) a0)] [] (affiantkeep_hash_R a0 u) (affiantkeep_hash_O a0 u) := by
  unfold affiantkeep_hash at h
  injection h with h; subst h
  exact env.fun func33 can33 (its := []) (pos := [.sel []]) (.c (of_decide_eq_true (p := (0 ≤ (8 : Int))) (by kernel_rfl)) .n) (by kernel_rfl)
theorem can11 : Callable prog 11 := ⟨_, func11, by kernel_rfl, by kernel_rfl⟩
def affiantkeep_Head_Header_R (a0 : Int × Int × Int × Int × Int × Int × Unit) (u : Int × Int × List UInt8 × List UInt8 × List UInt8 × List UInt8 × Unit) : Slot := (.v (.fld (.int .i64) (.fld (.int .i64) (.fld (.arr 32 (.int .u8)) (.fld (.arr 32 (.int .u8)) (.fld (.arr 32 (.int .u8)) (.fld (.arr 32 (.int .u8)) .unit)))))) u)
def affiantkeep_Head_Header_O (a0 : Int × Int × Int × Int × Int × Int × Unit) (u : Int × Int × List UInt8 × List UInt8 × List UInt8 × List UInt8 × Unit) : List AObj := []
theorem affiantkeep_Head_Header_ok (a0 : Int × Int × Int × Int × Int × Int × Unit) (u : Int × Int × List UInt8 × List UInt8 × List UInt8 × List UInt8 × Unit) (h : affiantkeep_Head_Header a0 = some u) : CallC prog 11 [(.v (.fld (.int .i64) (.fld (.int .i64) (.fld (.int .i64) (.fld (.int .i64) (.fld (.int .i64) (.fld (.int .i64) .unit)))))) a0)] [] (affiantkeep_Head_Header_R a0 u) (affiantkeep_Head_Header_O a0 u) := by
  unfold affiantkeep_Head_Header at h
  obtain ⟨u1, h2, h⟩ := andThen_some h
  obtain ⟨u3, h4, h⟩ := andThen_some h
  obtain ⟨u5, h6, h⟩ := andThen_some h
  obtain ⟨u7, h8, h⟩ := andThen_some h
  obtain ⟨u9, h10, h⟩ := andThen_some h
  obtain ⟨u11, h12, h⟩ := andThen_some h
  injection h with h; subst h
  exact env.fun func11 can11 (its := [.pre [[], [0], [0, 1], [], [3], [0, 1, 2, 3, 4], [], [6], [0, 1, 2, 3, 4, 5, 6, 7], [], [9], [0, 1, 2, 3, 4, 5, 6, 7, 8, 9, 10], [], [12], [0, 1, 2, 3, 4, 5, 6, 7, 8, 9, 10, 11, 12, 13], [], [15], [0, 1, 2, 3, 4, 5, 6, 7, 8, 9, 10, 11, 12, 13, 14, 15, 16], [0, 1, 2, 3, 4, 5, 6, 7, 8, 9, 10, 11, 12, 13, 14, 15, 16, 17], [0, 1, 2, 3, 4, 5, 6, 7, 8, 9, 10, 11, 12, 13, 14, 15, 16, 17, 18]], .call [none, none, none] [] [] true (affiantbook_Within_R a0.1 (1 : Int) (16 : Int) u1) (affiantbook_Within_O a0.1 (1 : Int) (16 : Int) u1), .call [none, none, none] [] [] true (affiantbook_Within_R a0.2.1 (0 : Int) (500 : Int) u3) (affiantbook_Within_O a0.2.1 (0 : Int) (500 : Int) u3), .call [none] [] [] true (affiantkeep_hash_R a0.2.2.1 u5) (affiantkeep_hash_O a0.2.2.1 u5), .call [none] [] [] true (affiantkeep_hash_R a0.2.2.2.1 u7) (affiantkeep_hash_O a0.2.2.2.1 u7), .call [none] [] [] true (affiantkeep_hash_R a0.2.2.2.2.1 u9) (affiantkeep_hash_O a0.2.2.2.2.1 u9), .call [none] [] [] true (affiantkeep_hash_R a0.2.2.2.2.2.1 u11) (affiantkeep_hash_O a0.2.2.2.2.2.1 u11)]) (pos := [.sel []]) (.c (affiantbook_Within_ok a0.1 (1 : Int) (16 : Int) u1 h2) (.c (affiantbook_Within_ok a0.2.1 (0 : Int) (500 : Int) u3 h4) (.c (affiantkeep_hash_ok a0.2.2.1 u5 h6) (.c (affiantkeep_hash_ok a0.2.2.2.1 u7 h8) (.c (affiantkeep_hash_ok a0.2.2.2.2.1 u9 h10) (.c (affiantkeep_hash_ok a0.2.2.2.2.2.1 u11 h12) .n)))))) (by kernel_rfl)
theorem can14 : Callable prog 14 := ⟨_, func14, by kernel_rfl, by kernel_rfl⟩
def head_Right_R (a0 : Int × Int × List UInt8 × List UInt8 × List UInt8 × List UInt8 × Unit) (u : Bool) : Slot := (.v .bool u)
def head_Right_O (a0 : Int × Int × List UInt8 × List UInt8 × List UInt8 × List UInt8 × Unit) (u : Bool) : List AObj := []
theorem head_Right_ok (a0 : Int × Int × List UInt8 × List UInt8 × List UInt8 × List UInt8 × Unit) (u : Bool) (h : head_Right a0 = some u) : CallC prog 14 [(.v (.fld (.int .i64) (.fld (.int .i64) (.fld (.arr 32 (.int .u8)) (.fld (.arr 32 (.int .u8)) (.fld (.arr 32 (.int .u8)) (.fld (.arr 32 (.int .u8)) .unit)))))) a0)] [] (head_Right_R a0 u) (head_Right_O a0 u) := by
  unfold head_Right at h
  rcases fork_some h with ⟨h1, h⟩ | ⟨h1, h⟩
  · rcases fork_some h with ⟨h2, h⟩ | ⟨h2, h⟩
    · rcases fork_some h with ⟨h3, h⟩ | ⟨h3, h⟩
      · injection h with h; subst h
        exact env.fun func14 can14 (its := [.br true, .br true, .br true, .br true, .br true, .br true, .br true, .br true, .br true, .br true, .br true, .br true]) (pos := [.sel []]) (.c h1 (.c h1 (.c h1 (.c h1 (.c h2 (.c h2 (.c h2 (.c h2 (.c h3 (.c h3 (.c h3 (.c h3 .n)))))))))))) (by kernel_rfl)
      · injection h with h; subst h
        exact env.fun func14 can14 (its := [.br true, .br true, .br true, .br true, .br true, .br true, .br true, .br true, .br false, .br false, .br false, .br false]) (pos := [.sel []]) (.c h1 (.c h1 (.c h1 (.c h1 (.c h2 (.c h2 (.c h2 (.c h2 (.c h3 (.c h3 (.c h3 (.c h3 .n)))))))))))) (by kernel_rfl)
    · injection h with h; subst h
      exact env.fun func14 can14 (its := [.br true, .br true, .br true, .br true, .br false, .br false, .br false, .br false, .br false, .br false, .br false, .br false]) (pos := [.sel []]) (.c h1 (.c h1 (.c h1 (.c h1 (.c h2 (.c h2 (.c h2 (.c h2 (.c (rfl : (false : Bool) = false) (.c (rfl : (false : Bool) = false) (.c (rfl : (false : Bool) = false) (.c (rfl : (false : Bool) = false) .n)))))))))))) (by kernel_rfl)
  · injection h with h; subst h
    exact env.fun func14 can14 (its := [.br false, .br false, .br false, .br false, .br false, .br false, .br false, .br false, .br false, .br false, .br false, .br false]) (pos := [.sel []]) (.c h1 (.c h1 (.c h1 (.c h1 (.c (rfl : (false : Bool) = false) (.c (rfl : (false : Bool) = false) (.c (rfl : (false : Bool) = false) (.c (rfl : (false : Bool) = false) (.c (rfl : (false : Bool) = false) (.c (rfl : (false : Bool) = false) (.c (rfl : (false : Bool) = false) (.c (rfl : (false : Bool) = false) .n)))))))))))) (by kernel_rfl)
theorem can49 : Callable prog 49 := ⟨_, func49, by kernel_rfl, by kernel_rfl⟩
def vint_one_1_in (x0 : Int) (x1 : List UInt8) : St := ⟨[(0, (.v (.int .i64) x0)), (3, (.own 0 []))], [.row (.int .u8) x1 true], 26, 0⟩
def vint_one_1_ex (o : Int × List UInt8) : Exit := (.exit 0)
def vint_one_1_st (o : Int × List UInt8) : St := ⟨[(0, (.v (.int .i64) o.1)), (3, (.own 0 []))], [.row (.int .u8) o.2 true], 26, 0⟩
theorem vint_one_1_body (x0 : Int) (x1 : List UInt8) : ∀ r, vint_one_1_step x0 x1 = some r → (match r with | .inl s => CodeOK prog (codeAt (bodyOf f49) [1, 1, 1, 0, 0, 0]) (vint_one_1_in x0 x1) .normal (vint_one_1_in s.1 s.2) | .inr o => vint_one_1_ex o ≠ .normal ∧ CodeOK prog (codeAt (bodyOf f49) [1, 1, 1, 0, 0, 0]) (vint_one_1_in x0 x1) (vint_one_1_ex o) (vint_one_1_st o)) := by
  intro r h
  unfold vint_one_1_step at h
  rcases fork_some h with ⟨h4, h⟩ | ⟨h4, h⟩
  · obtain ⟨h5, h⟩ := need_some h
    injection h with h; subst h
    exact env.code (its := [.br true, .dive, .sel [0, 3] [2]]) (.c h4 (.c h5 (.c (of_decide_eq_true (p := (0 ≤ (7 : Int))) (by kernel_rfl)) .n))) (by kernel_rfl)
  · injection h with h; subst h
    exact ⟨by intro e; simp [vint_one_1_ex] at e, env.code (its := [.br false, .sel [0, 3] [0]]) (.c h4 .n) (by kernel_rfl)⟩
theorem vint_one_1_ok (x0 : Int) (x1 : List UInt8) (o : Int × List UInt8) (h : vint_one_1 x0 x1 = some o) : CodeOK prog (codeAt (bodyOf f49) [1, 1, 1, 0, 0]) (vint_one_1_in x0 x1) (vint_one_1_ex o) (vint_one_1_st o) :=
  LoopOK.of_step (st := fun s => vint_one_1_in s.1 s.2) (ex := vint_one_1_ex) (stO := vint_one_1_st) (fun s s2 hs => vint_one_1_body s.1 s.2 (.inl s2) hs) (fun s r hs => vint_one_1_body s.1 s.2 (.inr r) hs) _ o h
def vint_one_R (a0 : Int) (u : List UInt8) : Slot := (.own 0 [])
def vint_one_O (a0 : Int) (u : List UInt8) : List AObj := [.row (.int .u8) u true]
theorem vint_one_ok (a0 : Int) (u : List UInt8) (h : vint_one a0 = some u) : CallC prog 49 [(.v (.int .i64) a0)] [] (vint_one_R a0 u) (vint_one_O a0 u) := by
  unfold vint_one at h
  rcases fork_some h with ⟨h1, h⟩ | ⟨h1, h⟩
  · injection h with h; subst h
    exact env.fun func49 can49 (its := [.br true, .br true, .br true, .br true]) (pos := [.promote (.int .u8), .sel [0]]) (.c h1 (.c h1 (.c h1 (.c (rfl : (true : Bool) = true) .n)))) (by kernel_rfl)
  · rcases fork_some h with ⟨h2, h⟩ | ⟨h2, h⟩
    · injection h with h; subst h
      exact env.fun func49 can49 (its := [.br false, .br false, .br false, .br true]) (pos := [.promote (.int .u8), .sel [0]]) (.c h1 (.c h1 (.c h1 (.c h2 .n)))) (by kernel_rfl)
    · obtain ⟨o6, h7, h⟩ := andThen_some h
      obtain ⟨h8, h⟩ := need_some h
      injection h with h; subst h
      exact env.fun func49 can49 (its := [.br false, .br false, .br false, .br false, .dive, .promote 3 (.int .u8), .sel [0, 3] [0], .part (vint_one_1_ex o6) (vint_one_1_st o6)]) (pos := [.sel [2]]) (.c h1 (.c h1 (.c h1 (.c h2 (.c (vint_one_1_ok a0 ([] : List (UInt8)) o6 h7) (.c h8 .n)))))) (by kernel_rfl)
theorem can34 : Callable prog 34 := ⟨_, func34, by kernel_rfl, by kernel_rfl⟩
def vint_Put_1_in (x0 : List Int) (x1 : Int) (x2 : Int) (x3 : List UInt8) : St := ⟨[(3, (.own 0 [])), (6, (.v (.slice (.int .i64)) x0)), (7, (.v (.int .i64) x1)), (8, (.v (.int .i64) x2))], [.row (.int .u8) x3 true], 18, 0⟩
def vint_Put_1_ex (o : List UInt8) : Exit := (.exit 0)
def vint_Put_1_st (o : List UInt8) : St := ⟨[(3, (.own 0 []))], [.row (.int .u8) o true], 18, 0⟩
theorem vint_Put_1_body (x0 : List Int) (x1 : Int) (x2 : Int) (x3 : List UInt8) : ∀ r, vint_Put_1_step x0 x1 x2 x3 = some r → (match r with | .inl s => CodeOK prog (codeAt (bodyOf f34) [1, 1, 0, 1, 0, 0]) (vint_Put_1_in x0 x1 x2 x3) .normal (vint_Put_1_in x0 x1 s.1 s.2) | .inr o => vint_Put_1_ex o ≠ .normal ∧ CodeOK prog (codeAt (bodyOf f34) [1, 1, 0, 1, 0, 0]) (vint_Put_1_in x0 x1 x2 x3) (vint_Put_1_ex o) (vint_Put_1_st o)) := by
  intro r h
  unfold vint_Put_1_step at h
  rcases fork_some h with ⟨h2, h⟩ | ⟨h2, h⟩
  · obtain ⟨h3, h⟩ := need_some h
    obtain ⟨u4, h5, h⟩ := andThen_some h
    obtain ⟨h6, h⟩ := need_some h
    injection h with h; subst h
    exact env.code (its := [.br true, .call [none] [] [] true (vint_one_R (List.getD x0 (Int.toNat x2) (0 : Int)) u4) (vint_one_O (List.getD x0 (Int.toNat x2) (0 : Int)) u4), .sel [3, 6, 7, 8] [2]]) (.c h2 (.c h3 (.c (vint_one_ok (List.getD x0 (Int.toNat x2) (0 : Int)) u4 h5) (.c h6 .n)))) (by kernel_rfl)
  · injection h with h; subst h
    exact ⟨by intro e; simp [vint_Put_1_ex] at e, env.code (its := [.br false, .sel [3] [0]]) (.c h2 .n) (by kernel_rfl)⟩
theorem vint_Put_1_ok (x0 : List Int) (x1 : Int) (x2 : Int) (x3 : List UInt8) (o : List UInt8) (h : vint_Put_1 x0 x1 x2 x3 = some o) : CodeOK prog (codeAt (bodyOf f34) [1, 1, 0, 1, 0]) (vint_Put_1_in x0 x1 x2 x3) (vint_Put_1_ex o) (vint_Put_1_st o) :=
  LoopOK.of_step (st := fun s => vint_Put_1_in x0 x1 s.1 s.2) (ex := vint_Put_1_ex) (stO := vint_Put_1_st) (fun s s2 hs => vint_Put_1_body x0 x1 s.1 s.2 (.inl s2) hs) (fun s r hs => vint_Put_1_body x0 x1 s.1 s.2 (.inr r) hs) _ o h
def vint_Put_R (a0 : List Int) (u : List UInt8) : Slot := (.own 0 [])
def vint_Put_O (a0 : List Int) (u : List UInt8) : List AObj := [.row (.int .u8) u true]
theorem vint_Put_ok (a0 : List Int) (u : List UInt8) (h : vint_Put a0 = some u) : CallC prog 34 [(.v (.slice (.int .i64)) a0)] [] (vint_Put_R a0 u) (vint_Put_O a0 u) := by
  unfold vint_Put at h
  obtain ⟨o7, h8, h⟩ := andThen_some h
  injection h with h; subst h
  exact env.fun func34 can34 (its := [.dive, .promote 3 (.int .u8), .sel [3, 6, 7, 8] [0], .part (vint_Put_1_ex o7) (vint_Put_1_st o7)]) (pos := [.sel [0]]) (.c (vint_Put_1_ok a0 (List.length a0 : Int) (0 : Int) ([] : List (UInt8)) o7 h8) .n) (by kernel_rfl)
theorem can35 : Callable prog 35 := ⟨_, func35, by kernel_rfl, by kernel_rfl⟩
def vint_Hash_1_in (x0 : List (List UInt8)) (x1 : Int) (x2 : Int) (x3 : List UInt8) : St := ⟨[(3, (.own 0 [])), (6, (.v (.slice (.arr 32 (.int .u8))) x0)), (7, (.v (.int .i64) x1)), (8, (.v (.int .i64) x2))], [.row (.int .u8) x3 true], 17, 0⟩
def vint_Hash_1_ex (o : List UInt8) : Exit := (.exit 0)
def vint_Hash_1_st (o : List UInt8) : St := ⟨[(3, (.own 0 []))], [.row (.int .u8) o true], 17, 0⟩
theorem vint_Hash_1_body (x0 : List (List UInt8)) (x1 : Int) (x2 : Int) (x3 : List UInt8) : ∀ r, vint_Hash_1_step x0 x1 x2 x3 = some r → (match r with | .inl s => CodeOK prog (codeAt (bodyOf f35) [1, 1, 0, 1, 0, 0]) (vint_Hash_1_in x0 x1 x2 x3) .normal (vint_Hash_1_in x0 x1 s.1 s.2) | .inr o => vint_Hash_1_ex o ≠ .normal ∧ CodeOK prog (codeAt (bodyOf f35) [1, 1, 0, 1, 0, 0]) (vint_Hash_1_in x0 x1 x2 x3) (vint_Hash_1_ex o) (vint_Hash_1_st o)) := by
  intro r h
  unfold vint_Hash_1_step at h
  rcases fork_some h with ⟨h2, h⟩ | ⟨h2, h⟩
  · obtain ⟨h3, h⟩ := need_some h
    obtain ⟨h4, h⟩ := need_some h
    injection h with h; subst h
    exact env.code (its := [.br true, .br true, .sel [3, 6, 7, 8] [2]]) (.c h2 (.c h3 (.c h4 .n))) (by kernel_rfl)
  · injection h with h; subst h
    exact ⟨by intro e; simp [vint_Hash_1_ex] at e, env.code (its := [.br false, .sel [3] [0]]) (.c h2 .n) (by kernel_rfl)⟩
theorem vint_Hash_1_ok (x0 : List (List UInt8)) (x1 : Int) (x2 : Int) (x3 : List UInt8) (o : List UInt8) (h : vint_Hash_1 x0 x1 x2 x3 = some o) : CodeOK prog (codeAt (bodyOf f35) [1, 1, 0, 1, 0]) (vint_Hash_1_in x0 x1 x2 x3) (vint_Hash_1_ex o) (vint_Hash_1_st o) :=
  LoopOK.of_step (st := fun s => vint_Hash_1_in x0 x1 s.1 s.2) (ex := vint_Hash_1_ex) (stO := vint_Hash_1_st) (fun s s2 hs => vint_Hash_1_body x0 x1 s.1 s.2 (.inl s2) hs) (fun s r hs => vint_Hash_1_body x0 x1 s.1 s.2 (.inr r) hs) _ o h
def vint_Hash_R (a0 : List (List UInt8)) (u : List UInt8) : Slot := (.own 0 [])
def vint_Hash_O (a0 : List (List UInt8)) (u : List UInt8) : List AObj := [.row (.int .u8) u true]
theorem vint_Hash_ok (a0 : List (List UInt8)) (u : List UInt8) (h : vint_Hash a0 = some u) : CallC prog 35 [(.v (.slice (.arr 32 (.int .u8))) a0)] [] (vint_Hash_R a0 u) (vint_Hash_O a0 u) := by
  unfold vint_Hash at h
  obtain ⟨o5, h6, h⟩ := andThen_some h
  injection h with h; subst h
  exact env.fun func35 can35 (its := [.dive, .promote 3 (.int .u8), .sel [3, 6, 7, 8] [0], .part (vint_Hash_1_ex o5) (vint_Hash_1_st o5)]) (pos := [.sel [0]]) (.c (vint_Hash_1_ok a0 (List.length a0 : Int) (0 : Int) ([] : List (UInt8)) o5 h6) .n) (by kernel_rfl)
theorem can13 : Callable prog 13 := ⟨_, func13, by kernel_rfl, by kernel_rfl⟩
def head_Bytes_R (a0 : Int × Int × List UInt8 × List UInt8 × List UInt8 × List UInt8 × Unit) (u : List UInt8) : Slot := (.own 0 [])
def head_Bytes_O (a0 : Int × Int × List UInt8 × List UInt8 × List UInt8 × List UInt8 × Unit) (u : List UInt8) : List AObj := [.row (.int .u8) u true]
theorem head_Bytes_ok (a0 : Int × Int × List UInt8 × List UInt8 × List UInt8 × List UInt8 × Unit) (u : List UInt8) (h : head_Bytes a0 = some u) : CallC prog 13 [(.v (.fld (.int .i64) (.fld (.int .i64) (.fld (.arr 32 (.int .u8)) (.fld (.arr 32 (.int .u8)) (.fld (.arr 32 (.int .u8)) (.fld (.arr 32 (.int .u8)) .unit)))))) a0)] [] (head_Bytes_R a0 u) (head_Bytes_O a0 u) := by
  unfold head_Bytes at h
  obtain ⟨u1, h2, h⟩ := andThen_some h
  rcases fork_some h with ⟨h3, h⟩ | ⟨h3, h⟩
  · injection h with h; subst h
    exact env.fun func13 can13 (its := [.call [none] [] [] true (head_Right_R a0 u1) (head_Right_O a0 u1), .br true]) (pos := [.promote (.int .u8), .sel [1]]) (.c (head_Right_ok a0 u1 h2) (.c h3 .n)) (by kernel_rfl)
  · obtain ⟨u4, h5, h⟩ := andThen_some h
    obtain ⟨u6, h7, h⟩ := andThen_some h
    obtain ⟨h8, h⟩ := need_some h
    injection h with h; subst h
    exact env.fun func13 can13 (its := [.call [none] [] [] true (head_Right_R a0 u1) (head_Right_O a0 u1), .br false, .pre [[], [0], [], [2], [0, 1, 2, 3], [0, 1, 2, 3, 4], [], [6], [], [8], [], [10], [], [12], [6, 7, 8, 9, 10, 11, 12, 13], [0, 1, 2, 3, 4, 5, 6, 7, 8, 9, 10, 11, 12, 13, 14], [0, 1, 2, 3, 4, 5, 6, 7, 8, 9, 10, 11, 12, 13, 14, 15], [0, 1, 2, 3, 4, 5, 6, 7, 8, 9, 10, 11, 12, 13, 14, 15, 16]], .call [none] [] [0] true (vint_Put_R ([a0.1, a0.2.1] : List (Int)) u4) (vint_Put_O ([a0.1, a0.2.1] : List (Int)) u4), .call [none] [] [0] true (vint_Hash_R ([a0.2.2.1, a0.2.2.2.1, a0.2.2.2.2.1, a0.2.2.2.2.2.1] : List (List UInt8)) u6) (vint_Hash_O ([a0.2.2.1, a0.2.2.2.1, a0.2.2.2.2.1, a0.2.2.2.2.2.1] : List (List UInt8)) u6)]) (pos := [.sel [5]]) (.c (head_Right_ok a0 u1 h2) (.c h3 (.c (vint_Put_ok ([a0.1, a0.2.1] : List (Int)) u4 h5) (.c (vint_Hash_ok ([a0.2.2.1, a0.2.2.2.1, a0.2.2.2.2.1, a0.2.2.2.2.2.1] : List (List UInt8)) u6 h7) (.c h8 .n))))) (by kernel_rfl)
theorem can36 : Callable prog 36 := ⟨_, func36, by kernel_rfl, by kernel_rfl⟩
def vint_Read_R (a0 : List UInt8) (u : List UInt8 × Bool × Unit) : Slot := (.ptr 0 [])
def vint_Read_O (a0 : List UInt8) (u : List UInt8 × Bool × Unit) : List AObj := [.box (.fld (.slice (.int .u8)) (.fld .bool .unit)) (.v (.fld (.slice (.int .u8)) (.fld .bool .unit)) u) true]
theorem vint_Read_ok (a0 : List UInt8) (u : List UInt8 × Bool × Unit) (h : vint_Read a0 = some u) : CallC prog 36 [(.v (.slice (.int .u8)) a0)] [] (vint_Read_R a0 u) (vint_Read_O a0 u) := by
  unfold vint_Read at h
  obtain ⟨h1, h⟩ := need_some h
  injection h with h; subst h
  exact env.fun func36 can36 (its := []) (pos := [.sel [2]]) (.c h1 .n) (by kernel_rfl)
theorem can50 : Callable prog 50 := ⟨_, func50, by kernel_rfl, by kernel_rfl⟩
def vint_Reader_take_a34d_R (a0 : Int) (a1 : List UInt8 × Bool × Unit) (u : List UInt8 × List UInt8 × Bool × Unit) : Slot := (.v (.slice (.int .u8)) u.1)
def vint_Reader_take_a34d_O (a0 : Int) (a1 : List UInt8 × Bool × Unit) (u : List UInt8 × List UInt8 × Bool × Unit) : List AObj := [.box (.fld (.slice (.int .u8)) (.fld .bool .unit)) (.v (.fld (.slice (.int .u8)) (.fld .bool .unit)) u.2) true]
theorem vint_Reader_take_a34d_ok (a0 : Int) (a1 : List UInt8 × Bool × Unit) (u : List UInt8 × List UInt8 × Bool × Unit) (h : vint_Reader_take_a34d a0 a1 = some u) : CallC prog 50 [(.ptr 0 []), (.v (.int .i64) a0)] [.box (.fld (.slice (.int .u8)) (.fld .bool .unit)) (.v (.fld (.slice (.int .u8)) (.fld .bool .unit)) a1) true] (vint_Reader_take_a34d_R a0 a1 u) (vint_Reader_take_a34d_O a0 a1 u) := by
  unfold vint_Reader_take_a34d at h
  rcases fork_some h with ⟨h1, h⟩ | ⟨h1, h⟩
  · injection h with h; subst h
    exact env.fun func50 can50 (its := [.br true, .br true, .br true, .br true, .br true, .br true, .br true, .br true, .br true]) (pos := [.val (.slice (.int .u8)), .sel [0]]) (.c h1 (.c h1 (.c h1 (.c h1 (.c h1 (.c h1 (.c h1 (.c h1 (.c (rfl : (true : Bool) = true) .n))))))))) (by kernel_rfl)
  · rcases fork_some h with ⟨h2, h⟩ | ⟨h2, h⟩
    · injection h with h; subst h
      exact env.fun func50 can50 (its := [.br false, .br false, .br false, .br false, .br false, .br false, .br false, .br false, .br true]) (pos := [.val (.slice (.int .u8)), .sel [0]]) (.c h1 (.c h1 (.c h1 (.c h1 (.c h1 (.c h1 (.c h1 (.c h1 (.c h2 .n))))))))) (by kernel_rfl)
    · obtain ⟨h3, h⟩ := need_some h
      obtain ⟨h4, h⟩ := need_some h
      injection h with h; subst h
      exact env.fun func50 can50 (its := [.br false, .br false, .br false, .br false, .br false, .br false, .br false, .br false, .br false, .br false, .br false]) (pos := [.sel [0]]) (.c h1 (.c h1 (.c h1 (.c h1 (.c h1 (.c h1 (.c h1 (.c h1 (.c h2 (.c h3 (.c h4 .n))))))))))) (by kernel_rfl)
theorem can37 : Callable prog 37 := ⟨_, func37, by kernel_rfl, by kernel_rfl⟩
def vint_Reader_Number_4c5f_1_in (x0 : Int) (x1 : Int) (x2 : List UInt8 × Bool × Unit) : St := ⟨[(0, (.ptr 0 [])), (3, (.v (.int .i64) x0)), (4, (.v (.int .i64) x1))], [.box (.fld (.slice (.int .u8)) (.fld .bool .unit)) (.v (.fld (.slice (.int .u8)) (.fld .bool .unit)) x2) true], 44, 1⟩
def vint_Reader_Number_4c5f_1_ex (o : (Int × List UInt8 × Bool × Unit) ⊕ (List UInt8 × Bool × Unit)) : Exit := match o with | (.inl o) => .ret | (.inr o) => (.exit 0)
def vint_Reader_Number_4c5f_1_st (o : (Int × List UInt8 × Bool × Unit) ⊕ (List UInt8 × Bool × Unit)) : St := match o with | (.inl o) => ⟨[(2, (.v (.int .i64) o.1))], [.box (.fld (.slice (.int .u8)) (.fld .bool .unit)) (.v (.fld (.slice (.int .u8)) (.fld .bool .unit)) o.2) true], 44, 1⟩ | (.inr o) => ⟨[(0, (.ptr 0 []))], [.box (.fld (.slice (.int .u8)) (.fld .bool .unit)) (.v (.fld (.slice (.int .u8)) (.fld .bool .unit)) o) true], 44, 1⟩
theorem vint_Reader_Number_4c5f_1_body (x0 : Int) (x1 : Int) (x2 : List UInt8 × Bool × Unit) : ∀ r, vint_Reader_Number_4c5f_1_step x0 x1 x2 = some r → (match r with | .inl s => CodeOK prog (codeAt (bodyOf f37) [1, 1, 0, 1, 0, 0]) (vint_Reader_Number_4c5f_1_in x0 x1 x2) .normal (vint_Reader_Number_4c5f_1_in s.1 s.2.1 s.2.2) | .inr o => vint_Reader_Number_4c5f_1_ex o ≠ .normal ∧ CodeOK prog (codeAt (bodyOf f37) [1, 1, 0, 1, 0, 0]) (vint_Reader_Number_4c5f_1_in x0 x1 x2) (vint_Reader_Number_4c5f_1_ex o) (vint_Reader_Number_4c5f_1_st o)) := by
  intro r h
  unfold vint_Reader_Number_4c5f_1_step at h
  rcases fork_some h with ⟨h2, h⟩ | ⟨h2, h⟩
  · obtain ⟨u3, h4, h⟩ := andThen_some h
    rcases fork_some h with ⟨h5, h⟩ | ⟨h5, h⟩
    · injection h with h; subst h
      exact ⟨by intro e; simp [vint_Reader_Number_4c5f_1_ex] at e, env.code (its := [.br true, .call [none, none] [0] [] false (vint_Reader_take_a34d_R (1 : Int) x2 u3) (vint_Reader_take_a34d_O (1 : Int) x2 u3), .br true, .sel [2] [0]]) (.c h2 (.c (vint_Reader_take_a34d_ok (1 : Int) x2 u3 h4) (.c h5 .n))) (by kernel_rfl)⟩
    · obtain ⟨h6, h⟩ := need_some h
      obtain ⟨h7, h⟩ := need_some h
      rcases fork_some h with ⟨h8, h⟩ | ⟨h8, h⟩
      · rcases fork_some h with ⟨h9, h⟩ | ⟨h9, h⟩
        · injection h with h; subst h
          exact ⟨by intro e; simp [vint_Reader_Number_4c5f_1_ex] at e, env.code (its := [.br true, .call [none, none] [0] [] false (vint_Reader_take_a34d_R (1 : Int) x2 u3) (vint_Reader_take_a34d_O (1 : Int) x2 u3), .br false, .br true, .br true, .br true, .br true, .br true, .br true, .br true, .br true, .br true, .sel [0] [0]]) (.c h2 (.c (vint_Reader_take_a34d_ok (1 : Int) x2 u3 h4) (.c h5 (.c h6 (.c h7 (.c h6 (.c h8 (.c h9 (.c h9 (.c h9 (.c h9 (.c h9 (.c h9 (.c h9 (.c (rfl : (true : Bool) = true) .n))))))))))))))) (by kernel_rfl)⟩
        · rcases fork_some h with ⟨h10, h⟩ | ⟨h10, h⟩
          · rcases fork_some h with ⟨h11, h⟩ | ⟨h11, h⟩
            · injection h with h; subst h
              exact ⟨by intro e; simp [vint_Reader_Number_4c5f_1_ex] at e, env.code (its := [.br true, .call [none, none] [0] [] false (vint_Reader_take_a34d_R (1 : Int) x2 u3) (vint_Reader_take_a34d_O (1 : Int) x2 u3), .br false, .br true, .br false, .br false, .br false, .br false, .br false, .br true, .br true, .br false, .br true, .br false, .br true, .sel [0] [0]]) (.c h2 (.c (vint_Reader_take_a34d_ok (1 : Int) x2 u3 h4) (.c h5 (.c h6 (.c h7 (.c h6 (.c h8 (.c h9 (.c h9 (.c h6 (.c h9 (.c h9 (.c h9 (.c h10 (.c h10 (.c h9 (.c h10 (.c h9 (.c h11 .n))))))))))))))))))) (by kernel_rfl)⟩
            · injection h with h; subst h
              exact ⟨by intro e; simp [vint_Reader_Number_4c5f_1_ex] at e, env.code (its := [.br true, .call [none, none] [0] [] false (vint_Reader_take_a34d_R (1 : Int) x2 u3) (vint_Reader_take_a34d_O (1 : Int) x2 u3), .br false, .br true, .br false, .br false, .br false, .br false, .br false, .br true, .br true, .br false, .br true, .br false, .br false, .sel [2] [0]]) (.c h2 (.c (vint_Reader_take_a34d_ok (1 : Int) x2 u3 h4) (.c h5 (.c h6 (.c h7 (.c h6 (.c h8 (.c h9 (.c h9 (.c h6 (.c h9 (.c h9 (.c h9 (.c h10 (.c h10 (.c h9 (.c h10 (.c h9 (.c h11 .n))))))))))))))))))) (by kernel_rfl)⟩
          · injection h with h; subst h
            exact ⟨by intro e; simp [vint_Reader_Number_4c5f_1_ex] at e, env.code (its := [.br true, .call [none, none] [0] [] false (vint_Reader_take_a34d_R (1 : Int) x2 u3) (vint_Reader_take_a34d_O (1 : Int) x2 u3), .br false, .br true, .br false, .br false, .br false, .br false, .br false, .br false, .br false, .br false, .br false, .br false, .br false, .sel [2] [0]]) (.c h2 (.c (vint_Reader_take_a34d_ok (1 : Int) x2 u3 h4) (.c h5 (.c h6 (.c h7 (.c h6 (.c h8 (.c h9 (.c h9 (.c h6 (.c h9 (.c h9 (.c h9 (.c h10 (.c h10 (.c h9 (.c h10 (.c h9 (.c (rfl : (false : Bool) = false) .n))))))))))))))))))) (by kernel_rfl)⟩
      · injection h with h; subst h
        exact env.code (its := [.br true, .call [none, none] [0] [] false (vint_Reader_take_a34d_R (1 : Int) x2 u3) (vint_Reader_take_a34d_O (1 : Int) x2 u3), .br false, .br false, .sel [0, 3, 4] [0]]) (.c h2 (.c (vint_Reader_take_a34d_ok (1 : Int) x2 u3 h4) (.c h5 (.c h6 (.c h7 (.c h6 (.c h8 .n))))))) (by kernel_rfl)
  · injection h with h; subst h
    exact ⟨by intro e; simp [vint_Reader_Number_4c5f_1_ex] at e, env.code (its := [.br false, .sel [0] [0]]) (.c h2 .n) (by kernel_rfl)⟩
theorem vint_Reader_Number_4c5f_1_ok (x0 : Int) (x1 : Int) (x2 : List UInt8 × Bool × Unit) (o : (Int × List UInt8 × Bool × Unit) ⊕ (List UInt8 × Bool × Unit)) (h : vint_Reader_Number_4c5f_1 x0 x1 x2 = some o) : CodeOK prog (codeAt (bodyOf f37) [1, 1, 0, 1, 0]) (vint_Reader_Number_4c5f_1_in x0 x1 x2) (vint_Reader_Number_4c5f_1_ex o) (vint_Reader_Number_4c5f_1_st o) :=
  LoopOK.of_step (st := fun s => vint_Reader_Number_4c5f_1_in s.1 s.2.1 s.2.2) (ex := vint_Reader_Number_4c5f_1_ex) (stO := vint_Reader_Number_4c5f_1_st) (fun s s2 hs => vint_Reader_Number_4c5f_1_body s.1 s.2.1 s.2.2 (.inl s2) hs) (fun s r hs => vint_Reader_Number_4c5f_1_body s.1 s.2.1 s.2.2 (.inr r) hs) _ o h
def vint_Reader_Number_4c5f_R (a0 : List UInt8 × Bool × Unit) (u : Int × List UInt8 × Bool × Unit) : Slot := (.v (.int .i64) u.1)
def vint_Reader_Number_4c5f_O (a0 : List UInt8 × Bool × Unit) (u : Int × List UInt8 × Bool × Unit) : List AObj := [.box (.fld (.slice (.int .u8)) (.fld .bool .unit)) (.v (.fld (.slice (.int .u8)) (.fld .bool .unit)) u.2) true]
theorem vint_Reader_Number_4c5f_ok (a0 : List UInt8 × Bool × Unit) (u : Int × List UInt8 × Bool × Unit) (h : vint_Reader_Number_4c5f a0 = some u) : CallC prog 37 [(.ptr 0 [])] [.box (.fld (.slice (.int .u8)) (.fld .bool .unit)) (.v (.fld (.slice (.int .u8)) (.fld .bool .unit)) a0) true] (vint_Reader_Number_4c5f_R a0 u) (vint_Reader_Number_4c5f_O a0 u) := by
  unfold vint_Reader_Number_4c5f at h
  obtain ⟨o12, h13, h⟩ := andThen_some h
  rcases o12 with o14 | o15
  · injection h with h; subst h
    exact env.fun func37 can37 (its := [.dive, .sel [0, 3, 4] [0], .part (vint_Reader_Number_4c5f_1_ex (.inl o14)) (vint_Reader_Number_4c5f_1_st (.inl o14))]) (pos := [.sel [0]]) (.c (vint_Reader_Number_4c5f_1_ok (0 : Int) (0 : Int) a0 (.inl o14) h13) .n) (by kernel_rfl)
  · injection h with h; subst h
    exact env.fun func37 can37 (its := [.dive, .sel [0, 3, 4] [0], .part (vint_Reader_Number_4c5f_1_ex (.inr o15)) (vint_Reader_Number_4c5f_1_st (.inr o15))]) (pos := [.sel [0]]) (.c (vint_Reader_Number_4c5f_1_ok (0 : Int) (0 : Int) a0 (.inr o15) h13) .n) (by kernel_rfl)
theorem can38 : Callable prog 38 := ⟨_, func38, by kernel_rfl, by kernel_rfl⟩
def vint_Reader_Hash_4c5f_R (a0 : List UInt8 × Bool × Unit) (u : List UInt8 × List UInt8 × Bool × Unit) : Slot := (.v (.arr 32 (.int .u8)) u.1)
def vint_Reader_Hash_4c5f_O (a0 : List UInt8 × Bool × Unit) (u : List UInt8 × List UInt8 × Bool × Unit) : List AObj := [.box (.fld (.slice (.int .u8)) (.fld .bool .unit)) (.v (.fld (.slice (.int .u8)) (.fld .bool .unit)) u.2) true]
theorem vint_Reader_Hash_4c5f_ok (a0 : List UInt8 × Bool × Unit) (u : List UInt8 × List UInt8 × Bool × Unit) (h : vint_Reader_Hash_4c5f a0 = some u) : CallC prog 38 [(.ptr 0 [])] [.box (.fld (.slice (.int .u8)) (.fld .bool .unit)) (.v (.fld (.slice (.int .u8)) (.fld .bool .unit)) a0) true] (vint_Reader_Hash_4c5f_R a0 u) (vint_Reader_Hash_4c5f_O a0 u) := by
  unfold vint_Reader_Hash_4c5f at h
  obtain ⟨u1, h2, h⟩ := andThen_some h
  injection h with h; subst h
  exact env.fun func38 can38 (its := [.pre [[], [], [1], [0, 1, 2]], .br true, .call [none, none] [0] [] false (vint_Reader_take_a34d_R (32 : Int) a0 u1) (vint_Reader_take_a34d_O (32 : Int) a0 u1)]) (pos := [.sel [0]]) (.c (vint_Reader_take_a34d_ok (32 : Int) a0 u1 h2) .n) (by kernel_rfl)
theorem can39 : Callable prog 39 := ⟨_, func39, by kernel_rfl, by kernel_rfl⟩
def vint_Reader_Done_4c5f_R (a0 : List UInt8 × Bool × Unit) (u : Bool) : Slot := (.v .bool u)
def vint_Reader_Done_4c5f_O (a0 : List UInt8 × Bool × Unit) (u : Bool) : List AObj := [.box (.fld (.slice (.int .u8)) (.fld .bool .unit)) (.v (.fld (.slice (.int .u8)) (.fld .bool .unit)) a0) true]
theorem vint_Reader_Done_4c5f_ok (a0 : List UInt8 × Bool × Unit) (u : Bool) (h : vint_Reader_Done_4c5f a0 = some u) : CallC prog 39 [(.ptr 0 [])] [.box (.fld (.slice (.int .u8)) (.fld .bool .unit)) (.v (.fld (.slice (.int .u8)) (.fld .bool .unit)) a0) true] (vint_Reader_Done_4c5f_R a0 u) (vint_Reader_Done_4c5f_O a0 u) := by
  unfold vint_Reader_Done_4c5f at h
  rcases fork_some h with ⟨h1, h⟩ | ⟨h1, h⟩
  · injection h with h; subst h
    exact env.fun func39 can39 (its := [.br true, .br true, .br true, .br true, .br true, .br true, .br true]) (pos := [.sel [0]]) (.c h1 (.c h1 (.c h1 (.c h1 (.c h1 (.c h1 (.c h1 .n))))))) (by kernel_rfl)
  · injection h with h; subst h
    exact env.fun func39 can39 (its := [.br false, .br false, .br false, .br false, .br false, .br false, .br false]) (pos := [.sel [0]]) (.c h1 (.c h1 (.c h1 (.c h1 (.c h1 (.c h1 (.c h1 .n))))))) (by kernel_rfl)
theorem can16 : Callable prog 16 := ⟨_, func16, by kernel_rfl, by kernel_rfl⟩
def head_Read_R (a0 : List UInt8) (u : (Int × Int × List UInt8 × List UInt8 × List UInt8 × List UInt8 × Unit) × Int) : Slot := (.tup (.v (.fld (.int .i64) (.fld (.int .i64) (.fld (.arr 32 (.int .u8)) (.fld (.arr 32 (.int .u8)) (.fld (.arr 32 (.int .u8)) (.fld (.arr 32 (.int .u8)) .unit)))))) u.1) (.tup (.v (.int .i64) u.2) .tnil))
def head_Read_O (a0 : List UInt8) (u : (Int × Int × List UInt8 × List UInt8 × List UInt8 × List UInt8 × Unit) × Int) : List AObj := []
theorem head_Read_ok (a0 : List UInt8) (u : (Int × Int × List UInt8 × List UInt8 × List UInt8 × List UInt8 × Unit) × Int) (h : head_Read a0 = some u) : CallC prog 16 [(.v (.slice (.int .u8)) a0)] [] (head_Read_R a0 u) (head_Read_O a0 u) := by
  unfold head_Read at h
  obtain ⟨u1, h2, h⟩ := andThen_some h
  obtain ⟨u3, h4, h⟩ := andThen_some h
  obtain ⟨u5, h6, h⟩ := andThen_some h
  obtain ⟨u7, h8, h⟩ := andThen_some h
  obtain ⟨u9, h10, h⟩ := andThen_some h
  obtain ⟨u11, h12, h⟩ := andThen_some h
  obtain ⟨u13, h14, h⟩ := andThen_some h
  obtain ⟨u15, h16, h⟩ := andThen_some h
  rcases fork_some h with ⟨h17, h⟩ | ⟨h17, h⟩
  · injection h with h; subst h
    exact env.fun func16 can16 (its := [.call [none] [] [] false (vint_Read_R a0 u1) (vint_Read_O a0 u1), .call [none] [1] [] false (vint_Reader_Number_4c5f_R u1 u3) (vint_Reader_Number_4c5f_O u1 u3), .call [none] [1] [] false (vint_Reader_Number_4c5f_R u3.2 u5) (vint_Reader_Number_4c5f_O u3.2 u5), .call [none] [1] [] false (vint_Reader_Hash_4c5f_R u5.2 u7) (vint_Reader_Hash_4c5f_O u5.2 u7), .call [none] [1] [] false (vint_Reader_Hash_4c5f_R u7.2 u9) (vint_Reader_Hash_4c5f_O u7.2 u9), .call [none] [1] [] false (vint_Reader_Hash_4c5f_R u9.2 u11) (vint_Reader_Hash_4c5f_O u9.2 u11), .call [none] [1] [] false (vint_Reader_Hash_4c5f_R u11.2 u13) (vint_Reader_Hash_4c5f_O u11.2 u13), .call [none] [1] [] false (vint_Reader_Done_4c5f_R u13.2 u15) (vint_Reader_Done_4c5f_O u13.2 u15), .br true, .br true, .br true, .br true, .br true]) (pos := [.sel []]) (.c (vint_Read_ok a0 u1 h2) (.c (vint_Reader_Number_4c5f_ok u1 u3 h4) (.c (vint_Reader_Number_4c5f_ok u3.2 u5 h6) (.c (vint_Reader_Hash_4c5f_ok u5.2 u7 h8) (.c (vint_Reader_Hash_4c5f_ok u7.2 u9 h10) (.c (vint_Reader_Hash_4c5f_ok u9.2 u11 h12) (.c (vint_Reader_Hash_4c5f_ok u11.2 u13 h14) (.c (vint_Reader_Done_4c5f_ok u13.2 u15 h16) (.c h17 (.c h17 (.c h17 (.c h17 (.c (rfl : (true : Bool) = true) .n))))))))))))) (by kernel_rfl)
  · obtain ⟨u18, h19, h⟩ := andThen_some h
    rcases fork_some h with ⟨h20, h⟩ | ⟨h20, h⟩
    · injection h with h; subst h
      exact env.fun func16 can16 (its := [.call [none] [] [] false (vint_Read_R a0 u1) (vint_Read_O a0 u1), .call [none] [1] [] false (vint_Reader_Number_4c5f_R u1 u3) (vint_Reader_Number_4c5f_O u1 u3), .call [none] [1] [] false (vint_Reader_Number_4c5f_R u3.2 u5) (vint_Reader_Number_4c5f_O u3.2 u5), .call [none] [1] [] false (vint_Reader_Hash_4c5f_R u5.2 u7) (vint_Reader_Hash_4c5f_O u5.2 u7), .call [none] [1] [] false (vint_Reader_Hash_4c5f_R u7.2 u9) (vint_Reader_Hash_4c5f_O u7.2 u9), .call [none] [1] [] false (vint_Reader_Hash_4c5f_R u9.2 u11) (vint_Reader_Hash_4c5f_O u9.2 u11), .call [none] [1] [] false (vint_Reader_Hash_4c5f_R u11.2 u13) (vint_Reader_Hash_4c5f_O u11.2 u13), .call [none] [1] [] false (vint_Reader_Done_4c5f_R u13.2 u15) (vint_Reader_Done_4c5f_O u13.2 u15), .br false, .br false, .call [none] [] [] true (head_Right_R (u3.1, u5.1, u7.1, u9.1, u11.1, u13.1, ()) u18) (head_Right_O (u3.1, u5.1, u7.1, u9.1, u11.1, u13.1, ()) u18), .br false, .br false, .br true]) (pos := [.sel []]) (.c (vint_Read_ok a0 u1 h2) (.c (vint_Reader_Number_4c5f_ok u1 u3 h4) (.c (vint_Reader_Number_4c5f_ok u3.2 u5 h6) (.c (vint_Reader_Hash_4c5f_ok u5.2 u7 h8) (.c (vint_Reader_Hash_4c5f_ok u7.2 u9 h10) (.c (vint_Reader_Hash_4c5f_ok u9.2 u11 h12) (.c (vint_Reader_Hash_4c5f_ok u11.2 u13 h14) (.c (vint_Reader_Done_4c5f_ok u13.2 u15 h16) (.c h17 (.c h17 (.c (head_Right_ok (u3.1, u5.1, u7.1, u9.1, u11.1, u13.1, ()) u18 h19) (.c h17 (.c h17 (.c h20 .n)))))))))))))) (by kernel_rfl)
    · injection h with h; subst h
      exact env.fun func16 can16 (its := [.call [none] [] [] false (vint_Read_R a0 u1) (vint_Read_O a0 u1), .call [none] [1] [] false (vint_Reader_Number_4c5f_R u1 u3) (vint_Reader_Number_4c5f_O u1 u3), .call [none] [1] [] false (vint_Reader_Number_4c5f_R u3.2 u5) (vint_Reader_Number_4c5f_O u3.2 u5), .call [none] [1] [] false (vint_Reader_Hash_4c5f_R u5.2 u7) (vint_Reader_Hash_4c5f_O u5.2 u7), .call [none] [1] [] false (vint_Reader_Hash_4c5f_R u7.2 u9) (vint_Reader_Hash_4c5f_O u7.2 u9), .call [none] [1] [] false (vint_Reader_Hash_4c5f_R u9.2 u11) (vint_Reader_Hash_4c5f_O u9.2 u11), .call [none] [1] [] false (vint_Reader_Hash_4c5f_R u11.2 u13) (vint_Reader_Hash_4c5f_O u11.2 u13), .call [none] [1] [] false (vint_Reader_Done_4c5f_R u13.2 u15) (vint_Reader_Done_4c5f_O u13.2 u15), .br false, .br false, .call [none] [] [] true (head_Right_R (u3.1, u5.1, u7.1, u9.1, u11.1, u13.1, ()) u18) (head_Right_O (u3.1, u5.1, u7.1, u9.1, u11.1, u13.1, ()) u18), .br false, .br false, .br false]) (pos := [.sel []]) (.c (vint_Read_ok a0 u1 h2) (.c (vint_Reader_Number_4c5f_ok u1 u3 h4) (.c (vint_Reader_Number_4c5f_ok u3.2 u5 h6) (.c (vint_Reader_Hash_4c5f_ok u5.2 u7 h8) (.c (vint_Reader_Hash_4c5f_ok u7.2 u9 h10) (.c (vint_Reader_Hash_4c5f_ok u9.2 u11 h12) (.c (vint_Reader_Hash_4c5f_ok u11.2 u13 h14) (.c (vint_Reader_Done_4c5f_ok u13.2 u15 h16) (.c h17 (.c h17 (.c (head_Right_ok (u3.1, u5.1, u7.1, u9.1, u11.1, u13.1, ()) u18 h19) (.c h17 (.c h17 (.c h20 .n)))))))))))))) (by kernel_rfl)
theorem can15 : Callable prog 15 := ⟨_, func15, by kernel_rfl, by kernel_rfl⟩
def affiantlaw11_HeadRuns_R  (u : Bool) : Slot := (.v .bool u)
def affiantlaw11_HeadRuns_O  (u : Bool) : List AObj := []
theorem affiantlaw11_HeadRuns_ok  (u : Bool) (h : affiantlaw11_HeadRuns  = some u) : CallC prog 15 [] [] (affiantlaw11_HeadRuns_R u) (affiantlaw11_HeadRuns_O u) := by
  unfold affiantlaw11_HeadRuns at h
  obtain ⟨u1, h2, h⟩ := andThen_some h
  obtain ⟨u3, h4, h⟩ := andThen_some h
  rcases fork_some h with ⟨h5, h⟩ | ⟨h5, h⟩
  · obtain ⟨h6, h⟩ := need_some h
    rcases fork_some h with ⟨h7, h⟩ | ⟨h7, h⟩
    · obtain ⟨h8, h⟩ := need_some h
      rcases fork_some h with ⟨h9, h⟩ | ⟨h9, h⟩
      · obtain ⟨h10, h⟩ := need_some h
        rcases fork_some h with ⟨h11, h⟩ | ⟨h11, h⟩
        · rcases fork_some h with ⟨h12, h⟩ | ⟨h12, h⟩
          · obtain ⟨u13, h14, h⟩ := andThen_some h
            injection h with h; subst h
            exact env.fun func15 can15 (its := [.call [none] [] [] true (head_Bytes_R ((3 : Int), (200 : Int), (List.replicate 32 (0 : UInt8)), (List.replicate 32 (0 : UInt8)), (List.replicate 32 (0 : UInt8)), (List.replicate 32 (0 : UInt8)), ()) u1) (head_Bytes_O ((3 : Int), (200 : Int), (List.replicate 32 (0 : UInt8)), (List.replicate 32 (0 : UInt8)), (List.replicate 32 (0 : UInt8)), (List.replicate 32 (0 : UInt8)), ()) u1), .call [none] [] [1] true (head_Read_R ([(3 : UInt8)] : List (UInt8)) u3) (head_Read_O ([(3 : UInt8)] : List (UInt8)) u3), .br true, .br true, .br true, .br true, .br true, .br true, .br true, .br true, .br true, .br true, .br true, .br true, .br true, .br true, .br true, .br true, .br true, .br true, .br true, .br true, .call [none] [] [] true (head_Right_R ((0 : Int), (0 : Int), (List.replicate 32 (0 : UInt8)), (List.replicate 32 (0 : UInt8)), (List.replicate 32 (0 : UInt8)), (List.replicate 32 (0 : UInt8)), ()) u13) (head_Right_O ((0 : Int), (0 : Int), (List.replicate 32 (0 : UInt8)), (List.replicate 32 (0 : UInt8)), (List.replicate 32 (0 : UInt8)), (List.replicate 32 (0 : UInt8)), ()) u13), .br true, .br true]) (pos := [.sel []]) (.c (head_Bytes_ok ((3 : Int), (200 : Int), (List.replicate 32 (0 : UInt8)), (List.replicate 32 (0 : UInt8)), (List.replicate 32 (0 : UInt8)), (List.replicate 32 (0 : UInt8)), ()) u1 h2) (.c (head_Read_ok ([(3 : UInt8)] : List (UInt8)) u3 h4) (.c h5 (.c h5 (.c h6 (.c h5 (.c h5 (.c h5 (.c h7 (.c h7 (.c h8 (.c h7 (.c h7 (.c h7 (.c h9 (.c h9 (.c h10 (.c h9 (.c h9 (.c h9 (.c h11 (.c h11 (.c h11 (.c h12 (.c h12 (.c (head_Right_ok ((0 : Int), (0 : Int), (List.replicate 32 (0 : UInt8)), (List.replicate 32 (0 : UInt8)), (List.replicate 32 (0 : UInt8)), (List.replicate 32 (0 : UInt8)), ()) u13 h14) (.c h12 (.c h12 .n)))))))))))))))))))))))))))) (by kernel_rfl)
          · cases h
        · cases h
      · cases h
    · cases h
  · cases h
theorem can17 : Callable prog 17 := ⟨_, func17, by kernel_rfl, by kernel_rfl⟩
def affiantbook_Same_byte_1_in (x0 : List UInt8) (x1 : List UInt8) (x2 : Int) : St := ⟨[(0, (.v (.slice (.int .u8)) x0)), (1, (.v (.slice (.int .u8)) x1)), (5, (.v (.int .i64) x2))], [], 26, 0⟩
def affiantbook_Same_byte_1_ex (o : (Bool) ⊕ (Unit)) : Exit := match o with | (.inl o) => .ret | (.inr o) => (.exit 0)
def affiantbook_Same_byte_1_st (o : (Bool) ⊕ (Unit)) : St := match o with | (.inl o) => ⟨[(4, (.v .bool o))], [], 26, 0⟩ | (.inr o) => ⟨[], [], 26, 0⟩
theorem affiantbook_Same_byte_1_body (x0 : List UInt8) (x1 : List UInt8) (x2 : Int) : ∀ r, affiantbook_Same_byte_1_step x0 x1 x2 = some r → (match r with | .inl s => CodeOK prog (codeAt (bodyOf f17) [1, 1, 0, 1, 0, 0]) (affiantbook_Same_byte_1_in x0 x1 x2) .normal (affiantbook_Same_byte_1_in x0 x1 s) | .inr o => affiantbook_Same_byte_1_ex o ≠ .normal ∧ CodeOK prog (codeAt (bodyOf f17) [1, 1, 0, 1, 0, 0]) (affiantbook_Same_byte_1_in x0 x1 x2) (affiantbook_Same_byte_1_ex o) (affiantbook_Same_byte_1_st o)) := by
  intro r h
  unfold affiantbook_Same_byte_1_step at h
  rcases fork_some h with ⟨h3, h⟩ | ⟨h3, h⟩
  · obtain ⟨h4, h⟩ := need_some h
    obtain ⟨h5, h⟩ := need_some h
    rcases fork_some h with ⟨h6, h⟩ | ⟨h6, h⟩
    · injection h with h; subst h
      exact ⟨by intro e; simp [affiantbook_Same_byte_1_ex] at e, env.code (its := [.br true, .pre [[], [], [0, 1], [0, 1, 2], [], [], [4, 5], [4, 5, 6], [0, 1, 2, 3, 4, 5, 6, 7]], .br true, .sel [4] []]) (.c h3 (.c h4 (.c h5 (.c h6 .n)))) (by kernel_rfl)⟩
    · injection h with h; subst h
      exact env.code (its := [.br true, .pre [[], [], [0, 1], [0, 1, 2], [], [], [4, 5], [4, 5, 6], [0, 1, 2, 3, 4, 5, 6, 7]], .br false, .sel [0, 1, 5] []]) (.c h3 (.c h4 (.c h5 (.c h6 .n)))) (by kernel_rfl)
  · injection h with h; subst h
    exact ⟨by intro e; simp [affiantbook_Same_byte_1_ex] at e, env.code (its := [.br false, .sel [] []]) (.c h3 .n) (by kernel_rfl)⟩
theorem affiantbook_Same_byte_1_ok (x0 : List UInt8) (x1 : List UInt8) (x2 : Int) (o : (Bool) ⊕ (Unit)) (h : affiantbook_Same_byte_1 x0 x1 x2 = some o) : CodeOK prog (codeAt (bodyOf f17) [1, 1, 0, 1, 0]) (affiantbook_Same_byte_1_in x0 x1 x2) (affiantbook_Same_byte_1_ex o) (affiantbook_Same_byte_1_st o) :=
  LoopOK.of_step (st := fun s => affiantbook_Same_byte_1_in x0 x1 s) (ex := affiantbook_Same_byte_1_ex) (stO := affiantbook_Same_byte_1_st) (fun s s2 hs => affiantbook_Same_byte_1_body x0 x1 s (.inl s2) hs) (fun s r hs => affiantbook_Same_byte_1_body x0 x1 s (.inr r) hs) _ o h
def affiantbook_Same_byte_R (a0 : List UInt8) (a1 : List UInt8) (u : Bool) : Slot := (.v .bool u)
def affiantbook_Same_byte_O (a0 : List UInt8) (a1 : List UInt8) (u : Bool) : List AObj := []
theorem affiantbook_Same_byte_ok (a0 : List UInt8) (a1 : List UInt8) (u : Bool) (h : affiantbook_Same_byte a0 a1 = some u) : CallC prog 17 [(.v (.slice (.int .u8)) a0), (.v (.slice (.int .u8)) a1)] [] (affiantbook_Same_byte_R a0 a1 u) (affiantbook_Same_byte_O a0 a1 u) := by
  unfold affiantbook_Same_byte at h
  rcases fork_some h with ⟨h1, h⟩ | ⟨h1, h⟩
  · injection h with h; subst h
    exact env.fun func17 can17 (its := [.br true]) (pos := [.sel []]) (.c h1 .n) (by kernel_rfl)
  · obtain ⟨o7, h8, h⟩ := andThen_some h
    rcases o7 with o9 | o10
    · injection h with h; subst h
      exact env.fun func17 can17 (its := [.br false, .dive, .sel [0, 1, 5] [], .part (affiantbook_Same_byte_1_ex (.inl o9)) (affiantbook_Same_byte_1_st (.inl o9))]) (pos := [.sel []]) (.c h1 (.c (affiantbook_Same_byte_1_ok a0 a1 (0 : Int) (.inl o9) h8) .n)) (by kernel_rfl)
    · injection h with h; subst h
      exact env.fun func17 can17 (its := [.br false, .dive, .sel [0, 1, 5] [], .part (affiantbook_Same_byte_1_ex (.inr o10)) (affiantbook_Same_byte_1_st (.inr o10))]) (pos := [.sel []]) (.c h1 (.c (affiantbook_Same_byte_1_ok a0 a1 (0 : Int) (.inr o10) h8) .n)) (by kernel_rfl)
theorem can54 : Callable prog 54 := ⟨_, func54, by kernel_rfl, by kernel_rfl⟩
def sha_first_R  (u : List UInt32) : Slot := (.v (.arr 8 (.int .u32)) u)
def sha_first_O  (u : List UInt32) : List AObj := []
theorem sha_first_ok  (u : List UInt32) (h : sha_first  = some u) : CallC prog 54 [] [] (sha_first_R u) (sha_first_O u) := by
  unfold sha_first at h
  injection h with h; subst h
  exact env.fun func54 can54 (its := []) (pos := [.sel []]) .n (by kernel_rfl)
theorem can55 : Callable prog 55 := ⟨_, func55, by kernel_rfl, by kernel_rfl⟩
def sha_added_R  (u : List UInt32) : Slot := (.v (.arr 64 (.int .u32)) u)
def sha_added_O  (u : List UInt32) : List AObj := []
theorem sha_added_ok  (u : List UInt32) (h : sha_added  = some u) : CallC prog 55 [] [] (sha_added_R u) (sha_added_O u) := by
  unfold sha_added at h
  injection h with h; subst h
  exact env.fun func55 can55 (its := []) (pos := [.sel []]) .n (by kernel_rfl)
theorem can59 : Callable prog 59 := ⟨_, func59, by kernel_rfl, by kernel_rfl⟩
def sha_Blocks_R (a0 : Int) (u : Int) : Slot := (.v (.int .i64) u)
def sha_Blocks_O (a0 : Int) (u : Int) : List AObj := []
theorem sha_Blocks_ok (a0 : Int) (u : Int) (h : sha_Blocks a0 = some u) : CallC prog 59 [(.v (.int .i64) a0)] [] (sha_Blocks_R a0 u) (sha_Blocks_O a0 u) := by
  unfold sha_Blocks at h
  injection h with h; subst h
  exact env.fun func59 can59 (its := []) (pos := [.sel []]) (.c (of_decide_eq_true (p := ((64 : Int) ≠ 0)) (by kernel_rfl)) .n) (by kernel_rfl)
theorem can56 : Callable prog 56 := ⟨_, func56, by kernel_rfl, by kernel_rfl⟩
def sha_padded_1_in (x0 : UInt64) (x1 : Int) (x2 : List UInt8) : St := ⟨[(3, (.own 0 [])), (4, (.v (.int .u64) x0)), (22, (.v (.int .i64) x1))], [.row (.int .u8) x2 true], 39, 0⟩
def sha_padded_1_ex (o : List UInt8) : Exit := (.exit 0)
def sha_padded_1_st (o : List UInt8) : St := ⟨[(3, (.own 0 []))], [.row (.int .u8) o true], 39, 0⟩
theorem sha_padded_1_body (x0 : UInt64) (x1 : Int) (x2 : List UInt8) : ∀ r, sha_padded_1_step x0 x1 x2 = some r → (match r with | .inl s => CodeOK prog (codeAt (bodyOf f56) [1, 1, 1, 1, 1, 0, 1, 0, 0]) (sha_padded_1_in x0 x1 x2) .normal (sha_padded_1_in x0 s.1 s.2) | .inr o => sha_padded_1_ex o ≠ .normal ∧ CodeOK prog (codeAt (bodyOf f56) [1, 1, 1, 1, 1, 0, 1, 0, 0]) (sha_padded_1_in x0 x1 x2) (sha_padded_1_ex o) (sha_padded_1_st o)) := by
  intro r h
  unfold sha_padded_1_step at h
  rcases fork_some h with ⟨h6, h⟩ | ⟨h6, h⟩
  · obtain ⟨h7, h⟩ := need_some h
    obtain ⟨h8, h⟩ := need_some h
    injection h with h; subst h
    exact env.code (its := [.br true, .dive, .sel [3, 4, 22] [0]]) (.c h6 (.c h7 (.c h8 .n))) (by kernel_rfl)
  · injection h with h; subst h
    exact ⟨by intro e; simp [sha_padded_1_ex] at e, env.code (its := [.br false, .sel [3] [0]]) (.c h6 .n) (by kernel_rfl)⟩
theorem sha_padded_1_ok (x0 : UInt64) (x1 : Int) (x2 : List UInt8) (o : List UInt8) (h : sha_padded_1 x0 x1 x2 = some o) : CodeOK prog (codeAt (bodyOf f56) [1, 1, 1, 1, 1, 0, 1, 0]) (sha_padded_1_in x0 x1 x2) (sha_padded_1_ex o) (sha_padded_1_st o) :=
  LoopOK.of_step (st := fun s => sha_padded_1_in x0 s.1 s.2) (ex := sha_padded_1_ex) (stO := sha_padded_1_st) (fun s s2 hs => sha_padded_1_body x0 s.1 s.2 (.inl s2) hs) (fun s r hs => sha_padded_1_body x0 s.1 s.2 (.inr r) hs) _ o h
def sha_padded_R (a0 : List UInt8) (u : List UInt8) : Slot := (.own 0 [])
def sha_padded_O (a0 : List UInt8) (u : List UInt8) : List AObj := [.row (.int .u8) u true]
theorem sha_padded_ok (a0 : List UInt8) (u : List UInt8) (h : sha_padded a0 = some u) : CallC prog 56 [(.v (.slice (.int .u8)) a0)] [] (sha_padded_R a0 u) (sha_padded_O a0 u) := by
  unfold sha_padded at h
  obtain ⟨u1, h2, h⟩ := andThen_some h
  obtain ⟨h3, h⟩ := need_some h
  obtain ⟨h4, h⟩ := need_some h
  obtain ⟨o9, h10, h⟩ := andThen_some h
  injection h with h; subst h
  exact env.fun func56 can56 (its := [.call [none] [] [] true (sha_Blocks_R (List.length a0 : Int) u1) (sha_Blocks_O (List.length a0 : Int) u1), .dive, .sel [3, 4, 22] [0], .part (sha_padded_1_ex o9) (sha_padded_1_st o9)]) (pos := [.sel [0]]) (.c (sha_Blocks_ok (List.length a0 : Int) u1 h2) (.c h3 (.c h4 (.c (sha_padded_1_ok ((UInt64.ofNat (Int.toNat ((List.length a0 : Int) % 18446744073709551616))) * (8 : UInt64)) (0 : Int) (List.set (List.take (List.length (List.replicate (Int.toNat (w64 (u1 * (64 : Int)))) (0 : UInt8))) a0 ++ List.drop (List.length a0) (List.replicate (Int.toNat (w64 (u1 * (64 : Int)))) (0 : UInt8))) (Int.toNat (List.length a0 : Int)) (128 : UInt8)) o9 h10) .n)))) (by kernel_rfl)
theorem can62 : Callable prog 62 := ⟨_, func62, by kernel_rfl, by kernel_rfl⟩
def bits_RotateLeft32_R (a0 : UInt32) (a1 : Int) (u : UInt32) : Slot := (.v (.int .u32) u)
def bits_RotateLeft32_O (a0 : UInt32) (a1 : Int) (u : UInt32) : List AObj := []
theorem bits_RotateLeft32_ok (a0 : UInt32) (a1 : Int) (u : UInt32) (h : bits_RotateLeft32 a0 a1 = some u) : CallC prog 62 [(.v (.int .u32) a0), (.v (.int .i64) a1)] [] (bits_RotateLeft32_R a0 a1 u) (bits_RotateLeft32_O a0 a1 u) := by
  unfold bits_RotateLeft32 at h
  obtain ⟨h1, h⟩ := need_some h
  obtain ⟨h2, h⟩ := need_some h
  injection h with h; subst h
  exact env.fun func62 can62 (its := []) (pos := [.sel []]) (.c h1 (.c h2 .n)) (by kernel_rfl)
theorem can61 : Callable prog 61 := ⟨_, func61, by kernel_rfl, by kernel_rfl⟩
def sha_right_R (a0 : UInt32) (a1 : Int) (u : UInt32) : Slot := (.v (.int .u32) u)
def sha_right_O (a0 : UInt32) (a1 : Int) (u : UInt32) : List AObj := []
theorem sha_right_ok (a0 : UInt32) (a1 : Int) (u : UInt32) (h : sha_right a0 a1 = some u) : CallC prog 61 [(.v (.int .u32) a0), (.v (.int .i64) a1)] [] (sha_right_R a0 a1 u) (sha_right_O a0 a1 u) := by
  unfold sha_right at h
  obtain ⟨u1, h2, h⟩ := andThen_some h
  injection h with h; subst h
  exact env.fun func61 can61 (its := [.call [none, none] [] [] true (bits_RotateLeft32_R a0 (w64 (0 - a1)) u1) (bits_RotateLeft32_O a0 (w64 (0 - a1)) u1)]) (pos := [.sel []]) (.c (bits_RotateLeft32_ok a0 (w64 (0 - a1)) u1 h2) .n) (by kernel_rfl)
theorem can60 : Callable prog 60 := ⟨_, func60, by kernel_rfl, by kernel_rfl⟩
def sha_spread_1_in (x0 : List UInt8) (x1 : Int) (x2 : List UInt32) (x3 : List UInt32) : St := ⟨[(0, (.v (.slice (.int .u8)) x0)), (2, (.ptr 0 [])), (3, (.ptr 1 [])), (8, (.v (.int .i64) x1))], [.box (.arr 64 (.int .u32)) (.v (.arr 64 (.int .u32)) x2) true, .box (.arr 64 (.int .u32)) (.v (.arr 64 (.int .u32)) x3) true], 89, 0⟩
def sha_spread_1_ex (o : List UInt32 × List UInt32) : Exit := (.exit 0)
def sha_spread_1_st (o : List UInt32 × List UInt32) : St := ⟨[(2, (.ptr 0 [])), (3, (.ptr 1 []))], [.box (.arr 64 (.int .u32)) (.v (.arr 64 (.int .u32)) o.1) true, .box (.arr 64 (.int .u32)) (.v (.arr 64 (.int .u32)) o.2) true], 89, 0⟩
theorem sha_spread_1_body (x0 : List UInt8) (x1 : Int) (x2 : List UInt32) (x3 : List UInt32) : ∀ r, sha_spread_1_step x0 x1 x2 x3 = some r → (match r with | .inl s => CodeOK prog (codeAt (bodyOf f60) [1, 1, 0, 1, 0, 0]) (sha_spread_1_in x0 x1 x2 x3) .normal (sha_spread_1_in x0 s.1 x2 s.2) | .inr o => sha_spread_1_ex o ≠ .normal ∧ CodeOK prog (codeAt (bodyOf f60) [1, 1, 0, 1, 0, 0]) (sha_spread_1_in x0 x1 x2 x3) (sha_spread_1_ex o) (sha_spread_1_st o)) := by
  intro r h
  unfold sha_spread_1_step at h
  rcases fork_some h with ⟨h2, h⟩ | ⟨h2, h⟩
  · obtain ⟨h3, h⟩ := need_some h
    obtain ⟨h4, h⟩ := need_some h
    obtain ⟨h5, h⟩ := need_some h
    obtain ⟨h6, h⟩ := need_some h
    obtain ⟨h7, h⟩ := need_some h
    injection h with h; subst h
    exact env.code (its := [.br true, .pre [[], [], [], [2], [1, 2, 3], [1, 2, 3, 4], [1, 2, 3, 4, 5], [1, 2, 3, 4, 5, 6], [], [], [9], [9, 10], [8, 9, 10, 11], [8, 9, 10, 11, 12], [8, 9, 10, 11, 12, 13], [8, 9, 10, 11, 12, 13, 14], [1, 2, 3, 4, 5, 6, 7, 8, 9, 10, 11, 12, 13, 14, 15], [], [], [18], [18, 19], [17, 18, 19, 20], [17, 18, 19, 20, 21], [17, 18, 19, 20, 21, 22], [17, 18, 19, 20, 21, 22, 23], [1, 2, 3, 4, 5, 6, 7, 8, 9, 10, 11, 12, 13, 14, 15, 16, 17, 18, 19, 20, 21, 22, 23, 24], [], [], [27], [27, 28], [26, 27, 28, 29], [26, 27, 28, 29, 30], [26, 27, 28, 29, 30, 31], [1, 2, 3, 4, 5, 6, 7, 8, 9, 10, 11, 12, 13, 14, 15, 16, 17, 18, 19, 20, 21, 22, 23, 24, 25, 26, 27, 28, 29, 30, 31, 32], [0, 1, 2, 3, 4, 5, 6, 7, 8, 9, 10, 11, 12, 13, 14, 15, 16, 17, 18, 19, 20, 21, 22, 23, 24, 25, 26, 27, 28, 29, 30, 31, 32, 33], [0, 1, 2, 3, 4, 5, 6, 7, 8, 9, 10, 11, 12, 13, 14, 15, 16, 17, 18, 19, 20, 21, 22, 23, 24, 25, 26, 27, 28, 29, 30, 31, 32, 33, 34]], .sel [0, 2, 3, 8] [0, 1]]) (.c h2 (.c h3 (.c (of_decide_eq_true (p := (0 ≤ (24 : Int))) (by kernel_rfl)) (.c h4 (.c (of_decide_eq_true (p := (0 ≤ (16 : Int))) (by kernel_rfl)) (.c h5 (.c (of_decide_eq_true (p := (0 ≤ (8 : Int))) (by kernel_rfl)) (.c h6 (.c h7 .n))))))))) (by kernel_rfl)
  · injection h with h; subst h
    exact ⟨by intro e; simp [sha_spread_1_ex] at e, env.code (its := [.br false, .sel [2, 3] [0, 1]]) (.c h2 .n) (by kernel_rfl)⟩
theorem sha_spread_1_ok (x0 : List UInt8) (x1 : Int) (x2 : List UInt32) (x3 : List UInt32) (o : List UInt32 × List UInt32) (h : sha_spread_1 x0 x1 x2 x3 = some o) : CodeOK prog (codeAt (bodyOf f60) [1, 1, 0, 1, 0]) (sha_spread_1_in x0 x1 x2 x3) (sha_spread_1_ex o) (sha_spread_1_st o) :=
  LoopOK.of_step (st := fun s => sha_spread_1_in x0 s.1 x2 s.2) (ex := sha_spread_1_ex) (stO := sha_spread_1_st) (fun s s2 hs => sha_spread_1_body x0 s.1 x2 s.2 (.inl s2) hs) (fun s r hs => sha_spread_1_body x0 s.1 x2 s.2 (.inr r) hs) _ o h
def sha_spread_2_in (x0 : Int) (x1 : List UInt32) (x2 : List UInt32) : St := ⟨[(2, (.ptr 0 [])), (3, (.ptr 1 [])), (5, (.v (.int .i64) x0))], [.box (.arr 64 (.int .u32)) (.v (.arr 64 (.int .u32)) x1) true, .box (.arr 64 (.int .u32)) (.v (.arr 64 (.int .u32)) x2) true], 89, 0⟩
def sha_spread_2_ex (o : List UInt32 × List UInt32) : Exit := (.exit 2)
def sha_spread_2_st (o : List UInt32 × List UInt32) : St := ⟨[(2, (.ptr 0 [])), (3, (.ptr 1 []))], [.box (.arr 64 (.int .u32)) (.v (.arr 64 (.int .u32)) o.1) true, .box (.arr 64 (.int .u32)) (.v (.arr 64 (.int .u32)) o.2) true], 89, 0⟩
theorem sha_spread_2_body (x0 : Int) (x1 : List UInt32) (x2 : List UInt32) : ∀ r, sha_spread_2_step x0 x1 x2 = some r → (match r with | .inl s => CodeOK prog (codeAt (bodyOf f60) [1, 1, 1, 0, 1, 0, 0]) (sha_spread_2_in x0 x1 x2) .normal (sha_spread_2_in s.1 x1 s.2) | .inr o => sha_spread_2_ex o ≠ .normal ∧ CodeOK prog (codeAt (bodyOf f60) [1, 1, 1, 0, 1, 0, 0]) (sha_spread_2_in x0 x1 x2) (sha_spread_2_ex o) (sha_spread_2_st o)) := by
  intro r h
  unfold sha_spread_2_step at h
  rcases fork_some h with ⟨h11, h⟩ | ⟨h11, h⟩
  · obtain ⟨h12, h⟩ := need_some h
    obtain ⟨h13, h⟩ := need_some h
    obtain ⟨h14, h⟩ := need_some h
    obtain ⟨u15, h16, h⟩ := andThen_some h
    obtain ⟨u17, h18, h⟩ := andThen_some h
    obtain ⟨h19, h⟩ := need_some h
    obtain ⟨u20, h21, h⟩ := andThen_some h
    obtain ⟨u22, h23, h⟩ := andThen_some h
    obtain ⟨h24, h⟩ := need_some h
    injection h with h; subst h
    exact env.code (its := [.br true, .pre [[], [0], [0, 1], [0, 1, 2], [], [4], [4, 5], [4, 5, 6], [0, 1, 2, 3], [0, 1, 2, 3, 4, 5, 6, 7, 8]], .pre [[], [], [1], [1, 2], [1, 2, 3], [], [5], [], [5, 6, 7], [5, 6, 7, 8], [], [10], [5, 6, 7, 8, 9, 10, 11], [1, 2, 3, 4, 5, 6, 7, 8, 9, 10, 11, 12], [], [14], [14, 15], [14, 15, 16], [1, 2, 3, 4, 5, 6, 7, 8, 9, 10, 11, 12, 13, 14, 15, 16, 17], [], [5, 6, 7, 8, 19], [], [5, 6, 7, 8, 19, 20, 21], [5, 6, 7, 8, 19, 20, 21, 22], [], [24], [5, 6, 7, 8, 19, 20, 21, 22, 23, 24, 25], [1, 2, 3, 4, 5, 6, 7, 8, 9, 10, 11, 12, 13, 14, 15, 16, 17, 18, 19, 20, 21, 22, 23, 24, 25, 26], [0, 1, 2, 3, 4, 5, 6, 7, 8, 9, 10, 11, 12, 13, 14, 15, 16, 17, 18, 19, 20, 21, 22, 23, 24, 25, 26, 27], [0, 1, 2, 3, 4, 5, 6, 7, 8, 9, 10, 11, 12, 13, 14, 15, 16, 17, 18, 19, 20, 21, 22, 23, 24, 25, 26, 27, 28]], .call [none, none] [] [] true (sha_right_R (List.getD x2 (Int.toNat (w64 (x0 - (15 : Int)))) (0 : UInt32)) (7 : Int) u15) (sha_right_O (List.getD x2 (Int.toNat (w64 (x0 - (15 : Int)))) (0 : UInt32)) (7 : Int) u15), .call [none, none] [] [] true (sha_right_R (List.getD x2 (Int.toNat (w64 (x0 - (15 : Int)))) (0 : UInt32)) (18 : Int) u17) (sha_right_O (List.getD x2 (Int.toNat (w64 (x0 - (15 : Int)))) (0 : UInt32)) (18 : Int) u17), .call [none, none] [] [] true (sha_right_R (List.getD x2 (Int.toNat (w64 (x0 - (2 : Int)))) (0 : UInt32)) (17 : Int) u20) (sha_right_O (List.getD x2 (Int.toNat (w64 (x0 - (2 : Int)))) (0 : UInt32)) (17 : Int) u20), .call [none, none] [] [] true (sha_right_R (List.getD x2 (Int.toNat (w64 (x0 - (2 : Int)))) (0 : UInt32)) (19 : Int) u22) (sha_right_O (List.getD x2 (Int.toNat (w64 (x0 - (2 : Int)))) (0 : UInt32)) (19 : Int) u22), .sel [2, 3, 5] [0, 1]]) (.c h11 (.c h12 (.c h13 (.c h14 (.c (sha_right_ok (List.getD x2 (Int.toNat (w64 (x0 - (15 : Int)))) (0 : UInt32)) (7 : Int) u15 h16) (.c (sha_right_ok (List.getD x2 (Int.toNat (w64 (x0 - (15 : Int)))) (0 : UInt32)) (18 : Int) u17 h18) (.c (of_decide_eq_true (p := (0 ≤ (3 : Int))) (by kernel_rfl)) (.c h19 (.c (sha_right_ok (List.getD x2 (Int.toNat (w64 (x0 - (2 : Int)))) (0 : UInt32)) (17 : Int) u20 h21) (.c (sha_right_ok (List.getD x2 (Int.toNat (w64 (x0 - (2 : Int)))) (0 : UInt32)) (19 : Int) u22 h23) (.c (of_decide_eq_true (p := (0 ≤ (10 : Int))) (by kernel_rfl)) (.c h24 .n)))))))))))) (by kernel_rfl)
  · injection h with h; subst h
    exact ⟨by intro e; simp [sha_spread_2_ex] at e, env.code (its := [.br false, .sel [2, 3] [0, 1]]) (.c h11 .n) (by kernel_rfl)⟩
theorem sha_spread_2_ok (x0 : Int) (x1 : List UInt32) (x2 : List UInt32) (o : List UInt32 × List UInt32) (h : sha_spread_2 x0 x1 x2 = some o) : CodeOK prog (codeAt (bodyOf f60) [1, 1, 1, 0, 1, 0]) (sha_spread_2_in x0 x1 x2) (sha_spread_2_ex o) (sha_spread_2_st o) :=
  LoopOK.of_step (st := fun s => sha_spread_2_in s.1 x1 s.2) (ex := sha_spread_2_ex) (stO := sha_spread_2_st) (fun s s2 hs => sha_spread_2_body s.1 x1 s.2 (.inl s2) hs) (fun s r hs => sha_spread_2_body s.1 x1 s.2 (.inr r) hs) _ o h
def sha_spread_R (a0 : List UInt8) (u : List UInt32) : Slot := (.v (.arr 64 (.int .u32)) u)
def sha_spread_O (a0 : List UInt8) (u : List UInt32) : List AObj := []
theorem sha_spread_ok (a0 : List UInt8) (u : List UInt32) (h : sha_spread a0 = some u) : CallC prog 60 [(.v (.slice (.int .u8)) a0)] [] (sha_spread_R a0 u) (sha_spread_O a0 u) := by
  unfold sha_spread at h
  obtain ⟨o8, h9, h⟩ := andThen_some h
  obtain ⟨o25, h26, h⟩ := andThen_some h
  injection h with h; subst h
  exact env.fun func60 can60 (its := [.dive, .sel [0, 2, 3, 8] [0, 1], .part (sha_spread_1_ex o8) (sha_spread_1_st o8), .dive, .sel [2, 3, 5] [0, 1], .part (sha_spread_2_ex o25) (sha_spread_2_st o25)]) (pos := [.sel []]) (.c (sha_spread_1_ok a0 (0 : Int) (List.replicate 64 (0 : UInt32)) (List.replicate 64 (0 : UInt32)) o8 h9) (.c (sha_spread_2_ok (16 : Int) o8.1 o8.2 o25 h26) .n)) (by kernel_rfl)
theorem can57 : Callable prog 57 := ⟨_, func57, by kernel_rfl, by kernel_rfl⟩
def sha_mix_655a_1_in (x0 : UInt32) (x1 : UInt32) (x2 : UInt32) (x3 : UInt32) (x4 : UInt32) (x5 : UInt32) (x6 : UInt32) (x7 : UInt32) (x8 : Int) (x9 : List UInt32) (x10 : List UInt32) (x11 : List UInt32) : St := ⟨[(0, (.ptr 0 [])), (1, (.ptr 1 [])), (6, (.ptr 2 [])), (7, (.v (.int .u32) x0)), (8, (.v (.int .u32) x1)), (9, (.v (.int .u32) x2)), (10, (.v (.int .u32) x3)), (11, (.v (.int .u32) x4)), (12, (.v (.int .u32) x5)), (13, (.v (.int .u32) x6)), (14, (.v (.int .u32) x7)), (56, (.v (.int .i64) x8))], [.box (.arr 8 (.int .u32)) (.v (.arr 8 (.int .u32)) x9) true, .box (.arr 64 (.int .u32)) (.v (.arr 64 (.int .u32)) x10) true, .box (.arr 64 (.int .u32)) (.v (.arr 64 (.int .u32)) x11) true], 146, 2⟩
def sha_mix_655a_1_ex (o : UInt32 × UInt32 × UInt32 × UInt32 × UInt32 × UInt32 × UInt32 × UInt32 × List UInt32 × List UInt32) : Exit := (.exit 0)
def sha_mix_655a_1_st (o : UInt32 × UInt32 × UInt32 × UInt32 × UInt32 × UInt32 × UInt32 × UInt32 × List UInt32 × List UInt32) : St := ⟨[(0, (.ptr 0 [])), (7, (.v (.int .u32) o.1)), (8, (.v (.int .u32) o.2.1)), (9, (.v (.int .u32) o.2.2.1)), (10, (.v (.int .u32) o.2.2.2.1)), (11, (.v (.int .u32) o.2.2.2.2.1)), (12, (.v (.int .u32) o.2.2.2.2.2.1)), (13, (.v (.int .u32) o.2.2.2.2.2.2.1)), (14, (.v (.int .u32) o.2.2.2.2.2.2.2.1))], [.box (.arr 8 (.int .u32)) (.v (.arr 8 (.int .u32)) o.2.2.2.2.2.2.2.2.1) true, .box (.arr 64 (.int .u32)) (.v (.arr 64 (.int .u32)) o.2.2.2.2.2.2.2.2.2) true], 146, 2⟩
theorem sha_mix_655a_1_body (x0 : UInt32) (x1 : UInt32) (x2 : UInt32) (x3 : UInt32) (x4 : UInt32) (x5 : UInt32) (x6 : UInt32) (x7 : UInt32) (x8 : Int) (x9 : List UInt32) (x10 : List UInt32) (x11 : List UInt32) : ∀ r, sha_mix_655a_1_step x0 x1 x2 x3 x4 x5 x6 x7 x8 x9 x10 x11 = some r → (match r with | .inl s => CodeOK prog (codeAt (bodyOf f57) [1, 1, 0, 1, 0, 0]) (sha_mix_655a_1_in x0 x1 x2 x3 x4 x5 x6 x7 x8 x9 x10 x11) .normal (sha_mix_655a_1_in s.1 s.2.1 s.2.2.1 s.2.2.2.1 s.2.2.2.2.1 s.2.2.2.2.2.1 s.2.2.2.2.2.2.1 s.2.2.2.2.2.2.2.1 s.2.2.2.2.2.2.2.2 x9 x10 x11) | .inr o => sha_mix_655a_1_ex o ≠ .normal ∧ CodeOK prog (codeAt (bodyOf f57) [1, 1, 0, 1, 0, 0]) (sha_mix_655a_1_in x0 x1 x2 x3 x4 x5 x6 x7 x8 x9 x10 x11) (sha_mix_655a_1_ex o) (sha_mix_655a_1_st o)) := by
  intro r h
  unfold sha_mix_655a_1_step at h
  rcases fork_some h with ⟨h4, h⟩ | ⟨h4, h⟩
  · obtain ⟨u5, h6, h⟩ := andThen_some h
    obtain ⟨u7, h8, h⟩ := andThen_some h
    obtain ⟨u9, h10, h⟩ := andThen_some h
    obtain ⟨h11, h⟩ := need_some h
    obtain ⟨u12, h13, h⟩ := andThen_some h
    obtain ⟨u14, h15, h⟩ := andThen_some h
    obtain ⟨u16, h17, h⟩ := andThen_some h
    injection h with h; subst h
    exact env.code (its := [.br true, .pre [[], [], [1], [], [1, 2, 3], [1, 2, 3, 4], [], [1, 2, 3, 4, 6], [1, 2, 3, 4, 5, 6, 7], [0, 1, 2, 3, 4, 5, 6, 7, 8], [], [0, 1, 2, 3, 4, 5, 6, 7, 8, 9, 10], [], [], [12], [12, 13, 14], [12, 13, 14, 15], [0, 1, 2, 3, 4, 5, 6, 7, 8, 9, 10, 11, 12, 13, 14, 15, 16], [], [18], [18, 19], [0, 1, 2, 3, 4, 5, 6, 7, 8, 9, 10, 11, 12, 13, 14, 15, 16, 17, 18, 19, 20], [0, 1, 2, 3, 4, 5, 6, 7, 8, 9, 10, 11, 12, 13, 14, 15, 16, 17, 18, 19, 20, 21]], .call [none, none] [] [] true (sha_right_R x4 (6 : Int) u5) (sha_right_O x4 (6 : Int) u5), .call [none, none] [] [] true (sha_right_R x4 (11 : Int) u7) (sha_right_O x4 (11 : Int) u7), .call [none, none] [] [] true (sha_right_R x4 (25 : Int) u9) (sha_right_O x4 (25 : Int) u9), .call [none, none] [] [] true (sha_right_R x0 (2 : Int) u12) (sha_right_O x0 (2 : Int) u12), .call [none, none] [] [] true (sha_right_R x0 (13 : Int) u14) (sha_right_O x0 (13 : Int) u14), .call [none, none] [] [] true (sha_right_R x0 (22 : Int) u16) (sha_right_O x0 (22 : Int) u16), .sel [0, 1, 6, 7, 8, 9, 10, 11, 12, 13, 14, 56] [0, 1, 2]]) (.c h4 (.c (sha_right_ok x4 (6 : Int) u5 h6) (.c (sha_right_ok x4 (11 : Int) u7 h8) (.c (sha_right_ok x4 (25 : Int) u9 h10) (.c h11 (.c h11 (.c (sha_right_ok x0 (2 : Int) u12 h13) (.c (sha_right_ok x0 (13 : Int) u14 h15) (.c (sha_right_ok x0 (22 : Int) u16 h17) .n))))))))) (by kernel_rfl)
  · injection h with h; subst h
    exact ⟨by intro e; simp [sha_mix_655a_1_ex] at e, env.code (its := [.br false, .sel [0, 7, 8, 9, 10, 11, 12, 13, 14] [0, 1]]) (.c h4 .n) (by kernel_rfl)⟩
theorem sha_mix_655a_1_ok (x0 : UInt32) (x1 : UInt32) (x2 : UInt32) (x3 : UInt32) (x4 : UInt32) (x5 : UInt32) (x6 : UInt32) (x7 : UInt32) (x8 : Int) (x9 : List UInt32) (x10 : List UInt32) (x11 : List UInt32) (o : UInt32 × UInt32 × UInt32 × UInt32 × UInt32 × UInt32 × UInt32 × UInt32 × List UInt32 × List UInt32) (h : sha_mix_655a_1 x0 x1 x2 x3 x4 x5 x6 x7 x8 x9 x10 x11 = some o) : CodeOK prog (codeAt (bodyOf f57) [1, 1, 0, 1, 0]) (sha_mix_655a_1_in x0 x1 x2 x3 x4 x5 x6 x7 x8 x9 x10 x11) (sha_mix_655a_1_ex o) (sha_mix_655a_1_st o) :=
  LoopOK.of_step (st := fun s => sha_mix_655a_1_in s.1 s.2.1 s.2.2.1 s.2.2.2.1 s.2.2.2.2.1 s.2.2.2.2.2.1 s.2.2.2.2.2.2.1 s.2.2.2.2.2.2.2.1 s.2.2.2.2.2.2.2.2 x9 x10 x11) (ex := sha_mix_655a_1_ex) (stO := sha_mix_655a_1_st) (fun s s2 hs => sha_mix_655a_1_body s.1 s.2.1 s.2.2.1 s.2.2.2.1 s.2.2.2.2.1 s.2.2.2.2.2.1 s.2.2.2.2.2.2.1 s.2.2.2.2.2.2.2.1 s.2.2.2.2.2.2.2.2 x9 x10 x11 (.inl s2) hs) (fun s r hs => sha_mix_655a_1_body s.1 s.2.1 s.2.2.1 s.2.2.2.1 s.2.2.2.2.1 s.2.2.2.2.2.1 s.2.2.2.2.2.2.1 s.2.2.2.2.2.2.2.1 s.2.2.2.2.2.2.2.2 x9 x10 x11 (.inr r) hs) _ o h
def sha_mix_655a_2_in (x0 : List UInt32) (x1 : Int) (x2 : List UInt32) (x3 : List UInt32) : St := ⟨[(0, (.ptr 0 [])), (131, (.v (.arr 8 (.int .u32)) x0)), (132, (.v (.int .i64) x1))], [.box (.arr 8 (.int .u32)) (.v (.arr 8 (.int .u32)) x2) true, .box (.arr 64 (.int .u32)) (.v (.arr 64 (.int .u32)) x3) true], 146, 2⟩
def sha_mix_655a_2_ex (o : List UInt32 × List UInt32) : Exit := (.exit 2)
def sha_mix_655a_2_st (o : List UInt32 × List UInt32) : St := ⟨[], [.box (.arr 8 (.int .u32)) (.v (.arr 8 (.int .u32)) o.1) true, .box (.arr 64 (.int .u32)) (.v (.arr 64 (.int .u32)) o.2) true], 146, 2⟩
theorem sha_mix_655a_2_body (x0 : List UInt32) (x1 : Int) (x2 : List UInt32) (x3 : List UInt32) : ∀ r, sha_mix_655a_2_step x0 x1 x2 x3 = some r → (match r with | .inl s => CodeOK prog (codeAt (bodyOf f57) [1, 1, 1, 1, 0, 0]) (sha_mix_655a_2_in x0 x1 x2 x3) .normal (sha_mix_655a_2_in x0 s.1 s.2 x3) | .inr o => sha_mix_655a_2_ex o ≠ .normal ∧ CodeOK prog (codeAt (bodyOf f57) [1, 1, 1, 1, 0, 0]) (sha_mix_655a_2_in x0 x1 x2 x3) (sha_mix_655a_2_ex o) (sha_mix_655a_2_st o)) := by
  intro r h
  unfold sha_mix_655a_2_step at h
  rcases fork_some h with ⟨h21, h⟩ | ⟨h21, h⟩
  · obtain ⟨h22, h⟩ := need_some h
    injection h with h; subst h
    exact env.code (its := [.br true, .pre [[], [], [0], [0, 1, 2], [0, 1, 2, 3], [], [0, 1, 2, 3, 4, 5], [0], [0, 1, 2, 3, 4, 5, 6, 7], [0, 1, 2, 3, 4, 5, 6, 7, 8]], .sel [0, 131, 132] [0, 1]]) (.c h21 (.c h22 (.c h22 (.c h22 .n)))) (by kernel_rfl)
  · injection h with h; subst h
    exact ⟨by intro e; simp [sha_mix_655a_2_ex] at e, env.code (its := [.br false, .sel [] [0, 1]]) (.c h21 .n) (by kernel_rfl)⟩
theorem sha_mix_655a_2_ok (x0 : List UInt32) (x1 : Int) (x2 : List UInt32) (x3 : List UInt32) (o : List UInt32 × List UInt32) (h : sha_mix_655a_2 x0 x1 x2 x3 = some o) : CodeOK prog (codeAt (bodyOf f57) [1, 1, 1, 1, 0]) (sha_mix_655a_2_in x0 x1 x2 x3) (sha_mix_655a_2_ex o) (sha_mix_655a_2_st o) :=
  LoopOK.of_step (st := fun s => sha_mix_655a_2_in x0 s.1 s.2 x3) (ex := sha_mix_655a_2_ex) (stO := sha_mix_655a_2_st) (fun s s2 hs => sha_mix_655a_2_body x0 s.1 s.2 x3 (.inl s2) hs) (fun s r hs => sha_mix_655a_2_body x0 s.1 s.2 x3 (.inr r) hs) _ o h
def sha_mix_655a_R (a0 : List UInt8) (a1 : List UInt32) (a2 : List UInt32) (u : List UInt32 × List UInt32) : Slot := .tnil
def sha_mix_655a_O (a0 : List UInt8) (a1 : List UInt32) (a2 : List UInt32) (u : List UInt32 × List UInt32) : List AObj := [.box (.arr 8 (.int .u32)) (.v (.arr 8 (.int .u32)) u.1) true, .box (.arr 64 (.int .u32)) (.v (.arr 64 (.int .u32)) u.2) true]
theorem sha_mix_655a_ok (a0 : List UInt8) (a1 : List UInt32) (a2 : List UInt32) (u : List UInt32 × List UInt32) (h : sha_mix_655a a0 a1 a2 = some u) : CallC prog 57 [(.ptr 0 []), (.ptr 1 []), (.v (.slice (.int .u8)) a0)] [.box (.arr 8 (.int .u32)) (.v (.arr 8 (.int .u32)) a1) true, .box (.arr 64 (.int .u32)) (.v (.arr 64 (.int .u32)) a2) true] (sha_mix_655a_R a0 a1 a2 u) (sha_mix_655a_O a0 a1 a2 u) := by
  unfold sha_mix_655a at h
  obtain ⟨u1, h2, h⟩ := andThen_some h
  obtain ⟨o18, h19, h⟩ := andThen_some h
  obtain ⟨o23, h24, h⟩ := andThen_some h
  injection h with h; subst h
  exact env.fun func57 can57 (its := [.call [none] [] [] true (sha_spread_R a0 u1) (sha_spread_O a0 u1), .pre [[], [0], [0, 1], [0, 1, 2], [], [4], [4, 5], [4, 5, 6], [], [8], [8, 9], [8, 9, 10], [], [12], [12, 13], [12, 13, 14], [], [16], [16, 17], [16, 17, 18], [], [20], [20, 21], [20, 21, 22], [], [24], [24, 25], [24, 25, 26], [], [28], [28, 29], [28, 29, 30], [0, 1, 2, 3], [0, 1, 2, 3, 4, 5, 6, 7, 32], [0, 1, 2, 3, 4, 5, 6, 7, 8, 9, 10, 11, 32, 33], [0, 1, 2, 3, 4, 5, 6, 7, 8, 9, 10, 11, 12, 13, 14, 15, 32, 33, 34], [0, 1, 2, 3, 4, 5, 6, 7, 8, 9, 10, 11, 12, 13, 14, 15, 16, 17, 18, 19, 32, 33, 34, 35], [0, 1, 2, 3, 4, 5, 6, 7, 8, 9, 10, 11, 12, 13, 14, 15, 16, 17, 18, 19, 20, 21, 22, 23, 32, 33, 34, 35, 36], [0, 1, 2, 3, 4, 5, 6, 7, 8, 9, 10, 11, 12, 13, 14, 15, 16, 17, 18, 19, 20, 21, 22, 23, 24, 25, 26, 27, 32, 33, 34, 35, 36, 37], [0, 1, 2, 3, 4, 5, 6, 7, 8, 9, 10, 11, 12, 13, 14, 15, 16, 17, 18, 19, 20, 21, 22, 23, 24, 25, 26, 27, 28, 29, 30, 31, 32, 33, 34, 35, 36, 37, 38]], .dive, .sel [0, 1, 6, 7, 8, 9, 10, 11, 12, 13, 14, 56] [0, 1, 2], .part (sha_mix_655a_1_ex o18) (sha_mix_655a_1_st o18), .dive, .sel [0, 131, 132] [0, 1], .part (sha_mix_655a_2_ex o23) (sha_mix_655a_2_st o23)]) (pos := [.sel [0, 1]]) (.c (sha_spread_ok a0 u1 h2) (.c (of_decide_eq_true (p := (0 ≤ (0 : Int) ∧ (0 : Int) < (8 : Int))) (by kernel_rfl)) (.c (of_decide_eq_true (p := (0 ≤ (1 : Int) ∧ (1 : Int) < (8 : Int))) (by kernel_rfl)) (.c (of_decide_eq_true (p := (0 ≤ (2 : Int) ∧ (2 : Int) < (8 : Int))) (by kernel_rfl)) (.c (of_decide_eq_true (p := (0 ≤ (3 : Int) ∧ (3 : Int) < (8 : Int))) (by kernel_rfl)) (.c (of_decide_eq_true (p := (0 ≤ (4 : Int) ∧ (4 : Int) < (8 : Int))) (by kernel_rfl)) (.c (of_decide_eq_true (p := (0 ≤ (5 : Int) ∧ (5 : Int) < (8 : Int))) (by kernel_rfl)) (.c (of_decide_eq_true (p := (0 ≤ (6 : Int) ∧ (6 : Int) < (8 : Int))) (by kernel_rfl)) (.c (of_decide_eq_true (p := (0 ≤ (7 : Int) ∧ (7 : Int) < (8 : Int))) (by kernel_rfl)) (.c (sha_mix_655a_1_ok (List.getD a1 (Int.toNat (0 : Int)) (0 : UInt32)) (List.getD a1 (Int.toNat (1 : Int)) (0 : UInt32)) (List.getD a1 (Int.toNat (2 : Int)) (0 : UInt32)) (List.getD a1 (Int.toNat (3 : Int)) (0 : UInt32)) (List.getD a1 (Int.toNat (4 : Int)) (0 : UInt32)) (List.getD a1 (Int.toNat (5 : Int)) (0 : UInt32)) (List.getD a1 (Int.toNat (6 : Int)) (0 : UInt32)) (List.getD a1 (Int.toNat (7 : Int)) (0 : UInt32)) (0 : Int) a1 a2 u1 o18 h19) (.c (sha_mix_655a_2_ok (List.set (List.set (List.set (List.set (List.set (List.set (List.set (List.set (List.replicate 8 (0 : UInt32)) 0 o18.1) 1 o18.2.1) 2 o18.2.2.1) 3 o18.2.2.2.1) 4 o18.2.2.2.2.1) 5 o18.2.2.2.2.2.1) 6 o18.2.2.2.2.2.2.1) 7 o18.2.2.2.2.2.2.2.1) (0 : Int) o18.2.2.2.2.2.2.2.2.1 o18.2.2.2.2.2.2.2.2.2 o23 h24) .n))))))))))) (by kernel_rfl)
theorem can51 : Callable prog 51 := ⟨_, func51, by kernel_rfl, by kernel_rfl⟩
def sha_Sum_1_in (x0 : List UInt8) (x1 : List UInt8) (x2 : List UInt32) (x3 : List UInt32) : St := ⟨[(2, (.ptr 0 [])), (3, (.ptr 1 [])), (4, (.ptr 2 [])), (5, (.v (.slice (.int .u8)) x0))], [.box (.arr 32 (.int .u8)) (.v (.arr 32 (.int .u8)) x1) true, .box (.arr 8 (.int .u32)) (.v (.arr 8 (.int .u32)) x2) true, .box (.arr 64 (.int .u32)) (.v (.arr 64 (.int .u32)) x3) true], 44, 0⟩
def sha_Sum_1_ex (o : List UInt8 × List UInt32) : Exit := (.exit 0)
def sha_Sum_1_st (o : List UInt8 × List UInt32) : St := ⟨[(2, (.ptr 0 [])), (3, (.ptr 1 []))], [.box (.arr 32 (.int .u8)) (.v (.arr 32 (.int .u8)) o.1) true, .box (.arr 8 (.int .u32)) (.v (.arr 8 (.int .u32)) o.2) true], 44, 0⟩
theorem sha_Sum_1_body (x0 : List UInt8) (x1 : List UInt8) (x2 : List UInt32) (x3 : List UInt32) : ∀ r, sha_Sum_1_step x0 x1 x2 x3 = some r → (match r with | .inl s => CodeOK prog (codeAt (bodyOf f51) [1, 1, 0, 1, 0, 0]) (sha_Sum_1_in x0 x1 x2 x3) .normal (sha_Sum_1_in s.1 x1 s.2.1 s.2.2) | .inr o => sha_Sum_1_ex o ≠ .normal ∧ CodeOK prog (codeAt (bodyOf f51) [1, 1, 0, 1, 0, 0]) (sha_Sum_1_in x0 x1 x2 x3) (sha_Sum_1_ex o) (sha_Sum_1_st o)) := by
  intro r h
  unfold sha_Sum_1_step at h
  rcases fork_some h with ⟨h8, h⟩ | ⟨h8, h⟩
  · obtain ⟨h9, h⟩ := need_some h
    obtain ⟨u10, h11, h⟩ := andThen_some h
    obtain ⟨h12, h⟩ := need_some h
    injection h with h; subst h
    exact env.code (its := [.br true, .br false, .call [none, none, none] [1, 2] [] true (sha_mix_655a_R (cutL x0 (0 : Int) (64 : Int)) x2 x3 u10) (sha_mix_655a_O (cutL x0 (0 : Int) (64 : Int)) x2 x3 u10), .br false, .sel [2, 3, 4, 5] [0, 1, 2]]) (.c h8 (.c h9 (.c (sha_mix_655a_ok (cutL x0 (0 : Int) (64 : Int)) x2 x3 u10 h11) (.c h12 .n)))) (by kernel_rfl)
  · injection h with h; subst h
    exact ⟨by intro e; simp [sha_Sum_1_ex] at e, env.code (its := [.br false, .sel [2, 3] [0, 1]]) (.c h8 .n) (by kernel_rfl)⟩
theorem sha_Sum_1_ok (x0 : List UInt8) (x1 : List UInt8) (x2 : List UInt32) (x3 : List UInt32) (o : List UInt8 × List UInt32) (h : sha_Sum_1 x0 x1 x2 x3 = some o) : CodeOK prog (codeAt (bodyOf f51) [1, 1, 0, 1, 0]) (sha_Sum_1_in x0 x1 x2 x3) (sha_Sum_1_ex o) (sha_Sum_1_st o) :=
  LoopOK.of_step (st := fun s => sha_Sum_1_in s.1 x1 s.2.1 s.2.2) (ex := sha_Sum_1_ex) (stO := sha_Sum_1_st) (fun s s2 hs => sha_Sum_1_body s.1 x1 s.2.1 s.2.2 (.inl s2) hs) (fun s r hs => sha_Sum_1_body s.1 x1 s.2.1 s.2.2 (.inr r) hs) _ o h
def sha_Sum_2_in (x0 : Int) (x1 : UInt32) (x2 : List UInt32) (x3 : Int) (x4 : Int) (x5 : List UInt8) (x6 : List UInt8) : St := ⟨[(2, (.ptr 0 [])), (6, (.ptr 1 [])), (7, (.v (.int .i64) x0)), (8, (.v (.int .u32) x1)), (22, (.v (.arr 8 (.int .u32)) x2)), (23, (.v (.int .i64) x3)), (27, (.v (.int .i64) x4))], [.box (.arr 32 (.int .u8)) (.v (.arr 32 (.int .u8)) x5) true, .box (.arr 32 (.int .u8)) (.v (.arr 32 (.int .u8)) x6) true], 44, 0⟩
def sha_Sum_2_ex (o : List UInt32 × Int × List UInt8 × List UInt8) : Exit := (.exit 4)
def sha_Sum_2_st (o : List UInt32 × Int × List UInt8 × List UInt8) : St := ⟨[(2, (.ptr 0 [])), (6, (.ptr 1 [])), (22, (.v (.arr 8 (.int .u32)) o.1)), (23, (.v (.int .i64) o.2.1))], [.box (.arr 32 (.int .u8)) (.v (.arr 32 (.int .u8)) o.2.2.1) true, .box (.arr 32 (.int .u8)) (.v (.arr 32 (.int .u8)) o.2.2.2) true], 44, 0⟩
theorem sha_Sum_2_body (x0 : Int) (x1 : UInt32) (x2 : List UInt32) (x3 : Int) (x4 : Int) (x5 : List UInt8) (x6 : List UInt8) : ∀ r, sha_Sum_2_step x0 x1 x2 x3 x4 x5 x6 = some r → (match r with | .inl s => CodeOK prog (codeAt (bodyOf f51) [1, 1, 1, 1, 0, 1, 0, 0, 1, 1, 0, 0, 1, 1, 0, 0]) (sha_Sum_2_in x0 x1 x2 x3 x4 x5 x6) .normal (sha_Sum_2_in x0 x1 x2 x3 s.1 x5 s.2) | .inr o => sha_Sum_2_ex o ≠ .normal ∧ CodeOK prog (codeAt (bodyOf f51) [1, 1, 1, 1, 0, 1, 0, 0, 1, 1, 0, 0, 1, 1, 0, 0]) (sha_Sum_2_in x0 x1 x2 x3 x4 x5 x6) (sha_Sum_2_ex o) (sha_Sum_2_st o)) := by
  intro r h
  unfold sha_Sum_2_step at h
  rcases fork_some h with ⟨h19, h⟩ | ⟨h19, h⟩
  · obtain ⟨h20, h⟩ := need_some h
    obtain ⟨h21, h⟩ := need_some h
    injection h with h; subst h
    exact env.code (its := [.br true, .dive, .sel [2, 6, 7, 8, 22, 23, 27] [0, 1]]) (.c h19 (.c h20 (.c h21 .n))) (by kernel_rfl)
  · injection h with h; subst h
    exact ⟨by intro e; simp [sha_Sum_2_ex] at e, env.code (its := [.br false, .sel [2, 6, 22, 23] [0, 1]]) (.c h19 .n) (by kernel_rfl)⟩
theorem sha_Sum_2_ok (x0 : Int) (x1 : UInt32) (x2 : List UInt32) (x3 : Int) (x4 : Int) (x5 : List UInt8) (x6 : List UInt8) (o : List UInt32 × Int × List UInt8 × List UInt8) (h : sha_Sum_2 x0 x1 x2 x3 x4 x5 x6 = some o) : CodeOK prog (codeAt (bodyOf f51) [1, 1, 1, 1, 0, 1, 0, 0, 1, 1, 0, 0, 1, 1, 0]) (sha_Sum_2_in x0 x1 x2 x3 x4 x5 x6) (sha_Sum_2_ex o) (sha_Sum_2_st o) :=
  LoopOK.of_step (st := fun s => sha_Sum_2_in x0 x1 x2 x3 s.1 x5 s.2) (ex := sha_Sum_2_ex) (stO := sha_Sum_2_st) (fun s s2 hs => sha_Sum_2_body x0 x1 x2 x3 s.1 x5 s.2 (.inl s2) hs) (fun s r hs => sha_Sum_2_body x0 x1 x2 x3 s.1 x5 s.2 (.inr r) hs) _ o h
def sha_Sum_3_in (x0 : List UInt32) (x1 : Int) (x2 : List UInt8) (x3 : List UInt8) : St := ⟨[(2, (.ptr 0 [])), (6, (.ptr 1 [])), (22, (.v (.arr 8 (.int .u32)) x0)), (23, (.v (.int .i64) x1))], [.box (.arr 32 (.int .u8)) (.v (.arr 32 (.int .u8)) x2) true, .box (.arr 32 (.int .u8)) (.v (.arr 32 (.int .u8)) x3) true], 44, 0⟩
def sha_Sum_3_ex (o : List UInt8 × List UInt8) : Exit := (.exit 2)
def sha_Sum_3_st (o : List UInt8 × List UInt8) : St := ⟨[(2, (.ptr 0 [])), (6, (.ptr 1 []))], [.box (.arr 32 (.int .u8)) (.v (.arr 32 (.int .u8)) o.1) true, .box (.arr 32 (.int .u8)) (.v (.arr 32 (.int .u8)) o.2) true], 44, 0⟩
theorem sha_Sum_3_body (x0 : List UInt32) (x1 : Int) (x2 : List UInt8) (x3 : List UInt8) : ∀ r, sha_Sum_3_step x0 x1 x2 x3 = some r → (match r with | .inl s => CodeOK prog (codeAt (bodyOf f51) [1, 1, 1, 1, 0, 1, 0, 0]) (sha_Sum_3_in x0 x1 x2 x3) .normal (sha_Sum_3_in s.1 s.2.1 s.2.2.1 s.2.2.2) | .inr o => sha_Sum_3_ex o ≠ .normal ∧ CodeOK prog (codeAt (bodyOf f51) [1, 1, 1, 1, 0, 1, 0, 0]) (sha_Sum_3_in x0 x1 x2 x3) (sha_Sum_3_ex o) (sha_Sum_3_st o)) := by
  intro r h
  unfold sha_Sum_3_step at h
  rcases fork_some h with ⟨h16, h⟩ | ⟨h16, h⟩
  · obtain ⟨h17, h⟩ := need_some h
    obtain ⟨o22, h23, h⟩ := andThen_some h
    injection h with h; subst h
    exact env.code (its := [.br true, .dive, .dive, .sel [2, 6, 7, 8, 22, 23, 27] [0, 1], .part (sha_Sum_2_ex o22) (sha_Sum_2_st o22), .sel [2, 6, 22, 23] [0, 1]]) (.c h16 (.c h17 (.c (sha_Sum_2_ok x1 (List.getD x0 (Int.toNat x1) (0 : UInt32)) x0 x1 (0 : Int) x2 x3 o22 h23) .n))) (by kernel_rfl)
  · injection h with h; subst h
    exact ⟨by intro e; simp [sha_Sum_3_ex] at e, env.code (its := [.br false, .sel [2, 6] [0, 1]]) (.c h16 .n) (by kernel_rfl)⟩
theorem sha_Sum_3_ok (x0 : List UInt32) (x1 : Int) (x2 : List UInt8) (x3 : List UInt8) (o : List UInt8 × List UInt8) (h : sha_Sum_3 x0 x1 x2 x3 = some o) : CodeOK prog (codeAt (bodyOf f51) [1, 1, 1, 1, 0, 1, 0]) (sha_Sum_3_in x0 x1 x2 x3) (sha_Sum_3_ex o) (sha_Sum_3_st o) :=
  LoopOK.of_step (st := fun s => sha_Sum_3_in s.1 s.2.1 s.2.2.1 s.2.2.2) (ex := sha_Sum_3_ex) (stO := sha_Sum_3_st) (fun s s2 hs => sha_Sum_3_body s.1 s.2.1 s.2.2.1 s.2.2.2 (.inl s2) hs) (fun s r hs => sha_Sum_3_body s.1 s.2.1 s.2.2.1 s.2.2.2 (.inr r) hs) _ o h
def sha_Sum_R (a0 : List UInt8) (u : List UInt8) : Slot := (.v (.arr 32 (.int .u8)) u)
def sha_Sum_O (a0 : List UInt8) (u : List UInt8) : List AObj := []
theorem sha_Sum_ok (a0 : List UInt8) (u : List UInt8) (h : sha_Sum a0 = some u) : CallC prog 51 [(.v (.slice (.int .u8)) a0)] [] (sha_Sum_R a0 u) (sha_Sum_O a0 u) := by
  unfold sha_Sum at h
  obtain ⟨u1, h2, h⟩ := andThen_some h
  obtain ⟨u3, h4, h⟩ := andThen_some h
  obtain ⟨u5, h6, h⟩ := andThen_some h
  obtain ⟨o13, h14, h⟩ := andThen_some h
  obtain ⟨o24, h25, h⟩ := andThen_some h
  injection h with h; subst h
  exact env.fun func51 can51 (its := [.call [] [] [] true (sha_first_R u1) (sha_first_O u1), .call [] [] [] true (sha_added_R u3) (sha_added_O u3), .call [none] [] [] true (sha_padded_R a0 u5) (sha_padded_O a0 u5), .dive, .val 5 (.slice (.int .u8)), .sel [2, 3, 4, 5] [0, 1, 2], .part (sha_Sum_1_ex o13) (sha_Sum_1_st o13), .dive, .sel [2, 6, 22, 23] [0, 2], .part (sha_Sum_3_ex o24) (sha_Sum_3_st o24)]) (pos := [.sel []]) (.c (sha_first_ok u1 h2) (.c (sha_added_ok u3 h4) (.c (sha_padded_ok a0 u5 h6) (.c (sha_Sum_1_ok u5 (List.replicate 32 (0 : UInt8)) u1 u3 o13 h14) (.c (sha_Sum_3_ok o13.2 (0 : Int) o13.1 (List.replicate 32 (0 : UInt8)) o24 h25) .n))))) (by kernel_rfl)
theorem can41 : Callable prog 41 := ⟨_, func41, by kernel_rfl, by kernel_rfl⟩
def sha_Tagged_1_in (x0 : List (List UInt8)) (x1 : Int) (x2 : Int) (x3 : List UInt8) (x4 : List UInt8) : St := ⟨[(4, (.ptr 0 [])), (5, (.own 1 [])), (10, (.v (.slice (.slice (.int .u8))) x0)), (11, (.v (.int .i64) x1)), (12, (.v (.int .i64) x2))], [.box (.arr 32 (.int .u8)) (.v (.arr 32 (.int .u8)) x3) true, .row (.int .u8) x4 true], 22, 0⟩
def sha_Tagged_1_ex (o : List UInt8 × List UInt8) : Exit := (.exit 0)
def sha_Tagged_1_st (o : List UInt8 × List UInt8) : St := ⟨[(4, (.ptr 0 [])), (5, (.own 1 []))], [.box (.arr 32 (.int .u8)) (.v (.arr 32 (.int .u8)) o.1) true, .row (.int .u8) o.2 true], 22, 0⟩
theorem sha_Tagged_1_body (x0 : List (List UInt8)) (x1 : Int) (x2 : Int) (x3 : List UInt8) (x4 : List UInt8) : ∀ r, sha_Tagged_1_step x0 x1 x2 x3 x4 = some r → (match r with | .inl s => CodeOK prog (codeAt (bodyOf f41) [1, 1, 0, 1, 0, 0]) (sha_Tagged_1_in x0 x1 x2 x3 x4) .normal (sha_Tagged_1_in x0 x1 s.1 x3 s.2) | .inr o => sha_Tagged_1_ex o ≠ .normal ∧ CodeOK prog (codeAt (bodyOf f41) [1, 1, 0, 1, 0, 0]) (sha_Tagged_1_in x0 x1 x2 x3 x4) (sha_Tagged_1_ex o) (sha_Tagged_1_st o)) := by
  intro r h
  unfold sha_Tagged_1_step at h
  rcases fork_some h with ⟨h2, h⟩ | ⟨h2, h⟩
  · obtain ⟨h3, h⟩ := need_some h
    obtain ⟨h4, h⟩ := need_some h
    injection h with h; subst h
    exact env.code (its := [.br true, .dive, .sel [4, 5, 10, 11, 12] [0, 2]]) (.c h2 (.c h3 (.c h4 .n))) (by kernel_rfl)
  · injection h with h; subst h
    exact ⟨by intro e; simp [sha_Tagged_1_ex] at e, env.code (its := [.br false, .sel [4, 5] [0, 1]]) (.c h2 .n) (by kernel_rfl)⟩
theorem sha_Tagged_1_ok (x0 : List (List UInt8)) (x1 : Int) (x2 : Int) (x3 : List UInt8) (x4 : List UInt8) (o : List UInt8 × List UInt8) (h : sha_Tagged_1 x0 x1 x2 x3 x4 = some o) : CodeOK prog (codeAt (bodyOf f41) [1, 1, 0, 1, 0]) (sha_Tagged_1_in x0 x1 x2 x3 x4) (sha_Tagged_1_ex o) (sha_Tagged_1_st o) :=
  LoopOK.of_step (st := fun s => sha_Tagged_1_in x0 x1 s.1 x3 s.2) (ex := sha_Tagged_1_ex) (stO := sha_Tagged_1_st) (fun s s2 hs => sha_Tagged_1_body x0 x1 s.1 x3 s.2 (.inl s2) hs) (fun s r hs => sha_Tagged_1_body x0 x1 s.1 x3 s.2 (.inr r) hs) _ o h
def sha_Tagged_R (a0 : UInt8) (a1 : List (List UInt8)) (u : List UInt8) : Slot := (.v (.arr 32 (.int .u8)) u)
def sha_Tagged_O (a0 : UInt8) (a1 : List (List UInt8)) (u : List UInt8) : List AObj := []
theorem sha_Tagged_ok (a0 : UInt8) (a1 : List (List UInt8)) (u : List UInt8) (h : sha_Tagged a0 a1 = some u) : CallC prog 41 [(.v (.int .u8) a0), (.v (.slice (.slice (.int .u8))) a1)] [] (sha_Tagged_R a0 a1 u) (sha_Tagged_O a0 a1 u) := by
  unfold sha_Tagged at h
  obtain ⟨o5, h6, h⟩ := andThen_some h
  obtain ⟨u7, h8, h⟩ := andThen_some h
  injection h with h; subst h
  exact env.fun func41 can41 (its := [.dive, .sel [4, 5, 10, 11, 12] [0, 1], .part (sha_Tagged_1_ex o5) (sha_Tagged_1_st o5), .call [none] [] [1] true (sha_Sum_R o5.2 u7) (sha_Sum_O o5.2 u7)]) (pos := [.sel []]) (.c (sha_Tagged_1_ok a1 (List.length a1 : Int) (0 : Int) (List.replicate 32 (0 : UInt8)) ([a0] : List (UInt8)) o5 h6) (.c (sha_Sum_ok o5.2 u7 h8) .n)) (by kernel_rfl)
theorem can19 : Callable prog 19 := ⟨_, func19, by kernel_rfl, by kernel_rfl⟩
def head_Hash_R (a0 : Int × Int × List UInt8 × List UInt8 × List UInt8 × List UInt8 × Unit) (u : List UInt8) : Slot := (.v (.arr 32 (.int .u8)) u)
def head_Hash_O (a0 : Int × Int × List UInt8 × List UInt8 × List UInt8 × List UInt8 × Unit) (u : List UInt8) : List AObj := []
theorem head_Hash_ok (a0 : Int × Int × List UInt8 × List UInt8 × List UInt8 × List UInt8 × Unit) (u : List UInt8) (h : head_Hash a0 = some u) : CallC prog 19 [(.v (.fld (.int .i64) (.fld (.int .i64) (.fld (.arr 32 (.int .u8)) (.fld (.arr 32 (.int .u8)) (.fld (.arr 32 (.int .u8)) (.fld (.arr 32 (.int .u8)) .unit)))))) a0)] [] (head_Hash_R a0 u) (head_Hash_O a0 u) := by
  unfold head_Hash at h
  obtain ⟨u1, h2, h⟩ := andThen_some h
  obtain ⟨u3, h4, h⟩ := andThen_some h
  injection h with h; subst h
  exact env.fun func19 can19 (its := [.call [none] [] [] true (head_Bytes_R a0 u1) (head_Bytes_O a0 u1), .call [none, none] [] [3] true (sha_Tagged_R (72 : UInt8) ([u1] : List (List UInt8)) u3) (sha_Tagged_O (72 : UInt8) ([u1] : List (List UInt8)) u3)]) (pos := [.sel []]) (.c (head_Bytes_ok a0 u1 h2) (.c (sha_Tagged_ok (72 : UInt8) ([u1] : List (List UInt8)) u3 h4) .n)) (by kernel_rfl)
theorem can40 : Callable prog 40 := ⟨_, func40, by kernel_rfl, by kernel_rfl⟩
def affiantref1_Put_R (a0 : Int) (u : List UInt8) : Slot := (.own 0 [])
def affiantref1_Put_O (a0 : Int) (u : List UInt8) : List AObj := [.row (.int .u8) u true]
theorem affiantref1_Put_f_ok : ∀ (k : Nat) (a0 : Int) (u : List UInt8) (h : affiantref1_Put_f k a0 = some u), CallC prog 40 [(.v (.int .i64) a0)] [] (affiantref1_Put_R a0 u) (affiantref1_Put_O a0 u)
  | 0, a0, u, h => by cases h
  | k + 1, a0, u, h => by
    unfold affiantref1_Put_f at h
    rcases fork_some h with ⟨h1, h⟩ | ⟨h1, h⟩
    · injection h with h; subst h
      exact env.fun func40 can40 (its := [.br true, .br true, .br true, .br true]) (pos := [.promote (.int .u8), .sel [0]]) (.c h1 (.c h1 (.c h1 (.c (rfl : (true : Bool) = true) .n)))) (by kernel_rfl)
    · rcases fork_some h with ⟨h2, h⟩ | ⟨h2, h⟩
      · injection h with h; subst h
        exact env.fun func40 can40 (its := [.br false, .br false, .br false, .br true]) (pos := [.promote (.int .u8), .sel [0]]) (.c h1 (.c h1 (.c h1 (.c h2 .n)))) (by kernel_rfl)
      · rcases fork_some h with ⟨h3, h⟩ | ⟨h3, h⟩
        · injection h with h; subst h
          exact env.fun func40 can40 (its := [.br false, .br false, .br false, .br false, .br true]) (pos := [.sel [0]]) (.c h1 (.c h1 (.c h1 (.c h2 (.c h3 .n))))) (by kernel_rfl)
        · obtain ⟨u4, h5, h⟩ := andThen_some h
          obtain ⟨h6, h⟩ := need_some h
          injection h with h; subst h
          exact env.fun func40 can40 (its := [.br false, .br false, .br false, .br false, .br false, .call [none] [] [] true (affiantref1_Put_R (ishr a0 (Int.toNat (7 : Int))) u4) (affiantref1_Put_O (ishr a0 (Int.toNat (7 : Int))) u4)]) (pos := [.sel [2]]) (.c h1 (.c h1 (.c h1 (.c h2 (.c h3 (.c (of_decide_eq_true (p := (0 ≤ (7 : Int))) (by kernel_rfl)) (.c (affiantref1_Put_f_ok k (ishr a0 (Int.toNat (7 : Int))) u4 h5) (.c h6 .n)))))))) (by kernel_rfl)
theorem affiantref1_Put_ok (a0 : Int) (u : List UInt8) (h : affiantref1_Put a0 = some u) : CallC prog 40 [(.v (.int .i64) a0)] [] (affiantref1_Put_R a0 u) (affiantref1_Put_O a0 u) := affiantref1_Put_f_ok 64 a0 u h
theorem can18 : Callable prog 18 := ⟨_, func18, by kernel_rfl, by kernel_rfl⟩
def affiantref10_HeaderBytes_1_in (x0 : Int) (x1 : Int) (x2 : List UInt8) (x3 : List (List UInt8)) : St := ⟨[(3, (.own 0 [])), (21, (.own 1 [])), (22, (.v (.int .i64) x0)), (23, (.v (.int .i64) x1))], [.row (.int .u8) x2 true, .row (.arr 32 (.int .u8)) x3 true], 32, 0⟩
def affiantref10_HeaderBytes_1_ex (o : List UInt8) : Exit := (.exit 0)
def affiantref10_HeaderBytes_1_st (o : List UInt8) : St := ⟨[(3, (.own 0 []))], [.row (.int .u8) o true], 32, 0⟩
theorem affiantref10_HeaderBytes_1_body (x0 : Int) (x1 : Int) (x2 : List UInt8) (x3 : List (List UInt8)) : ∀ r, affiantref10_HeaderBytes_1_step x0 x1 x2 x3 = some r → (match r with | .inl s => CodeOK prog (codeAt (bodyOf f18) [1, 1, 0, 1, 0, 0]) (affiantref10_HeaderBytes_1_in x0 x1 x2 x3) .normal (affiantref10_HeaderBytes_1_in x0 s.1 s.2 x3) | .inr o => affiantref10_HeaderBytes_1_ex o ≠ .normal ∧ CodeOK prog (codeAt (bodyOf f18) [1, 1, 0, 1, 0, 0]) (affiantref10_HeaderBytes_1_in x0 x1 x2 x3) (affiantref10_HeaderBytes_1_ex o) (affiantref10_HeaderBytes_1_st o)) := by
  intro r h
  unfold affiantref10_HeaderBytes_1_step at h
  rcases fork_some h with ⟨h7, h⟩ | ⟨h7, h⟩
  · obtain ⟨h8, h⟩ := need_some h
    obtain ⟨h9, h⟩ := need_some h
    injection h with h; subst h
    exact env.code (its := [.br true, .br true, .sel [3, 21, 22, 23] [3, 1]]) (.c h7 (.c h8 (.c h9 .n))) (by kernel_rfl)
  · injection h with h; subst h
    exact ⟨by intro e; simp [affiantref10_HeaderBytes_1_ex] at e, env.code (its := [.br false, .sel [3] [0]]) (.c h7 .n) (by kernel_rfl)⟩
theorem affiantref10_HeaderBytes_1_ok (x0 : Int) (x1 : Int) (x2 : List UInt8) (x3 : List (List UInt8)) (o : List UInt8) (h : affiantref10_HeaderBytes_1 x0 x1 x2 x3 = some o) : CodeOK prog (codeAt (bodyOf f18) [1, 1, 0, 1, 0]) (affiantref10_HeaderBytes_1_in x0 x1 x2 x3) (affiantref10_HeaderBytes_1_ex o) (affiantref10_HeaderBytes_1_st o) :=
  LoopOK.of_step (st := fun s => affiantref10_HeaderBytes_1_in x0 s.1 s.2 x3) (ex := affiantref10_HeaderBytes_1_ex) (stO := affiantref10_HeaderBytes_1_st) (fun s s2 hs => affiantref10_HeaderBytes_1_body x0 s.1 s.2 x3 (.inl s2) hs) (fun s r hs => affiantref10_HeaderBytes_1_body x0 s.1 s.2 x3 (.inr r) hs) _ o h
def affiantref10_HeaderBytes_R (a0 : Int × Int × List UInt8 × List UInt8 × List UInt8 × List UInt8 × Unit) (u : List UInt8) : Slot := (.own 0 [])
def affiantref10_HeaderBytes_O (a0 : Int × Int × List UInt8 × List UInt8 × List UInt8 × List UInt8 × Unit) (u : List UInt8) : List AObj := [.row (.int .u8) u true]
theorem affiantref10_HeaderBytes_ok (a0 : Int × Int × List UInt8 × List UInt8 × List UInt8 × List UInt8 × Unit) (u : List UInt8) (h : affiantref10_HeaderBytes a0 = some u) : CallC prog 18 [(.v (.fld (.int .i64) (.fld (.int .i64) (.fld (.arr 32 (.int .u8)) (.fld (.arr 32 (.int .u8)) (.fld (.arr 32 (.int .u8)) (.fld (.arr 32 (.int .u8)) .unit)))))) a0)] [] (affiantref10_HeaderBytes_R a0 u) (affiantref10_HeaderBytes_O a0 u) := by
  unfold affiantref10_HeaderBytes at h
  obtain ⟨u1, h2, h⟩ := andThen_some h
  obtain ⟨u3, h4, h⟩ := andThen_some h
  obtain ⟨h5, h⟩ := need_some h
  obtain ⟨o10, h11, h⟩ := andThen_some h
  injection h with h; subst h
  exact env.fun func18 can18 (its := [.pre [[], [0], [0, 1], [], [3], [0, 1, 2, 3, 4], [0, 1, 2, 3, 4, 5], [0, 1, 2, 3, 4, 5, 6]], .call [none] [] [] true (affiantref1_Put_R a0.1 u1) (affiantref1_Put_O a0.1 u1), .call [none] [] [] true (affiantref1_Put_R a0.2.1 u3) (affiantref1_Put_O a0.2.1 u3), .dive, .sel [3, 21, 22, 23] [3, 4], .part (affiantref10_HeaderBytes_1_ex o10) (affiantref10_HeaderBytes_1_st o10)]) (pos := [.sel [0]]) (.c (affiantref1_Put_ok a0.1 u1 h2) (.c (affiantref1_Put_ok a0.2.1 u3 h4) (.c h5 (.c (affiantref10_HeaderBytes_1_ok (List.length ([a0.2.2.1, a0.2.2.2.1, a0.2.2.2.2.1, a0.2.2.2.2.2.1] : List (List UInt8)) : Int) (0 : Int) (u1 ++ u3) ([a0.2.2.1, a0.2.2.2.1, a0.2.2.2.2.1, a0.2.2.2.2.2.1] : List (List UInt8)) o10 h11) .n)))) (by kernel_rfl)
theorem can52 : Callable prog 52 := ⟨_, func52, by kernel_rfl, by kernel_rfl⟩
def affiantref1_constants_R  (u : List UInt32) : Slot := (.own 0 [])
def affiantref1_constants_O  (u : List UInt32) : List AObj := [.row (.int .u32) u true]
theorem affiantref1_constants_ok  (u : List UInt32) (h : affiantref1_constants  = some u) : CallC prog 52 [] [] (affiantref1_constants_R u) (affiantref1_constants_O u) := by
  unfold affiantref1_constants at h
  injection h with h; subst h
  exact env.fun func52 can52 (its := []) (pos := [.sel [0]]) .n (by kernel_rfl)
theorem can58 : Callable prog 58 := ⟨_, func58, by kernel_rfl, by kernel_rfl⟩
def affiantref1_turn_R (a0 : UInt32) (a1 : UInt64) (u : UInt32) : Slot := (.v (.int .u32) u)
def affiantref1_turn_O (a0 : UInt32) (a1 : UInt64) (u : UInt32) : List AObj := []
theorem affiantref1_turn_ok (a0 : UInt32) (a1 : UInt64) (u : UInt32) (h : affiantref1_turn a0 a1 = some u) : CallC prog 58 [(.v (.int .u32) a0), (.v (.int .u64) a1)] [] (affiantref1_turn_R a0 a1 u) (affiantref1_turn_O a0 a1 u) := by
  unfold affiantref1_turn at h
  obtain ⟨h1, h⟩ := need_some h
  obtain ⟨h2, h⟩ := need_some h
  injection h with h; subst h
  exact env.fun func58 can58 (its := []) (pos := [.sel []]) (.c h1 (.c h2 .n)) (by kernel_rfl)
theorem can53 : Callable prog 53 := ⟨_, func53, by kernel_rfl, by kernel_rfl⟩
def affiantref1_block_1_in (x0 : List UInt8) (x1 : List UInt32) (x2 : Int) (x3 : List UInt32) (x4 : List UInt32) (x5 : List UInt32) : St := ⟨[(1, (.v (.slice (.int .u8)) x0)), (2, (.v (.slice (.int .u32)) x1)), (3, (.ptr 0 [])), (6, (.ptr 1 [])), (7, (.ptr 2 [])), (20, (.v (.int .i64) x2))], [.box (.arr 8 (.int .u32)) (.v (.arr 8 (.int .u32)) x3) true, .box (.arr 8 (.int .u32)) (.v (.arr 8 (.int .u32)) x4) true, .box (.arr 64 (.int .u32)) (.v (.arr 64 (.int .u32)) x5) true], 207, 0⟩
def affiantref1_block_1_ex (o : List UInt32 × List UInt32 × List UInt32 × List UInt32) : Exit := (.exit 0)
def affiantref1_block_1_st (o : List UInt32 × List UInt32 × List UInt32 × List UInt32) : St := ⟨[(2, (.v (.slice (.int .u32)) o.1)), (3, (.ptr 0 [])), (6, (.ptr 1 [])), (7, (.ptr 2 []))], [.box (.arr 8 (.int .u32)) (.v (.arr 8 (.int .u32)) o.2.1) true, .box (.arr 8 (.int .u32)) (.v (.arr 8 (.int .u32)) o.2.2.1) true, .box (.arr 64 (.int .u32)) (.v (.arr 64 (.int .u32)) o.2.2.2) true], 207, 0⟩
theorem affiantref1_block_1_body (x0 : List UInt8) (x1 : List UInt32) (x2 : Int) (x3 : List UInt32) (x4 : List UInt32) (x5 : List UInt32) : ∀ r, affiantref1_block_1_step x0 x1 x2 x3 x4 x5 = some r → (match r with | .inl s => CodeOK prog (codeAt (bodyOf f53) [1, 1, 0, 1, 0, 0]) (affiantref1_block_1_in x0 x1 x2 x3 x4 x5) .normal (affiantref1_block_1_in x0 x1 s.1 x3 x4 s.2) | .inr o => affiantref1_block_1_ex o ≠ .normal ∧ CodeOK prog (codeAt (bodyOf f53) [1, 1, 0, 1, 0, 0]) (affiantref1_block_1_in x0 x1 x2 x3 x4 x5) (affiantref1_block_1_ex o) (affiantref1_block_1_st o)) := by
  intro r h
  unfold affiantref1_block_1_step at h
  rcases fork_some h with ⟨h2, h⟩ | ⟨h2, h⟩
  · obtain ⟨h3, h⟩ := need_some h
    obtain ⟨h4, h⟩ := need_some h
    obtain ⟨h5, h⟩ := need_some h
    obtain ⟨h6, h⟩ := need_some h
    obtain ⟨h7, h⟩ := need_some h
    injection h with h; subst h
    exact env.code (its := [.br true, .pre [[], [], [], [2], [1, 2, 3], [1, 2, 3, 4], [1, 2, 3, 4, 5], [1, 2, 3, 4, 5, 6], [], [], [9], [9, 10], [8, 9, 10, 11], [8, 9, 10, 11, 12], [8, 9, 10, 11, 12, 13], [8, 9, 10, 11, 12, 13, 14], [1, 2, 3, 4, 5, 6, 7, 8, 9, 10, 11, 12, 13, 14, 15], [], [], [18], [18, 19], [17, 18, 19, 20], [17, 18, 19, 20, 21], [17, 18, 19, 20, 21, 22], [17, 18, 19, 20, 21, 22, 23], [1, 2, 3, 4, 5, 6, 7, 8, 9, 10, 11, 12, 13, 14, 15, 16, 17, 18, 19, 20, 21, 22, 23, 24], [], [], [27], [27, 28], [26, 27, 28, 29], [26, 27, 28, 29, 30], [26, 27, 28, 29, 30, 31], [1, 2, 3, 4, 5, 6, 7, 8, 9, 10, 11, 12, 13, 14, 15, 16, 17, 18, 19, 20, 21, 22, 23, 24, 25, 26, 27, 28, 29, 30, 31, 32], [0, 1, 2, 3, 4, 5, 6, 7, 8, 9, 10, 11, 12, 13, 14, 15, 16, 17, 18, 19, 20, 21, 22, 23, 24, 25, 26, 27, 28, 29, 30, 31, 32, 33], [0, 1, 2, 3, 4, 5, 6, 7, 8, 9, 10, 11, 12, 13, 14, 15, 16, 17, 18, 19, 20, 21, 22, 23, 24, 25, 26, 27, 28, 29, 30, 31, 32, 33, 34]], .sel [1, 2, 3, 6, 7, 20] [0, 1, 2]]) (.c h2 (.c h3 (.c (of_decide_eq_true (p := (0 ≤ (24 : Int))) (by kernel_rfl)) (.c h4 (.c (of_decide_eq_true (p := (0 ≤ (16 : Int))) (by kernel_rfl)) (.c h5 (.c (of_decide_eq_true (p := (0 ≤ (8 : Int))) (by kernel_rfl)) (.c h6 (.c h7 .n))))))))) (by kernel_rfl)
  · injection h with h; subst h
    exact ⟨by intro e; simp [affiantref1_block_1_ex] at e, env.code (its := [.br false, .sel [2, 3, 6, 7] [0, 1, 2]]) (.c h2 .n) (by kernel_rfl)⟩
theorem affiantref1_block_1_ok (x0 : List UInt8) (x1 : List UInt32) (x2 : Int) (x3 : List UInt32) (x4 : List UInt32) (x5 : List UInt32) (o : List UInt32 × List UInt32 × List UInt32 × List UInt32) (h : affiantref1_block_1 x0 x1 x2 x3 x4 x5 = some o) : CodeOK prog (codeAt (bodyOf f53) [1, 1, 0, 1, 0]) (affiantref1_block_1_in x0 x1 x2 x3 x4 x5) (affiantref1_block_1_ex o) (affiantref1_block_1_st o) :=
  LoopOK.of_step (st := fun s => affiantref1_block_1_in x0 x1 s.1 x3 x4 s.2) (ex := affiantref1_block_1_ex) (stO := affiantref1_block_1_st) (fun s s2 hs => affiantref1_block_1_body x0 x1 s.1 x3 x4 s.2 (.inl s2) hs) (fun s r hs => affiantref1_block_1_body x0 x1 s.1 x3 x4 s.2 (.inr r) hs) _ o h
def affiantref1_block_2_in (x0 : List UInt32) (x1 : Int) (x2 : List UInt32) (x3 : List UInt32) (x4 : List UInt32) : St := ⟨[(2, (.v (.slice (.int .u32)) x0)), (3, (.ptr 0 [])), (6, (.ptr 1 [])), (7, (.ptr 2 [])), (9, (.v (.int .i64) x1))], [.box (.arr 8 (.int .u32)) (.v (.arr 8 (.int .u32)) x2) true, .box (.arr 8 (.int .u32)) (.v (.arr 8 (.int .u32)) x3) true, .box (.arr 64 (.int .u32)) (.v (.arr 64 (.int .u32)) x4) true], 207, 0⟩
def affiantref1_block_2_ex (o : List UInt32 × List UInt32 × List UInt32 × List UInt32) : Exit := (.exit 2)
def affiantref1_block_2_st (o : List UInt32 × List UInt32 × List UInt32 × List UInt32) : St := ⟨[(2, (.v (.slice (.int .u32)) o.1)), (3, (.ptr 0 [])), (6, (.ptr 1 [])), (7, (.ptr 2 []))], [.box (.arr 8 (.int .u32)) (.v (.arr 8 (.int .u32)) o.2.1) true, .box (.arr 8 (.int .u32)) (.v (.arr 8 (.int .u32)) o.2.2.1) true, .box (.arr 64 (.int .u32)) (.v (.arr 64 (.int .u32)) o.2.2.2) true], 207, 0⟩
theorem affiantref1_block_2_body (x0 : List UInt32) (x1 : Int) (x2 : List UInt32) (x3 : List UInt32) (x4 : List UInt32) : ∀ r, affiantref1_block_2_step x0 x1 x2 x3 x4 = some r → (match r with | .inl s => CodeOK prog (codeAt (bodyOf f53) [1, 1, 1, 0, 1, 0, 0]) (affiantref1_block_2_in x0 x1 x2 x3 x4) .normal (affiantref1_block_2_in x0 s.1 x2 x3 s.2) | .inr o => affiantref1_block_2_ex o ≠ .normal ∧ CodeOK prog (codeAt (bodyOf f53) [1, 1, 1, 0, 1, 0, 0]) (affiantref1_block_2_in x0 x1 x2 x3 x4) (affiantref1_block_2_ex o) (affiantref1_block_2_st o)) := by
  intro r h
  unfold affiantref1_block_2_step at h
  rcases fork_some h with ⟨h11, h⟩ | ⟨h11, h⟩
  · obtain ⟨h12, h⟩ := need_some h
    obtain ⟨h13, h⟩ := need_some h
    obtain ⟨h14, h⟩ := need_some h
    obtain ⟨u15, h16, h⟩ := andThen_some h
    obtain ⟨u17, h18, h⟩ := andThen_some h
    obtain ⟨h19, h⟩ := need_some h
    obtain ⟨u20, h21, h⟩ := andThen_some h
    obtain ⟨u22, h23, h⟩ := andThen_some h
    obtain ⟨h24, h⟩ := need_some h
    injection h with h; subst h
    exact env.code (its := [.br true, .pre [[], [0], [0, 1], [0, 1, 2], [], [4], [4, 5], [4, 5, 6], [0, 1, 2, 3], [0, 1, 2, 3, 4, 5, 6, 7, 8]], .pre [[], [], [1], [1, 2], [1, 2, 3], [], [5], [], [5, 6, 7], [5, 6, 7, 8], [], [10], [5, 6, 7, 8, 9, 10, 11], [1, 2, 3, 4, 5, 6, 7, 8, 9, 10, 11, 12], [], [14], [14, 15], [14, 15, 16], [1, 2, 3, 4, 5, 6, 7, 8, 9, 10, 11, 12, 13, 14, 15, 16, 17], [], [5, 6, 7, 8, 19], [], [5, 6, 7, 8, 19, 20, 21], [5, 6, 7, 8, 19, 20, 21, 22], [], [24], [5, 6, 7, 8, 19, 20, 21, 22, 23, 24, 25], [1, 2, 3, 4, 5, 6, 7, 8, 9, 10, 11, 12, 13, 14, 15, 16, 17, 18, 19, 20, 21, 22, 23, 24, 25, 26], [0, 1, 2, 3, 4, 5, 6, 7, 8, 9, 10, 11, 12, 13, 14, 15, 16, 17, 18, 19, 20, 21, 22, 23, 24, 25, 26, 27], [0, 1, 2, 3, 4, 5, 6, 7, 8, 9, 10, 11, 12, 13, 14, 15, 16, 17, 18, 19, 20, 21, 22, 23, 24, 25, 26, 27, 28]], .call [none, none] [] [] true (affiantref1_turn_R (List.getD x4 (Int.toNat (w64 (x1 - (15 : Int)))) (0 : UInt32)) (7 : UInt64) u15) (affiantref1_turn_O (List.getD x4 (Int.toNat (w64 (x1 - (15 : Int)))) (0 : UInt32)) (7 : UInt64) u15), .call [none, none] [] [] true (affiantref1_turn_R (List.getD x4 (Int.toNat (w64 (x1 - (15 : Int)))) (0 : UInt32)) (18 : UInt64) u17) (affiantref1_turn_O (List.getD x4 (Int.toNat (w64 (x1 - (15 : Int)))) (0 : UInt32)) (18 : UInt64) u17), .call [none, none] [] [] true (affiantref1_turn_R (List.getD x4 (Int.toNat (w64 (x1 - (2 : Int)))) (0 : UInt32)) (17 : UInt64) u20) (affiantref1_turn_O (List.getD x4 (Int.toNat (w64 (x1 - (2 : Int)))) (0 : UInt32)) (17 : UInt64) u20), .call [none, none] [] [] true (affiantref1_turn_R (List.getD x4 (Int.toNat (w64 (x1 - (2 : Int)))) (0 : UInt32)) (19 : UInt64) u22) (affiantref1_turn_O (List.getD x4 (Int.toNat (w64 (x1 - (2 : Int)))) (0 : UInt32)) (19 : UInt64) u22), .sel [2, 3, 6, 7, 9] [0, 1, 2]]) (.c h11 (.c h12 (.c h13 (.c h14 (.c (affiantref1_turn_ok (List.getD x4 (Int.toNat (w64 (x1 - (15 : Int)))) (0 : UInt32)) (7 : UInt64) u15 h16) (.c (affiantref1_turn_ok (List.getD x4 (Int.toNat (w64 (x1 - (15 : Int)))) (0 : UInt32)) (18 : UInt64) u17 h18) (.c (of_decide_eq_true (p := (0 ≤ (3 : Int))) (by kernel_rfl)) (.c h19 (.c (affiantref1_turn_ok (List.getD x4 (Int.toNat (w64 (x1 - (2 : Int)))) (0 : UInt32)) (17 : UInt64) u20 h21) (.c (affiantref1_turn_ok (List.getD x4 (Int.toNat (w64 (x1 - (2 : Int)))) (0 : UInt32)) (19 : UInt64) u22 h23) (.c (of_decide_eq_true (p := (0 ≤ (10 : Int))) (by kernel_rfl)) (.c h24 .n)))))))))))) (by kernel_rfl)
  · injection h with h; subst h
    exact ⟨by intro e; simp [affiantref1_block_2_ex] at e, env.code (its := [.br false, .sel [2, 3, 6, 7] [0, 1, 2]]) (.c h11 .n) (by kernel_rfl)⟩
theorem affiantref1_block_2_ok (x0 : List UInt32) (x1 : Int) (x2 : List UInt32) (x3 : List UInt32) (x4 : List UInt32) (o : List UInt32 × List UInt32 × List UInt32 × List UInt32) (h : affiantref1_block_2 x0 x1 x2 x3 x4 = some o) : CodeOK prog (codeAt (bodyOf f53) [1, 1, 1, 0, 1, 0]) (affiantref1_block_2_in x0 x1 x2 x3 x4) (affiantref1_block_2_ex o) (affiantref1_block_2_st o) :=
  LoopOK.of_step (st := fun s => affiantref1_block_2_in x0 s.1 x2 x3 s.2) (ex := affiantref1_block_2_ex) (stO := affiantref1_block_2_st) (fun s s2 hs => affiantref1_block_2_body x0 s.1 x2 x3 s.2 (.inl s2) hs) (fun s r hs => affiantref1_block_2_body x0 s.1 x2 x3 s.2 (.inr r) hs) _ o h
def affiantref1_block_3_in (x0 : List UInt32) (x1 : Int) (x2 : List UInt32) (x3 : List UInt32) (x4 : List UInt32) (x5 : List UInt32) : St := ⟨[(2, (.v (.slice (.int .u32)) x0)), (3, (.ptr 0 [])), (6, (.ptr 1 [])), (7, (.ptr 2 [])), (12, (.ptr 3 [])), (101, (.v (.int .i64) x1))], [.box (.arr 8 (.int .u32)) (.v (.arr 8 (.int .u32)) x2) true, .box (.arr 8 (.int .u32)) (.v (.arr 8 (.int .u32)) x3) true, .box (.arr 64 (.int .u32)) (.v (.arr 64 (.int .u32)) x4) true, .box (.arr 8 (.int .u32)) (.v (.arr 8 (.int .u32)) x5) true], 207, 0⟩
def affiantref1_block_3_ex (o : List UInt32 × List UInt32 × List UInt32) : Exit := (.exit 4)
def affiantref1_block_3_st (o : List UInt32 × List UInt32 × List UInt32) : St := ⟨[(3, (.ptr 0 [])), (6, (.ptr 1 [])), (12, (.ptr 2 []))], [.box (.arr 8 (.int .u32)) (.v (.arr 8 (.int .u32)) o.1) true, .box (.arr 8 (.int .u32)) (.v (.arr 8 (.int .u32)) o.2.1) true, .box (.arr 8 (.int .u32)) (.v (.arr 8 (.int .u32)) o.2.2) true], 207, 0⟩
theorem affiantref1_block_3_body (x0 : List UInt32) (x1 : Int) (x2 : List UInt32) (x3 : List UInt32) (x4 : List UInt32) (x5 : List UInt32) : ∀ r, affiantref1_block_3_step x0 x1 x2 x3 x4 x5 = some r → (match r with | .inl s => CodeOK prog (codeAt (bodyOf f53) [1, 1, 1, 1, 1, 0, 1, 0, 0]) (affiantref1_block_3_in x0 x1 x2 x3 x4 x5) .normal (affiantref1_block_3_in x0 s.1 x2 x3 x4 s.2) | .inr o => affiantref1_block_3_ex o ≠ .normal ∧ CodeOK prog (codeAt (bodyOf f53) [1, 1, 1, 1, 1, 0, 1, 0, 0]) (affiantref1_block_3_in x0 x1 x2 x3 x4 x5) (affiantref1_block_3_ex o) (affiantref1_block_3_st o)) := by
  intro r h
  unfold affiantref1_block_3_step at h
  rcases fork_some h with ⟨h28, h⟩ | ⟨h28, h⟩
  · obtain ⟨u29, h30, h⟩ := andThen_some h
    obtain ⟨u31, h32, h⟩ := andThen_some h
    obtain ⟨u33, h34, h⟩ := andThen_some h
    obtain ⟨h35, h⟩ := need_some h
    obtain ⟨h36, h⟩ := need_some h
    obtain ⟨u37, h38, h⟩ := andThen_some h
    obtain ⟨u39, h40, h⟩ := andThen_some h
    obtain ⟨u41, h42, h⟩ := andThen_some h
    injection h with h; subst h
    exact env.code (its := [.br true, .pre [[], [0], [0, 1], [], [3], [0, 1, 2, 3, 4], [0, 1, 2, 3, 4, 5], [], [7], [0, 1, 2, 3, 4, 5, 7, 8], [0, 1, 2, 3, 4, 5, 6, 7, 8, 9], [0, 1, 2, 3, 4, 5, 6, 7, 8, 9, 10]], .call [none, none] [] [] true (affiantref1_turn_R (List.getD x5 (Int.toNat (4 : Int)) (0 : UInt32)) (6 : UInt64) u29) (affiantref1_turn_O (List.getD x5 (Int.toNat (4 : Int)) (0 : UInt32)) (6 : UInt64) u29), .call [none, none] [] [] true (affiantref1_turn_R (List.getD x5 (Int.toNat (4 : Int)) (0 : UInt32)) (11 : UInt64) u31) (affiantref1_turn_O (List.getD x5 (Int.toNat (4 : Int)) (0 : UInt32)) (11 : UInt64) u31), .call [none, none] [] [] true (affiantref1_turn_R (List.getD x5 (Int.toNat (4 : Int)) (0 : UInt32)) (25 : UInt64) u33) (affiantref1_turn_O (List.getD x5 (Int.toNat (4 : Int)) (0 : UInt32)) (25 : UInt64) u33), .pre [[], [0], [], [0, 1, 2], [], [0, 1, 2, 3, 4], [], [], [6, 7], [6, 7, 8], [0, 1, 2, 3, 4, 5, 6, 7, 8, 9], [], [11], [11, 12], [0, 1, 2, 3, 4, 5, 6, 7, 8, 9, 10, 11, 12, 13], [0, 1, 2, 3, 4, 5, 6, 7, 8, 9, 10, 11, 12, 13, 14]], .pre [[], [0], [0, 1], [], [3], [0, 1, 2, 3, 4], [0, 1, 2, 3, 4, 5], [], [7], [0, 1, 2, 3, 4, 5, 7, 8], [0, 1, 2, 3, 4, 5, 6, 7, 8, 9], [0, 1, 2, 3, 4, 5, 6, 7, 8, 9, 10]], .call [none, none] [] [] true (affiantref1_turn_R (List.getD x5 (Int.toNat (0 : Int)) (0 : UInt32)) (2 : UInt64) u37) (affiantref1_turn_O (List.getD x5 (Int.toNat (0 : Int)) (0 : UInt32)) (2 : UInt64) u37), .call [none, none] [] [] true (affiantref1_turn_R (List.getD x5 (Int.toNat (0 : Int)) (0 : UInt32)) (13 : UInt64) u39) (affiantref1_turn_O (List.getD x5 (Int.toNat (0 : Int)) (0 : UInt32)) (13 : UInt64) u39), .call [none, none] [] [] true (affiantref1_turn_R (List.getD x5 (Int.toNat (0 : Int)) (0 : UInt32)) (22 : UInt64) u41) (affiantref1_turn_O (List.getD x5 (Int.toNat (0 : Int)) (0 : UInt32)) (22 : UInt64) u41), .sel [2, 3, 6, 7, 12, 101] [0, 1, 2, 3]]) (.c h28 (.c (of_decide_eq_true (p := (0 ≤ (4 : Int) ∧ (4 : Int) < (8 : Int))) (by kernel_rfl)) (.c (affiantref1_turn_ok (List.getD x5 (Int.toNat (4 : Int)) (0 : UInt32)) (6 : UInt64) u29 h30) (.c (of_decide_eq_true (p := (0 ≤ (4 : Int) ∧ (4 : Int) < (8 : Int))) (by kernel_rfl)) (.c (affiantref1_turn_ok (List.getD x5 (Int.toNat (4 : Int)) (0 : UInt32)) (11 : UInt64) u31 h32) (.c (of_decide_eq_true (p := (0 ≤ (4 : Int) ∧ (4 : Int) < (8 : Int))) (by kernel_rfl)) (.c (affiantref1_turn_ok (List.getD x5 (Int.toNat (4 : Int)) (0 : UInt32)) (25 : UInt64) u33 h34) (.c (of_decide_eq_true (p := (0 ≤ (4 : Int) ∧ (4 : Int) < (8 : Int))) (by kernel_rfl)) (.c (of_decide_eq_true (p := (0 ≤ (5 : Int) ∧ (5 : Int) < (8 : Int))) (by kernel_rfl)) (.c (of_decide_eq_true (p := (0 ≤ (4 : Int) ∧ (4 : Int) < (8 : Int))) (by kernel_rfl)) (.c (of_decide_eq_true (p := (0 ≤ (6 : Int) ∧ (6 : Int) < (8 : Int))) (by kernel_rfl)) (.c (of_decide_eq_true (p := (0 ≤ (7 : Int) ∧ (7 : Int) < (8 : Int))) (by kernel_rfl)) (.c h35 (.c h36 (.c (of_decide_eq_true (p := (0 ≤ (0 : Int) ∧ (0 : Int) < (8 : Int))) (by kernel_rfl)) (.c (affiantref1_turn_ok (List.getD x5 (Int.toNat (0 : Int)) (0 : UInt32)) (2 : UInt64) u37 h38) (.c (of_decide_eq_true (p := (0 ≤ (0 : Int) ∧ (0 : Int) < (8 : Int))) (by kernel_rfl)) (.c (affiantref1_turn_ok (List.getD x5 (Int.toNat (0 : Int)) (0 : UInt32)) (13 : UInt64) u39 h40) (.c (of_decide_eq_true (p := (0 ≤ (0 : Int) ∧ (0 : Int) < (8 : Int))) (by kernel_rfl)) (.c (affiantref1_turn_ok (List.getD x5 (Int.toNat (0 : Int)) (0 : UInt32)) (22 : UInt64) u41 h42) (.c (of_decide_eq_true (p := (0 ≤ (0 : Int) ∧ (0 : Int) < (8 : Int))) (by kernel_rfl)) (.c (of_decide_eq_true (p := (0 ≤ (1 : Int) ∧ (1 : Int) < (8 : Int))) (by kernel_rfl)) (.c (of_decide_eq_true (p := (0 ≤ (0 : Int) ∧ (0 : Int) < (8 : Int))) (by kernel_rfl)) (.c (of_decide_eq_true (p := (0 ≤ (2 : Int) ∧ (2 : Int) < (8 : Int))) (by kernel_rfl)) (.c (of_decide_eq_true (p := (0 ≤ (1 : Int) ∧ (1 : Int) < (8 : Int))) (by kernel_rfl)) (.c (of_decide_eq_true (p := (0 ≤ (2 : Int) ∧ (2 : Int) < (8 : Int))) (by kernel_rfl)) (.c (of_decide_eq_true (p := (0 ≤ (0 : Int) ∧ (0 : Int) < (8 : Int))) (by kernel_rfl)) (.c (of_decide_eq_true (p := (0 ≤ (1 : Int) ∧ (1 : Int) < (8 : Int))) (by kernel_rfl)) (.c (of_decide_eq_true (p := (0 ≤ (2 : Int) ∧ (2 : Int) < (8 : Int))) (by kernel_rfl)) (.c (of_decide_eq_true (p := (0 ≤ (3 : Int) ∧ (3 : Int) < (8 : Int))) (by kernel_rfl)) (.c (of_decide_eq_true (p := (0 ≤ (4 : Int) ∧ (4 : Int) < (8 : Int))) (by kernel_rfl)) (.c (of_decide_eq_true (p := (0 ≤ (5 : Int) ∧ (5 : Int) < (8 : Int))) (by kernel_rfl)) (.c (of_decide_eq_true (p := (0 ≤ (6 : Int) ∧ (6 : Int) < (8 : Int))) (by kernel_rfl)) .n))))))))))))))))))))))))))))))))) (by kernel_rfl)
  · injection h with h; subst h
    exact ⟨by intro e; simp [affiantref1_block_3_ex] at e, env.code (its := [.br false, .sel [3, 6, 12] [0, 1, 3]]) (.c h28 .n) (by kernel_rfl)⟩
theorem affiantref1_block_3_ok (x0 : List UInt32) (x1 : Int) (x2 : List UInt32) (x3 : List UInt32) (x4 : List UInt32) (x5 : List UInt32) (o : List UInt32 × List UInt32 × List UInt32) (h : affiantref1_block_3 x0 x1 x2 x3 x4 x5 = some o) : CodeOK prog (codeAt (bodyOf f53) [1, 1, 1, 1, 1, 0, 1, 0]) (affiantref1_block_3_in x0 x1 x2 x3 x4 x5) (affiantref1_block_3_ex o) (affiantref1_block_3_st o) :=
  LoopOK.of_step (st := fun s => affiantref1_block_3_in x0 s.1 x2 x3 x4 s.2) (ex := affiantref1_block_3_ex) (stO := affiantref1_block_3_st) (fun s s2 hs => affiantref1_block_3_body x0 s.1 x2 x3 x4 s.2 (.inl s2) hs) (fun s r hs => affiantref1_block_3_body x0 s.1 x2 x3 x4 s.2 (.inr r) hs) _ o h
def affiantref1_block_4_in (x0 : Int) (x1 : List UInt32) (x2 : List UInt32) (x3 : List UInt32) : St := ⟨[(3, (.ptr 0 [])), (6, (.ptr 1 [])), (12, (.ptr 2 [])), (193, (.v (.int .i64) x0))], [.box (.arr 8 (.int .u32)) (.v (.arr 8 (.int .u32)) x1) true, .box (.arr 8 (.int .u32)) (.v (.arr 8 (.int .u32)) x2) true, .box (.arr 8 (.int .u32)) (.v (.arr 8 (.int .u32)) x3) true], 207, 0⟩
def affiantref1_block_4_ex (o : List UInt32 × List UInt32) : Exit := (.exit 6)
def affiantref1_block_4_st (o : List UInt32 × List UInt32) : St := ⟨[(3, (.ptr 0 [])), (6, (.ptr 1 []))], [.box (.arr 8 (.int .u32)) (.v (.arr 8 (.int .u32)) o.1) true, .box (.arr 8 (.int .u32)) (.v (.arr 8 (.int .u32)) o.2) true], 207, 0⟩
theorem affiantref1_block_4_body (x0 : Int) (x1 : List UInt32) (x2 : List UInt32) (x3 : List UInt32) : ∀ r, affiantref1_block_4_step x0 x1 x2 x3 = some r → (match r with | .inl s => CodeOK prog (codeAt (bodyOf f53) [1, 1, 1, 1, 1, 1, 0, 1, 0, 0]) (affiantref1_block_4_in x0 x1 x2 x3) .normal (affiantref1_block_4_in s.1 s.2 x2 x3) | .inr o => affiantref1_block_4_ex o ≠ .normal ∧ CodeOK prog (codeAt (bodyOf f53) [1, 1, 1, 1, 1, 1, 0, 1, 0, 0]) (affiantref1_block_4_in x0 x1 x2 x3) (affiantref1_block_4_ex o) (affiantref1_block_4_st o)) := by
  intro r h
  unfold affiantref1_block_4_step at h
  rcases fork_some h with ⟨h46, h⟩ | ⟨h46, h⟩
  · obtain ⟨h47, h⟩ := need_some h
    injection h with h; subst h
    exact env.code (its := [.br true, .pre [[], [], [1], [1, 2], [], [4], [4, 5], [1, 2, 3, 4, 5, 6], [0, 1, 2, 3, 4, 5, 6, 7], [0, 1, 2, 3, 4, 5, 6, 7, 8]], .sel [3, 6, 12, 193] [0, 1, 2]]) (.c h46 (.c h47 (.c h47 (.c h47 .n)))) (by kernel_rfl)
  · injection h with h; subst h
    exact ⟨by intro e; simp [affiantref1_block_4_ex] at e, env.code (its := [.br false, .sel [3, 6] [0, 1]]) (.c h46 .n) (by kernel_rfl)⟩
theorem affiantref1_block_4_ok (x0 : Int) (x1 : List UInt32) (x2 : List UInt32) (x3 : List UInt32) (o : List UInt32 × List UInt32) (h : affiantref1_block_4 x0 x1 x2 x3 = some o) : CodeOK prog (codeAt (bodyOf f53) [1, 1, 1, 1, 1, 1, 0, 1, 0]) (affiantref1_block_4_in x0 x1 x2 x3) (affiantref1_block_4_ex o) (affiantref1_block_4_st o) :=
  LoopOK.of_step (st := fun s => affiantref1_block_4_in s.1 s.2 x2 x3) (ex := affiantref1_block_4_ex) (stO := affiantref1_block_4_st) (fun s s2 hs => affiantref1_block_4_body s.1 s.2 x2 x3 (.inl s2) hs) (fun s r hs => affiantref1_block_4_body s.1 s.2 x2 x3 (.inr r) hs) _ o h
def affiantref1_block_R (a0 : List UInt32) (a1 : List UInt8) (a2 : List UInt32) (u : List UInt32) : Slot := (.v (.arr 8 (.int .u32)) u)
def affiantref1_block_O (a0 : List UInt32) (a1 : List UInt8) (a2 : List UInt32) (u : List UInt32) : List AObj := []
theorem affiantref1_block_ok (a0 : List UInt32) (a1 : List UInt8) (a2 : List UInt32) (u : List UInt32) (h : affiantref1_block a0 a1 a2 = some u) : CallC prog 53 [(.v (.arr 8 (.int .u32)) a0), (.v (.slice (.int .u8)) a1), (.v (.slice (.int .u32)) a2)] [] (affiantref1_block_R a0 a1 a2 u) (affiantref1_block_O a0 a1 a2 u) := by
  unfold affiantref1_block at h
  obtain ⟨o8, h9, h⟩ := andThen_some h
  obtain ⟨o25, h26, h⟩ := andThen_some h
  obtain ⟨o43, h44, h⟩ := andThen_some h
  obtain ⟨o48, h49, h⟩ := andThen_some h
  injection h with h; subst h
  exact env.fun func53 can53 (its := [.dive, .sel [1, 2, 3, 6, 7, 20] [0, 1, 2], .part (affiantref1_block_1_ex o8) (affiantref1_block_1_st o8), .dive, .sel [2, 3, 6, 7, 9] [0, 1, 2], .part (affiantref1_block_2_ex o25) (affiantref1_block_2_st o25), .dive, .sel [2, 3, 6, 7, 12, 101] [0, 1, 2, 3], .part (affiantref1_block_3_ex o43) (affiantref1_block_3_st o43), .dive, .sel [3, 6, 12, 193] [0, 1, 2], .part (affiantref1_block_4_ex o48) (affiantref1_block_4_st o48)]) (pos := [.sel []]) (.c (affiantref1_block_1_ok a1 a2 (0 : Int) a0 (List.replicate 8 (0 : UInt32)) (List.replicate 64 (0 : UInt32)) o8 h9) (.c (affiantref1_block_2_ok o8.1 (16 : Int) o8.2.1 o8.2.2.1 o8.2.2.2 o25 h26) (.c (affiantref1_block_3_ok o25.1 (0 : Int) o25.2.1 o25.2.2.1 o25.2.2.2 o25.2.1 o43 h44) (.c (affiantref1_block_4_ok (0 : Int) o43.1 o43.2.1 o43.2.2 o48 h49) .n)))) (by kernel_rfl)
theorem can42 : Callable prog 42 := ⟨_, func42, by kernel_rfl, by kernel_rfl⟩
def affiantref1_Sum_1_in (x0 : List UInt8) (x1 : List UInt8) (x2 : List UInt32) (x3 : List UInt32) (x4 : List UInt8) : St := ⟨[(0, (.v (.slice (.int .u8)) x0)), (2, (.ptr 0 [])), (3, (.own 1 [])), (4, (.ptr 2 [])), (5, (.own 3 []))], [.box (.arr 32 (.int .u8)) (.v (.arr 32 (.int .u8)) x1) true, .row (.int .u32) x2 true, .box (.arr 8 (.int .u32)) (.v (.arr 8 (.int .u32)) x3) true, .row (.int .u8) x4 true], 88, 0⟩
def affiantref1_Sum_1_ex (o : List UInt8 × List UInt8 × List UInt32 × List UInt32 × List UInt8) : Exit := (.exit 0)
def affiantref1_Sum_1_st (o : List UInt8 × List UInt8 × List UInt32 × List UInt32 × List UInt8) : St := ⟨[(0, (.v (.slice (.int .u8)) o.1)), (2, (.ptr 0 [])), (3, (.own 1 [])), (4, (.ptr 2 [])), (5, (.own 3 []))], [.box (.arr 32 (.int .u8)) (.v (.arr 32 (.int .u8)) o.2.1) true, .row (.int .u32) o.2.2.1 true, .box (.arr 8 (.int .u32)) (.v (.arr 8 (.int .u32)) o.2.2.2.1) true, .row (.int .u8) o.2.2.2.2 true], 88, 0⟩
theorem affiantref1_Sum_1_body (x0 : List UInt8) (x1 : List UInt8) (x2 : List UInt32) (x3 : List UInt32) (x4 : List UInt8) : ∀ r, affiantref1_Sum_1_step x0 x1 x2 x3 x4 = some r → (match r with | .inl s => CodeOK prog (codeAt (bodyOf f42) [1, 1, 1, 1, 0, 0, 0]) (affiantref1_Sum_1_in x0 x1 x2 x3 x4) .normal (affiantref1_Sum_1_in x0 x1 x2 x3 s) | .inr o => affiantref1_Sum_1_ex o ≠ .normal ∧ CodeOK prog (codeAt (bodyOf f42) [1, 1, 1, 1, 0, 0, 0]) (affiantref1_Sum_1_in x0 x1 x2 x3 x4) (affiantref1_Sum_1_ex o) (affiantref1_Sum_1_st o)) := by
  intro r h
  unfold affiantref1_Sum_1_step at h
  rcases fork_some h with ⟨h6, h⟩ | ⟨h6, h⟩
  · obtain ⟨h7, h⟩ := need_some h
    injection h with h; subst h
    exact env.code (its := [.br true, .dive, .sel [0, 2, 3, 4, 5] [0, 1, 2, 5]]) (.c (of_decide_eq_true (p := ((64 : Int) ≠ 0)) (by kernel_rfl)) (.c h6 (.c h7 .n))) (by kernel_rfl)
  · injection h with h; subst h
    exact ⟨by intro e; simp [affiantref1_Sum_1_ex] at e, env.code (its := [.br false, .sel [0, 2, 3, 4, 5] [0, 1, 2, 3]]) (.c (of_decide_eq_true (p := ((64 : Int) ≠ 0)) (by kernel_rfl)) (.c h6 .n)) (by kernel_rfl)⟩
theorem affiantref1_Sum_1_ok (x0 : List UInt8) (x1 : List UInt8) (x2 : List UInt32) (x3 : List UInt32) (x4 : List UInt8) (o : List UInt8 × List UInt8 × List UInt32 × List UInt32 × List UInt8) (h : affiantref1_Sum_1 x0 x1 x2 x3 x4 = some o) : CodeOK prog (codeAt (bodyOf f42) [1, 1, 1, 1, 0, 0]) (affiantref1_Sum_1_in x0 x1 x2 x3 x4) (affiantref1_Sum_1_ex o) (affiantref1_Sum_1_st o) :=
  LoopOK.of_step (st := fun s => affiantref1_Sum_1_in x0 x1 x2 x3 s) (ex := affiantref1_Sum_1_ex) (stO := affiantref1_Sum_1_st) (fun s s2 hs => affiantref1_Sum_1_body x0 x1 x2 x3 s (.inl s2) hs) (fun s r hs => affiantref1_Sum_1_body x0 x1 x2 x3 s (.inr r) hs) _ o h
def affiantref1_Sum_2_in (x0 : List UInt8) (x1 : Int) (x2 : List UInt8) (x3 : List UInt32) (x4 : List UInt32) (x5 : List UInt8) : St := ⟨[(0, (.v (.slice (.int .u8)) x0)), (2, (.ptr 0 [])), (3, (.own 1 [])), (4, (.ptr 2 [])), (5, (.own 3 [])), (6, (.v (.int .i64) x1))], [.box (.arr 32 (.int .u8)) (.v (.arr 32 (.int .u8)) x2) true, .row (.int .u32) x3 true, .box (.arr 8 (.int .u32)) (.v (.arr 8 (.int .u32)) x4) true, .row (.int .u8) x5 true], 88, 0⟩
def affiantref1_Sum_2_ex (o : List UInt8 × List UInt32 × List UInt32 × List UInt8) : Exit := (.exit 2)
def affiantref1_Sum_2_st (o : List UInt8 × List UInt32 × List UInt32 × List UInt8) : St := ⟨[(2, (.ptr 0 [])), (3, (.own 1 [])), (4, (.ptr 2 [])), (5, (.own 3 []))], [.box (.arr 32 (.int .u8)) (.v (.arr 32 (.int .u8)) o.1) true, .row (.int .u32) o.2.1 true, .box (.arr 8 (.int .u32)) (.v (.arr 8 (.int .u32)) o.2.2.1) true, .row (.int .u8) o.2.2.2 true], 88, 0⟩
theorem affiantref1_Sum_2_body (x0 : List UInt8) (x1 : Int) (x2 : List UInt8) (x3 : List UInt32) (x4 : List UInt32) (x5 : List UInt8) : ∀ r, affiantref1_Sum_2_step x0 x1 x2 x3 x4 x5 = some r → (match r with | .inl s => CodeOK prog (codeAt (bodyOf f42) [1, 1, 1, 1, 1, 0, 1, 0, 0]) (affiantref1_Sum_2_in x0 x1 x2 x3 x4 x5) .normal (affiantref1_Sum_2_in x0 s.1 x2 x3 x4 s.2) | .inr o => affiantref1_Sum_2_ex o ≠ .normal ∧ CodeOK prog (codeAt (bodyOf f42) [1, 1, 1, 1, 1, 0, 1, 0, 0]) (affiantref1_Sum_2_in x0 x1 x2 x3 x4 x5) (affiantref1_Sum_2_ex o) (affiantref1_Sum_2_st o)) := by
  intro r h
  unfold affiantref1_Sum_2_step at h
  rcases fork_some h with ⟨h11, h⟩ | ⟨h11, h⟩
  · obtain ⟨h12, h⟩ := need_some h
    obtain ⟨h13, h⟩ := need_some h
    injection h with h; subst h
    exact env.code (its := [.br true, .dive, .sel [0, 2, 3, 4, 5, 6] [0, 1, 2, 5]]) (.c h11 (.c h12 (.c h13 .n))) (by kernel_rfl)
  · injection h with h; subst h
    exact ⟨by intro e; simp [affiantref1_Sum_2_ex] at e, env.code (its := [.br false, .sel [2, 3, 4, 5] [0, 1, 2, 3]]) (.c h11 .n) (by kernel_rfl)⟩
theorem affiantref1_Sum_2_ok (x0 : List UInt8) (x1 : Int) (x2 : List UInt8) (x3 : List UInt32) (x4 : List UInt32) (x5 : List UInt8) (o : List UInt8 × List UInt32 × List UInt32 × List UInt8) (h : affiantref1_Sum_2 x0 x1 x2 x3 x4 x5 = some o) : CodeOK prog (codeAt (bodyOf f42) [1, 1, 1, 1, 1, 0, 1, 0]) (affiantref1_Sum_2_in x0 x1 x2 x3 x4 x5) (affiantref1_Sum_2_ex o) (affiantref1_Sum_2_st o) :=
  LoopOK.of_step (st := fun s => affiantref1_Sum_2_in x0 s.1 x2 x3 x4 s.2) (ex := affiantref1_Sum_2_ex) (stO := affiantref1_Sum_2_st) (fun s s2 hs => affiantref1_Sum_2_body x0 s.1 x2 x3 x4 s.2 (.inl s2) hs) (fun s r hs => affiantref1_Sum_2_body x0 s.1 x2 x3 x4 s.2 (.inr r) hs) _ o h
def affiantref1_Sum_3_in (x0 : List UInt8) (x1 : Int) (x2 : List UInt8) (x3 : List UInt32) (x4 : List UInt32) : St := ⟨[(2, (.ptr 0 [])), (3, (.own 1 [])), (4, (.ptr 2 [])), (5, (.v (.slice (.int .u8)) x0)), (7, (.v (.int .i64) x1))], [.box (.arr 32 (.int .u8)) (.v (.arr 32 (.int .u8)) x2) true, .row (.int .u32) x3 true, .box (.arr 8 (.int .u32)) (.v (.arr 8 (.int .u32)) x4) true], 88, 0⟩
def affiantref1_Sum_3_ex (o : List UInt8 × List UInt32) : Exit := (.exit 4)
def affiantref1_Sum_3_st (o : List UInt8 × List UInt32) : St := ⟨[(2, (.ptr 0 [])), (4, (.ptr 1 []))], [.box (.arr 32 (.int .u8)) (.v (.arr 32 (.int .u8)) o.1) true, .box (.arr 8 (.int .u32)) (.v (.arr 8 (.int .u32)) o.2) true], 88, 0⟩
theorem affiantref1_Sum_3_body (x0 : List UInt8) (x1 : Int) (x2 : List UInt8) (x3 : List UInt32) (x4 : List UInt32) : ∀ r, affiantref1_Sum_3_step x0 x1 x2 x3 x4 = some r → (match r with | .inl s => CodeOK prog (codeAt (bodyOf f42) [1, 1, 1, 1, 1, 1, 0, 1, 0, 0]) (affiantref1_Sum_3_in x0 x1 x2 x3 x4) .normal (affiantref1_Sum_3_in x0 s.1 x2 x3 s.2) | .inr o => affiantref1_Sum_3_ex o ≠ .normal ∧ CodeOK prog (codeAt (bodyOf f42) [1, 1, 1, 1, 1, 1, 0, 1, 0, 0]) (affiantref1_Sum_3_in x0 x1 x2 x3 x4) (affiantref1_Sum_3_ex o) (affiantref1_Sum_3_st o)) := by
  intro r h
  unfold affiantref1_Sum_3_step at h
  rcases fork_some h with ⟨h17, h⟩ | ⟨h17, h⟩
  · obtain ⟨h18, h⟩ := need_some h
    obtain ⟨u19, h20, h⟩ := andThen_some h
    injection h with h; subst h
    exact env.code (its := [.br true, .pre [[], [], [], [], [3], [1, 2, 3, 4], [], [0, 1, 2, 3, 4, 5, 6], [0, 1, 2, 3, 4, 5, 6, 7]], .br false, .call [none, none, none] [] [0] true (affiantref1_block_R x4 (cutL x0 x1 (w64 (x1 + (64 : Int)))) x3 u19) (affiantref1_block_O x4 (cutL x0 x1 (w64 (x1 + (64 : Int)))) x3 u19), .sel [2, 3, 4, 5, 7] [0, 1, 2]]) (.c h17 (.c h18 (.c (affiantref1_block_ok x4 (cutL x0 x1 (w64 (x1 + (64 : Int)))) x3 u19 h20) .n))) (by kernel_rfl)
  · injection h with h; subst h
    exact ⟨by intro e; simp [affiantref1_Sum_3_ex] at e, env.code (its := [.br false, .sel [2, 4] [0, 2]]) (.c h17 .n) (by kernel_rfl)⟩
theorem affiantref1_Sum_3_ok (x0 : List UInt8) (x1 : Int) (x2 : List UInt8) (x3 : List UInt32) (x4 : List UInt32) (o : List UInt8 × List UInt32) (h : affiantref1_Sum_3 x0 x1 x2 x3 x4 = some o) : CodeOK prog (codeAt (bodyOf f42) [1, 1, 1, 1, 1, 1, 0, 1, 0]) (affiantref1_Sum_3_in x0 x1 x2 x3 x4) (affiantref1_Sum_3_ex o) (affiantref1_Sum_3_st o) :=
  LoopOK.of_step (st := fun s => affiantref1_Sum_3_in x0 s.1 x2 x3 s.2) (ex := affiantref1_Sum_3_ex) (stO := affiantref1_Sum_3_st) (fun s s2 hs => affiantref1_Sum_3_body x0 s.1 x2 x3 s.2 (.inl s2) hs) (fun s r hs => affiantref1_Sum_3_body x0 s.1 x2 x3 s.2 (.inr r) hs) _ o h
def affiantref1_Sum_4_in (x0 : List UInt32) (x1 : Int) (x2 : List UInt8) (x3 : List UInt8) : St := ⟨[(2, (.ptr 0 [])), (8, (.ptr 1 [])), (55, (.v (.arr 8 (.int .u32)) x0)), (56, (.v (.int .i64) x1))], [.box (.arr 32 (.int .u8)) (.v (.arr 32 (.int .u8)) x2) true, .box (.arr 32 (.int .u8)) (.v (.arr 32 (.int .u8)) x3) true], 88, 0⟩
def affiantref1_Sum_4_ex (o : List UInt8 × List UInt8) : Exit := (.exit 6)
def affiantref1_Sum_4_st (o : List UInt8 × List UInt8) : St := ⟨[(2, (.ptr 0 [])), (8, (.ptr 1 []))], [.box (.arr 32 (.int .u8)) (.v (.arr 32 (.int .u8)) o.1) true, .box (.arr 32 (.int .u8)) (.v (.arr 32 (.int .u8)) o.2) true], 88, 0⟩
theorem affiantref1_Sum_4_body (x0 : List UInt32) (x1 : Int) (x2 : List UInt8) (x3 : List UInt8) : ∀ r, affiantref1_Sum_4_step x0 x1 x2 x3 = some r → (match r with | .inl s => CodeOK prog (codeAt (bodyOf f42) [1, 1, 1, 1, 1, 1, 1, 1, 0, 1, 0, 0]) (affiantref1_Sum_4_in x0 x1 x2 x3) .normal (affiantref1_Sum_4_in x0 s.1 x2 s.2) | .inr o => affiantref1_Sum_4_ex o ≠ .normal ∧ CodeOK prog (codeAt (bodyOf f42) [1, 1, 1, 1, 1, 1, 1, 1, 0, 1, 0, 0]) (affiantref1_Sum_4_in x0 x1 x2 x3) (affiantref1_Sum_4_ex o) (affiantref1_Sum_4_st o)) := by
  intro r h
  unfold affiantref1_Sum_4_step at h
  rcases fork_some h with ⟨h24, h⟩ | ⟨h24, h⟩
  · obtain ⟨h25, h⟩ := need_some h
    obtain ⟨h26, h⟩ := need_some h
    obtain ⟨h27, h⟩ := need_some h
    obtain ⟨h28, h⟩ := need_some h
    obtain ⟨h29, h⟩ := need_some h
    injection h with h; subst h
    exact env.code (its := [.br true, .dive, .sel [2, 8, 55, 56] [0, 1]]) (.c h24 (.c h25 (.c (of_decide_eq_true (p := (0 ≤ (24 : Int))) (by kernel_rfl)) (.c (of_decide_eq_true (p := (0 ≤ (16 : Int))) (by kernel_rfl)) (.c (of_decide_eq_true (p := (0 ≤ (8 : Int))) (by kernel_rfl)) (.c h26 (.c h27 (.c h28 (.c h29 .n))))))))) (by kernel_rfl)
  · injection h with h; subst h
    exact ⟨by intro e; simp [affiantref1_Sum_4_ex] at e, env.code (its := [.br false, .sel [2, 8] [0, 1]]) (.c h24 .n) (by kernel_rfl)⟩
theorem affiantref1_Sum_4_ok (x0 : List UInt32) (x1 : Int) (x2 : List UInt8) (x3 : List UInt8) (o : List UInt8 × List UInt8) (h : affiantref1_Sum_4 x0 x1 x2 x3 = some o) : CodeOK prog (codeAt (bodyOf f42) [1, 1, 1, 1, 1, 1, 1, 1, 0, 1, 0]) (affiantref1_Sum_4_in x0 x1 x2 x3) (affiantref1_Sum_4_ex o) (affiantref1_Sum_4_st o) :=
  LoopOK.of_step (st := fun s => affiantref1_Sum_4_in x0 s.1 x2 s.2) (ex := affiantref1_Sum_4_ex) (stO := affiantref1_Sum_4_st) (fun s s2 hs => affiantref1_Sum_4_body x0 s.1 x2 s.2 (.inl s2) hs) (fun s r hs => affiantref1_Sum_4_body x0 s.1 x2 s.2 (.inr r) hs) _ o h
def affiantref1_Sum_R (a0 : List UInt8) (u : List UInt8) : Slot := (.v (.arr 32 (.int .u8)) u)
def affiantref1_Sum_O (a0 : List UInt8) (u : List UInt8) : List AObj := []
theorem affiantref1_Sum_ok (a0 : List UInt8) (u : List UInt8) (h : affiantref1_Sum a0 = some u) : CallC prog 42 [(.v (.slice (.int .u8)) a0)] [] (affiantref1_Sum_R a0 u) (affiantref1_Sum_O a0 u) := by
  unfold affiantref1_Sum at h
  obtain ⟨u1, h2, h⟩ := andThen_some h
  obtain ⟨h3, h⟩ := need_some h
  obtain ⟨h4, h⟩ := need_some h
  obtain ⟨o8, h9, h⟩ := andThen_some h
  obtain ⟨o14, h15, h⟩ := andThen_some h
  obtain ⟨o21, h22, h⟩ := andThen_some h
  obtain ⟨o30, h31, h⟩ := andThen_some h
  injection h with h; subst h
  exact env.fun func42 can42 (its := [.call [] [] [] true (affiantref1_constants_R u1) (affiantref1_constants_O u1), .dive, .sel [0, 2, 3, 4, 5] [0, 1, 2, 6], .part (affiantref1_Sum_1_ex o8) (affiantref1_Sum_1_st o8), .dive, .sel [0, 2, 3, 4, 5, 6] [0, 1, 2, 3], .part (affiantref1_Sum_2_ex o14) (affiantref1_Sum_2_st o14), .dive, .val 5 (.slice (.int .u8)), .sel [2, 3, 4, 5, 7] [0, 1, 2], .part (affiantref1_Sum_3_ex o21) (affiantref1_Sum_3_st o21), .dive, .sel [2, 8, 55, 56] [0, 2], .part (affiantref1_Sum_4_ex o30) (affiantref1_Sum_4_st o30)]) (pos := [.sel []]) (.c (affiantref1_constants_ok u1 h2) (.c h3 (.c h4 (.c (affiantref1_Sum_1_ok a0 (List.replicate 32 (0 : UInt8)) u1 (List.set (List.set (List.set (List.set (List.set (List.set (List.set (List.set (List.replicate 8 (0 : UInt32)) 0 (1779033703 : UInt32)) 1 (3144134277 : UInt32)) 2 (1013904242 : UInt32)) 3 (2773480762 : UInt32)) 4 (1359893119 : UInt32)) 5 (2600822924 : UInt32)) 6 (528734635 : UInt32)) 7 (1541459225 : UInt32)) ((([] : List (UInt8)) ++ a0) ++ ([(128 : UInt8)] : List (UInt8))) o8 h9) (.c (affiantref1_Sum_2_ok o8.1 (7 : Int) o8.2.1 o8.2.2.1 o8.2.2.2.1 o8.2.2.2.2 o14 h15) (.c (affiantref1_Sum_3_ok o14.2.2.2 (0 : Int) o14.1 o14.2.1 o14.2.2.1 o21 h22) (.c (affiantref1_Sum_4_ok o21.2 (0 : Int) o21.1 (List.replicate 32 (0 : UInt8)) o30 h31) .n))))))) (by kernel_rfl)
theorem can22 : Callable prog 22 := ⟨_, func22, by kernel_rfl, by kernel_rfl⟩
def affiantref1_Tagged_1_in (x0 : List (List UInt8)) (x1 : Int) (x2 : Int) (x3 : List UInt8) (x4 : List UInt8) : St := ⟨[(4, (.ptr 0 [])), (5, (.own 1 [])), (10, (.v (.slice (.slice (.int .u8))) x0)), (11, (.v (.int .i64) x1)), (12, (.v (.int .i64) x2))], [.box (.arr 32 (.int .u8)) (.v (.arr 32 (.int .u8)) x3) true, .row (.int .u8) x4 true], 22, 0⟩
def affiantref1_Tagged_1_ex (o : List UInt8 × List UInt8) : Exit := (.exit 0)
def affiantref1_Tagged_1_st (o : List UInt8 × List UInt8) : St := ⟨[(4, (.ptr 0 [])), (5, (.own 1 []))], [.box (.arr 32 (.int .u8)) (.v (.arr 32 (.int .u8)) o.1) true, .row (.int .u8) o.2 true], 22, 0⟩
theorem affiantref1_Tagged_1_body (x0 : List (List UInt8)) (x1 : Int) (x2 : Int) (x3 : List UInt8) (x4 : List UInt8) : ∀ r, affiantref1_Tagged_1_step x0 x1 x2 x3 x4 = some r → (match r with | .inl s => CodeOK prog (codeAt (bodyOf f22) [1, 1, 0, 1, 0, 0]) (affiantref1_Tagged_1_in x0 x1 x2 x3 x4) .normal (affiantref1_Tagged_1_in x0 x1 s.1 x3 s.2) | .inr o => affiantref1_Tagged_1_ex o ≠ .normal ∧ CodeOK prog (codeAt (bodyOf f22) [1, 1, 0, 1, 0, 0]) (affiantref1_Tagged_1_in x0 x1 x2 x3 x4) (affiantref1_Tagged_1_ex o) (affiantref1_Tagged_1_st o)) := by
  intro r h
  unfold affiantref1_Tagged_1_step at h
  rcases fork_some h with ⟨h2, h⟩ | ⟨h2, h⟩
  · obtain ⟨h3, h⟩ := need_some h
    obtain ⟨h4, h⟩ := need_some h
    injection h with h; subst h
    exact env.code (its := [.br true, .dive, .sel [4, 5, 10, 11, 12] [0, 2]]) (.c h2 (.c h3 (.c h4 .n))) (by kernel_rfl)
  · injection h with h; subst h
    exact ⟨by intro e; simp [affiantref1_Tagged_1_ex] at e, env.code (its := [.br false, .sel [4, 5] [0, 1]]) (.c h2 .n) (by kernel_rfl)⟩
theorem affiantref1_Tagged_1_ok (x0 : List (List UInt8)) (x1 : Int) (x2 : Int) (x3 : List UInt8) (x4 : List UInt8) (o : List UInt8 × List UInt8) (h : affiantref1_Tagged_1 x0 x1 x2 x3 x4 = some o) : CodeOK prog (codeAt (bodyOf f22) [1, 1, 0, 1, 0]) (affiantref1_Tagged_1_in x0 x1 x2 x3 x4) (affiantref1_Tagged_1_ex o) (affiantref1_Tagged_1_st o) :=
  LoopOK.of_step (st := fun s => affiantref1_Tagged_1_in x0 x1 s.1 x3 s.2) (ex := affiantref1_Tagged_1_ex) (stO := affiantref1_Tagged_1_st) (fun s s2 hs => affiantref1_Tagged_1_body x0 x1 s.1 x3 s.2 (.inl s2) hs) (fun s r hs => affiantref1_Tagged_1_body x0 x1 s.1 x3 s.2 (.inr r) hs) _ o h
def affiantref1_Tagged_R (a0 : UInt8) (a1 : List (List UInt8)) (u : List UInt8) : Slot := (.v (.arr 32 (.int .u8)) u)
def affiantref1_Tagged_O (a0 : UInt8) (a1 : List (List UInt8)) (u : List UInt8) : List AObj := []
theorem affiantref1_Tagged_ok (a0 : UInt8) (a1 : List (List UInt8)) (u : List UInt8) (h : affiantref1_Tagged a0 a1 = some u) : CallC prog 22 [(.v (.int .u8) a0), (.v (.slice (.slice (.int .u8))) a1)] [] (affiantref1_Tagged_R a0 a1 u) (affiantref1_Tagged_O a0 a1 u) := by
  unfold affiantref1_Tagged at h
  obtain ⟨o5, h6, h⟩ := andThen_some h
  obtain ⟨u7, h8, h⟩ := andThen_some h
  injection h with h; subst h
  exact env.fun func22 can22 (its := [.dive, .sel [4, 5, 10, 11, 12] [0, 1], .part (affiantref1_Tagged_1_ex o5) (affiantref1_Tagged_1_st o5), .call [none] [] [1] true (affiantref1_Sum_R o5.2 u7) (affiantref1_Sum_O o5.2 u7)]) (pos := [.sel []]) (.c (affiantref1_Tagged_1_ok a1 (List.length a1 : Int) (0 : Int) (List.replicate 32 (0 : UInt8)) ([a0] : List (UInt8)) o5 h6) (.c (affiantref1_Sum_ok o5.2 u7 h8) .n)) (by kernel_rfl)
theorem can20 : Callable prog 20 := ⟨_, func20, by kernel_rfl, by kernel_rfl⟩
def affiantref10_HeaderHash_R (a0 : Int × Int × List UInt8 × List UInt8 × List UInt8 × List UInt8 × Unit) (u : List UInt8) : Slot := (.v (.arr 32 (.int .u8)) u)
def affiantref10_HeaderHash_O (a0 : Int × Int × List UInt8 × List UInt8 × List UInt8 × List UInt8 × Unit) (u : List UInt8) : List AObj := []
theorem affiantref10_HeaderHash_ok (a0 : Int × Int × List UInt8 × List UInt8 × List UInt8 × List UInt8 × Unit) (u : List UInt8) (h : affiantref10_HeaderHash a0 = some u) : CallC prog 20 [(.v (.fld (.int .i64) (.fld (.int .i64) (.fld (.arr 32 (.int .u8)) (.fld (.arr 32 (.int .u8)) (.fld (.arr 32 (.int .u8)) (.fld (.arr 32 (.int .u8)) .unit)))))) a0)] [] (affiantref10_HeaderHash_R a0 u) (affiantref10_HeaderHash_O a0 u) := by
  unfold affiantref10_HeaderHash at h
  obtain ⟨u1, h2, h⟩ := andThen_some h
  obtain ⟨u3, h4, h⟩ := andThen_some h
  injection h with h; subst h
  exact env.fun func20 can20 (its := [.call [none] [] [] true (affiantref10_HeaderBytes_R a0 u1) (affiantref10_HeaderBytes_O a0 u1), .call [none, none] [] [3] true (affiantref1_Tagged_R (72 : UInt8) ([u1] : List (List UInt8)) u3) (affiantref1_Tagged_O (72 : UInt8) ([u1] : List (List UInt8)) u3)]) (pos := [.sel []]) (.c (affiantref10_HeaderBytes_ok a0 u1 h2) (.c (affiantref1_Tagged_ok (72 : UInt8) ([u1] : List (List UInt8)) u3 h4) .n)) (by kernel_rfl)
theorem can4 : Callable prog 4 := ⟨_, func4, by kernel_rfl, by kernel_rfl⟩
def affiantlaw11_HeadFields_R (a0 : Int × Int × Int × Int × Int × Int × Unit) (a1 : Int) (a2 : Int) (a3 : Int) (a4 : UInt8) (u : Bool) : Slot := (.v .bool u)
def affiantlaw11_HeadFields_O (a0 : Int × Int × Int × Int × Int × Int × Unit) (a1 : Int) (a2 : Int) (a3 : Int) (a4 : UInt8) (u : Bool) : List AObj := []
theorem affiantlaw11_HeadFields_ok (a0 : Int × Int × Int × Int × Int × Int × Unit) (a1 : Int) (a2 : Int) (a3 : Int) (a4 : UInt8) (u : Bool) (h : affiantlaw11_HeadFields a0 a1 a2 a3 a4 = some u) : CallC prog 4 [(.v (.fld (.int .i64) (.fld (.int .i64) (.fld (.int .i64) (.fld (.int .i64) (.fld (.int .i64) (.fld (.int .i64) .unit)))))) a0), (.v (.int .i64) a1), (.v (.int .i64) a2), (.v (.int .i64) a3), (.v (.int .u8) a4)] [] (affiantlaw11_HeadFields_R a0 a1 a2 a3 a4 u) (affiantlaw11_HeadFields_O a0 a1 a2 a3 a4 u) := by
  unfold affiantlaw11_HeadFields at h
  obtain ⟨u1, h2, h⟩ := andThen_some h
  obtain ⟨u3, h4, h⟩ := andThen_some h
  obtain ⟨u5, h6, h⟩ := andThen_some h
  rcases fork_some h with ⟨h7, h⟩ | ⟨h7, h⟩
  · rcases fork_some h with ⟨h8, h⟩ | ⟨h8, h⟩
    · rcases fork_some h with ⟨h9, h⟩ | ⟨h9, h⟩
      · obtain ⟨u10, h11, h⟩ := andThen_some h
        rcases fork_some h with ⟨h12, h⟩ | ⟨h12, h⟩
        · cases h
        · obtain ⟨u13, h14, h⟩ := andThen_some h
          rcases fork_some h with ⟨h15, h⟩ | ⟨h15, h⟩
          · cases h
          · rcases fork_some h with ⟨h16, h⟩ | ⟨h16, h⟩
            · obtain ⟨u17, h18, h⟩ := andThen_some h
              injection h with h; subst h
              exact env.fun func4 can4 (its := [.call [none] [] [] true (affiantkeep_Head_Header_R a0 u1) (affiantkeep_Head_Header_O a0 u1), .call [none, none, none] [] [] true (affiantbook_Within_R a1 (-1 : Int) (18 : Int) u3) (affiantbook_Within_O a1 (-1 : Int) (18 : Int) u3), .call [none, none, none] [] [] true (affiantbook_Within_R a2 (-2 : Int) (1073741826 : Int) u5) (affiantbook_Within_O a2 (-2 : Int) (1073741826 : Int) u5), .br true, .br true, .br true, .br true, .br true, .br true, .br true, .br true, .br true, .br true, .br true, .br true, .call [none] [] [] true (head_Right_R (u3, u5, u1.2.2.1, u1.2.2.2.1, u1.2.2.2.2.1, u1.2.2.2.2.2.1, ()) u10) (head_Right_O (u3, u5, u1.2.2.1, u1.2.2.2.1, u1.2.2.2.2.1, u1.2.2.2.2.2.1, ()) u10), .br false, .br false, .call [none] [] [] true (head_Bytes_R (u3, u5, u1.2.2.1, u1.2.2.2.1, u1.2.2.2.2.1, u1.2.2.2.2.2.1, ()) u13) (head_Bytes_O (u3, u5, u1.2.2.1, u1.2.2.2.1, u1.2.2.2.2.1, u1.2.2.2.2.2.1, ()) u13), .br false, .br false, .br false, .br false, .br false, .br false, .br true, .call [] [] [] true (affiantlaw11_HeadRuns_R u17) (affiantlaw11_HeadRuns_O u17)]) (pos := [.sel []]) (.c (affiantkeep_Head_Header_ok a0 u1 h2) (.c (affiantbook_Within_ok a1 (-1 : Int) (18 : Int) u3 h4) (.c (affiantbook_Within_ok a2 (-2 : Int) (1073741826 : Int) u5 h6) (.c h7 (.c h7 (.c h7 (.c h7 (.c h8 (.c h8 (.c h8 (.c h8 (.c h9 (.c h9 (.c h9 (.c h9 (.c (head_Right_ok (u3, u5, u1.2.2.1, u1.2.2.2.1, u1.2.2.2.2.1, u1.2.2.2.2.2.1, ()) u10 h11) (.c h12 (.c h12 (.c (head_Bytes_ok (u3, u5, u1.2.2.1, u1.2.2.2.1, u1.2.2.2.2.1, u1.2.2.2.2.2.1, ()) u13 h14) (.c h12 (.c h12 (.c h12 (.c h12 (.c h12 (.c h15 (.c h16 (.c (affiantlaw11_HeadRuns_ok u17 h18) .n))))))))))))))))))))))))))) (by kernel_rfl)
            · obtain ⟨u19, h20, h⟩ := andThen_some h
              rcases fork_some h with ⟨h21, h⟩ | ⟨h21, h⟩
              · obtain ⟨h22, h⟩ := need_some h
                obtain ⟨u23, h24, h⟩ := andThen_some h
                obtain ⟨u25, h26, h⟩ := andThen_some h
                rcases fork_some h with ⟨h27, h⟩ | ⟨h27, h⟩
                · rcases fork_some h with ⟨h28, h⟩ | ⟨h28, h⟩
                  · rcases fork_some h with ⟨h29, h⟩ | ⟨h29, h⟩
                    · obtain ⟨u30, h31, h⟩ := andThen_some h
                      obtain ⟨u32, h33, h⟩ := andThen_some h
                      obtain ⟨u34, h35, h⟩ := andThen_some h
                      rcases fork_some h with ⟨h36, h⟩ | ⟨h36, h⟩
                      · obtain ⟨u37, h38, h⟩ := andThen_some h
                        obtain ⟨u39, h40, h⟩ := andThen_some h
                        rcases fork_some h with ⟨h41, h⟩ | ⟨h41, h⟩
                        · obtain ⟨u42, h43, h⟩ := andThen_some h
                          injection h with h; subst h
                          exact env.fun func4 can4 (its := [.call [none] [] [] true (affiantkeep_Head_Header_R a0 u1) (affiantkeep_Head_Header_O a0 u1), .call [none, none, none] [] [] true (affiantbook_Within_R a1 (-1 : Int) (18 : Int) u3) (affiantbook_Within_O a1 (-1 : Int) (18 : Int) u3), .call [none, none, none] [] [] true (affiantbook_Within_R a2 (-2 : Int) (1073741826 : Int) u5) (affiantbook_Within_O a2 (-2 : Int) (1073741826 : Int) u5), .br true, .br true, .br true, .br true, .br true, .br true, .br true, .br true, .br true, .br true, .br true, .br true, .call [none] [] [] true (head_Right_R (u3, u5, u1.2.2.1, u1.2.2.2.1, u1.2.2.2.2.1, u1.2.2.2.2.2.1, ()) u10) (head_Right_O (u3, u5, u1.2.2.1, u1.2.2.2.1, u1.2.2.2.2.1, u1.2.2.2.2.2.1, ()) u10), .br false, .br false, .call [none] [] [] true (head_Bytes_R (u3, u5, u1.2.2.1, u1.2.2.2.1, u1.2.2.2.2.1, u1.2.2.2.2.2.1, ()) u13) (head_Bytes_O (u3, u5, u1.2.2.1, u1.2.2.2.1, u1.2.2.2.2.1, u1.2.2.2.2.2.1, ()) u13), .br false, .br false, .br false, .br false, .br false, .br false, .br false, .call [none, none, none] [] [] true (affiantbook_Within_R a3 (0 : Int) (3 : Int) u19) (affiantbook_Within_O a3 (0 : Int) (3 : Int) u19), .br true, .call [none] [] [] true (head_Bytes_R (u3, u5, (List.set u1.2.2.1 (Int.toNat ((UInt8.toNat (a4 &&& (31 : UInt8)) : Nat) : Int)) ((List.getD u1.2.2.1 (Int.toNat ((UInt8.toNat (a4 &&& (31 : UInt8)) : Nat) : Int)) (0 : UInt8)) ^^^ (a4 ||| (1 : UInt8)))), u1.2.2.2.1, u1.2.2.2.2.1, u1.2.2.2.2.2.1, ()) u23) (head_Bytes_O (u3, u5, (List.set u1.2.2.1 (Int.toNat ((UInt8.toNat (a4 &&& (31 : UInt8)) : Nat) : Int)) ((List.getD u1.2.2.1 (Int.toNat ((UInt8.toNat (a4 &&& (31 : UInt8)) : Nat) : Int)) (0 : UInt8)) ^^^ (a4 ||| (1 : UInt8)))), u1.2.2.2.1, u1.2.2.2.2.1, u1.2.2.2.2.2.1, ()) u23), .call [none] [] [4] true (head_Read_R u23 u25) (head_Read_O u23 u25), .pre [[], [0], [0, 1], [0, 1, 2], [0, 1, 2], [0, 1, 2, 3, 4], [0, 1, 2, 3, 4, 5], [0, 1, 2, 3, 4, 5, 6], [0, 1, 2, 3, 4, 5, 6, 7], [0, 1, 2, 3, 4, 5, 6, 7], [0, 1, 2, 3, 4, 5, 6, 7, 8, 9], [0, 1, 2, 3, 4, 5, 6, 7, 8, 9, 10], [0, 1, 2, 3, 4, 5, 6, 7, 8, 9, 10, 11], [0, 1, 2, 3, 4, 5, 6, 7, 8, 9, 10, 11, 12], [0, 1, 2, 3, 4, 5, 6, 7, 8, 9, 10, 11, 12, 13], [0, 1, 2, 3, 4, 5, 6, 7, 8, 9, 10, 11, 12], [0, 1, 2, 3, 4, 5, 6, 7, 8, 9, 10, 11, 12, 13, 14, 15], [0, 1, 2, 3, 4, 5, 6, 7, 8, 9, 10, 11, 12, 13, 14, 15, 16], [0, 1, 2, 3, 4, 5, 6, 7, 8, 9, 10, 11, 12, 13, 14, 15, 16, 17], [0, 1, 2, 3, 4, 5, 6, 7, 8, 9, 10, 11, 12, 13, 14, 15, 16, 17, 18], [0, 1, 2, 3, 4, 5, 6, 7, 8, 9, 10, 11, 12, 13, 14, 15, 16, 17, 18, 19], [0, 1, 2, 3, 4, 5, 6, 7, 8, 9, 10, 11, 12, 13, 14, 15, 16, 17, 18, 19, 20], [0, 1, 2, 3, 4, 5, 6, 7, 8, 9, 10, 11, 12, 13, 14, 15, 16, 17, 18, 19, 20, 21], [0, 1, 2, 3, 4, 5, 6, 7, 8, 9, 10, 11, 12, 13, 14, 15, 16, 17, 18, 19, 20], [0, 1, 2, 3, 4, 5, 6, 7, 8, 9, 10, 11, 12, 13, 14, 15, 16, 17, 18, 19, 20, 21, 22, 23], [0, 1, 2, 3, 4, 5, 6, 7, 8, 9, 10, 11, 12, 13, 14, 15, 16, 17, 18, 19, 20, 21, 22, 23, 24], [0, 1, 2, 3, 4, 5, 6, 7, 8, 9, 10, 11, 12, 13, 14, 15, 16, 17, 18, 19, 20, 21, 22, 23, 24, 25], [0, 1, 2, 3, 4, 5, 6, 7, 8, 9, 10, 11, 12, 13, 14, 15, 16, 17, 18, 19, 20, 21, 22, 23, 24, 25, 26], [0, 1, 2, 3, 4, 5, 6, 7, 8, 9, 10, 11, 12, 13, 14, 15, 16, 17, 18, 19, 20, 21, 22, 23, 24, 25, 26, 27], [0, 1, 2, 3, 4, 5, 6, 7, 8, 9, 10, 11, 12, 13, 14, 15, 16, 17, 18, 19, 20, 21, 22, 23, 24, 25, 26, 27, 28], [0, 1, 2, 3, 4, 5, 6, 7, 8, 9, 10, 11, 12, 13, 14, 15, 16, 17, 18, 19, 20, 21, 22, 23, 24, 25, 26, 27, 28, 29]], .br true, .br true, .br true, .br true, .br true, .br true, .br true, .br true, .br true, .br true, .call [none] [] [] true (head_Bytes_R (u3, u5, u1.2.2.1, u1.2.2.2.1, u1.2.2.2.2.1, u1.2.2.2.2.2.1, ()) u30) (head_Bytes_O (u3, u5, u1.2.2.1, u1.2.2.2.1, u1.2.2.2.2.1, u1.2.2.2.2.2.1, ()) u30), .br true, .br true, .call [none] [] [] true (head_Bytes_R (u3, u5, (List.set u1.2.2.1 (Int.toNat ((UInt8.toNat (a4 &&& (31 : UInt8)) : Nat) : Int)) ((List.getD u1.2.2.1 (Int.toNat ((UInt8.toNat (a4 &&& (31 : UInt8)) : Nat) : Int)) (0 : UInt8)) ^^^ (a4 ||| (1 : UInt8)))), u1.2.2.2.1, u1.2.2.2.2.1, u1.2.2.2.2.2.1, ()) u32) (head_Bytes_O (u3, u5, (List.set u1.2.2.1 (Int.toNat ((UInt8.toNat (a4 &&& (31 : UInt8)) : Nat) : Int)) ((List.getD u1.2.2.1 (Int.toNat ((UInt8.toNat (a4 &&& (31 : UInt8)) : Nat) : Int)) (0 : UInt8)) ^^^ (a4 ||| (1 : UInt8)))), u1.2.2.2.1, u1.2.2.2.2.1, u1.2.2.2.2.2.1, ()) u32), .br true, .call [none, none] [] [0, 1] true (affiantbook_Same_byte_R u30 u32 u34) (affiantbook_Same_byte_O u30 u32 u34), .br true, .br true, .br true, .br true, .call [none] [] [] true (head_Hash_R (u3, u5, (List.set u1.2.2.1 (Int.toNat ((UInt8.toNat (a4 &&& (31 : UInt8)) : Nat) : Int)) ((List.getD u1.2.2.1 (Int.toNat ((UInt8.toNat (a4 &&& (31 : UInt8)) : Nat) : Int)) (0 : UInt8)) ^^^ (a4 ||| (1 : UInt8)))), u1.2.2.2.1, u1.2.2.2.2.1, u1.2.2.2.2.2.1, ()) u37) (head_Hash_O (u3, u5, (List.set u1.2.2.1 (Int.toNat ((UInt8.toNat (a4 &&& (31 : UInt8)) : Nat) : Int)) ((List.getD u1.2.2.1 (Int.toNat ((UInt8.toNat (a4 &&& (31 : UInt8)) : Nat) : Int)) (0 : UInt8)) ^^^ (a4 ||| (1 : UInt8)))), u1.2.2.2.1, u1.2.2.2.2.1, u1.2.2.2.2.2.1, ()) u37), .br true, .br true, .call [none] [] [] true (affiantref10_HeaderHash_R (u3, u5, (List.set u1.2.2.1 (Int.toNat ((UInt8.toNat (a4 &&& (31 : UInt8)) : Nat) : Int)) ((List.getD u1.2.2.1 (Int.toNat ((UInt8.toNat (a4 &&& (31 : UInt8)) : Nat) : Int)) (0 : UInt8)) ^^^ (a4 ||| (1 : UInt8)))), u1.2.2.2.1, u1.2.2.2.2.1, u1.2.2.2.2.2.1, ()) u39) (affiantref10_HeaderHash_O (u3, u5, (List.set u1.2.2.1 (Int.toNat ((UInt8.toNat (a4 &&& (31 : UInt8)) : Nat) : Int)) ((List.getD u1.2.2.1 (Int.toNat ((UInt8.toNat (a4 &&& (31 : UInt8)) : Nat) : Int)) (0 : UInt8)) ^^^ (a4 ||| (1 : UInt8)))), u1.2.2.2.1, u1.2.2.2.2.1, u1.2.2.2.2.2.1, ()) u39), .br true, .br true, .br true, .call [] [] [] true (affiantlaw11_HeadRuns_R u42) (affiantlaw11_HeadRuns_O u42), .br true]) (pos := [.sel []]) (.c (affiantkeep_Head_Header_ok a0 u1 h2) (.c (affiantbook_Within_ok a1 (-1 : Int) (18 : Int) u3 h4) (.c (affiantbook_Within_ok a2 (-2 : Int) (1073741826 : Int) u5 h6) (.c h7 (.c h7 (.c h7 (.c h7 (.c h8 (.c h8 (.c h8 (.c h8 (.c h9 (.c h9 (.c h9 (.c h9 (.c (head_Right_ok (u3, u5, u1.2.2.1, u1.2.2.2.1, u1.2.2.2.2.1, u1.2.2.2.2.2.1, ()) u10 h11) (.c h12 (.c h12 (.c (head_Bytes_ok (u3, u5, u1.2.2.1, u1.2.2.2.1, u1.2.2.2.2.1, u1.2.2.2.2.2.1, ()) u13 h14) (.c h12 (.c h12 (.c h12 (.c h12 (.c h12 (.c h15 (.c h16 (.c (affiantbook_Within_ok a3 (0 : Int) (3 : Int) u19 h20) (.c h21 (.c h22 (.c h22 (.c (head_Bytes_ok (u3, u5, (List.set u1.2.2.1 (Int.toNat ((UInt8.toNat (a4 &&& (31 : UInt8)) : Nat) : Int)) ((List.getD u1.2.2.1 (Int.toNat ((UInt8.toNat (a4 &&& (31 : UInt8)) : Nat) : Int)) (0 : UInt8)) ^^^ (a4 ||| (1 : UInt8)))), u1.2.2.2.1, u1.2.2.2.2.1, u1.2.2.2.2.2.1, ()) u23 h24) (.c (head_Read_ok u23 u25 h26) (.c h27 (.c h27 (.c h27 (.c h27 (.c h28 (.c h28 (.c h28 (.c h28 (.c h29 (.c h29 (.c (head_Bytes_ok (u3, u5, u1.2.2.1, u1.2.2.2.1, u1.2.2.2.2.1, u1.2.2.2.2.2.1, ()) u30 h31) (.c h29 (.c h29 (.c (head_Bytes_ok (u3, u5, (List.set u1.2.2.1 (Int.toNat ((UInt8.toNat (a4 &&& (31 : UInt8)) : Nat) : Int)) ((List.getD u1.2.2.1 (Int.toNat ((UInt8.toNat (a4 &&& (31 : UInt8)) : Nat) : Int)) (0 : UInt8)) ^^^ (a4 ||| (1 : UInt8)))), u1.2.2.2.1, u1.2.2.2.2.1, u1.2.2.2.2.2.1, ()) u32 h33) (.c h29 (.c (affiantbook_Same_byte_ok u30 u32 u34 h35) (.c h29 (.c h29 (.c h36 (.c h36 (.c (head_Hash_ok (u3, u5, (List.set u1.2.2.1 (Int.toNat ((UInt8.toNat (a4 &&& (31 : UInt8)) : Nat) : Int)) ((List.getD u1.2.2.1 (Int.toNat ((UInt8.toNat (a4 &&& (31 : UInt8)) : Nat) : Int)) (0 : UInt8)) ^^^ (a4 ||| (1 : UInt8)))), u1.2.2.2.1, u1.2.2.2.2.1, u1.2.2.2.2.2.1, ()) u37 h38) (.c h36 (.c h36 (.c (affiantref10_HeaderHash_ok (u3, u5, (List.set u1.2.2.1 (Int.toNat ((UInt8.toNat (a4 &&& (31 : UInt8)) : Nat) : Int)) ((List.getD u1.2.2.1 (Int.toNat ((UInt8.toNat (a4 &&& (31 : UInt8)) : Nat) : Int)) (0 : UInt8)) ^^^ (a4 ||| (1 : UInt8)))), u1.2.2.2.1, u1.2.2.2.2.1, u1.2.2.2.2.2.1, ()) u39 h40) (.c h36 (.c h36 (.c h41 (.c (affiantlaw11_HeadRuns_ok u42 h43) (.c h41 .n))))))))))))))))))))))))))))))))))))))))))))))))))))))))))))) (by kernel_rfl)
                        · cases h
                      · cases h
                    · cases h
                  · cases h
                · cases h
              · rcases fork_some h with ⟨h44, h⟩ | ⟨h44, h⟩
                · obtain ⟨h45, h⟩ := need_some h
                  obtain ⟨u46, h47, h⟩ := andThen_some h
                  obtain ⟨u48, h49, h⟩ := andThen_some h
                  rcases fork_some h with ⟨h50, h⟩ | ⟨h50, h⟩
                  · rcases fork_some h with ⟨h51, h⟩ | ⟨h51, h⟩
                    · rcases fork_some h with ⟨h52, h⟩ | ⟨h52, h⟩
                      · obtain ⟨u53, h54, h⟩ := andThen_some h
                        obtain ⟨u55, h56, h⟩ := andThen_some h
                        obtain ⟨u57, h58, h⟩ := andThen_some h
                        rcases fork_some h with ⟨h59, h⟩ | ⟨h59, h⟩
                        · obtain ⟨u60, h61, h⟩ := andThen_some h
                          obtain ⟨u62, h63, h⟩ := andThen_some h
                          rcases fork_some h with ⟨h64, h⟩ | ⟨h64, h⟩
                          · obtain ⟨u65, h66, h⟩ := andThen_some h
                            injection h with h; subst h
                            exact env.fun func4 can4 (its := [.call [none] [] [] true (affiantkeep_Head_Header_R a0 u1) (affiantkeep_Head_Header_O a0 u1), .call [none, none, none] [] [] true (affiantbook_Within_R a1 (-1 : Int) (18 : Int) u3) (affiantbook_Within_O a1 (-1 : Int) (18 : Int) u3), .call [none, none, none] [] [] true (affiantbook_Within_R a2 (-2 : Int) (1073741826 : Int) u5) (affiantbook_Within_O a2 (-2 : Int) (1073741826 : Int) u5), .br true, .br true, .br true, .br true, .br true, .br true, .br true, .br true, .br true, .br true, .br true, .br true, .call [none] [] [] true (head_Right_R (u3, u5, u1.2.2.1, u1.2.2.2.1, u1.2.2.2.2.1, u1.2.2.2.2.2.1, ()) u10) (head_Right_O (u3, u5, u1.2.2.1, u1.2.2.2.1, u1.2.2.2.2.1, u1.2.2.2.2.2.1, ()) u10), .br false, .br false, .call [none] [] [] true (head_Bytes_R (u3, u5, u1.2.2.1, u1.2.2.2.1, u1.2.2.2.2.1, u1.2.2.2.2.2.1, ()) u13) (head_Bytes_O (u3, u5, u1.2.2.1, u1.2.2.2.1, u1.2.2.2.2.1, u1.2.2.2.2.2.1, ()) u13), .br false, .br false, .br false, .br false, .br false, .br false, .br false, .call [none, none, none] [] [] true (affiantbook_Within_R a3 (0 : Int) (3 : Int) u19) (affiantbook_Within_O a3 (0 : Int) (3 : Int) u19), .br false, .br true, .call [none] [] [] true (head_Bytes_R (u3, u5, u1.2.2.1, (List.set u1.2.2.2.1 (Int.toNat ((UInt8.toNat (a4 &&& (31 : UInt8)) : Nat) : Int)) ((List.getD u1.2.2.2.1 (Int.toNat ((UInt8.toNat (a4 &&& (31 : UInt8)) : Nat) : Int)) (0 : UInt8)) ^^^ (a4 ||| (1 : UInt8)))), u1.2.2.2.2.1, u1.2.2.2.2.2.1, ()) u46) (head_Bytes_O (u3, u5, u1.2.2.1, (List.set u1.2.2.2.1 (Int.toNat ((UInt8.toNat (a4 &&& (31 : UInt8)) : Nat) : Int)) ((List.getD u1.2.2.2.1 (Int.toNat ((UInt8.toNat (a4 &&& (31 : UInt8)) : Nat) : Int)) (0 : UInt8)) ^^^ (a4 ||| (1 : UInt8)))), u1.2.2.2.2.1, u1.2.2.2.2.2.1, ()) u46), .call [none] [] [4] true (head_Read_R u46 u48) (head_Read_O u46 u48), .pre [[], [0], [0, 1], [0, 1, 2], [0, 1, 2], [0, 1, 2, 3, 4], [0, 1, 2, 3, 4, 5], [0, 1, 2, 3, 4, 5, 6], [0, 1, 2, 3, 4, 5, 6, 7], [0, 1, 2, 3, 4, 5, 6, 7], [0, 1, 2, 3, 4, 5, 6, 7, 8, 9], [0, 1, 2, 3, 4, 5, 6, 7, 8, 9, 10], [0, 1, 2, 3, 4, 5, 6, 7, 8, 9, 10, 11], [0, 1, 2, 3, 4, 5, 6, 7, 8, 9, 10, 11, 12], [0, 1, 2, 3, 4, 5, 6, 7, 8, 9, 10, 11, 12, 13], [0, 1, 2, 3, 4, 5, 6, 7, 8, 9, 10, 11, 12], [0, 1, 2, 3, 4, 5, 6, 7, 8, 9, 10, 11, 12, 13, 14, 15], [0, 1, 2, 3, 4, 5, 6, 7, 8, 9, 10, 11, 12, 13, 14, 15, 16], [0, 1, 2, 3, 4, 5, 6, 7, 8, 9, 10, 11, 12, 13, 14, 15, 16, 17], [0, 1, 2, 3, 4, 5, 6, 7, 8, 9, 10, 11, 12, 13, 14, 15, 16, 17, 18], [0, 1, 2, 3, 4, 5, 6, 7, 8, 9, 10, 11, 12, 13, 14, 15, 16, 17, 18, 19], [0, 1, 2, 3, 4, 5, 6, 7, 8, 9, 10, 11, 12, 13, 14, 15, 16, 17, 18, 19, 20], [0, 1, 2, 3, 4, 5, 6, 7, 8, 9, 10, 11, 12, 13, 14, 15, 16, 17, 18, 19, 20, 21], [0, 1, 2, 3, 4, 5, 6, 7, 8, 9, 10, 11, 12, 13, 14, 15, 16, 17, 18, 19, 20], [0, 1, 2, 3, 4, 5, 6, 7, 8, 9, 10, 11, 12, 13, 14, 15, 16, 17, 18, 19, 20, 21, 22, 23], [0, 1, 2, 3, 4, 5, 6, 7, 8, 9, 10, 11, 12, 13, 14, 15, 16, 17, 18, 19, 20, 21, 22, 23, 24], [0, 1, 2, 3, 4, 5, 6, 7, 8, 9, 10, 11, 12, 13, 14, 15, 16, 17, 18, 19, 20, 21, 22, 23, 24, 25], [0, 1, 2, 3, 4, 5, 6, 7, 8, 9, 10, 11, 12, 13, 14, 15, 16, 17, 18, 19, 20, 21, 22, 23, 24, 25, 26], [0, 1, 2, 3, 4, 5, 6, 7, 8, 9, 10, 11, 12, 13, 14, 15, 16, 17, 18, 19, 20, 21, 22, 23, 24, 25, 26, 27], [0, 1, 2, 3, 4, 5, 6, 7, 8, 9, 10, 11, 12, 13, 14, 15, 16, 17, 18, 19, 20, 21, 22, 23, 24, 25, 26, 27, 28], [0, 1, 2, 3, 4, 5, 6, 7, 8, 9, 10, 11, 12, 13, 14, 15, 16, 17, 18, 19, 20, 21, 22, 23, 24, 25, 26, 27, 28, 29]], .br true, .br true, .br true, .br true, .br true, .br true, .br true, .br true, .br true, .br true, .call [none] [] [] true (head_Bytes_R (u3, u5, u1.2.2.1, u1.2.2.2.1, u1.2.2.2.2.1, u1.2.2.2.2.2.1, ()) u53) (head_Bytes_O (u3, u5, u1.2.2.1, u1.2.2.2.1, u1.2.2.2.2.1, u1.2.2.2.2.2.1, ()) u53), .br true, .br true, .call [none] [] [] true (head_Bytes_R (u3, u5, u1.2.2.1, (List.set u1.2.2.2.1 (Int.toNat ((UInt8.toNat (a4 &&& (31 : UInt8)) : Nat) : Int)) ((List.getD u1.2.2.2.1 (Int.toNat ((UInt8.toNat (a4 &&& (31 : UInt8)) : Nat) : Int)) (0 : UInt8)) ^^^ (a4 ||| (1 : UInt8)))), u1.2.2.2.2.1, u1.2.2.2.2.2.1, ()) u55) (head_Bytes_O (u3, u5, u1.2.2.1, (List.set u1.2.2.2.1 (Int.toNat ((UInt8.toNat (a4 &&& (31 : UInt8)) : Nat) : Int)) ((List.getD u1.2.2.2.1 (Int.toNat ((UInt8.toNat (a4 &&& (31 : UInt8)) : Nat) : Int)) (0 : UInt8)) ^^^ (a4 ||| (1 : UInt8)))), u1.2.2.2.2.1, u1.2.2.2.2.2.1, ()) u55), .br true, .call [none, none] [] [0, 1] true (affiantbook_Same_byte_R u53 u55 u57) (affiantbook_Same_byte_O u53 u55 u57), .br true, .br true, .br true, .br true, .call [none] [] [] true (head_Hash_R (u3, u5, u1.2.2.1, (List.set u1.2.2.2.1 (Int.toNat ((UInt8.toNat (a4 &&& (31 : UInt8)) : Nat) : Int)) ((List.getD u1.2.2.2.1 (Int.toNat ((UInt8.toNat (a4 &&& (31 : UInt8)) : Nat) : Int)) (0 : UInt8)) ^^^ (a4 ||| (1 : UInt8)))), u1.2.2.2.2.1, u1.2.2.2.2.2.1, ()) u60) (head_Hash_O (u3, u5, u1.2.2.1, (List.set u1.2.2.2.1 (Int.toNat ((UInt8.toNat (a4 &&& (31 : UInt8)) : Nat) : Int)) ((List.getD u1.2.2.2.1 (Int.toNat ((UInt8.toNat (a4 &&& (31 : UInt8)) : Nat) : Int)) (0 : UInt8)) ^^^ (a4 ||| (1 : UInt8)))), u1.2.2.2.2.1, u1.2.2.2.2.2.1, ()) u60), .br true, .br true, .call [none] [] [] true (affiantref10_HeaderHash_R (u3, u5, u1.2.2.1, (List.set u1.2.2.2.1 (Int.toNat ((UInt8.toNat (a4 &&& (31 : UInt8)) : Nat) : Int)) ((List.getD u1.2.2.2.1 (Int.toNat ((UInt8.toNat (a4 &&& (31 : UInt8)) : Nat) : Int)) (0 : UInt8)) ^^^ (a4 ||| (1 : UInt8)))), u1.2.2.2.2.1, u1.2.2.2.2.2.1, ()) u62) (affiantref10_HeaderHash_O (u3, u5, u1.2.2.1, (List.set u1.2.2.2.1 (Int.toNat ((UInt8.toNat (a4 &&& (31 : UInt8)) : Nat) : Int)) ((List.getD u1.2.2.2.1 (Int.toNat ((UInt8.toNat (a4 &&& (31 : UInt8)) : Nat) : Int)) (0 : UInt8)) ^^^ (a4 ||| (1 : UInt8)))), u1.2.2.2.2.1, u1.2.2.2.2.2.1, ()) u62), .br true, .br true, .br true, .call [] [] [] true (affiantlaw11_HeadRuns_R u65) (affiantlaw11_HeadRuns_O u65), .br true]) (pos := [.sel []]) (.c (affiantkeep_Head_Header_ok a0 u1 h2) (.c (affiantbook_Within_ok a1 (-1 : Int) (18 : Int) u3 h4) (.c (affiantbook_Within_ok a2 (-2 : Int) (1073741826 : Int) u5 h6) (.c h7 (.c h7 (.c h7 (.c h7 (.c h8 (.c h8 (.c h8 (.c h8 (.c h9 (.c h9 (.c h9 (.c h9 (.c (head_Right_ok (u3, u5, u1.2.2.1, u1.2.2.2.1, u1.2.2.2.2.1, u1.2.2.2.2.2.1, ()) u10 h11) (.c h12 (.c h12 (.c (head_Bytes_ok (u3, u5, u1.2.2.1, u1.2.2.2.1, u1.2.2.2.2.1, u1.2.2.2.2.2.1, ()) u13 h14) (.c h12 (.c h12 (.c h12 (.c h12 (.c h12 (.c h15 (.c h16 (.c (affiantbook_Within_ok a3 (0 : Int) (3 : Int) u19 h20) (.c h21 (.c h44 (.c h45 (.c h45 (.c (head_Bytes_ok (u3, u5, u1.2.2.1, (List.set u1.2.2.2.1 (Int.toNat ((UInt8.toNat (a4 &&& (31 : UInt8)) : Nat) : Int)) ((List.getD u1.2.2.2.1 (Int.toNat ((UInt8.toNat (a4 &&& (31 : UInt8)) : Nat) : Int)) (0 : UInt8)) ^^^ (a4 ||| (1 : UInt8)))), u1.2.2.2.2.1, u1.2.2.2.2.2.1, ()) u46 h47) (.c (head_Read_ok u46 u48 h49) (.c h50 (.c h50 (.c h50 (.c h50 (.c h51 (.c h51 (.c h51 (.c h51 (.c h52 (.c h52 (.c (head_Bytes_ok (u3, u5, u1.2.2.1, u1.2.2.2.1, u1.2.2.2.2.1, u1.2.2.2.2.2.1, ()) u53 h54) (.c h52 (.c h52 (.c (head_Bytes_ok (u3, u5, u1.2.2.1, (List.set u1.2.2.2.1 (Int.toNat ((UInt8.toNat (a4 &&& (31 : UInt8)) : Nat) : Int)) ((List.getD u1.2.2.2.1 (Int.toNat ((UInt8.toNat (a4 &&& (31 : UInt8)) : Nat) : Int)) (0 : UInt8)) ^^^ (a4 ||| (1 : UInt8)))), u1.2.2.2.2.1, u1.2.2.2.2.2.1, ()) u55 h56) (.c h52 (.c (affiantbook_Same_byte_ok u53 u55 u57 h58) (.c h52 (.c h52 (.c h59 (.c h59 (.c (head_Hash_ok (u3, u5, u1.2.2.1, (List.set u1.2.2.2.1 (Int.toNat ((UInt8.toNat (a4 &&& (31 : UInt8)) : Nat) : Int)) ((List.getD u1.2.2.2.1 (Int.toNat ((UInt8.toNat (a4 &&& (31 : UInt8)) : Nat) : Int)) (0 : UInt8)) ^^^ (a4 ||| (1 : UInt8)))), u1.2.2.2.2.1, u1.2.2.2.2.2.1, ()) u60 h61) (.c h59 (.c h59 (.c (affiantref10_HeaderHash_ok (u3, u5, u1.2.2.1, (List.set u1.2.2.2.1 (Int.toNat ((UInt8.toNat (a4 &&& (31 : UInt8)) : Nat) : Int)) ((List.getD u1.2.2.2.1 (Int.toNat ((UInt8.toNat (a4 &&& (31 : UInt8)) : Nat) : Int)) (0 : UInt8)) ^^^ (a4 ||| (1 : UInt8)))), u1.2.2.2.2.1, u1.2.2.2.2.2.1, ()) u62 h63) (.c h59 (.c h59 (.c h64 (.c (affiantlaw11_HeadRuns_ok u65 h66) (.c h64 .n)))))))))))))))))))))))))))))))))))))))))))))))))))))))))))))) (by kernel_rfl)
                          · cases h
                        · cases h
                      · cases h
                    · cases h
                  · cases h
                · rcases fork_some h with ⟨h67, h⟩ | ⟨h67, h⟩
                  · obtain ⟨h68, h⟩ := need_some h
                    obtain ⟨u69, h70, h⟩ := andThen_some h
                    obtain ⟨u71, h72, h⟩ := andThen_some h
                    rcases fork_some h with ⟨h73, h⟩ | ⟨h73, h⟩
                    · rcases fork_some h with ⟨h74, h⟩ | ⟨h74, h⟩
                      · rcases fork_some h with ⟨h75, h⟩ | ⟨h75, h⟩
                        · obtain ⟨u76, h77, h⟩ := andThen_some h
                          obtain ⟨u78, h79, h⟩ := andThen_some h
                          obtain ⟨u80, h81, h⟩ := andThen_some h
                          rcases fork_some h with ⟨h82, h⟩ | ⟨h82, h⟩
                          · obtain ⟨u83, h84, h⟩ := andThen_some h
                            obtain ⟨u85, h86, h⟩ := andThen_some h
                            rcases fork_some h with ⟨h87, h⟩ | ⟨h87, h⟩
                            · obtain ⟨u88, h89, h⟩ := andThen_some h
                              injection h with h; subst h
                              exact env.fun func4 can4 (its := [.call [none] [] [] true (affiantkeep_Head_Header_R a0 u1) (affiantkeep_Head_Header_O a0 u1), .call [none, none, none] [] [] true (affiantbook_Within_R a1 (-1 : Int) (18 : Int) u3) (affiantbook_Within_O a1 (-1 : Int) (18 : Int) u3), .call [none, none, none] [] [] true (affiantbook_Within_R a2 (-2 : Int) (1073741826 : Int) u5) (affiantbook_Within_O a2 (-2 : Int) (1073741826 : Int) u5), .br true, .br true, .br true, .br true, .br true, .br true, .br true, .br true, .br true, .br true, .br true, .br true, .call [none] [] [] true (head_Right_R (u3, u5, u1.2.2.1, u1.2.2.2.1, u1.2.2.2.2.1, u1.2.2.2.2.2.1, ()) u10) (head_Right_O (u3, u5, u1.2.2.1, u1.2.2.2.1, u1.2.2.2.2.1, u1.2.2.2.2.2.1, ()) u10), .br false, .br false, .call [none] [] [] true (head_Bytes_R (u3, u5, u1.2.2.1, u1.2.2.2.1, u1.2.2.2.2.1, u1.2.2.2.2.2.1, ()) u13) (head_Bytes_O (u3, u5, u1.2.2.1, u1.2.2.2.1, u1.2.2.2.2.1, u1.2.2.2.2.2.1, ()) u13), .br false, .br false, .br false, .br false, .br false, .br false, .br false, .call [none, none, none] [] [] true (affiantbook_Within_R a3 (0 : Int) (3 : Int) u19) (affiantbook_Within_O a3 (0 : Int) (3 : Int) u19), .br false, .br false, .br true, .call [none] [] [] true (head_Bytes_R (u3, u5, u1.2.2.1, u1.2.2.2.1, (List.set u1.2.2.2.2.1 (Int.toNat ((UInt8.toNat (a4 &&& (31 : UInt8)) : Nat) : Int)) ((List.getD u1.2.2.2.2.1 (Int.toNat ((UInt8.toNat (a4 &&& (31 : UInt8)) : Nat) : Int)) (0 : UInt8)) ^^^ (a4 ||| (1 : UInt8)))), u1.2.2.2.2.2.1, ()) u69) (head_Bytes_O (u3, u5, u1.2.2.1, u1.2.2.2.1, (List.set u1.2.2.2.2.1 (Int.toNat ((UInt8.toNat (a4 &&& (31 : UInt8)) : Nat) : Int)) ((List.getD u1.2.2.2.2.1 (Int.toNat ((UInt8.toNat (a4 &&& (31 : UInt8)) : Nat) : Int)) (0 : UInt8)) ^^^ (a4 ||| (1 : UInt8)))), u1.2.2.2.2.2.1, ()) u69), .call [none] [] [4] true (head_Read_R u69 u71) (head_Read_O u69 u71), .pre [[], [0], [0, 1], [0, 1, 2], [0, 1, 2], [0, 1, 2, 3, 4], [0, 1, 2, 3, 4, 5], [0, 1, 2, 3, 4, 5, 6], [0, 1, 2, 3, 4, 5, 6, 7], [0, 1, 2, 3, 4, 5, 6, 7], [0, 1, 2, 3, 4, 5, 6, 7, 8, 9], [0, 1, 2, 3, 4, 5, 6, 7, 8, 9, 10], [0, 1, 2, 3, 4, 5, 6, 7, 8, 9, 10, 11], [0, 1, 2, 3, 4, 5, 6, 7, 8, 9, 10, 11, 12], [0, 1, 2, 3, 4, 5, 6, 7, 8, 9, 10, 11, 12, 13], [0, 1, 2, 3, 4, 5, 6, 7, 8, 9, 10, 11, 12], [0, 1, 2, 3, 4, 5, 6, 7, 8, 9, 10, 11, 12, 13, 14, 15], [0, 1, 2, 3, 4, 5, 6, 7, 8, 9, 10, 11, 12, 13, 14, 15, 16], [0, 1, 2, 3, 4, 5, 6, 7, 8, 9, 10, 11, 12, 13, 14, 15, 16, 17], [0, 1, 2, 3, 4, 5, 6, 7, 8, 9, 10, 11, 12, 13, 14, 15, 16, 17, 18], [0, 1, 2, 3, 4, 5, 6, 7, 8, 9, 10, 11, 12, 13, 14, 15, 16, 17, 18, 19], [0, 1, 2, 3, 4, 5, 6, 7, 8, 9, 10, 11, 12, 13, 14, 15, 16, 17, 18, 19, 20], [0, 1, 2, 3, 4, 5, 6, 7, 8, 9, 10, 11, 12, 13, 14, 15, 16, 17, 18, 19, 20, 21], [0, 1, 2, 3, 4, 5, 6, 7, 8, 9, 10, 11, 12, 13, 14, 15, 16, 17, 18, 19, 20], [0, 1, 2, 3, 4, 5, 6, 7, 8, 9, 10, 11, 12, 13, 14, 15, 16, 17, 18, 19, 20, 21, 22, 23], [0, 1, 2, 3, 4, 5, 6, 7, 8, 9, 10, 11, 12, 13, 14, 15, 16, 17, 18, 19, 20, 21, 22, 23, 24], [0, 1, 2, 3, 4, 5, 6, 7, 8, 9, 10, 11, 12, 13, 14, 15, 16, 17, 18, 19, 20, 21, 22, 23, 24, 25], [0, 1, 2, 3, 4, 5, 6, 7, 8, 9, 10, 11, 12, 13, 14, 15, 16, 17, 18, 19, 20, 21, 22, 23, 24, 25, 26], [0, 1, 2, 3, 4, 5, 6, 7, 8, 9, 10, 11, 12, 13, 14, 15, 16, 17, 18, 19, 20, 21, 22, 23, 24, 25, 26, 27], [0, 1, 2, 3, 4, 5, 6, 7, 8, 9, 10, 11, 12, 13, 14, 15, 16, 17, 18, 19, 20, 21, 22, 23, 24, 25, 26, 27, 28], [0, 1, 2, 3, 4, 5, 6, 7, 8, 9, 10, 11, 12, 13, 14, 15, 16, 17, 18, 19, 20, 21, 22, 23, 24, 25, 26, 27, 28, 29]], .br true, .br true, .br true, .br true, .br true, .br true, .br true, .br true, .br true, .br true, .call [none] [] [] true (head_Bytes_R (u3, u5, u1.2.2.1, u1.2.2.2.1, u1.2.2.2.2.1, u1.2.2.2.2.2.1, ()) u76) (head_Bytes_O (u3, u5, u1.2.2.1, u1.2.2.2.1, u1.2.2.2.2.1, u1.2.2.2.2.2.1, ()) u76), .br true, .br true, .call [none] [] [] true (head_Bytes_R (u3, u5, u1.2.2.1, u1.2.2.2.1, (List.set u1.2.2.2.2.1 (Int.toNat ((UInt8.toNat (a4 &&& (31 : UInt8)) : Nat) : Int)) ((List.getD u1.2.2.2.2.1 (Int.toNat ((UInt8.toNat (a4 &&& (31 : UInt8)) : Nat) : Int)) (0 : UInt8)) ^^^ (a4 ||| (1 : UInt8)))), u1.2.2.2.2.2.1, ()) u78) (head_Bytes_O (u3, u5, u1.2.2.1, u1.2.2.2.1, (List.set u1.2.2.2.2.1 (Int.toNat ((UInt8.toNat (a4 &&& (31 : UInt8)) : Nat) : Int)) ((List.getD u1.2.2.2.2.1 (Int.toNat ((UInt8.toNat (a4 &&& (31 : UInt8)) : Nat) : Int)) (0 : UInt8)) ^^^ (a4 ||| (1 : UInt8)))), u1.2.2.2.2.2.1, ()) u78), .br true, .call [none, none] [] [0, 1] true (affiantbook_Same_byte_R u76 u78 u80) (affiantbook_Same_byte_O u76 u78 u80), .br true, .br true, .br true, .br true, .call [none] [] [] true (head_Hash_R (u3, u5, u1.2.2.1, u1.2.2.2.1, (List.set u1.2.2.2.2.1 (Int.toNat ((UInt8.toNat (a4 &&& (31 : UInt8)) : Nat) : Int)) ((List.getD u1.2.2.2.2.1 (Int.toNat ((UInt8.toNat (a4 &&& (31 : UInt8)) : Nat) : Int)) (0 : UInt8)) ^^^ (a4 ||| (1 : UInt8)))), u1.2.2.2.2.2.1, ()) u83) (head_Hash_O (u3, u5, u1.2.2.1, u1.2.2.2.1, (List.set u1.2.2.2.2.1 (Int.toNat ((UInt8.toNat (a4 &&& (31 : UInt8)) : Nat) : Int)) ((List.getD u1.2.2.2.2.1 (Int.toNat ((UInt8.toNat (a4 &&& (31 : UInt8)) : Nat) : Int)) (0 : UInt8)) ^^^ (a4 ||| (1 : UInt8)))), u1.2.2.2.2.2.1, ()) u83), .br true, .br true, .call [none] [] [] true (affiantref10_HeaderHash_R (u3, u5, u1.2.2.1, u1.2.2.2.1, (List.set u1.2.2.2.2.1 (Int.toNat ((UInt8.toNat (a4 &&& (31 : UInt8)) : Nat) : Int)) ((List.getD u1.2.2.2.2.1 (Int.toNat ((UInt8.toNat (a4 &&& (31 : UInt8)) : Nat) : Int)) (0 : UInt8)) ^^^ (a4 ||| (1 : UInt8)))), u1.2.2.2.2.2.1, ()) u85) (affiantref10_HeaderHash_O (u3, u5, u1.2.2.1, u1.2.2.2.1, (List.set u1.2.2.2.2.1 (Int.toNat ((UInt8.toNat (a4 &&& (31 : UInt8)) : Nat) : Int)) ((List.getD u1.2.2.2.2.1 (Int.toNat ((UInt8.toNat (a4 &&& (31 : UInt8)) : Nat) : Int)) (0 : UInt8)) ^^^ (a4 ||| (1 : UInt8)))), u1.2.2.2.2.2.1, ()) u85), .br true, .br true, .br true, .call [] [] [] true (affiantlaw11_HeadRuns_R u88) (affiantlaw11_HeadRuns_O u88), .br true]) (pos := [.sel []]) (.c (affiantkeep_Head_Header_ok a0 u1 h2) (.c (affiantbook_Within_ok a1 (-1 : Int) (18 : Int) u3 h4) (.c (affiantbook_Within_ok a2 (-2 : Int) (1073741826 : Int) u5 h6) (.c h7 (.c h7 (.c h7 (.c h7 (.c h8 (.c h8 (.c h8 (.c h8 (.c h9 (.c h9 (.c h9 (.c h9 (.c (head_Right_ok (u3, u5, u1.2.2.1, u1.2.2.2.1, u1.2.2.2.2.1, u1.2.2.2.2.2.1, ()) u10 h11) (.c h12 (.c h12 (.c (head_Bytes_ok (u3, u5, u1.2.2.1, u1.2.2.2.1, u1.2.2.2.2.1, u1.2.2.2.2.2.1, ()) u13 h14) (.c h12 (.c h12 (.c h12 (.c h12 (.c h12 (.c h15 (.c h16 (.c (affiantbook_Within_ok a3 (0 : Int) (3 : Int) u19 h20) (.c h21 (.c h44 (.c h67 (.c h68 (.c h68 (.c (head_Bytes_ok (u3, u5, u1.2.2.1, u1.2.2.2.1, (List.set u1.2.2.2.2.1 (Int.toNat ((UInt8.toNat (a4 &&& (31 : UInt8)) : Nat) : Int)) ((List.getD u1.2.2.2.2.1 (Int.toNat ((UInt8.toNat (a4 &&& (31 : UInt8)) : Nat) : Int)) (0 : UInt8)) ^^^ (a4 ||| (1 : UInt8)))), u1.2.2.2.2.2.1, ()) u69 h70) (.c (head_Read_ok u69 u71 h72) (.c h73 (.c h73 (.c h73 (.c h73 (.c h74 (.c h74 (.c h74 (.c h74 (.c h75 (.c h75 (.c (head_Bytes_ok (u3, u5, u1.2.2.1, u1.2.2.2.1, u1.2.2.2.2.1, u1.2.2.2.2.2.1, ()) u76 h77) (.c h75 (.c h75 (.c (head_Bytes_ok (u3, u5, u1.2.2.1, u1.2.2.2.1, (List.set u1.2.2.2.2.1 (Int.toNat ((UInt8.toNat (a4 &&& (31 : UInt8)) : Nat) : Int)) ((List.getD u1.2.2.2.2.1 (Int.toNat ((UInt8.toNat (a4 &&& (31 : UInt8)) : Nat) : Int)) (0 : UInt8)) ^^^ (a4 ||| (1 : UInt8)))), u1.2.2.2.2.2.1, ()) u78 h79) (.c h75 (.c (affiantbook_Same_byte_ok u76 u78 u80 h81) (.c h75 (.c h75 (.c h82 (.c h82 (.c (head_Hash_ok (u3, u5, u1.2.2.1, u1.2.2.2.1, (List.set u1.2.2.2.2.1 (Int.toNat ((UInt8.toNat (a4 &&& (31 : UInt8)) : Nat) : Int)) ((List.getD u1.2.2.2.2.1 (Int.toNat ((UInt8.toNat (a4 &&& (31 : UInt8)) : Nat) : Int)) (0 : UInt8)) ^^^ (a4 ||| (1 : UInt8)))), u1.2.2.2.2.2.1, ()) u83 h84) (.c h82 (.c h82 (.c (affiantref10_HeaderHash_ok (u3, u5, u1.2.2.1, u1.2.2.2.1, (List.set u1.2.2.2.2.1 (Int.toNat ((UInt8.toNat (a4 &&& (31 : UInt8)) : Nat) : Int)) ((List.getD u1.2.2.2.2.1 (Int.toNat ((UInt8.toNat (a4 &&& (31 : UInt8)) : Nat) : Int)) (0 : UInt8)) ^^^ (a4 ||| (1 : UInt8)))), u1.2.2.2.2.2.1, ()) u85 h86) (.c h82 (.c h82 (.c h87 (.c (affiantlaw11_HeadRuns_ok u88 h89) (.c h87 .n))))))))))))))))))))))))))))))))))))))))))))))))))))))))))))))) (by kernel_rfl)
                            · cases h
                          · cases h
                        · cases h
                      · cases h
                    · cases h
                  · obtain ⟨h90, h⟩ := need_some h
                    obtain ⟨u91, h92, h⟩ := andThen_some h
                    obtain ⟨u93, h94, h⟩ := andThen_some h
                    rcases fork_some h with ⟨h95, h⟩ | ⟨h95, h⟩
                    · rcases fork_some h with ⟨h96, h⟩ | ⟨h96, h⟩
                      · rcases fork_some h with ⟨h97, h⟩ | ⟨h97, h⟩
                        · obtain ⟨u98, h99, h⟩ := andThen_some h
                          obtain ⟨u100, h101, h⟩ := andThen_some h
                          obtain ⟨u102, h103, h⟩ := andThen_some h
                          rcases fork_some h with ⟨h104, h⟩ | ⟨h104, h⟩
                          · obtain ⟨u105, h106, h⟩ := andThen_some h
                            obtain ⟨u107, h108, h⟩ := andThen_some h
                            rcases fork_some h with ⟨h109, h⟩ | ⟨h109, h⟩
                            · obtain ⟨u110, h111, h⟩ := andThen_some h
                              injection h with h; subst h
                              exact env.fun func4 can4 (its := [.call [none] [] [] true (affiantkeep_Head_Header_R a0 u1) (affiantkeep_Head_Header_O a0 u1), .call [none, none, none] [] [] true (affiantbook_Within_R a1 (-1 : Int) (18 : Int) u3) (affiantbook_Within_O a1 (-1 : Int) (18 : Int) u3), .call [none, none, none] [] [] true (affiantbook_Within_R a2 (-2 : Int) (1073741826 : Int) u5) (affiantbook_Within_O a2 (-2 : Int) (1073741826 : Int) u5), .br true, .br true, .br true, .br true, .br true, .br true, .br true, .br true, .br true, .br true, .br true, .br true, .call [none] [] [] true (head_Right_R (u3, u5, u1.2.2.1, u1.2.2.2.1, u1.2.2.2.2.1, u1.2.2.2.2.2.1, ()) u10) (head_Right_O (u3, u5, u1.2.2.1, u1.2.2.2.1, u1.2.2.2.2.1, u1.2.2.2.2.2.1, ()) u10), .br false, .br false, .call [none] [] [] true (head_Bytes_R (u3, u5, u1.2.2.1, u1.2.2.2.1, u1.2.2.2.2.1, u1.2.2.2.2.2.1, ()) u13) (head_Bytes_O (u3, u5, u1.2.2.1, u1.2.2.2.1, u1.2.2.2.2.1, u1.2.2.2.2.2.1, ()) u13), .br false, .br false, .br false, .br false, .br false, .br false, .br false, .call [none, none, none] [] [] true (affiantbook_Within_R a3 (0 : Int) (3 : Int) u19) (affiantbook_Within_O a3 (0 : Int) (3 : Int) u19), .br false, .br false, .br false, .call [none] [] [] true (head_Bytes_R (u3, u5, u1.2.2.1, u1.2.2.2.1, u1.2.2.2.2.1, (List.set u1.2.2.2.2.2.1 (Int.toNat ((UInt8.toNat (a4 &&& (31 : UInt8)) : Nat) : Int)) ((List.getD u1.2.2.2.2.2.1 (Int.toNat ((UInt8.toNat (a4 &&& (31 : UInt8)) : Nat) : Int)) (0 : UInt8)) ^^^ (a4 ||| (1 : UInt8)))), ()) u91) (head_Bytes_O (u3, u5, u1.2.2.1, u1.2.2.2.1, u1.2.2.2.2.1, (List.set u1.2.2.2.2.2.1 (Int.toNat ((UInt8.toNat (a4 &&& (31 : UInt8)) : Nat) : Int)) ((List.getD u1.2.2.2.2.2.1 (Int.toNat ((UInt8.toNat (a4 &&& (31 : UInt8)) : Nat) : Int)) (0 : UInt8)) ^^^ (a4 ||| (1 : UInt8)))), ()) u91), .call [none] [] [4] true (head_Read_R u91 u93) (head_Read_O u91 u93), .pre [[], [0], [0, 1], [0, 1, 2], [0, 1, 2], [0, 1, 2, 3, 4], [0, 1, 2, 3, 4, 5], [0, 1, 2, 3, 4, 5, 6], [0, 1, 2, 3, 4, 5, 6, 7], [0, 1, 2, 3, 4, 5, 6, 7], [0, 1, 2, 3, 4, 5, 6, 7, 8, 9], [0, 1, 2, 3, 4, 5, 6, 7, 8, 9, 10], [0, 1, 2, 3, 4, 5, 6, 7, 8, 9, 10, 11], [0, 1, 2, 3, 4, 5, 6, 7, 8, 9, 10, 11, 12], [0, 1, 2, 3, 4, 5, 6, 7, 8, 9, 10, 11, 12, 13], [0, 1, 2, 3, 4, 5, 6, 7, 8, 9, 10, 11, 12], [0, 1, 2, 3, 4, 5, 6, 7, 8, 9, 10, 11, 12, 13, 14, 15], [0, 1, 2, 3, 4, 5, 6, 7, 8, 9, 10, 11, 12, 13, 14, 15, 16], [0, 1, 2, 3, 4, 5, 6, 7, 8, 9, 10, 11, 12, 13, 14, 15, 16, 17], [0, 1, 2, 3, 4, 5, 6, 7, 8, 9, 10, 11, 12, 13, 14, 15, 16, 17, 18], [0, 1, 2, 3, 4, 5, 6, 7, 8, 9, 10, 11, 12, 13, 14, 15, 16, 17, 18, 19], [0, 1, 2, 3, 4, 5, 6, 7, 8, 9, 10, 11, 12, 13, 14, 15, 16, 17, 18, 19, 20], [0, 1, 2, 3, 4, 5, 6, 7, 8, 9, 10, 11, 12, 13, 14, 15, 16, 17, 18, 19, 20, 21], [0, 1, 2, 3, 4, 5, 6, 7, 8, 9, 10, 11, 12, 13, 14, 15, 16, 17, 18, 19, 20], [0, 1, 2, 3, 4, 5, 6, 7, 8, 9, 10, 11, 12, 13, 14, 15, 16, 17, 18, 19, 20, 21, 22, 23], [0, 1, 2, 3, 4, 5, 6, 7, 8, 9, 10, 11, 12, 13, 14, 15, 16, 17, 18, 19, 20, 21, 22, 23, 24], [0, 1, 2, 3, 4, 5, 6, 7, 8, 9, 10, 11, 12, 13, 14, 15, 16, 17, 18, 19, 20, 21, 22, 23, 24, 25], [0, 1, 2, 3, 4, 5, 6, 7, 8, 9, 10, 11, 12, 13, 14, 15, 16, 17, 18, 19, 20, 21, 22, 23, 24, 25, 26], [0, 1, 2, 3, 4, 5, 6, 7, 8, 9, 10, 11, 12, 13, 14, 15, 16, 17, 18, 19, 20, 21, 22, 23, 24, 25, 26, 27], [0, 1, 2, 3, 4, 5, 6, 7, 8, 9, 10, 11, 12, 13, 14, 15, 16, 17, 18, 19, 20, 21, 22, 23, 24, 25, 26, 27, 28], [0, 1, 2, 3, 4, 5, 6, 7, 8, 9, 10, 11, 12, 13, 14, 15, 16, 17, 18, 19, 20, 21, 22, 23, 24, 25, 26, 27, 28, 29]], .br true, .br true, .br true, .br true, .br true, .br true, .br true, .br true, .br true, .br true, .call [none] [] [] true (head_Bytes_R (u3, u5, u1.2.2.1, u1.2.2.2.1, u1.2.2.2.2.1, u1.2.2.2.2.2.1, ()) u98) (head_Bytes_O (u3, u5, u1.2.2.1, u1.2.2.2.1, u1.2.2.2.2.1, u1.2.2.2.2.2.1, ()) u98), .br true, .br true, .call [none] [] [] true (head_Bytes_R (u3, u5, u1.2.2.1, u1.2.2.2.1, u1.2.2.2.2.1, (List.set u1.2.2.2.2.2.1 (Int.toNat ((UInt8.toNat (a4 &&& (31 : UInt8)) : Nat) : Int)) ((List.getD u1.2.2.2.2.2.1 (Int.toNat ((UInt8.toNat (a4 &&& (31 : UInt8)) : Nat) : Int)) (0 : UInt8)) ^^^ (a4 ||| (1 : UInt8)))), ()) u100) (head_Bytes_O (u3, u5, u1.2.2.1, u1.2.2.2.1, u1.2.2.2.2.1, (List.set u1.2.2.2.2.2.1 (Int.toNat ((UInt8.toNat (a4 &&& (31 : UInt8)) : Nat) : Int)) ((List.getD u1.2.2.2.2.2.1 (Int.toNat ((UInt8.toNat (a4 &&& (31 : UInt8)) : Nat) : Int)) (0 : UInt8)) ^^^ (a4 ||| (1 : UInt8)))), ()) u100), .br true, .call [none, none] [] [0, 1] true (affiantbook_Same_byte_R u98 u100 u102) (affiantbook_Same_byte_O u98 u100 u102), .br true, .br true, .br true, .br true, .call [none] [] [] true (head_Hash_R (u3, u5, u1.2.2.1, u1.2.2.2.1, u1.2.2.2.2.1, (List.set u1.2.2.2.2.2.1 (Int.toNat ((UInt8.toNat (a4 &&& (31 : UInt8)) : Nat) : Int)) ((List.getD u1.2.2.2.2.2.1 (Int.toNat ((UInt8.toNat (a4 &&& (31 : UInt8)) : Nat) : Int)) (0 : UInt8)) ^^^ (a4 ||| (1 : UInt8)))), ()) u105) (head_Hash_O (u3, u5, u1.2.2.1, u1.2.2.2.1, u1.2.2.2.2.1, (List.set u1.2.2.2.2.2.1 (Int.toNat ((UInt8.toNat (a4 &&& (31 : UInt8)) : Nat) : Int)) ((List.getD u1.2.2.2.2.2.1 (Int.toNat ((UInt8.toNat (a4 &&& (31 : UInt8)) : Nat) : Int)) (0 : UInt8)) ^^^ (a4 ||| (1 : UInt8)))), ()) u105), .br true, .br true, .call [none] [] [] true (affiantref10_HeaderHash_R (u3, u5, u1.2.2.1, u1.2.2.2.1, u1.2.2.2.2.1, (List.set u1.2.2.2.2.2.1 (Int.toNat ((UInt8.toNat (a4 &&& (31 : UInt8)) : Nat) : Int)) ((List.getD u1.2.2.2.2.2.1 (Int.toNat ((UInt8.toNat (a4 &&& (31 : UInt8)) : Nat) : Int)) (0 : UInt8)) ^^^ (a4 ||| (1 : UInt8)))), ()) u107) (affiantref10_HeaderHash_O (u3, u5, u1.2.2.1, u1.2.2.2.1, u1.2.2.2.2.1, (List.set u1.2.2.2.2.2.1 (Int.toNat ((UInt8.toNat (a4 &&& (31 : UInt8)) : Nat) : Int)) ((List.getD u1.2.2.2.2.2.1 (Int.toNat ((UInt8.toNat (a4 &&& (31 : UInt8)) : Nat) : Int)) (0 : UInt8)) ^^^ (a4 ||| (1 : UInt8)))), ()) u107), .br true, .br true, .br true, .call [] [] [] true (affiantlaw11_HeadRuns_R u110) (affiantlaw11_HeadRuns_O u110), .br true]) (pos := [.sel []]) (.c (affiantkeep_Head_Header_ok a0 u1 h2) (.c (affiantbook_Within_ok a1 (-1 : Int) (18 : Int) u3 h4) (.c (affiantbook_Within_ok a2 (-2 : Int) (1073741826 : Int) u5 h6) (.c h7 (.c h7 (.c h7 (.c h7 (.c h8 (.c h8 (.c h8 (.c h8 (.c h9 (.c h9 (.c h9 (.c h9 (.c (head_Right_ok (u3, u5, u1.2.2.1, u1.2.2.2.1, u1.2.2.2.2.1, u1.2.2.2.2.2.1, ()) u10 h11) (.c h12 (.c h12 (.c (head_Bytes_ok (u3, u5, u1.2.2.1, u1.2.2.2.1, u1.2.2.2.2.1, u1.2.2.2.2.2.1, ()) u13 h14) (.c h12 (.c h12 (.c h12 (.c h12 (.c h12 (.c h15 (.c h16 (.c (affiantbook_Within_ok a3 (0 : Int) (3 : Int) u19 h20) (.c h21 (.c h44 (.c h67 (.c h90 (.c h90 (.c (head_Bytes_ok (u3, u5, u1.2.2.1, u1.2.2.2.1, u1.2.2.2.2.1, (List.set u1.2.2.2.2.2.1 (Int.toNat ((UInt8.toNat (a4 &&& (31 : UInt8)) : Nat) : Int)) ((List.getD u1.2.2.2.2.2.1 (Int.toNat ((UInt8.toNat (a4 &&& (31 : UInt8)) : Nat) : Int)) (0 : UInt8)) ^^^ (a4 ||| (1 : UInt8)))), ()) u91 h92) (.c (head_Read_ok u91 u93 h94) (.c h95 (.c h95 (.c h95 (.c h95 (.c h96 (.c h96 (.c h96 (.c h96 (.c h97 (.c h97 (.c (head_Bytes_ok (u3, u5, u1.2.2.1, u1.2.2.2.1, u1.2.2.2.2.1, u1.2.2.2.2.2.1, ()) u98 h99) (.c h97 (.c h97 (.c (head_Bytes_ok (u3, u5, u1.2.2.1, u1.2.2.2.1, u1.2.2.2.2.1, (List.set u1.2.2.2.2.2.1 (Int.toNat ((UInt8.toNat (a4 &&& (31 : UInt8)) : Nat) : Int)) ((List.getD u1.2.2.2.2.2.1 (Int.toNat ((UInt8.toNat (a4 &&& (31 : UInt8)) : Nat) : Int)) (0 : UInt8)) ^^^ (a4 ||| (1 : UInt8)))), ()) u100 h101) (.c h97 (.c (affiantbook_Same_byte_ok u98 u100 u102 h103) (.c h97 (.c h97 (.c h104 (.c h104 (.c (head_Hash_ok (u3, u5, u1.2.2.1, u1.2.2.2.1, u1.2.2.2.2.1, (List.set u1.2.2.2.2.2.1 (Int.toNat ((UInt8.toNat (a4 &&& (31 : UInt8)) : Nat) : Int)) ((List.getD u1.2.2.2.2.2.1 (Int.toNat ((UInt8.toNat (a4 &&& (31 : UInt8)) : Nat) : Int)) (0 : UInt8)) ^^^ (a4 ||| (1 : UInt8)))), ()) u105 h106) (.c h104 (.c h104 (.c (affiantref10_HeaderHash_ok (u3, u5, u1.2.2.1, u1.2.2.2.1, u1.2.2.2.2.1, (List.set u1.2.2.2.2.2.1 (Int.toNat ((UInt8.toNat (a4 &&& (31 : UInt8)) : Nat) : Int)) ((List.getD u1.2.2.2.2.2.1 (Int.toNat ((UInt8.toNat (a4 &&& (31 : UInt8)) : Nat) : Int)) (0 : UInt8)) ^^^ (a4 ||| (1 : UInt8)))), ()) u107 h108) (.c h104 (.c h104 (.c h109 (.c (affiantlaw11_HeadRuns_ok u110 h111) (.c h109 .n))))))))))))))))))))))))))))))))))))))))))))))))))))))))))))))) (by kernel_rfl)
                            · cases h
                          · cases h
                        · cases h
                      · cases h
                    · cases h
      · obtain ⟨u112, h113, h⟩ := andThen_some h
        rcases fork_some h with ⟨h114, h⟩ | ⟨h114, h⟩
        · cases h
        · obtain ⟨u115, h116, h⟩ := andThen_some h
          rcases fork_some h with ⟨h117, h⟩ | ⟨h117, h⟩
          · cases h
          · obtain ⟨u118, h119, h⟩ := andThen_some h
            injection h with h; subst h
            exact env.fun func4 can4 (its := [.call [none] [] [] true (affiantkeep_Head_Header_R a0 u1) (affiantkeep_Head_Header_O a0 u1), .call [none, none, none] [] [] true (affiantbook_Within_R a1 (-1 : Int) (18 : Int) u3) (affiantbook_Within_O a1 (-1 : Int) (18 : Int) u3), .call [none, none, none] [] [] true (affiantbook_Within_R a2 (-2 : Int) (1073741826 : Int) u5) (affiantbook_Within_O a2 (-2 : Int) (1073741826 : Int) u5), .br true, .br true, .br true, .br true, .br true, .br true, .br true, .br true, .br false, .br false, .br false, .br false, .call [none] [] [] true (head_Right_R (u3, u5, u1.2.2.1, u1.2.2.2.1, u1.2.2.2.2.1, u1.2.2.2.2.2.1, ()) u112) (head_Right_O (u3, u5, u1.2.2.1, u1.2.2.2.1, u1.2.2.2.2.1, u1.2.2.2.2.2.1, ()) u112), .br false, .br false, .call [none] [] [] true (head_Bytes_R (u3, u5, u1.2.2.1, u1.2.2.2.1, u1.2.2.2.2.1, u1.2.2.2.2.2.1, ()) u115) (head_Bytes_O (u3, u5, u1.2.2.1, u1.2.2.2.1, u1.2.2.2.2.1, u1.2.2.2.2.2.1, ()) u115), .br false, .br false, .br false, .br false, .br false, .br false, .br true, .call [] [] [] true (affiantlaw11_HeadRuns_R u118) (affiantlaw11_HeadRuns_O u118)]) (pos := [.sel []]) (.c (affiantkeep_Head_Header_ok a0 u1 h2) (.c (affiantbook_Within_ok a1 (-1 : Int) (18 : Int) u3 h4) (.c (affiantbook_Within_ok a2 (-2 : Int) (1073741826 : Int) u5 h6) (.c h7 (.c h7 (.c h7 (.c h7 (.c h8 (.c h8 (.c h8 (.c h8 (.c h9 (.c h9 (.c h9 (.c h9 (.c (head_Right_ok (u3, u5, u1.2.2.1, u1.2.2.2.1, u1.2.2.2.2.1, u1.2.2.2.2.2.1, ()) u112 h113) (.c h114 (.c h114 (.c (head_Bytes_ok (u3, u5, u1.2.2.1, u1.2.2.2.1, u1.2.2.2.2.1, u1.2.2.2.2.2.1, ()) u115 h116) (.c h114 (.c h114 (.c h114 (.c h114 (.c h114 (.c h117 (.c (rfl : (true : Bool) = true) (.c (affiantlaw11_HeadRuns_ok u118 h119) .n))))))))))))))))))))))))))) (by kernel_rfl)
    · obtain ⟨u120, h121, h⟩ := andThen_some h
      rcases fork_some h with ⟨h122, h⟩ | ⟨h122, h⟩
      · cases h
      · obtain ⟨u123, h124, h⟩ := andThen_some h
        rcases fork_some h with ⟨h125, h⟩ | ⟨h125, h⟩
        · cases h
        · obtain ⟨u126, h127, h⟩ := andThen_some h
          injection h with h; subst h
          exact env.fun func4 can4 (its := [.call [none] [] [] true (affiantkeep_Head_Header_R a0 u1) (affiantkeep_Head_Header_O a0 u1), .call [none, none, none] [] [] true (affiantbook_Within_R a1 (-1 : Int) (18 : Int) u3) (affiantbook_Within_O a1 (-1 : Int) (18 : Int) u3), .call [none, none, none] [] [] true (affiantbook_Within_R a2 (-2 : Int) (1073741826 : Int) u5) (affiantbook_Within_O a2 (-2 : Int) (1073741826 : Int) u5), .br true, .br true, .br true, .br true, .br false, .br false, .br false, .br false, .br false, .br false, .br false, .br false, .call [none] [] [] true (head_Right_R (u3, u5, u1.2.2.1, u1.2.2.2.1, u1.2.2.2.2.1, u1.2.2.2.2.2.1, ()) u120) (head_Right_O (u3, u5, u1.2.2.1, u1.2.2.2.1, u1.2.2.2.2.1, u1.2.2.2.2.2.1, ()) u120), .br false, .br false, .call [none] [] [] true (head_Bytes_R (u3, u5, u1.2.2.1, u1.2.2.2.1, u1.2.2.2.2.1, u1.2.2.2.2.2.1, ()) u123) (head_Bytes_O (u3, u5, u1.2.2.1, u1.2.2.2.1, u1.2.2.2.2.1, u1.2.2.2.2.2.1, ()) u123), .br false, .br false, .br false, .br false, .br false, .br false, .br true, .call [] [] [] true (affiantlaw11_HeadRuns_R u126) (affiantlaw11_HeadRuns_O u126)]) (pos := [.sel []]) (.c (affiantkeep_Head_Header_ok a0 u1 h2) (.c (affiantbook_Within_ok a1 (-1 : Int) (18 : Int) u3 h4) (.c (affiantbook_Within_ok a2 (-2 : Int) (1073741826 : Int) u5 h6) (.c h7 (.c h7 (.c h7 (.c h7 (.c h8 (.c h8 (.c h8 (.c h8 (.c (rfl : (false : Bool) = false) (.c (rfl : (false : Bool) = false) (.c (rfl : (false : Bool) = false) (.c (rfl : (false : Bool) = false) (.c (head_Right_ok (u3, u5, u1.2.2.1, u1.2.2.2.1, u1.2.2.2.2.1, u1.2.2.2.2.2.1, ()) u120 h121) (.c h122 (.c h122 (.c (head_Bytes_ok (u3, u5, u1.2.2.1, u1.2.2.2.1, u1.2.2.2.2.1, u1.2.2.2.2.2.1, ()) u123 h124) (.c h122 (.c h122 (.c h122 (.c h122 (.c h122 (.c h125 (.c (rfl : (true : Bool) = true) (.c (affiantlaw11_HeadRuns_ok u126 h127) .n))))))))))))))))))))))))))) (by kernel_rfl)
  · obtain ⟨u128, h129, h⟩ := andThen_some h
    rcases fork_some h with ⟨h130, h⟩ | ⟨h130, h⟩
    · cases h
    · obtain ⟨u131, h132, h⟩ := andThen_some h
      rcases fork_some h with ⟨h133, h⟩ | ⟨h133, h⟩
      · cases h
      · obtain ⟨u134, h135, h⟩ := andThen_some h
        injection h with h; subst h
        exact env.fun func4 can4 (its := [.call [none] [] [] true (affiantkeep_Head_Header_R a0 u1) (affiantkeep_Head_Header_O a0 u1), .call [none, none, none] [] [] true (affiantbook_Within_R a1 (-1 : Int) (18 : Int) u3) (affiantbook_Within_O a1 (-1 : Int) (18 : Int) u3), .call [none, none, none] [] [] true (affiantbook_Within_R a2 (-2 : Int) (1073741826 : Int) u5) (affiantbook_Within_O a2 (-2 : Int) (1073741826 : Int) u5), .br false, .br false, .br false, .br false, .br false, .br false, .br false, .br false, .br false, .br false, .br false, .br false, .call [none] [] [] true (head_Right_R (u3, u5, u1.2.2.1, u1.2.2.2.1, u1.2.2.2.2.1, u1.2.2.2.2.2.1, ()) u128) (head_Right_O (u3, u5, u1.2.2.1, u1.2.2.2.1, u1.2.2.2.2.1, u1.2.2.2.2.2.1, ()) u128), .br false, .br false, .call [none] [] [] true (head_Bytes_R (u3, u5, u1.2.2.1, u1.2.2.2.1, u1.2.2.2.2.1, u1.2.2.2.2.2.1, ()) u131) (head_Bytes_O (u3, u5, u1.2.2.1, u1.2.2.2.1, u1.2.2.2.2.1, u1.2.2.2.2.2.1, ()) u131), .br false, .br false, .br false, .br false, .br false, .br false, .br true, .call [] [] [] true (affiantlaw11_HeadRuns_R u134) (affiantlaw11_HeadRuns_O u134)]) (pos := [.sel []]) (.c (affiantkeep_Head_Header_ok a0 u1 h2) (.c (affiantbook_Within_ok a1 (-1 : Int) (18 : Int) u3 h4) (.c (affiantbook_Within_ok a2 (-2 : Int) (1073741826 : Int) u5 h6) (.c h7 (.c h7 (.c h7 (.c h7 (.c (rfl : (false : Bool) = false) (.c (rfl : (false : Bool) = false) (.c (rfl : (false : Bool) = false) (.c (rfl : (false : Bool) = false) (.c (rfl : (false : Bool) = false) (.c (rfl : (false : Bool) = false) (.c (rfl : (false : Bool) = false) (.c (rfl : (false : Bool) = false) (.c (head_Right_ok (u3, u5, u1.2.2.1, u1.2.2.2.1, u1.2.2.2.2.1, u1.2.2.2.2.2.1, ()) u128 h129) (.c h130 (.c h130 (.c (head_Bytes_ok (u3, u5, u1.2.2.1, u1.2.2.2.1, u1.2.2.2.2.1, u1.2.2.2.2.2.1, ()) u131 h132) (.c h130 (.c h130 (.c h130 (.c h130 (.c h130 (.c h133 (.c (rfl : (true : Bool) = true) (.c (affiantlaw11_HeadRuns_ok u134 h135) .n))))))))))))))))))))))))))) (by kernel_rfl)
end
end Go.Proofs.Ytcdpooojocbakaa.headFields
