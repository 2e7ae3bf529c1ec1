/-
  The functions, walked through: each call comes to what the pure text says.
-/
import Derived.Test.YtbpcajicbklkcaaProg
import Derived.Test.YtbpcajicbklkcaaAxC
import Derived.Test.YtbpcajicbklkcaaCHeadOnlyP
namespace Go.Proofs.Ytbpcajicbklkcaa.headOnly
open Go.Ax Go.Ax.V Go.Proofs.Try
set_option maxRecDepth 100000
set_option linter.unusedVariables false
noncomputable section
def T : Tab := [(3, (.int .i64), 8), (4, .bool, 1), (5, (.int .u8), 1), (9, .str, 16), (22, (.slice (.int .u8)), 24), (25, (.arr 32 (.int .u8)), 32), (27, (.fld (.int .i64) (.fld (.int .i64) (.fld (.arr 32 (.int .u8)) (.fld (.arr 32 (.int .u8)) (.fld (.arr 32 (.int .u8)) (.fld (.arr 32 (.int .u8)) .unit)))))), 144), (28, (.int .i64), 8), (34, (.fld (.int .i64) (.fld (.int .i64) (.fld (.int .i64) (.fld (.int .i64) (.fld (.int .i64) (.fld (.int .i64) .unit)))))), 48), (39, .ptr, 8), (43, (.fld .str (.fld .str .unit)), 32), (46, (.slice (.fld .str (.fld .str .unit))), 24), (50, (.slice (.arr 32 (.int .u8))), 24), (52, (.fld (.slice (.arr 32 (.int .u8))) (.fld (.slice (.arr 32 (.int .u8))) .unit)), 48), (55, (.slice (.fld (.slice (.arr 32 (.int .u8))) (.fld (.slice (.arr 32 (.int .u8))) .unit))), 24), (62, (.int .u64), 8), (72, (.slice (.slice (.fld .str (.fld .str .unit)))), 24), (74, (.fld (.slice (.fld .str (.fld .str .unit))) (.fld (.int .i64) (.fld (.slice (.slice (.fld .str (.fld .str .unit)))) .unit))), 56), (83, (.slice (.slice (.int .u8))), 24), (85, (.slice (.int .i64)), 24), (88, (.fld (.slice (.int .u8)) (.fld .bool .unit)), 32), (92, (.slice (.int .u32)), 24), (94, (.int .u32), 4), (95, (.arr 8 (.int .u32)), 32), (96, (.int .u64), 8), (103, (.arr 64 (.int .u32)), 256)]
theorem tab : TabOK prog T := tab_of_b (by kernel_rfl)
theorem bytes : bytesB T = true := by kernel_rfl
theorem mix : prog.follows .mixedOrders = true := by kernel_rfl
theorem eqs : eqTypes prog T [25, 27] = true := by kernel_rfl
theorem env : Env prog T [25, 27] := ⟨tab, eqs, mix⟩
theorem can15 : Callable prog 15 := ⟨_, func15, by kernel_rfl, by kernel_rfl⟩
def affiantbook_Within_R (a0 : Int) (a1 : Int) (a2 : Int) (u : Int) : Slot := (.v (.int .i64) u)
def affiantbook_Within_O (a0 : Int) (a1 : Int) (a2 : Int) (u : Int) : List AObj := []
theorem affiantbook_Within_ok (a0 : Int) (a1 : Int) (a2 : Int) (u : Int) (h : affiantbook_Within a0 a1 a2 = some u) : CallC prog 15 [(.v (.int .i64) a0), (.v (.int .i64) a1), (.v (.int .i64) a2)] [] (affiantbook_Within_R a0 a1 a2 u) (affiantbook_Within_O a0 a1 a2 u) := by
  unfold affiantbook_Within at h
  obtain ⟨h1, h⟩ := need_some h
  rcases fork_some h with ⟨h2, h⟩ | ⟨h2, h⟩
  · injection h with h; subst h
    exact env.fun func15 can15 (its := [.br true]) (pos := [.sel []]) (.c h1 (.c h2 .n)) (by kernel_rfl)
  · injection h with h; subst h
    exact env.fun func15 can15 (its := [.br false]) (pos := [.sel []]) (.c h1 (.c h2 .n)) (by kernel_rfl)
theorem can39 : Callable prog 39 := ⟨_, func39, by kernel_rfl, by kernel_rfl⟩
def affiantkeep_hash_R (a0 : Int) (u : List UInt8) : Slot := (.v (.arr 32 (.int .u8)) u)
def affiantkeep_hash_O (a0 : Int) (u : List UInt8) : List AObj := []
theorem affiantkeep_hash_ok (a0 : Int) (u : List UInt8) (h : affiantkeep_hash a0 = some u) : CallC prog 39 [(.v (.int .i64) a0)] [] (affiantkeep_hash_R a0 u) (affiantkeep_hash_O a0 u) := by
  unfold affiantkeep_hash at h
  injection h with h; subst h
  exact env.fun func39 can39 (its := []) (pos := [.sel []]) (.c (of_decide_eq_true (p := (0 ≤ (8 : Int))) (by kernel_rfl)) .n) (by kernel_rfl)
theorem can14 : Callable prog 14 := ⟨_, func14, by kernel_rfl, by kernel_rfl⟩
def affiantkeep_Head_Header_R (a0 : Int × Int × Int × Int × Int × Int × Unit) (u : Int × Int × List UInt8 × List UInt8 × List UInt8 × List UInt8 × Unit) : Slot := (.v (.fld (.int .i64) (.fld (.int .i64) (.fld (.arr 32 (.int .u8)) (.fld (.arr 32 (.int .u8)) (.fld (.arr 32 (.int .u8)) (.fld (.arr 32 (.int .u8)) .unit)))))) u)
def affiantkeep_Head_Header_O (a0 : Int × Int × Int × Int × Int × Int × Unit) (u : Int × Int × List UInt8 × List UInt8 × List UInt8 × List UInt8 × Unit) : List AObj := []
theorem affiantkeep_Head_Header_ok (a0 : Int × Int × Int × Int × Int × Int × Unit) (u : Int × Int × List UInt8 × List UInt8 × List UInt8 × List UInt8 × Unit) (h : affiantkeep_Head_Header a0 = some u) : CallC prog 14 [(.v (.fld (.int .i64) (.fld (.int .i64) (.fld (.int .i64) (.fld (.int .i64) (.fld (.int .i64) (.fld (.int .i64) .unit)))))) a0)] [] (affiantkeep_Head_Header_R a0 u) (affiantkeep_Head_Header_O a0 u) := by
  unfold affiantkeep_Head_Header at h
  obtain ⟨u1, h2, h⟩ := andThen_some h
  obtain ⟨u3, h4, h⟩ := andThen_some h
  obtain ⟨u5, h6, h⟩ := andThen_some h
  obtain ⟨u7, h8, h⟩ := andThen_some h
  obtain ⟨u9, h10, h⟩ := andThen_some h
  obtain ⟨u11, h12, h⟩ := andThen_some h
  injection h with h; subst h
  exact env.fun func14 can14 (its := [.pre [[], [0], [0, 1], [], [3], [0, 1, 2, 3, 4], [], [6], [0, 1, 2, 3, 4, 5, 6, 7], [], [9], [0, 1, 2, 3, 4, 5, 6, 7, 8, 9, 10], [], [12], [0, 1, 2, 3, 4, 5, 6, 7, 8, 9, 10, 11, 12, 13], [], [15], [0, 1, 2, 3, 4, 5, 6, 7, 8, 9, 10, 11, 12, 13, 14, 15, 16], [0, 1, 2, 3, 4, 5, 6, 7, 8, 9, 10, 11, 12, 13, 14, 15, 16, 17], [0, 1, 2, 3, 4, 5, 6, 7, 8, 9, 10, 11, 12, 13, 14, 15, 16, 17, 18]], .call [none, none, none] [] [] true (affiantbook_Within_R a0.1 (1 : Int) (16 : Int) u1) (affiantbook_Within_O a0.1 (1 : Int) (16 : Int) u1), .call [none, none, none] [] [] true (affiantbook_Within_R a0.2.1 (0 : Int) (500 : Int) u3) (affiantbook_Within_O a0.2.1 (0 : Int) (500 : Int) u3), .call [none] [] [] true (affiantkeep_hash_R a0.2.2.1 u5) (affiantkeep_hash_O a0.2.2.1 u5), .call [none] [] [] true (affiantkeep_hash_R a0.2.2.2.1 u7) (affiantkeep_hash_O a0.2.2.2.1 u7), .call [none] [] [] true (affiantkeep_hash_R a0.2.2.2.2.1 u9) (affiantkeep_hash_O a0.2.2.2.2.1 u9), .call [none] [] [] true (affiantkeep_hash_R a0.2.2.2.2.2.1 u11) (affiantkeep_hash_O a0.2.2.2.2.2.1 u11)]) (pos := [.sel []]) (.c (affiantbook_Within_ok a0.1 (1 : Int) (16 : Int) u1 h2) (.c (affiantbook_Within_ok a0.2.1 (0 : Int) (500 : Int) u3 h4) (.c (affiantkeep_hash_ok a0.2.2.1 u5 h6) (.c (affiantkeep_hash_ok a0.2.2.2.1 u7 h8) (.c (affiantkeep_hash_ok a0.2.2.2.2.1 u9 h10) (.c (affiantkeep_hash_ok a0.2.2.2.2.2.1 u11 h12) .n)))))) (by kernel_rfl)
theorem can13 : Callable prog 13 := ⟨_, func13, by kernel_rfl, by kernel_rfl⟩
def head_Right_R (a0 : Int × Int × List UInt8 × List UInt8 × List UInt8 × List UInt8 × Unit) (u : Bool) : Slot := (.v .bool u)
def head_Right_O (a0 : Int × Int × List UInt8 × List UInt8 × List UInt8 × List UInt8 × Unit) (u : Bool) : List AObj := []
theorem head_Right_ok (a0 : Int × Int × List UInt8 × List UInt8 × List UInt8 × List UInt8 × Unit) (u : Bool) (h : head_Right a0 = some u) : CallC prog 13 [(.v (.fld (.int .i64) (.fld (.int .i64) (.fld (.arr 32 (.int .u8)) (.fld (.arr 32 (.int .u8)) (.fld (.arr 32 (.int .u8)) (.fld (.arr 32 (.int .u8)) .unit)))))) a0)] [] (head_Right_R a0 u) (head_Right_O a0 u) := by
  unfold head_Right at h
  rcases fork_some h with ⟨h1, h⟩ | ⟨h1, h⟩
  · rcases fork_some h with ⟨h2, h⟩ | ⟨h2, h⟩
    · rcases fork_some h with ⟨h3, h⟩ | ⟨h3, h⟩
      · injection h with h; subst h
        exact env.fun func13 can13 (its := [.br true, .br true, .br true, .br true, .br true, .br true, .br true, .br true, .br true, .br true, .br true, .br true]) (pos := [.sel []]) (.c h1 (.c h1 (.c h1 (.c h1 (.c h2 (.c h2 (.c h2 (.c h2 (.c h3 (.c h3 (.c h3 (.c h3 .n)))))))))))) (by kernel_rfl)
      · injection h with h; subst h
        exact env.fun func13 can13 (its := [.br true, .br true, .br true, .br true, .br true, .br true, .br true, .br true, .br false, .br false, .br false, .br false]) (pos := [.sel []]) (.c h1 (.c h1 (.c h1 (.c h1 (.c h2 (.c h2 (.c h2 (.c h2 (.c h3 (.c h3 (.c h3 (.c h3 .n)))))))))))) (by kernel_rfl)
    · injection h with h; subst h
      exact env.fun func13 can13 (its := [.br true, .br true, .br true, .br true, .br false, .br false, .br false, .br false, .br false, .br false, .br false, .br false]) (pos := [.sel []]) (.c h1 (.c h1 (.c h1 (.c h1 (.c h2 (.c h2 (.c h2 (.c h2 (.c (rfl : (false : Bool) = false) (.c (rfl : (false : Bool) = false) (.c (rfl : (false : Bool) = false) (.c (rfl : (false : Bool) = false) .n)))))))))))) (by kernel_rfl)
  · injection h with h; subst h
    exact env.fun func13 can13 (its := [.br false, .br false, .br false, .br false, .br false, .br false, .br false, .br false, .br false, .br false, .br false, .br false]) (pos := [.sel []]) (.c h1 (.c h1 (.c h1 (.c h1 (.c (rfl : (false : Bool) = false) (.c (rfl : (false : Bool) = false) (.c (rfl : (false : Bool) = false) (.c (rfl : (false : Bool) = false) (.c (rfl : (false : Bool) = false) (.c (rfl : (false : Bool) = false) (.c (rfl : (false : Bool) = false) (.c (rfl : (false : Bool) = false) .n)))))))))))) (by kernel_rfl)
theorem can56 : Callable prog 56 := ⟨_, func56, by kernel_rfl, by kernel_rfl⟩
def vint_one_1_in (x0 : Int) (x1 : List UInt8) : St := ⟨[(0, (.v (.int .i64) x0)), (3, (.own 0 []))], [.row (.int .u8) x1 true], 26, 0⟩
def vint_one_1_ex (o : Int × List UInt8) : Exit := (.exit 0)
def vint_one_1_st (o : Int × List UInt8) : St := ⟨[(0, (.v (.int .i64) o.1)), (3, (.own 0 []))], [.row (.int .u8) o.2 true], 26, 0⟩
theorem vint_one_1_body (x0 : Int) (x1 : List UInt8) : ∀ r, vint_one_1_step x0 x1 = some r → (match r with | .inl s => CodeOK prog (codeAt (bodyOf f56) [1, 1, 1, 0, 0, 0]) (vint_one_1_in x0 x1) .normal (vint_one_1_in s.1 s.2) | .inr o => vint_one_1_ex o ≠ .normal ∧ CodeOK prog (codeAt (bodyOf f56) [1, 1, 1, 0, 0, 0]) (vint_one_1_in x0 x1) (vint_one_1_ex o) (vint_one_1_st o)) := by
  intro r h
  unfold vint_one_1_step at h
  rcases fork_some h with ⟨h4, h⟩ | ⟨h4, h⟩
  · obtain ⟨h5, h⟩ := need_some h
    injection h with h; subst h
    exact env.code (its := [.br true, .dive, .sel [0, 3] [2]]) (.c h4 (.c h5 (.c (of_decide_eq_true (p := (0 ≤ (7 : Int))) (by kernel_rfl)) .n))) (by kernel_rfl)
  · injection h with h; subst h
    exact ⟨by intro e; simp [vint_one_1_ex] at e, env.code (its := [.br false, .sel [0, 3] [0]]) (.c h4 .n) (by kernel_rfl)⟩
theorem vint_one_1_ok (x0 : Int) (x1 : List UInt8) (o : Int × List UInt8) (h : vint_one_1 x0 x1 = some o) : CodeOK prog (codeAt (bodyOf f56) [1, 1, 1, 0, 0]) (vint_one_1_in x0 x1) (vint_one_1_ex o) (vint_one_1_st o) :=
  LoopOK.of_step (st := fun s => vint_one_1_in s.1 s.2) (ex := vint_one_1_ex) (stO := vint_one_1_st) (fun s s2 hs => vint_one_1_body s.1 s.2 (.inl s2) hs) (fun s r hs => vint_one_1_body s.1 s.2 (.inr r) hs) _ o h
def vint_one_R (a0 : Int) (u : List UInt8) : Slot := (.own 0 [])
def vint_one_O (a0 : Int) (u : List UInt8) : List AObj := [.row (.int .u8) u true]
theorem vint_one_ok (a0 : Int) (u : List UInt8) (h : vint_one a0 = some u) : CallC prog 56 [(.v (.int .i64) a0)] [] (vint_one_R a0 u) (vint_one_O a0 u) := by
  unfold vint_one at h
  rcases fork_some h with ⟨h1, h⟩ | ⟨h1, h⟩
  · injection h with h; subst h
    exact env.fun func56 can56 (its := [.br true, .br true, .br true, .br true]) (pos := [.promote (.int .u8), .sel [0]]) (.c h1 (.c h1 (.c h1 (.c (rfl : (true : Bool) = true) .n)))) (by kernel_rfl)
  · rcases fork_some h with ⟨h2, h⟩ | ⟨h2, h⟩
    · injection h with h; subst h
      exact env.fun func56 can56 (its := [.br false, .br false, .br false, .br true]) (pos := [.promote (.int .u8), .sel [0]]) (.c h1 (.c h1 (.c h1 (.c h2 .n)))) (by kernel_rfl)
    · obtain ⟨o6, h7, h⟩ := andThen_some h
      obtain ⟨h8, h⟩ := need_some h
      injection h with h; subst h
      exact env.fun func56 can56 (its := [.br false, .br false, .br false, .br false, .dive, .promote 3 (.int .u8), .sel [0, 3] [0], .part (vint_one_1_ex o6) (vint_one_1_st o6)]) (pos := [.sel [2]]) (.c h1 (.c h1 (.c h1 (.c h2 (.c (vint_one_1_ok a0 ([] : List (UInt8)) o6 h7) (.c h8 .n)))))) (by kernel_rfl)
theorem can33 : Callable prog 33 := ⟨_, func33, by kernel_rfl, by kernel_rfl⟩
def vint_Put_1_in (x0 : List Int) (x1 : Int) (x2 : Int) (x3 : List UInt8) : St := ⟨[(3, (.own 0 [])), (6, (.v (.slice (.int .i64)) x0)), (7, (.v (.int .i64) x1)), (8, (.v (.int .i64) x2))], [.row (.int .u8) x3 true], 18, 0⟩
def vint_Put_1_ex (o : List UInt8) : Exit := (.exit 0)
def vint_Put_1_st (o : List UInt8) : St := ⟨[(3, (.own 0 []))], [.row (.int .u8) o true], 18, 0⟩
theorem vint_Put_1_body (x0 : List Int) (x1 : Int) (x2 : Int) (x3 : List UInt8) : ∀ r, vint_Put_1_step x0 x1 x2 x3 = some r → (match r with | .inl s => CodeOK prog (codeAt (bodyOf f33) [1, 1, 0, 1, 0, 0]) (vint_Put_1_in x0 x1 x2 x3) .normal (vint_Put_1_in x0 x1 s.1 s.2) | .inr o => vint_Put_1_ex o ≠ .normal ∧ CodeOK prog (codeAt (bodyOf f33) [1, 1, 0, 1, 0, 0]) (vint_Put_1_in x0 x1 x2 x3) (vint_Put_1_ex o) (vint_Put_1_st o)) := by
  intro r h
  unfold vint_Put_1_step at h
  rcases fork_some h with ⟨h2, h⟩ | ⟨h2, h⟩
  · obtain ⟨h3, h⟩ := need_some h
    obtain ⟨u4, h5, h⟩ := andThen_some h
    obtain ⟨h6, h⟩ := need_some h
    injection h with h; subst h
    exact env.code (its := [.br true, .call [none] [] [] true (vint_one_R (List.getD x0 (Int.toNat x2) (0 : Int)) u4) (vint_one_O (List.getD x0 (Int.toNat x2) (0 : Int)) u4), .sel [3, 6, 7, 8] [2]]) (.c h2 (.c h3 (.c (vint_one_ok (List.getD x0 (Int.toNat x2) (0 : Int)) u4 h5) (.c h6 .n)))) (by kernel_rfl)
  · injection h with h; subst h
    exact ⟨by intro e; simp [vint_Put_1_ex] at e, env.code (its := [.br false, .sel [3] [0]]) (.c h2 .n) (by kernel_rfl)⟩
theorem vint_Put_1_ok (x0 : List Int) (x1 : Int) (x2 : Int) (x3 : List UInt8) (o : List UInt8) (h : vint_Put_1 x0 x1 x2 x3 = some o) : CodeOK prog (codeAt (bodyOf f33) [1, 1, 0, 1, 0]) (vint_Put_1_in x0 x1 x2 x3) (vint_Put_1_ex o) (vint_Put_1_st o) :=
  LoopOK.of_step (st := fun s => vint_Put_1_in x0 x1 s.1 s.2) (ex := vint_Put_1_ex) (stO := vint_Put_1_st) (fun s s2 hs => vint_Put_1_body x0 x1 s.1 s.2 (.inl s2) hs) (fun s r hs => vint_Put_1_body x0 x1 s.1 s.2 (.inr r) hs) _ o h
def vint_Put_R (a0 : List Int) (u : List UInt8) : Slot := (.own 0 [])
def vint_Put_O (a0 : List Int) (u : List UInt8) : List AObj := [.row (.int .u8) u true]
theorem vint_Put_ok (a0 : List Int) (u : List UInt8) (h : vint_Put a0 = some u) : CallC prog 33 [(.v (.slice (.int .i64)) a0)] [] (vint_Put_R a0 u) (vint_Put_O a0 u) := by
  unfold vint_Put at h
  obtain ⟨o7, h8, h⟩ := andThen_some h
  injection h with h; subst h
  exact env.fun func33 can33 (its := [.dive, .promote 3 (.int .u8), .sel [3, 6, 7, 8] [0], .part (vint_Put_1_ex o7) (vint_Put_1_st o7)]) (pos := [.sel [0]]) (.c (vint_Put_1_ok a0 (List.length a0 : Int) (0 : Int) ([] : List (UInt8)) o7 h8) .n) (by kernel_rfl)
theorem can34 : Callable prog 34 := ⟨_, func34, by kernel_rfl, by kernel_rfl⟩
def vint_Hash_1_in (x0 : List (List UInt8)) (x1 : Int) (x2 : Int) (x3 : List UInt8) : St := ⟨[(3, (.own 0 [])), (6, (.v (.slice (.arr 32 (.int .u8))) x0)), (7, (.v (.int .i64) x1)), (8, (.v (.int .i64) x2))], [.row (.int .u8) x3 true], 17, 0⟩
def vint_Hash_1_ex (o : List UInt8) : Exit := (.exit 0)
def vint_Hash_1_st (o : List UInt8) : St := ⟨[(3, (.own 0 []))], [.row (.int .u8) o true], 17, 0⟩
theorem vint_Hash_1_body (x0 : List (List UInt8)) (x1 : Int) (x2 : Int) (x3 : List UInt8) : ∀ r, vint_Hash_1_step x0 x1 x2 x3 = some r → (match r with | .inl s => CodeOK prog (codeAt (bodyOf f34) [1, 1, 0, 1, 0, 0]) (vint_Hash_1_in x0 x1 x2 x3) .normal (vint_Hash_1_in x0 x1 s.1 s.2) | .inr o => vint_Hash_1_ex o ≠ .normal ∧ CodeOK prog (codeAt (bodyOf f34) [1, 1, 0, 1, 0, 0]) (vint_Hash_1_in x0 x1 x2 x3) (vint_Hash_1_ex o) (vint_Hash_1_st o)) := by
  intro r h
  unfold vint_Hash_1_step at h
  rcases fork_some h with ⟨h2, h⟩ | ⟨h2, h⟩
  · obtain ⟨h3, h⟩ := need_some h
    obtain ⟨h4, h⟩ := need_some h
    injection h with h; subst h
    exact env.code (its := [.br true, .br true, .sel [3, 6, 7, 8] [2]]) (.c h2 (.c h3 (.c h4 .n))) (by kernel_rfl)
  · injection h with h; subst h
    exact ⟨by intro e; simp [vint_Hash_1_ex] at e, env.code (its := [.br false, .sel [3] [0]]) (.c h2 .n) (by kernel_rfl)⟩
theorem vint_Hash_1_ok (x0 : List (List UInt8)) (x1 : Int) (x2 : Int) (x3 : List UInt8) (o : List UInt8) (h : vint_Hash_1 x0 x1 x2 x3 = some o) : CodeOK prog (codeAt (bodyOf f34) [1, 1, 0, 1, 0]) (vint_Hash_1_in x0 x1 x2 x3) (vint_Hash_1_ex o) (vint_Hash_1_st o) :=
  LoopOK.of_step (st := fun s => vint_Hash_1_in x0 x1 s.1 s.2) (ex := vint_Hash_1_ex) (stO := vint_Hash_1_st) (fun s s2 hs => vint_Hash_1_body x0 x1 s.1 s.2 (.inl s2) hs) (fun s r hs => vint_Hash_1_body x0 x1 s.1 s.2 (.inr r) hs) _ o h
def vint_Hash_R (a0 : List (List UInt8)) (u : List UInt8) : Slot := (.own 0 [])
def vint_Hash_O (a0 : List (List UInt8)) (u : List UInt8) : List AObj := [.row (.int .u8) u true]
theorem vint_Hash_ok (a0 : List (List UInt8)) (u : List UInt8) (h : vint_Hash a0 = some u) : CallC prog 34 [(.v (.slice (.arr 32 (.int .u8))) a0)] [] (vint_Hash_R a0 u) (vint_Hash_O a0 u) := by
  unfold vint_Hash at h
  obtain ⟨o5, h6, h⟩ := andThen_some h
  injection h with h; subst h
  exact env.fun func34 can34 (its := [.dive, .promote 3 (.int .u8), .sel [3, 6, 7, 8] [0], .part (vint_Hash_1_ex o5) (vint_Hash_1_st o5)]) (pos := [.sel [0]]) (.c (vint_Hash_1_ok a0 (List.length a0 : Int) (0 : Int) ([] : List (UInt8)) o5 h6) .n) (by kernel_rfl)
theorem can11 : Callable prog 11 := ⟨_, func11, by kernel_rfl, by kernel_rfl⟩
def head_Bytes_R (a0 : Int × Int × List UInt8 × List UInt8 × List UInt8 × List UInt8 × Unit) (u : List UInt8) : Slot := (.own 0 [])
def head_Bytes_O (a0 : Int × Int × List UInt8 × List UInt8 × List UInt8 × List UInt8 × Unit) (u : List UInt8) : List AObj := [.row (.int .u8) u true]
theorem head_Bytes_ok (a0 : Int × Int × List UInt8 × List UInt8 × List UInt8 × List UInt8 × Unit) (u : List UInt8) (h : head_Bytes a0 = some u) : CallC prog 11 [(.v (.fld (.int .i64) (.fld (.int .i64) (.fld (.arr 32 (.int .u8)) (.fld (.arr 32 (.int .u8)) (.fld (.arr 32 (.int .u8)) (.fld (.arr 32 (.int .u8)) .unit)))))) a0)] [] (head_Bytes_R a0 u) (head_Bytes_O a0 u) := by
  unfold head_Bytes at h
  obtain ⟨u1, h2, h⟩ := andThen_some h
  rcases fork_some h with ⟨h3, h⟩ | ⟨h3, h⟩
  · injection h with h; subst h
    exact env.fun func11 can11 (its := [.call [none] [] [] true (head_Right_R a0 u1) (head_Right_O a0 u1), .br true]) (pos := [.promote (.int .u8), .sel [1]]) (.c (head_Right_ok a0 u1 h2) (.c h3 .n)) (by kernel_rfl)
  · obtain ⟨u4, h5, h⟩ := andThen_some h
    obtain ⟨u6, h7, h⟩ := andThen_some h
    obtain ⟨h8, h⟩ := need_some h
    injection h with h; subst h
    exact env.fun func11 can11 (its := [.call [none] [] [] true (head_Right_R a0 u1) (head_Right_O a0 u1), .br false, .pre [[], [0], [], [2], [0, 1, 2, 3], [0, 1, 2, 3, 4], [], [6], [], [8], [], [10], [], [12], [6, 7, 8, 9, 10, 11, 12, 13], [0, 1, 2, 3, 4, 5, 6, 7, 8, 9, 10, 11, 12, 13, 14], [0, 1, 2, 3, 4, 5, 6, 7, 8, 9, 10, 11, 12, 13, 14, 15], [0, 1, 2, 3, 4, 5, 6, 7, 8, 9, 10, 11, 12, 13, 14, 15, 16]], .call [none] [] [0] true (vint_Put_R ([a0.1, a0.2.1] : List (Int)) u4) (vint_Put_O ([a0.1, a0.2.1] : List (Int)) u4), .call [none] [] [0] true (vint_Hash_R ([a0.2.2.1, a0.2.2.2.1, a0.2.2.2.2.1, a0.2.2.2.2.2.1] : List (List UInt8)) u6) (vint_Hash_O ([a0.2.2.1, a0.2.2.2.1, a0.2.2.2.2.1, a0.2.2.2.2.2.1] : List (List UInt8)) u6)]) (pos := [.sel [5]]) (.c (head_Right_ok a0 u1 h2) (.c h3 (.c (vint_Put_ok ([a0.1, a0.2.1] : List (Int)) u4 h5) (.c (vint_Hash_ok ([a0.2.2.1, a0.2.2.2.1, a0.2.2.2.2.1, a0.2.2.2.2.2.1] : List (List UInt8)) u6 h7) (.c h8 .n))))) (by kernel_rfl)
theorem can35 : Callable prog 35 := ⟨_, func35, by kernel_rfl, by kernel_rfl⟩
def vint_Read_R (a0 : List UInt8) (u : List UInt8 × Bool × Unit) : Slot := (.ptr 0 [])
def vint_Read_O (a0 : List UInt8) (u : List UInt8 × Bool × Unit) : List AObj := [.box (.fld (.slice (.int .u8)) (.fld .bool .unit)) (.v (.fld (.slice (.int .u8)) (.fld .bool .unit)) u) true]
theorem vint_Read_ok (a0 : List UInt8) (u : List UInt8 × Bool × Unit) (h : vint_Read a0 = some u) : CallC prog 35 [(.v (.slice (.int .u8)) a0)] [] (vint_Read_R a0 u) (vint_Read_O a0 u) := by
  unfold vint_Read at h
  obtain ⟨h1, h⟩ := need_some h
  injection h with h; subst h
  exact env.fun func35 can35 (its := []) (pos := [.sel [2]]) (.c h1 .n) (by kernel_rfl)
theorem can57 : Callable prog 57 := ⟨_, func57, by kernel_rfl, by kernel_rfl⟩
def vint_Reader_take_a34d_R (a0 : Int) (a1 : List UInt8 × Bool × Unit) (u : List UInt8 × List UInt8 × Bool × Unit) : Slot := (.v (.slice (.int .u8)) u.1)
def vint_Reader_take_a34d_O (a0 : Int) (a1 : List UInt8 × Bool × Unit) (u : List UInt8 × List UInt8 × Bool × Unit) : List AObj := [.box (.fld (.slice (.int .u8)) (.fld .bool .unit)) (.v (.fld (.slice (.int .u8)) (.fld .bool .unit)) u.2) true]
theorem vint_Reader_take_a34d_ok (a0 : Int) (a1 : List UInt8 × Bool × Unit) (u : List UInt8 × List UInt8 × Bool × Unit) (h : vint_Reader_take_a34d a0 a1 = some u) : CallC prog 57 [(.ptr 0 []), (.v (.int .i64) a0)] [.box (.fld (.slice (.int .u8)) (.fld .bool .unit)) (.v (.fld (.slice (.int .u8)) (.fld .bool .unit)) a1) true] (vint_Reader_take_a34d_R a0 a1 u) (vint_Reader_take_a34d_O a0 a1 u) := by
  unfold vint_Reader_take_a34d at h
  rcases fork_some h with ⟨h1, h⟩ | ⟨h1, h⟩
  · injection h with h; subst h
    exact env.fun func57 can57 (its := [.br true, .br true, .br true, .br true, .br true, .br true, .br true, .br true, .br true]) (pos := [.val (.slice (.int .u8)), .sel [0]]) (.c h1 (.c h1 (.c h1 (.c h1 (.c h1 (.c h1 (.c h1 (.c h1 (.c (rfl : (true : Bool) = true) .n))))))))) (by kernel_rfl)
  · rcases fork_some h with ⟨h2, h⟩ | ⟨h2, h⟩
    · injection h with h; subst h
      exact env.fun func57 can57 (its := [.br false, .br false, .br false, .br false, .br false, .br false, .br false, .br false, .br true]) (pos := [.val (.slice (.int .u8)), .sel [0]]) (.c h1 (.c h1 (.c h1 (.c h1 (.c h1 (.c h1 (.c h1 (.c h1 (.c h2 .n))))))))) (by kernel_rfl)
    · obtain ⟨h3, h⟩ := need_some h
      obtain ⟨h4, h⟩ := need_some h
      injection h with h; subst h
      exact env.fun func57 can57 (its := [.br false, .br false, .br false, .br false, .br false, .br false, .br false, .br false, .br false, .br false, .br false]) (pos := [.sel [0]]) (.c h1 (.c h1 (.c h1 (.c h1 (.c h1 (.c h1 (.c h1 (.c h1 (.c h2 (.c h3 (.c h4 .n))))))))))) (by kernel_rfl)
theorem can36 : Callable prog 36 := ⟨_, func36, by kernel_rfl, by kernel_rfl⟩
def vint_Reader_Number_4c5f_1_in (x0 : Int) (x1 : Int) (x2 : List UInt8 × Bool × Unit) : St := ⟨[(0, (.ptr 0 [])), (3, (.v (.int .i64) x0)), (4, (.v (.int .i64) x1))], [.box (.fld (.slice (.int .u8)) (.fld .bool .unit)) (.v (.fld (.slice (.int .u8)) (.fld .bool .unit)) x2) true], 44, 1⟩
def vint_Reader_Number_4c5f_1_ex (o : (Int × List UInt8 × Bool × Unit) ⊕ (List UInt8 × Bool × Unit)) : Exit := match o with | (.inl o) => .ret | (.inr o) => (.exit 0)
def vint_Reader_Number_4c5f_1_st (o : (Int × List UInt8 × Bool × Unit) ⊕ (List UInt8 × Bool × Unit)) : St := match o with | (.inl o) => ⟨[(2, (.v (.int .i64) o.1))], [.box (.fld (.slice (.int .u8)) (.fld .bool .unit)) (.v (.fld (.slice (.int .u8)) (.fld .bool .unit)) o.2) true], 44, 1⟩ | (.inr o) => ⟨[(0, (.ptr 0 []))], [.box (.fld (.slice (.int .u8)) (.fld .bool .unit)) (.v (.fld (.slice (.int .u8)) (.fld .bool .unit)) o) true], 44, 1⟩
theorem vint_Reader_Number_4c5f_1_body (x0 : Int) (x1 : Int) (x2 : List UInt8 × Bool × Unit) : ∀ r, vint_Reader_Number_4c5f_1_step x0 x1 x2 = some r → (match r with | .inl s => CodeOK prog (codeAt (bodyOf f36) [1, 1, 0, 1, 0, 0]) (vint_Reader_Number_4c5f_1_in x0 x1 x2) .normal (vint_Reader_Number_4c5f_1_in s.1 s.2.1 s.2.2) | .inr o => vint_Reader_Number_4c5f_1_ex o ≠ .normal ∧ CodeOK prog (codeAt (bodyOf f36) [1, 1, 0, 1, 0, 0]) (vint_Reader_Number_4c5f_1_in x0 x1 x2) (vint_Reader_Number_4c5f_1_ex o) (vint_Reader_Number_4c5f_1_st o)) := by
  intro r h
  unfold vint_Reader_Number_4c5f_1_step at h
  rcases fork_some h with ⟨h2, h⟩ | ⟨h2, h⟩
  · obtain ⟨u3, h4, h⟩ := andThen_some h
    rcases fork_some h with ⟨h5, h⟩ | ⟨h5, h⟩
    · injection h with h; subst h
      exact ⟨by intro e; simp [vint_Reader_Number_4c5f_1_ex] at e, env.code (its := [.br true, .call [none, none] [0] [] false (vint_Reader_take_a34d_R (1 : Int) x2 u3) (vint_Reader_take_a34d_O (1 : Int) x2 u3), .br true, .sel [2] [0]]) (.c h2 (.c (vint_Reader_take_a34d_ok (1 : Int) x2 u3 h4) (.c h5 .n))) (by kernel_rfl)⟩
    · obtain ⟨h6, h⟩ := need_some h
      obtain ⟨h7, h⟩ := need_some h
      rcases fork_some h with ⟨h8, h⟩ | ⟨h8, h⟩
      · rcases fork_some h with ⟨h9, h⟩ | ⟨h9, h⟩
        · injection h with h; subst h
          exact ⟨by intro e; simp [vint_Reader_Number_4c5f_1_ex] at e, env.code (its := [.br true, .call [none, none] [0] [] false (vint_Reader_take_a34d_R (1 : Int) x2 u3) (vint_Reader_take_a34d_O (1 : Int) x2 u3), .br false, .br true, .br true, .br true, .br true, .br true, .br true, .br true, .br true, .br true, .sel [0] [0]]) (.c h2 (.c (vint_Reader_take_a34d_ok (1 : Int) x2 u3 h4) (.c h5 (.c h6 (.c h7 (.c h6 (.c h8 (.c h9 (.c h9 (.c h9 (.c h9 (.c h9 (.c h9 (.c h9 (.c (rfl : (true : Bool) = true) .n))))))))))))))) (by kernel_rfl)⟩
        · rcases fork_some h with ⟨h10, h⟩ | ⟨h10, h⟩
          · rcases fork_some h with ⟨h11, h⟩ | ⟨h11, h⟩
            · injection h with h; subst h
              exact ⟨by intro e; simp [vint_Reader_Number_4c5f_1_ex] at e, env.code (its := [.br true, .call [none, none] [0] [] false (vint_Reader_take_a34d_R (1 : Int) x2 u3) (vint_Reader_take_a34d_O (1 : Int) x2 u3), .br false, .br true, .br false, .br false, .br false, .br false, .br false, .br true, .br true, .br false, .br true, .br false, .br true, .sel [0] [0]]) (.c h2 (.c (vint_Reader_take_a34d_ok (1 : Int) x2 u3 h4) (.c h5 (.c h6 (.c h7 (.c h6 (.c h8 (.c h9 (.c h9 (.c h6 (.c h9 (.c h9 (.c h9 (.c h10 (.c h10 (.c h9 (.c h10 (.c h9 (.c h11 .n))))))))))))))))))) (by kernel_rfl)⟩
            · injection h with h; subst h
              exact ⟨by intro e; simp [vint_Reader_Number_4c5f_1_ex] at e, env.code (its := [.br true, .call [none, none] [0] [] false (vint_Reader_take_a34d_R (1 : Int) x2 u3) (vint_Reader_take_a34d_O (1 : Int) x2 u3), .br false, .br true, .br false, .br false, .br false, .br false, .br false, .br true, .br true, .br false, .br true, .br false, .br false, .sel [2] [0]]) (.c h2 (.c (vint_Reader_take_a34d_ok (1 : Int) x2 u3 h4) (.c h5 (.c h6 (.c h7 (.c h6 (.c h8 (.c h9 (.c h9 (.c h6 (.c h9 (.c h9 (.c h9 (.c h10 (.c h10 (.c h9 (.c h10 (.c h9 (.c h11 .n))))))))))))))))))) (by kernel_rfl)⟩
          · injection h with h; subst h
            exact ⟨by intro e; simp [vint_Reader_Number_4c5f_1_ex] at e, env.code (its := [.br true, .call [none, none] [0] [] false (vint_Reader_take_a34d_R (1 : Int) x2 u3) (vint_Reader_take_a34d_O (1 : Int) x2 u3), .br false, .br true, .br false, .br false, .br false, .br false, .br false, .br false, .br false, .br false, .br false, .br false, .br false, .sel [2] [0]]) (.c h2 (.c (vint_Reader_take_a34d_ok (1 : Int) x2 u3 h4) (.c h5 (.c h6 (.c h7 (.c h6 (.c h8 (.c h9 (.c h9 (.c h6 (.c h9 (.c h9 (.c h9 (.c h10 (.c h10 (.c h9 (.c h10 (.c h9 (.c (rfl : (false : Bool) = false) .n))))))))))))))))))) (by kernel_rfl)⟩
      · injection h with h; subst h
        exact env.code (its := [.br true, .call [none, none] [0] [] false (vint_Reader_take_a34d_R (1 : Int) x2 u3) (vint_Reader_take_a34d_O (1 : Int) x2 u3), .br false, .br false, .sel [0, 3, 4] [0]]) (.c h2 (.c (vint_Reader_take_a34d_ok (1 : Int) x2 u3 h4) (.c h5 (.c h6 (.c h7 (.c h6 (.c h8 .n))))))) (by kernel_rfl)
  · injection h with h; subst h
    exact ⟨by intro e; simp [vint_Reader_Number_4c5f_1_ex] at e, env.code (its := [.br false, .sel [0] [0]]) (.c h2 .n) (by kernel_rfl)⟩
theorem vint_Reader_Number_4c5f_1_ok (x0 : Int) (x1 : Int) (x2 : List UInt8 × Bool × Unit) (o : (Int × List UInt8 × Bool × Unit) ⊕ (List UInt8 × Bool × Unit)) (h : vint_Reader_Number_4c5f_1 x0 x1 x2 = some o) : CodeOK prog (codeAt (bodyOf f36) [1, 1, 0, 1, 0]) (vint_Reader_Number_4c5f_1_in x0 x1 x2) (vint_Reader_Number_4c5f_1_ex o) (vint_Reader_Number_4c5f_1_st o) :=
  LoopOK.of_step (st := fun s => vint_Reader_Number_4c5f_1_in s.1 s.2.1 s.2.2) (ex := vint_Reader_Number_4c5f_1_ex) (stO := vint_Reader_Number_4c5f_1_st) (fun s s2 hs => vint_Reader_Number_4c5f_1_body s.1 s.2.1 s.2.2 (.inl s2) hs) (fun s r hs => vint_Reader_Number_4c5f_1_body s.1 s.2.1 s.2.2 (.inr r) hs) _ o h
def vint_Reader_Number_4c5f_R (a0 : List UInt8 × Bool × Unit) (u : Int × List UInt8 × Bool × Unit) : Slot := (.v (.int .i64) u.1)
def vint_Reader_Number_4c5f_O (a0 : List UInt8 × Bool × Unit) (u : Int × List UInt8 × Bool × Unit) : List AObj := [.box (.fld (.slice (.int .u8)) (.fld .bool .unit)) (.v (.fld (.slice (.int .u8)) (.fld .bool .unit)) u.2) true]
theorem vint_Reader_Number_4c5f_ok (a0 : List UInt8 × Bool × Unit) (u : Int × List UInt8 × Bool × Unit) (h : vint_Reader_Number_4c5f a0 = some u) : CallC prog 36 [(.ptr 0 [])] [.box (.fld (.slice (.int .u8)) (.fld .bool .unit)) (.v (.fld (.slice (.int .u8)) (.fld .bool .unit)) a0) true] (vint_Reader_Number_4c5f_R a0 u) (vint_Reader_Number_4c5f_O a0 u) := by
  unfold vint_Reader_Number_4c5f at h
  obtain ⟨o12, h13, h⟩ := andThen_some h
  rcases o12 with o14 | o15
  · injection h with h; subst h
    exact env.fun func36 can36 (its := [.dive, .sel [0, 3, 4] [0], .part (vint_Reader_Number_4c5f_1_ex (.inl o14)) (vint_Reader_Number_4c5f_1_st (.inl o14))]) (pos := [.sel [0]]) (.c (vint_Reader_Number_4c5f_1_ok (0 : Int) (0 : Int) a0 (.inl o14) h13) .n) (by kernel_rfl)
  · injection h with h; subst h
    exact env.fun func36 can36 (its := [.dive, .sel [0, 3, 4] [0], .part (vint_Reader_Number_4c5f_1_ex (.inr o15)) (vint_Reader_Number_4c5f_1_st (.inr o15))]) (pos := [.sel [0]]) (.c (vint_Reader_Number_4c5f_1_ok (0 : Int) (0 : Int) a0 (.inr o15) h13) .n) (by kernel_rfl)
theorem can37 : Callable prog 37 := ⟨_, func37, by kernel_rfl, by kernel_rfl⟩
def vint_Reader_Hash_4c5f_R (a0 : List UInt8 × Bool × Unit) (u : List UInt8 × List UInt8 × Bool × Unit) : Slot := (.v (.arr 32 (.int .u8)) u.1)
def vint_Reader_Hash_4c5f_O (a0 : List UInt8 × Bool × Unit) (u : List UInt8 × List UInt8 × Bool × Unit) : List AObj := [.box (.fld (.slice (.int .u8)) (.fld .bool .unit)) (.v (.fld (.slice (.int .u8)) (.fld .bool .unit)) u.2) true]
theorem vint_Reader_Hash_4c5f_ok (a0 : List UInt8 × Bool × Unit) (u : List UInt8 × List UInt8 × Bool × Unit) (h : vint_Reader_Hash_4c5f a0 = some u) : CallC prog 37 [(.ptr 0 [])] [.box (.fld (.slice (.int .u8)) (.fld .bool .unit)) (.v (.fld (.slice (.int .u8)) (.fld .bool .unit)) a0) true] (vint_Reader_Hash_4c5f_R a0 u) (vint_Reader_Hash_4c5f_O a0 u) := by
  unfold vint_Reader_Hash_4c5f at h
  obtain ⟨u1, h2, h⟩ := andThen_some h
  injection h with h; subst h
  exact env.fun func37 can37 (its := [.pre [[], [], [1], [0, 1, 2]], .br true, .call [none, none] [0] [] false (vint_Reader_take_a34d_R (32 : Int) a0 u1) (vint_Reader_take_a34d_O (32 : Int) a0 u1)]) (pos := [.sel [0]]) (.c (vint_Reader_take_a34d_ok (32 : Int) a0 u1 h2) .n) (by kernel_rfl)
theorem can38 : Callable prog 38 := ⟨_, func38, by kernel_rfl, by kernel_rfl⟩
def vint_Reader_Done_4c5f_R (a0 : List UInt8 × Bool × Unit) (u : Bool) : Slot := (.v .bool u)
def vint_Reader_Done_4c5f_O (a0 : List UInt8 × Bool × Unit) (u : Bool) : List AObj := [.box (.fld (.slice (.int .u8)) (.fld .bool .unit)) (.v (.fld (.slice (.int .u8)) (.fld .bool .unit)) a0) true]
theorem vint_Reader_Done_4c5f_ok (a0 : List UInt8 × Bool × Unit) (u : Bool) (h : vint_Reader_Done_4c5f a0 = some u) : CallC prog 38 [(.ptr 0 [])] [.box (.fld (.slice (.int .u8)) (.fld .bool .unit)) (.v (.fld (.slice (.int .u8)) (.fld .bool .unit)) a0) true] (vint_Reader_Done_4c5f_R a0 u) (vint_Reader_Done_4c5f_O a0 u) := by
  unfold vint_Reader_Done_4c5f at h
  rcases fork_some h with ⟨h1, h⟩ | ⟨h1, h⟩
  · injection h with h; subst h
    exact env.fun func38 can38 (its := [.br true, .br true, .br true, .br true, .br true, .br true, .br true]) (pos := [.sel [0]]) (.c h1 (.c h1 (.c h1 (.c h1 (.c h1 (.c h1 (.c h1 .n))))))) (by kernel_rfl)
  · injection h with h; subst h
    exact env.fun func38 can38 (its := [.br false, .br false, .br false, .br false, .br false, .br false, .br false]) (pos := [.sel [0]]) (.c h1 (.c h1 (.c h1 (.c h1 (.c h1 (.c h1 (.c h1 .n))))))) (by kernel_rfl)
theorem can12 : Callable prog 12 := ⟨_, func12, by kernel_rfl, by kernel_rfl⟩
def head_Read_R (a0 : List UInt8) (u : (Int × Int × List UInt8 × List UInt8 × List UInt8 × List UInt8 × Unit) × Int) : Slot := (.tup (.v (.fld (.int .i64) (.fld (.int .i64) (.fld (.arr 32 (.int .u8)) (.fld (.arr 32 (.int .u8)) (.fld (.arr 32 (.int .u8)) (.fld (.arr 32 (.int .u8)) .unit)))))) u.1) (.tup (.v (.int .i64) u.2) .tnil))
def head_Read_O (a0 : List UInt8) (u : (Int × Int × List UInt8 × List UInt8 × List UInt8 × List UInt8 × Unit) × Int) : List AObj := []
theorem head_Read_ok (a0 : List UInt8) (u : (Int × Int × List UInt8 × List UInt8 × List UInt8 × List UInt8 × Unit) × Int) (h : head_Read a0 = some u) : CallC prog 12 [(.v (.slice (.int .u8)) a0)] [] (head_Read_R a0 u) (head_Read_O a0 u) := by
  unfold head_Read at h
  obtain ⟨u1, h2, h⟩ := andThen_some h
  obtain ⟨u3, h4, h⟩ := andThen_some h
  obtain ⟨u5, h6, h⟩ := andThen_some h
  obtain ⟨u7, h8, h⟩ := andThen_some h
  obtain ⟨u9, h10, h⟩ := andThen_some h
  obtain ⟨u11, h12, h⟩ := andThen_some h
  obtain ⟨u13, h14, h⟩ := andThen_some h
  obtain ⟨u15, h16, h⟩ := andThen_some h
  rcases fork_some h with ⟨h17, h⟩ | ⟨h17, h⟩
  · injection h with h; subst h
    exact env.fun func12 can12 (its := [.call [none] [] [] false (vint_Read_R a0 u1) (vint_Read_O a0 u1), .call [none] [1] [] false (vint_Reader_Number_4c5f_R u1 u3) (vint_Reader_Number_4c5f_O u1 u3), .call [none] [1] [] false (vint_Reader_Number_4c5f_R u3.2 u5) (vint_Reader_Number_4c5f_O u3.2 u5), .call [none] [1] [] false (vint_Reader_Hash_4c5f_R u5.2 u7) (vint_Reader_Hash_4c5f_O u5.2 u7), .call [none] [1] [] false (vint_Reader_Hash_4c5f_R u7.2 u9) (vint_Reader_Hash_4c5f_O u7.2 u9), .call [none] [1] [] false (vint_Reader_Hash_4c5f_R u9.2 u11) (vint_Reader_Hash_4c5f_O u9.2 u11), .call [none] [1] [] false (vint_Reader_Hash_4c5f_R u11.2 u13) (vint_Reader_Hash_4c5f_O u11.2 u13), .call [none] [1] [] false (vint_Reader_Done_4c5f_R u13.2 u15) (vint_Reader_Done_4c5f_O u13.2 u15), .br true, .br true, .br true, .br true, .br true]) (pos := [.sel []]) (.c (vint_Read_ok a0 u1 h2) (.c (vint_Reader_Number_4c5f_ok u1 u3 h4) (.c (vint_Reader_Number_4c5f_ok u3.2 u5 h6) (.c (vint_Reader_Hash_4c5f_ok u5.2 u7 h8) (.c (vint_Reader_Hash_4c5f_ok u7.2 u9 h10) (.c (vint_Reader_Hash_4c5f_ok u9.2 u11 h12) (.c (vint_Reader_Hash_4c5f_ok u11.2 u13 h14) (.c (vint_Reader_Done_4c5f_ok u13.2 u15 h16) (.c h17 (.c h17 (.c h17 (.c h17 (.c (rfl : (true : Bool) = true) .n))))))))))))) (by kernel_rfl)
  · obtain ⟨u18, h19, h⟩ := andThen_some h
    rcases fork_some h with ⟨h20, h⟩ | ⟨h20, h⟩
    · injection h with h; subst h
      exact env.fun func12 can12 (its := [.call [none] [] [] false (vint_Read_R a0 u1) (vint_Read_O a0 u1), .call [none] [1] [] false (vint_Reader_Number_4c5f_R u1 u3) (vint_Reader_Number_4c5f_O u1 u3), .call [none] [1] [] false (vint_Reader_Number_4c5f_R u3.2 u5) (vint_Reader_Number_4c5f_O u3.2 u5), .call [none] [1] [] false (vint_Reader_Hash_4c5f_R u5.2 u7) (vint_Reader_Hash_4c5f_O u5.2 u7), .call [none] [1] [] false (vint_Reader_Hash_4c5f_R u7.2 u9) (vint_Reader_Hash_4c5f_O u7.2 u9), .call [none] [1] [] false (vint_Reader_Hash_4c5f_R u9.2 u11) (vint_Reader_Hash_4c5f_O u9.2 u11), .call [none] [1] [] false (vint_Reader_Hash_4c5f_R u11.2 u13) (vint_Reader_Hash_4c5f_O u11.2 u13), .call [none] [1] [] false (vint_Reader_Done_4c5f_R u13.2 u15) (vint_Reader_Done_4c5f_O u13.2 u15), .br false, .br false, .call [none] [] [] true (head_Right_R (u3.1, u5.1, u7.1, u9.1, u11.1, u13.1, ()) u18) (head_Right_O (u3.1, u5.1, u7.1, u9.1, u11.1, u13.1, ()) u18), .br false, .br false, .br true]) (pos := [.sel []]) (.c (vint_Read_ok a0 u1 h2) (.c (vint_Reader_Number_4c5f_ok u1 u3 h4) (.c (vint_Reader_Number_4c5f_ok u3.2 u5 h6) (.c (vint_Reader_Hash_4c5f_ok u5.2 u7 h8) (.c (vint_Reader_Hash_4c5f_ok u7.2 u9 h10) (.c (vint_Reader_Hash_4c5f_ok u9.2 u11 h12) (.c (vint_Reader_Hash_4c5f_ok u11.2 u13 h14) (.c (vint_Reader_Done_4c5f_ok u13.2 u15 h16) (.c h17 (.c h17 (.c (head_Right_ok (u3.1, u5.1, u7.1, u9.1, u11.1, u13.1, ()) u18 h19) (.c h17 (.c h17 (.c h20 .n)))))))))))))) (by kernel_rfl)
    · injection h with h; subst h
      exact env.fun func12 can12 (its := [.call [none] [] [] false (vint_Read_R a0 u1) (vint_Read_O a0 u1), .call [none] [1] [] false (vint_Reader_Number_4c5f_R u1 u3) (vint_Reader_Number_4c5f_O u1 u3), .call [none] [1] [] false (vint_Reader_Number_4c5f_R u3.2 u5) (vint_Reader_Number_4c5f_O u3.2 u5), .call [none] [1] [] false (vint_Reader_Hash_4c5f_R u5.2 u7) (vint_Reader_Hash_4c5f_O u5.2 u7), .call [none] [1] [] false (vint_Reader_Hash_4c5f_R u7.2 u9) (vint_Reader_Hash_4c5f_O u7.2 u9), .call [none] [1] [] false (vint_Reader_Hash_4c5f_R u9.2 u11) (vint_Reader_Hash_4c5f_O u9.2 u11), .call [none] [1] [] false (vint_Reader_Hash_4c5f_R u11.2 u13) (vint_Reader_Hash_4c5f_O u11.2 u13), .call [none] [1] [] false (vint_Reader_Done_4c5f_R u13.2 u15) (vint_Reader_Done_4c5f_O u13.2 u15), .br false, .br false, .call [none] [] [] true (head_Right_R (u3.1, u5.1, u7.1, u9.1, u11.1, u13.1, ()) u18) (head_Right_O (u3.1, u5.1, u7.1, u9.1, u11.1, u13.1, ()) u18), .br false, .br false, .br false]) (pos := [.sel []]) (.c (vint_Read_ok a0 u1 h2) (.c (vint_Reader_Number_4c5f_ok u1 u3 h4) (.c (vint_Reader_Number_4c5f_ok u3.2 u5 h6) (.c (vint_Reader_Hash_4c5f_ok u5.2 u7 h8) (.c (vint_Reader_Hash_4c5f_ok u7.2 u9 h10) (.c (vint_Reader_Hash_4c5f_ok u9.2 u11 h12) (.c (vint_Reader_Hash_4c5f_ok u11.2 u13 h14) (.c (vint_Reader_Done_4c5f_ok u13.2 u15 h16) (.c h17 (.c h17 (.c (head_Right_ok (u3.1, u5.1, u7.1, u9.1, u11.1, u13.1, ()) u18 h19) (.c h17 (.c h17 (.c h20 .n)))))))))))))) (by kernel_rfl)
theorem can3 : Callable prog 3 := ⟨_, func3, by kernel_rfl, by kernel_rfl⟩
def affiantlaw11_HeadRuns_R  (u : Bool) : Slot := (.v .bool u)
def affiantlaw11_HeadRuns_O  (u : Bool) : List AObj := []
theorem affiantlaw11_HeadRuns_ok  (u : Bool) (h : affiantlaw11_HeadRuns  = some u) : CallC prog 3 [] [] (affiantlaw11_HeadRuns_R u) (affiantlaw11_HeadRuns_O u) := by
  unfold affiantlaw11_HeadRuns at h
  obtain ⟨u1, h2, h⟩ := andThen_some h
  obtain ⟨u3, h4, h⟩ := andThen_some h
  rcases fork_some h with ⟨h5, h⟩ | ⟨h5, h⟩
  · obtain ⟨h6, h⟩ := need_some h
    rcases fork_some h with ⟨h7, h⟩ | ⟨h7, h⟩
    · obtain ⟨h8, h⟩ := need_some h
      rcases fork_some h with ⟨h9, h⟩ | ⟨h9, h⟩
      · obtain ⟨h10, h⟩ := need_some h
        rcases fork_some h with ⟨h11, h⟩ | ⟨h11, h⟩
        · rcases fork_some h with ⟨h12, h⟩ | ⟨h12, h⟩
          · obtain ⟨u13, h14, h⟩ := andThen_some h
            injection h with h; subst h
            exact env.fun func3 can3 (its := [.call [none] [] [] true (head_Bytes_R ((3 : Int), (200 : Int), (List.replicate 32 (0 : UInt8)), (List.replicate 32 (0 : UInt8)), (List.replicate 32 (0 : UInt8)), (List.replicate 32 (0 : UInt8)), ()) u1) (head_Bytes_O ((3 : Int), (200 : Int), (List.replicate 32 (0 : UInt8)), (List.replicate 32 (0 : UInt8)), (List.replicate 32 (0 : UInt8)), (List.replicate 32 (0 : UInt8)), ()) u1), .call [none] [] [1] true (head_Read_R ([(3 : UInt8)] : List (UInt8)) u3) (head_Read_O ([(3 : UInt8)] : List (UInt8)) u3), .br true, .br true, .br true, .br true, .br true, .br true, .br true, .br true, .br true, .br true, .br true, .br true, .br true, .br true, .br true, .br true, .br true, .br true, .br true, .br true, .call [none] [] [] true (head_Right_R ((0 : Int), (0 : Int), (List.replicate 32 (0 : UInt8)), (List.replicate 32 (0 : UInt8)), (List.replicate 32 (0 : UInt8)), (List.replicate 32 (0 : UInt8)), ()) u13) (head_Right_O ((0 : Int), (0 : Int), (List.replicate 32 (0 : UInt8)), (List.replicate 32 (0 : UInt8)), (List.replicate 32 (0 : UInt8)), (List.replicate 32 (0 : UInt8)), ()) u13), .br true, .br true]) (pos := [.sel []]) (.c (head_Bytes_ok ((3 : Int), (200 : Int), (List.replicate 32 (0 : UInt8)), (List.replicate 32 (0 : UInt8)), (List.replicate 32 (0 : UInt8)), (List.replicate 32 (0 : UInt8)), ()) u1 h2) (.c (head_Read_ok ([(3 : UInt8)] : List (UInt8)) u3 h4) (.c h5 (.c h5 (.c h6 (.c h5 (.c h5 (.c h5 (.c h7 (.c h7 (.c h8 (.c h7 (.c h7 (.c h7 (.c h9 (.c h9 (.c h10 (.c h9 (.c h9 (.c h9 (.c h11 (.c h11 (.c h11 (.c h12 (.c h12 (.c (head_Right_ok ((0 : Int), (0 : Int), (List.replicate 32 (0 : UInt8)), (List.replicate 32 (0 : UInt8)), (List.replicate 32 (0 : UInt8)), (List.replicate 32 (0 : UInt8)), ()) u13 h14) (.c h12 (.c h12 .n)))))))))))))))))))))))))))) (by kernel_rfl)
          · cases h
        · cases h
      · cases h
    · cases h
  · cases h
theorem can16 : Callable prog 16 := ⟨_, func16, by kernel_rfl, by kernel_rfl⟩
def affiantbook_Same_byte_1_in (x0 : List UInt8) (x1 : List UInt8) (x2 : Int) : St := ⟨[(0, (.v (.slice (.int .u8)) x0)), (1, (.v (.slice (.int .u8)) x1)), (5, (.v (.int .i64) x2))], [], 26, 0⟩
def affiantbook_Same_byte_1_ex (o : (Bool) ⊕ (Unit)) : Exit := match o with | (.inl o) => .ret | (.inr o) => (.exit 0)
def affiantbook_Same_byte_1_st (o : (Bool) ⊕ (Unit)) : St := match o with | (.inl o) => ⟨[(4, (.v .bool o))], [], 26, 0⟩ | (.inr o) => ⟨[], [], 26, 0⟩
theorem affiantbook_Same_byte_1_body (x0 : List UInt8) (x1 : List UInt8) (x2 : Int) : ∀ r, affiantbook_Same_byte_1_step x0 x1 x2 = some r → (match r with | .inl s => CodeOK prog (codeAt (bodyOf f16) [1, 1, 0, 1, 0, 0]) (affiantbook_Same_byte_1_in x0 x1 x2) .normal (affiantbook_Same_byte_1_in x0 x1 s) | .inr o => affiantbook_Same_byte_1_ex o ≠ .normal ∧ CodeOK prog (codeAt (bodyOf f16) [1, 1, 0, 1, 0, 0]) (affiantbook_Same_byte_1_in x0 x1 x2) (affiantbook_Same_byte_1_ex o) (affiantbook_Same_byte_1_st o)) := by
  intro r h
  unfold affiantbook_Same_byte_1_step at h
  rcases fork_some h with ⟨h3, h⟩ | ⟨h3, h⟩
  · obtain ⟨h4, h⟩ := need_some h
    obtain ⟨h5, h⟩ := need_some h
    rcases fork_some h with ⟨h6, h⟩ | ⟨h6, h⟩
    · injection h with h; subst h
      exact ⟨by intro e; simp [affiantbook_Same_byte_1_ex] at e, env.code (its := [.br true, .pre [[], [], [0, 1], [0, 1, 2], [], [], [4, 5], [4, 5, 6], [0, 1, 2, 3, 4, 5, 6, 7]], .br true, .sel [4] []]) (.c h3 (.c h4 (.c h5 (.c h6 .n)))) (by kernel_rfl)⟩
    · injection h with h; subst h
      exact env.code (its := [.br true, .pre [[], [], [0, 1], [0, 1, 2], [], [], [4, 5], [4, 5, 6], [0, 1, 2, 3, 4, 5, 6, 7]], .br false, .sel [0, 1, 5] []]) (.c h3 (.c h4 (.c h5 (.c h6 .n)))) (by kernel_rfl)
  · injection h with h; subst h
    exact ⟨by intro e; simp [affiantbook_Same_byte_1_ex] at e, env.code (its := [.br false, .sel [] []]) (.c h3 .n) (by kernel_rfl)⟩
theorem affiantbook_Same_byte_1_ok (x0 : List UInt8) (x1 : List UInt8) (x2 : Int) (o : (Bool) ⊕ (Unit)) (h : affiantbook_Same_byte_1 x0 x1 x2 = some o) : CodeOK prog (codeAt (bodyOf f16) [1, 1, 0, 1, 0]) (affiantbook_Same_byte_1_in x0 x1 x2) (affiantbook_Same_byte_1_ex o) (affiantbook_Same_byte_1_st o) :=
  LoopOK.of_step (st := fun s => affiantbook_Same_byte_1_in x0 x1 s) (ex := affiantbook_Same_byte_1_ex) (stO := affiantbook_Same_byte_1_st) (fun s s2 hs => affiantbook_Same_byte_1_body x0 x1 s (.inl s2) hs) (fun s r hs => affiantbook_Same_byte_1_body x0 x1 s (.inr r) hs) _ o h
def affiantbook_Same_byte_R (a0 : List UInt8) (a1 : List UInt8) (u : Bool) : Slot := (.v .bool u)
def affiantbook_Same_byte_O (a0 : List UInt8) (a1 : List UInt8) (u : Bool) : List AObj := []
theorem affiantbook_Same_byte_ok (a0 : List UInt8) (a1 : List UInt8) (u : Bool) (h : affiantbook_Same_byte a0 a1 = some u) : CallC prog 16 [(.v (.slice (.int .u8)) a0), (.v (.slice (.int .u8)) a1)] [] (affiantbook_Same_byte_R a0 a1 u) (affiantbook_Same_byte_O a0 a1 u) := by
  unfold affiantbook_Same_byte at h
  rcases fork_some h with ⟨h1, h⟩ | ⟨h1, h⟩
  · injection h with h; subst h
    exact env.fun func16 can16 (its := [.br true]) (pos := [.sel []]) (.c h1 .n) (by kernel_rfl)
  · obtain ⟨o7, h8, h⟩ := andThen_some h
    rcases o7 with o9 | o10
    · injection h with h; subst h
      exact env.fun func16 can16 (its := [.br false, .dive, .sel [0, 1, 5] [], .part (affiantbook_Same_byte_1_ex (.inl o9)) (affiantbook_Same_byte_1_st (.inl o9))]) (pos := [.sel []]) (.c h1 (.c (affiantbook_Same_byte_1_ok a0 a1 (0 : Int) (.inl o9) h8) .n)) (by kernel_rfl)
    · injection h with h; subst h
      exact env.fun func16 can16 (its := [.br false, .dive, .sel [0, 1, 5] [], .part (affiantbook_Same_byte_1_ex (.inr o10)) (affiantbook_Same_byte_1_st (.inr o10))]) (pos := [.sel []]) (.c h1 (.c (affiantbook_Same_byte_1_ok a0 a1 (0 : Int) (.inr o10) h8) .n)) (by kernel_rfl)
theorem can4 : Callable prog 4 := ⟨_, func4, by kernel_rfl, by kernel_rfl⟩
def affiantlaw11_HeadOnly_R (a0 : Int × Int × Int × Int × Int × Int × Unit) (a1 : List UInt8) (a2 : Int) (a3 : UInt8) (a4 : Int) (u : Bool) : Slot := (.v .bool u)
def affiantlaw11_HeadOnly_O (a0 : Int × Int × Int × Int × Int × Int × Unit) (a1 : List UInt8) (a2 : Int) (a3 : UInt8) (a4 : Int) (u : Bool) : List AObj := []
theorem affiantlaw11_HeadOnly_ok (a0 : Int × Int × Int × Int × Int × Int × Unit) (a1 : List UInt8) (a2 : Int) (a3 : UInt8) (a4 : Int) (u : Bool) (h : affiantlaw11_HeadOnly a0 a1 a2 a3 a4 = some u) : CallC prog 4 [(.v (.fld (.int .i64) (.fld (.int .i64) (.fld (.int .i64) (.fld (.int .i64) (.fld (.int .i64) (.fld (.int .i64) .unit)))))) a0), (.v (.slice (.int .u8)) a1), (.v (.int .i64) a2), (.v (.int .u8) a3), (.v (.int .i64) a4)] [] (affiantlaw11_HeadOnly_R a0 a1 a2 a3 a4 u) (affiantlaw11_HeadOnly_O a0 a1 a2 a3 a4 u) := by
  unfold affiantlaw11_HeadOnly at h
  obtain ⟨u1, h2, h⟩ := andThen_some h
  obtain ⟨u3, h4, h⟩ := andThen_some h
  obtain ⟨h5, h⟩ := need_some h
  rcases fork_some h with ⟨h6, h⟩ | ⟨h6, h⟩
  · cases h
  · obtain ⟨u7, h8, h⟩ := andThen_some h
    rcases fork_some h with ⟨h9, h⟩ | ⟨h9, h⟩
    · obtain ⟨h10, h⟩ := need_some h
      obtain ⟨u11, h12, h⟩ := andThen_some h
      rcases fork_some h with ⟨h13, h⟩ | ⟨h13, h⟩
      · rcases fork_some h with ⟨h14, h⟩ | ⟨h14, h⟩
        · rcases fork_some h with ⟨h15, h⟩ | ⟨h15, h⟩
          · obtain ⟨u16, h17, h⟩ := andThen_some h
            injection h with h; subst h
            exact env.fun func4 can4 (its := [.call [none] [] [] true (affiantkeep_Head_Header_R a0 u1) (affiantkeep_Head_Header_O a0 u1), .call [none] [] [] true (head_Bytes_R u1 u3) (head_Bytes_O u1 u3), .br false, .call [none, none, none] [] [] true (affiantbook_Within_R a2 (0 : Int) (w64 ((List.length (([] : List (UInt8)) ++ u3) : Int) - (1 : Int))) u7) (affiantbook_Within_O a2 (0 : Int) (w64 ((List.length (([] : List (UInt8)) ++ u3) : Int) - (1 : Int))) u7), .br true, .call [none] [] [3] true (head_Read_R (List.set (([] : List (UInt8)) ++ u3) (Int.toNat u7) ((List.getD (([] : List (UInt8)) ++ u3) (Int.toNat u7) (0 : UInt8)) ^^^ a3)) u11) (head_Read_O (List.set (([] : List (UInt8)) ++ u3) (Int.toNat u7) ((List.getD (([] : List (UInt8)) ++ u3) (Int.toNat u7) (0 : UInt8)) ^^^ a3)) u11), .br true, .br true, .br true, .br true, .br true, .br true, .call [] [] [] true (affiantlaw11_HeadRuns_R u16) (affiantlaw11_HeadRuns_O u16), .br true]) (pos := [.sel []]) (.c (affiantkeep_Head_Header_ok a0 u1 h2) (.c (head_Bytes_ok u1 u3 h4) (.c h5 (.c h6 (.c (affiantbook_Within_ok a2 (0 : Int) (w64 ((List.length (([] : List (UInt8)) ++ u3) : Int) - (1 : Int))) u7 h8) (.c h9 (.c h10 (.c h10 (.c (head_Read_ok (List.set (([] : List (UInt8)) ++ u3) (Int.toNat u7) ((List.getD (([] : List (UInt8)) ++ u3) (Int.toNat u7) (0 : UInt8)) ^^^ a3)) u11 h12) (.c h13 (.c h14 (.c h14 (.c h14 (.c h14 (.c h15 (.c (affiantlaw11_HeadRuns_ok u16 h17) (.c h15 .n))))))))))))))))) (by kernel_rfl)
          · cases h
        · cases h
      · obtain ⟨u18, h19, h⟩ := andThen_some h
        obtain ⟨u20, h21, h⟩ := andThen_some h
        rcases fork_some h with ⟨h22, h⟩ | ⟨h22, h⟩
        · obtain ⟨u23, h24, h⟩ := andThen_some h
          rcases fork_some h with ⟨h25, h⟩ | ⟨h25, h⟩
          · obtain ⟨u26, h27, h⟩ := andThen_some h
            injection h with h; subst h
            exact env.fun func4 can4 (its := [.call [none] [] [] true (affiantkeep_Head_Header_R a0 u1) (affiantkeep_Head_Header_O a0 u1), .call [none] [] [] true (head_Bytes_R u1 u3) (head_Bytes_O u1 u3), .br false, .call [none, none, none] [] [] true (affiantbook_Within_R a2 (0 : Int) (w64 ((List.length (([] : List (UInt8)) ++ u3) : Int) - (1 : Int))) u7) (affiantbook_Within_O a2 (0 : Int) (w64 ((List.length (([] : List (UInt8)) ++ u3) : Int) - (1 : Int))) u7), .br true, .call [none] [] [3] true (head_Read_R (List.set (([] : List (UInt8)) ++ u3) (Int.toNat u7) ((List.getD (([] : List (UInt8)) ++ u3) (Int.toNat u7) (0 : UInt8)) ^^^ a3)) u11) (head_Read_O (List.set (([] : List (UInt8)) ++ u3) (Int.toNat u7) ((List.getD (([] : List (UInt8)) ++ u3) (Int.toNat u7) (0 : UInt8)) ^^^ a3)) u11), .br false, .call [none] [] [] true (head_Bytes_R u11.1 u18) (head_Bytes_O u11.1 u18), .call [none, none] [] [5, 3] true (affiantbook_Same_byte_R u18 (List.set (([] : List (UInt8)) ++ u3) (Int.toNat u7) ((List.getD (([] : List (UInt8)) ++ u3) (Int.toNat u7) (0 : UInt8)) ^^^ a3)) u20) (affiantbook_Same_byte_O u18 (List.set (([] : List (UInt8)) ++ u3) (Int.toNat u7) ((List.getD (([] : List (UInt8)) ++ u3) (Int.toNat u7) (0 : UInt8)) ^^^ a3)) u20), .br true, .br true, .call [none] [] [] true (head_Right_R u11.1 u23) (head_Right_O u11.1 u23), .br true, .br true, .call [] [] [] true (affiantlaw11_HeadRuns_R u26) (affiantlaw11_HeadRuns_O u26), .br true]) (pos := [.sel []]) (.c (affiantkeep_Head_Header_ok a0 u1 h2) (.c (head_Bytes_ok u1 u3 h4) (.c h5 (.c h6 (.c (affiantbook_Within_ok a2 (0 : Int) (w64 ((List.length (([] : List (UInt8)) ++ u3) : Int) - (1 : Int))) u7 h8) (.c h9 (.c h10 (.c h10 (.c (head_Read_ok (List.set (([] : List (UInt8)) ++ u3) (Int.toNat u7) ((List.getD (([] : List (UInt8)) ++ u3) (Int.toNat u7) (0 : UInt8)) ^^^ a3)) u11 h12) (.c h13 (.c (head_Bytes_ok u11.1 u18 h19) (.c (affiantbook_Same_byte_ok u18 (List.set (([] : List (UInt8)) ++ u3) (Int.toNat u7) ((List.getD (([] : List (UInt8)) ++ u3) (Int.toNat u7) (0 : UInt8)) ^^^ a3)) u20 h21) (.c h22 (.c h22 (.c (head_Right_ok u11.1 u23 h24) (.c h22 (.c h25 (.c (affiantlaw11_HeadRuns_ok u26 h27) (.c h25 .n))))))))))))))))))) (by kernel_rfl)
          · cases h
        · cases h
    · rcases fork_some h with ⟨h28, h⟩ | ⟨h28, h⟩
      · obtain ⟨h29, h⟩ := need_some h
        obtain ⟨u30, h31, h⟩ := andThen_some h
        rcases fork_some h with ⟨h32, h⟩ | ⟨h32, h⟩
        · rcases fork_some h with ⟨h33, h⟩ | ⟨h33, h⟩
          · rcases fork_some h with ⟨h34, h⟩ | ⟨h34, h⟩
            · obtain ⟨u35, h36, h⟩ := andThen_some h
              injection h with h; subst h
              exact env.fun func4 can4 (its := [.call [none] [] [] true (affiantkeep_Head_Header_R a0 u1) (affiantkeep_Head_Header_O a0 u1), .call [none] [] [] true (head_Bytes_R u1 u3) (head_Bytes_O u1 u3), .br false, .call [none, none, none] [] [] true (affiantbook_Within_R a2 (0 : Int) (w64 ((List.length (([] : List (UInt8)) ++ u3) : Int) - (1 : Int))) u7) (affiantbook_Within_O a2 (0 : Int) (w64 ((List.length (([] : List (UInt8)) ++ u3) : Int) - (1 : Int))) u7), .br false, .br true, .br false, .call [none] [] [] true (head_Read_R (cutL (([] : List (UInt8)) ++ u3) (0 : Int) u7) u30) (head_Read_O (cutL (([] : List (UInt8)) ++ u3) (0 : Int) u7) u30), .br true, .br true, .br true, .br true, .br true, .br true, .call [] [] [] true (affiantlaw11_HeadRuns_R u35) (affiantlaw11_HeadRuns_O u35), .br true]) (pos := [.sel []]) (.c (affiantkeep_Head_Header_ok a0 u1 h2) (.c (head_Bytes_ok u1 u3 h4) (.c h5 (.c h6 (.c (affiantbook_Within_ok a2 (0 : Int) (w64 ((List.length (([] : List (UInt8)) ++ u3) : Int) - (1 : Int))) u7 h8) (.c h9 (.c h28 (.c h29 (.c (head_Read_ok (cutL (([] : List (UInt8)) ++ u3) (0 : Int) u7) u30 h31) (.c h32 (.c h33 (.c h33 (.c h33 (.c h33 (.c h34 (.c (affiantlaw11_HeadRuns_ok u35 h36) (.c h34 .n))))))))))))))))) (by kernel_rfl)
            · cases h
          · cases h
        · obtain ⟨u37, h38, h⟩ := andThen_some h
          obtain ⟨u39, h40, h⟩ := andThen_some h
          rcases fork_some h with ⟨h41, h⟩ | ⟨h41, h⟩
          · obtain ⟨u42, h43, h⟩ := andThen_some h
            rcases fork_some h with ⟨h44, h⟩ | ⟨h44, h⟩
            · obtain ⟨u45, h46, h⟩ := andThen_some h
              injection h with h; subst h
              exact env.fun func4 can4 (its := [.call [none] [] [] true (affiantkeep_Head_Header_R a0 u1) (affiantkeep_Head_Header_O a0 u1), .call [none] [] [] true (head_Bytes_R u1 u3) (head_Bytes_O u1 u3), .br false, .call [none, none, none] [] [] true (affiantbook_Within_R a2 (0 : Int) (w64 ((List.length (([] : List (UInt8)) ++ u3) : Int) - (1 : Int))) u7) (affiantbook_Within_O a2 (0 : Int) (w64 ((List.length (([] : List (UInt8)) ++ u3) : Int) - (1 : Int))) u7), .br false, .br true, .br false, .call [none] [] [] true (head_Read_R (cutL (([] : List (UInt8)) ++ u3) (0 : Int) u7) u30) (head_Read_O (cutL (([] : List (UInt8)) ++ u3) (0 : Int) u7) u30), .br false, .call [none] [] [] true (head_Bytes_R u30.1 u37) (head_Bytes_O u30.1 u37), .call [none, none] [] [5] true (affiantbook_Same_byte_R u37 (cutL (([] : List (UInt8)) ++ u3) (0 : Int) u7) u39) (affiantbook_Same_byte_O u37 (cutL (([] : List (UInt8)) ++ u3) (0 : Int) u7) u39), .br true, .br true, .call [none] [] [] true (head_Right_R u30.1 u42) (head_Right_O u30.1 u42), .br true, .br true, .call [] [] [] true (affiantlaw11_HeadRuns_R u45) (affiantlaw11_HeadRuns_O u45), .br true]) (pos := [.sel []]) (.c (affiantkeep_Head_Header_ok a0 u1 h2) (.c (head_Bytes_ok u1 u3 h4) (.c h5 (.c h6 (.c (affiantbook_Within_ok a2 (0 : Int) (w64 ((List.length (([] : List (UInt8)) ++ u3) : Int) - (1 : Int))) u7 h8) (.c h9 (.c h28 (.c h29 (.c (head_Read_ok (cutL (([] : List (UInt8)) ++ u3) (0 : Int) u7) u30 h31) (.c h32 (.c (head_Bytes_ok u30.1 u37 h38) (.c (affiantbook_Same_byte_ok u37 (cutL (([] : List (UInt8)) ++ u3) (0 : Int) u7) u39 h40) (.c h41 (.c h41 (.c (head_Right_ok u30.1 u42 h43) (.c h41 (.c h44 (.c (affiantlaw11_HeadRuns_ok u45 h46) (.c h44 .n))))))))))))))))))) (by kernel_rfl)
            · cases h
          · cases h
      · rcases fork_some h with ⟨h47, h⟩ | ⟨h47, h⟩
        · obtain ⟨h48, h⟩ := need_some h
          obtain ⟨h49, h⟩ := need_some h
          obtain ⟨u50, h51, h⟩ := andThen_some h
          rcases fork_some h with ⟨h52, h⟩ | ⟨h52, h⟩
          · rcases fork_some h with ⟨h53, h⟩ | ⟨h53, h⟩
            · rcases fork_some h with ⟨h54, h⟩ | ⟨h54, h⟩
              · obtain ⟨u55, h56, h⟩ := andThen_some h
                injection h with h; subst h
                exact env.fun func4 can4 (its := [.call [none] [] [] true (affiantkeep_Head_Header_R a0 u1) (affiantkeep_Head_Header_O a0 u1), .call [none] [] [] true (head_Bytes_R u1 u3) (head_Bytes_O u1 u3), .br false, .call [none, none, none] [] [] true (affiantbook_Within_R a2 (0 : Int) (w64 ((List.length (([] : List (UInt8)) ++ u3) : Int) - (1 : Int))) u7) (affiantbook_Within_O a2 (0 : Int) (w64 ((List.length (([] : List (UInt8)) ++ u3) : Int) - (1 : Int))) u7), .br false, .br false, .br true, .br false, .call [none] [] [4] true (head_Read_R ((([] : List (UInt8)) ++ u3) ++ (cutL a1 (0 : Int) (min (List.length a1 : Int) (5 : Int)))) u50) (head_Read_O ((([] : List (UInt8)) ++ u3) ++ (cutL a1 (0 : Int) (min (List.length a1 : Int) (5 : Int)))) u50), .br true, .br true, .br true, .br true, .br true, .br true, .call [] [] [] true (affiantlaw11_HeadRuns_R u55) (affiantlaw11_HeadRuns_O u55), .br true]) (pos := [.sel []]) (.c (affiantkeep_Head_Header_ok a0 u1 h2) (.c (head_Bytes_ok u1 u3 h4) (.c h5 (.c h6 (.c (affiantbook_Within_ok a2 (0 : Int) (w64 ((List.length (([] : List (UInt8)) ++ u3) : Int) - (1 : Int))) u7 h8) (.c h9 (.c h28 (.c h47 (.c h48 (.c h49 (.c (head_Read_ok ((([] : List (UInt8)) ++ u3) ++ (cutL a1 (0 : Int) (min (List.length a1 : Int) (5 : Int)))) u50 h51) (.c h52 (.c h53 (.c h53 (.c h53 (.c h53 (.c h54 (.c (affiantlaw11_HeadRuns_ok u55 h56) (.c h54 .n))))))))))))))))))) (by kernel_rfl)
              · cases h
            · cases h
          · obtain ⟨u57, h58, h⟩ := andThen_some h
            obtain ⟨u59, h60, h⟩ := andThen_some h
            rcases fork_some h with ⟨h61, h⟩ | ⟨h61, h⟩
            · obtain ⟨u62, h63, h⟩ := andThen_some h
              rcases fork_some h with ⟨h64, h⟩ | ⟨h64, h⟩
              · obtain ⟨u65, h66, h⟩ := andThen_some h
                injection h with h; subst h
                exact env.fun func4 can4 (its := [.call [none] [] [] true (affiantkeep_Head_Header_R a0 u1) (affiantkeep_Head_Header_O a0 u1), .call [none] [] [] true (head_Bytes_R u1 u3) (head_Bytes_O u1 u3), .br false, .call [none, none, none] [] [] true (affiantbook_Within_R a2 (0 : Int) (w64 ((List.length (([] : List (UInt8)) ++ u3) : Int) - (1 : Int))) u7) (affiantbook_Within_O a2 (0 : Int) (w64 ((List.length (([] : List (UInt8)) ++ u3) : Int) - (1 : Int))) u7), .br false, .br false, .br true, .br false, .call [none] [] [4] true (head_Read_R ((([] : List (UInt8)) ++ u3) ++ (cutL a1 (0 : Int) (min (List.length a1 : Int) (5 : Int)))) u50) (head_Read_O ((([] : List (UInt8)) ++ u3) ++ (cutL a1 (0 : Int) (min (List.length a1 : Int) (5 : Int)))) u50), .br false, .call [none] [] [] true (head_Bytes_R u50.1 u57) (head_Bytes_O u50.1 u57), .call [none, none] [] [6, 4] true (affiantbook_Same_byte_R u57 ((([] : List (UInt8)) ++ u3) ++ (cutL a1 (0 : Int) (min (List.length a1 : Int) (5 : Int)))) u59) (affiantbook_Same_byte_O u57 ((([] : List (UInt8)) ++ u3) ++ (cutL a1 (0 : Int) (min (List.length a1 : Int) (5 : Int)))) u59), .br true, .br true, .call [none] [] [] true (head_Right_R u50.1 u62) (head_Right_O u50.1 u62), .br true, .br true, .call [] [] [] true (affiantlaw11_HeadRuns_R u65) (affiantlaw11_HeadRuns_O u65), .br true]) (pos := [.sel []]) (.c (affiantkeep_Head_Header_ok a0 u1 h2) (.c (head_Bytes_ok u1 u3 h4) (.c h5 (.c h6 (.c (affiantbook_Within_ok a2 (0 : Int) (w64 ((List.length (([] : List (UInt8)) ++ u3) : Int) - (1 : Int))) u7 h8) (.c h9 (.c h28 (.c h47 (.c h48 (.c h49 (.c (head_Read_ok ((([] : List (UInt8)) ++ u3) ++ (cutL a1 (0 : Int) (min (List.length a1 : Int) (5 : Int)))) u50 h51) (.c h52 (.c (head_Bytes_ok u50.1 u57 h58) (.c (affiantbook_Same_byte_ok u57 ((([] : List (UInt8)) ++ u3) ++ (cutL a1 (0 : Int) (min (List.length a1 : Int) (5 : Int)))) u59 h60) (.c h61 (.c h61 (.c (head_Right_ok u50.1 u62 h63) (.c h61 (.c h64 (.c (affiantlaw11_HeadRuns_ok u65 h66) (.c h64 .n))))))))))))))))))))) (by kernel_rfl)
              · cases h
            · cases h
        · obtain ⟨h67, h⟩ := need_some h
          obtain ⟨h68, h⟩ := need_some h
          obtain ⟨u69, h70, h⟩ := andThen_some h
          rcases fork_some h with ⟨h71, h⟩ | ⟨h71, h⟩
          · rcases fork_some h with ⟨h72, h⟩ | ⟨h72, h⟩
            · rcases fork_some h with ⟨h73, h⟩ | ⟨h73, h⟩
              · obtain ⟨u74, h75, h⟩ := andThen_some h
                injection h with h; subst h
                exact env.fun func4 can4 (its := [.call [none] [] [] true (affiantkeep_Head_Header_R a0 u1) (affiantkeep_Head_Header_O a0 u1), .call [none] [] [] true (head_Bytes_R u1 u3) (head_Bytes_O u1 u3), .br false, .call [none, none, none] [] [] true (affiantbook_Within_R a2 (0 : Int) (w64 ((List.length (([] : List (UInt8)) ++ u3) : Int) - (1 : Int))) u7) (affiantbook_Within_O a2 (0 : Int) (w64 ((List.length (([] : List (UInt8)) ++ u3) : Int) - (1 : Int))) u7), .br false, .br false, .br false, .br false, .call [none] [] [5] true (head_Read_R (([] : List (UInt8)) ++ (cutL a1 (0 : Int) (min (List.length a1 : Int) (140 : Int)))) u69) (head_Read_O (([] : List (UInt8)) ++ (cutL a1 (0 : Int) (min (List.length a1 : Int) (140 : Int)))) u69), .br true, .br true, .br true, .br true, .br true, .br true, .call [] [] [] true (affiantlaw11_HeadRuns_R u74) (affiantlaw11_HeadRuns_O u74), .br true]) (pos := [.sel []]) (.c (affiantkeep_Head_Header_ok a0 u1 h2) (.c (head_Bytes_ok u1 u3 h4) (.c h5 (.c h6 (.c (affiantbook_Within_ok a2 (0 : Int) (w64 ((List.length (([] : List (UInt8)) ++ u3) : Int) - (1 : Int))) u7 h8) (.c h9 (.c h28 (.c h47 (.c h67 (.c h68 (.c (head_Read_ok (([] : List (UInt8)) ++ (cutL a1 (0 : Int) (min (List.length a1 : Int) (140 : Int)))) u69 h70) (.c h71 (.c h72 (.c h72 (.c h72 (.c h72 (.c h73 (.c (affiantlaw11_HeadRuns_ok u74 h75) (.c h73 .n))))))))))))))))))) (by kernel_rfl)
              · cases h
            · cases h
          · obtain ⟨u76, h77, h⟩ := andThen_some h
            obtain ⟨u78, h79, h⟩ := andThen_some h
            rcases fork_some h with ⟨h80, h⟩ | ⟨h80, h⟩
            · obtain ⟨u81, h82, h⟩ := andThen_some h
              rcases fork_some h with ⟨h83, h⟩ | ⟨h83, h⟩
              · obtain ⟨u84, h85, h⟩ := andThen_some h
                injection h with h; subst h
                exact env.fun func4 can4 (its := [.call [none] [] [] true (affiantkeep_Head_Header_R a0 u1) (affiantkeep_Head_Header_O a0 u1), .call [none] [] [] true (head_Bytes_R u1 u3) (head_Bytes_O u1 u3), .br false, .call [none, none, none] [] [] true (affiantbook_Within_R a2 (0 : Int) (w64 ((List.length (([] : List (UInt8)) ++ u3) : Int) - (1 : Int))) u7) (affiantbook_Within_O a2 (0 : Int) (w64 ((List.length (([] : List (UInt8)) ++ u3) : Int) - (1 : Int))) u7), .br false, .br false, .br false, .br false, .call [none] [] [5] true (head_Read_R (([] : List (UInt8)) ++ (cutL a1 (0 : Int) (min (List.length a1 : Int) (140 : Int)))) u69) (head_Read_O (([] : List (UInt8)) ++ (cutL a1 (0 : Int) (min (List.length a1 : Int) (140 : Int)))) u69), .br false, .call [none] [] [] true (head_Bytes_R u69.1 u76) (head_Bytes_O u69.1 u76), .call [none, none] [] [7, 5] true (affiantbook_Same_byte_R u76 (([] : List (UInt8)) ++ (cutL a1 (0 : Int) (min (List.length a1 : Int) (140 : Int)))) u78) (affiantbook_Same_byte_O u76 (([] : List (UInt8)) ++ (cutL a1 (0 : Int) (min (List.length a1 : Int) (140 : Int)))) u78), .br true, .br true, .call [none] [] [] true (head_Right_R u69.1 u81) (head_Right_O u69.1 u81), .br true, .br true, .call [] [] [] true (affiantlaw11_HeadRuns_R u84) (affiantlaw11_HeadRuns_O u84), .br true]) (pos := [.sel []]) (.c (affiantkeep_Head_Header_ok a0 u1 h2) (.c (head_Bytes_ok u1 u3 h4) (.c h5 (.c h6 (.c (affiantbook_Within_ok a2 (0 : Int) (w64 ((List.length (([] : List (UInt8)) ++ u3) : Int) - (1 : Int))) u7 h8) (.c h9 (.c h28 (.c h47 (.c h67 (.c h68 (.c (head_Read_ok (([] : List (UInt8)) ++ (cutL a1 (0 : Int) (min (List.length a1 : Int) (140 : Int)))) u69 h70) (.c h71 (.c (head_Bytes_ok u69.1 u76 h77) (.c (affiantbook_Same_byte_ok u76 (([] : List (UInt8)) ++ (cutL a1 (0 : Int) (min (List.length a1 : Int) (140 : Int)))) u78 h79) (.c h80 (.c h80 (.c (head_Right_ok u69.1 u81 h82) (.c h80 (.c h83 (.c (affiantlaw11_HeadRuns_ok u84 h85) (.c h83 .n))))))))))))))))))))) (by kernel_rfl)
              · cases h
            · cases h
end
end Go.Proofs.Ytbpcajicbklkcaa.headOnly
