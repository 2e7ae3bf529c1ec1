/-
  The functions, walked through: each call comes to what the pure text says.
-/
import Derived.Test.YtoemjkbemenjhaaProg
import Derived.Test.YtoemjkbemenjhaaAxC
import Derived.Test.YtoemjkbemenjhaaCValsLawsP
namespace Go.Proofs.Ytoemjkbemenjhaa.valsLaws
open Go.Ax Go.Ax.V Go.Proofs.Try
set_option maxRecDepth 100000
set_option linter.unusedVariables false
noncomputable section
def T : Tab := [(3, (.int .i64), 8), (4, .bool, 1), (5, (.int .u8), 1), (9, .str, 16), (23, (.arr 32 (.int .u8)), 32), (25, (.fld .str (.fld (.int .i64) (.fld (.arr 32 (.int .u8)) .unit))), 56), (26, (.slice (.fld .str (.fld (.int .i64) (.fld (.arr 32 (.int .u8)) .unit)))), 24), (27, .cplx, 16), (34, (.slice (.int .u8)), 24), (37, (.slice (.int .i64)), 24), (38, (.slice .bool), 24), (40, (.slice .str), 24), (41, .flt, 8), (52, (.slice (.slice (.int .u8))), 24), (57, (.int .u32), 4), (58, (.arr 8 (.int .u32)), 32), (60, (.arr 64 (.int .u32)), 256), (66, (.slice (.int .u32)), 24), (68, (.int .u64), 8), (69, (.int .u64), 8)]
theorem tab : TabOK prog T := tab_of_b (by kernel_rfl)
theorem bytes : bytesB T = true := by kernel_rfl
theorem mix : prog.follows .mixedOrders = true := by kernel_rfl
theorem eqs : eqTypes prog T [23, 25] = true := by kernel_rfl
theorem env : Env prog T [23, 25] := ⟨tab, eqs, mix⟩
theorem can28 : Callable prog 28 := ⟨_, func28, by kernel_rfl, by kernel_rfl⟩
def affiantkeep_Names_R  (u : List (List UInt8)) : Slot := (.own 0 [])
def affiantkeep_Names_O  (u : List (List UInt8)) : List AObj := [.row .str u true]
theorem affiantkeep_Names_ok  (u : List (List UInt8)) (h : affiantkeep_Names  = some u) : CallC prog 28 [] [] (affiantkeep_Names_R u) (affiantkeep_Names_O u) := by
  unfold affiantkeep_Names at h
  injection h with h; subst h
  exact env.fun func28 can28 (its := []) (pos := [.sel [0]]) .n (by kernel_rfl)
theorem can15 : Callable prog 15 := ⟨_, func15, by kernel_rfl, by kernel_rfl⟩
def affiantbook_Within_R (a0 : Int) (a1 : Int) (a2 : Int) (u : Int) : Slot := (.v (.int .i64) u)
def affiantbook_Within_O (a0 : Int) (a1 : Int) (a2 : Int) (u : Int) : List AObj := []
theorem affiantbook_Within_ok (a0 : Int) (a1 : Int) (a2 : Int) (u : Int) (h : affiantbook_Within a0 a1 a2 = some u) : CallC prog 15 [(.v (.int .i64) a0), (.v (.int .i64) a1), (.v (.int .i64) a2)] [] (affiantbook_Within_R a0 a1 a2 u) (affiantbook_Within_O a0 a1 a2 u) := by
  unfold affiantbook_Within at h
  obtain ⟨h1, h⟩ := need_some h
  rcases fork_some h with ⟨h2, h⟩ | ⟨h2, h⟩
  · injection h with h; subst h
    exact env.fun func15 can15 (its := [.br true]) (pos := [.sel []]) (.c h1 (.c h2 .n)) (by kernel_rfl)
  · injection h with h; subst h
    exact env.fun func15 can15 (its := [.br false]) (pos := [.sel []]) (.c h1 (.c h2 .n)) (by kernel_rfl)
theorem can17 : Callable prog 17 := ⟨_, func17, by kernel_rfl, by kernel_rfl⟩
def affiantkeep_Set_1_in (x0 : List Int) (x1 : Int) (x2 : Int) (x3 : List (List UInt8 × Int × List UInt8 × Unit)) (x4 : List (List UInt8)) : St := ⟨[(0, (.v (.slice (.int .i64)) x0)), (3, (.own 0 [])), (7, (.own 1 [])), (8, (.v (.int .i64) x1)), (9, (.v (.int .i64) x2))], [.row (.fld .str (.fld (.int .i64) (.fld (.arr 32 (.int .u8)) .unit))) x3 true, .row .str x4 true], 43, 0⟩
def affiantkeep_Set_1_ex (o : List (List UInt8 × Int × List UInt8 × Unit)) : Exit := (.exit 0)
def affiantkeep_Set_1_st (o : List (List UInt8 × Int × List UInt8 × Unit)) : St := ⟨[(3, (.own 0 []))], [.row (.fld .str (.fld (.int .i64) (.fld (.arr 32 (.int .u8)) .unit))) o true], 43, 0⟩
theorem affiantkeep_Set_1_body (x0 : List Int) (x1 : Int) (x2 : Int) (x3 : List (List UInt8 × Int × List UInt8 × Unit)) (x4 : List (List UInt8)) : ∀ r, affiantkeep_Set_1_step x0 x1 x2 x3 x4 = some r → (match r with | .inl s => CodeOK prog (codeAt (bodyOf f17) [1, 1, 0, 1, 0, 0]) (affiantkeep_Set_1_in x0 x1 x2 x3 x4) .normal (affiantkeep_Set_1_in x0 x1 s.1 s.2 x4) | .inr o => affiantkeep_Set_1_ex o ≠ .normal ∧ CodeOK prog (codeAt (bodyOf f17) [1, 1, 0, 1, 0, 0]) (affiantkeep_Set_1_in x0 x1 x2 x3 x4) (affiantkeep_Set_1_ex o) (affiantkeep_Set_1_st o)) := by
  intro r h
  unfold affiantkeep_Set_1_step at h
  rcases fork_some h with ⟨h4, h⟩ | ⟨h4, h⟩
  · obtain ⟨h5, h⟩ := need_some h
    rcases fork_some h with ⟨h6, h⟩ | ⟨h6, h⟩
    · rcases fork_some h with ⟨h7, h⟩ | ⟨h7, h⟩
      · obtain ⟨h8, h⟩ := need_some h
        obtain ⟨u9, h10, h⟩ := andThen_some h
        obtain ⟨h11, h⟩ := need_some h
        injection h with h; subst h
        exact env.code (its := [.br true, .br true, .br true, .br true, .br true, .br true, .br true, .br true, .call [none, none, none] [] [] true (affiantbook_Within_R (List.getD x0 (Int.toNat x2) (0 : Int)) (1 : Int) (9 : Int) u9) (affiantbook_Within_O (List.getD x0 (Int.toNat x2) (0 : Int)) (1 : Int) (9 : Int) u9), .sel [0, 3, 7, 8, 9] [3, 1]]) (.c h4 (.c h5 (.c h6 (.c h6 (.c h6 (.c h6 (.c h6 (.c (rfl : (true : Bool) = true) (.c h7 (.c h8 (.c (affiantbook_Within_ok (List.getD x0 (Int.toNat x2) (0 : Int)) (1 : Int) (9 : Int) u9 h10) (.c h11 .n)))))))))))) (by kernel_rfl)
      · obtain ⟨h12, h⟩ := need_some h
        injection h with h; subst h
        exact env.code (its := [.br true, .br true, .br true, .br true, .br true, .br true, .br true, .br false, .sel [0, 3, 7, 8, 9] [3, 1]]) (.c h4 (.c h5 (.c h6 (.c h6 (.c h6 (.c h6 (.c h6 (.c (rfl : (true : Bool) = true) (.c h7 (.c h12 .n)))))))))) (by kernel_rfl)
    · rcases fork_some h with ⟨h13, h⟩ | ⟨h13, h⟩
      · obtain ⟨h14, h⟩ := need_some h
        obtain ⟨u15, h16, h⟩ := andThen_some h
        obtain ⟨h17, h⟩ := need_some h
        injection h with h; subst h
        exact env.code (its := [.br true, .br false, .br false, .br false, .br false, .br false, .br true, .br true, .call [none, none, none] [] [] true (affiantbook_Within_R (List.getD x0 (Int.toNat x2) (0 : Int)) (1 : Int) (9 : Int) u15) (affiantbook_Within_O (List.getD x0 (Int.toNat x2) (0 : Int)) (1 : Int) (9 : Int) u15), .sel [0, 3, 7, 8, 9] [3, 1]]) (.c h4 (.c h5 (.c h6 (.c h6 (.c h6 (.c h6 (.c h6 (.c h13 (.c h13 (.c h14 (.c (affiantbook_Within_ok (List.getD x0 (Int.toNat x2) (0 : Int)) (1 : Int) (9 : Int) u15 h16) (.c h17 .n)))))))))))) (by kernel_rfl)
      · injection h with h; subst h
        exact env.code (its := [.br true, .br false, .br false, .br false, .br false, .br false, .br false, .sel [0, 3, 7, 8, 9] [0, 1]]) (.c h4 (.c h5 (.c h6 (.c h6 (.c h6 (.c h6 (.c h6 (.c h13 .n)))))))) (by kernel_rfl)
  · injection h with h; subst h
    exact ⟨by intro e; simp [affiantkeep_Set_1_ex] at e, env.code (its := [.br false, .sel [3] [0]]) (.c h4 .n) (by kernel_rfl)⟩
theorem affiantkeep_Set_1_ok (x0 : List Int) (x1 : Int) (x2 : Int) (x3 : List (List UInt8 × Int × List UInt8 × Unit)) (x4 : List (List UInt8)) (o : List (List UInt8 × Int × List UInt8 × Unit)) (h : affiantkeep_Set_1 x0 x1 x2 x3 x4 = some o) : CodeOK prog (codeAt (bodyOf f17) [1, 1, 0, 1, 0]) (affiantkeep_Set_1_in x0 x1 x2 x3 x4) (affiantkeep_Set_1_ex o) (affiantkeep_Set_1_st o) :=
  LoopOK.of_step (st := fun s => affiantkeep_Set_1_in x0 x1 s.1 s.2 x4) (ex := affiantkeep_Set_1_ex) (stO := affiantkeep_Set_1_st) (fun s s2 hs => affiantkeep_Set_1_body x0 x1 s.1 s.2 x4 (.inl s2) hs) (fun s r hs => affiantkeep_Set_1_body x0 x1 s.1 s.2 x4 (.inr r) hs) _ o h
def affiantkeep_Set_R (a0 : List Int) (u : List (List UInt8 × Int × List UInt8 × Unit)) : Slot := (.own 0 [])
def affiantkeep_Set_O (a0 : List Int) (u : List (List UInt8 × Int × List UInt8 × Unit)) : List AObj := [.row (.fld .str (.fld (.int .i64) (.fld (.arr 32 (.int .u8)) .unit))) u true]
theorem affiantkeep_Set_ok (a0 : List Int) (u : List (List UInt8 × Int × List UInt8 × Unit)) (h : affiantkeep_Set a0 = some u) : CallC prog 17 [(.v (.slice (.int .i64)) a0)] [] (affiantkeep_Set_R a0 u) (affiantkeep_Set_O a0 u) := by
  unfold affiantkeep_Set at h
  obtain ⟨u1, h2, h⟩ := andThen_some h
  obtain ⟨o18, h19, h⟩ := andThen_some h
  injection h with h; subst h
  exact env.fun func17 can17 (its := [.call [] [] [] true (affiantkeep_Names_R u1) (affiantkeep_Names_O u1), .dive, .promote 3 (.fld .str (.fld (.int .i64) (.fld (.arr 32 (.int .u8)) .unit))), .sel [0, 3, 7, 8, 9] [1, 0], .part (affiantkeep_Set_1_ex o18) (affiantkeep_Set_1_st o18)]) (pos := [.sel [0]]) (.c (affiantkeep_Names_ok u1 h2) (.c (affiantkeep_Set_1_ok a0 (List.length u1 : Int) (0 : Int) ([] : List (List UInt8 × Int × List UInt8 × Unit)) u1 o18 h19) .n)) (by kernel_rfl)
theorem can37 : Callable prog 37 := ⟨_, func37, by kernel_rfl, by kernel_rfl⟩
def slices_Index_Lstring_string_1_in (x0 : List (List UInt8)) (x1 : List UInt8) (x2 : Int) (x3 : Int) : St := ⟨[(0, (.v (.slice .str) x0)), (1, (.v .str x1)), (7, (.v (.int .i64) x2)), (8, (.v (.int .i64) x3))], [], 19, 0⟩
def slices_Index_Lstring_string_1_ex (o : (Int) ⊕ (Unit)) : Exit := match o with | (.inl o) => .ret | (.inr o) => (.exit 0)
def slices_Index_Lstring_string_1_st (o : (Int) ⊕ (Unit)) : St := match o with | (.inl o) => ⟨[(4, (.v (.int .i64) o))], [], 19, 0⟩ | (.inr o) => ⟨[], [], 19, 0⟩
theorem slices_Index_Lstring_string_1_body (x0 : List (List UInt8)) (x1 : List UInt8) (x2 : Int) (x3 : Int) : ∀ r, slices_Index_Lstring_string_1_step x0 x1 x2 x3 = some r → (match r with | .inl s => CodeOK prog (codeAt (bodyOf f37) [1, 0, 1, 0, 0]) (slices_Index_Lstring_string_1_in x0 x1 x2 x3) .normal (slices_Index_Lstring_string_1_in x0 x1 x2 s) | .inr o => slices_Index_Lstring_string_1_ex o ≠ .normal ∧ CodeOK prog (codeAt (bodyOf f37) [1, 0, 1, 0, 0]) (slices_Index_Lstring_string_1_in x0 x1 x2 x3) (slices_Index_Lstring_string_1_ex o) (slices_Index_Lstring_string_1_st o)) := by
  intro r h
  unfold slices_Index_Lstring_string_1_step at h
  rcases fork_some h with ⟨h2, h⟩ | ⟨h2, h⟩
  · obtain ⟨h3, h⟩ := need_some h
    rcases fork_some h with ⟨h4, h⟩ | ⟨h4, h⟩
    · injection h with h; subst h
      exact ⟨by intro e; simp [slices_Index_Lstring_string_1_ex] at e, env.code (its := [.br true, .br true, .sel [4] []]) (.c h2 (.c h3 (.c h4 .n))) (by kernel_rfl)⟩
    · injection h with h; subst h
      exact env.code (its := [.br true, .br false, .sel [0, 1, 7, 8] []]) (.c h2 (.c h3 (.c h4 .n))) (by kernel_rfl)
  · injection h with h; subst h
    exact ⟨by intro e; simp [slices_Index_Lstring_string_1_ex] at e, env.code (its := [.br false, .sel [] []]) (.c h2 .n) (by kernel_rfl)⟩
theorem slices_Index_Lstring_string_1_ok (x0 : List (List UInt8)) (x1 : List UInt8) (x2 : Int) (x3 : Int) (o : (Int) ⊕ (Unit)) (h : slices_Index_Lstring_string_1 x0 x1 x2 x3 = some o) : CodeOK prog (codeAt (bodyOf f37) [1, 0, 1, 0]) (slices_Index_Lstring_string_1_in x0 x1 x2 x3) (slices_Index_Lstring_string_1_ex o) (slices_Index_Lstring_string_1_st o) :=
  LoopOK.of_step (st := fun s => slices_Index_Lstring_string_1_in x0 x1 x2 s) (ex := slices_Index_Lstring_string_1_ex) (stO := slices_Index_Lstring_string_1_st) (fun s s2 hs => slices_Index_Lstring_string_1_body x0 x1 x2 s (.inl s2) hs) (fun s r hs => slices_Index_Lstring_string_1_body x0 x1 x2 s (.inr r) hs) _ o h
def slices_Index_Lstring_string_R (a0 : List (List UInt8)) (a1 : List UInt8) (u : Int) : Slot := (.v (.int .i64) u)
def slices_Index_Lstring_string_O (a0 : List (List UInt8)) (a1 : List UInt8) (u : Int) : List AObj := []
theorem slices_Index_Lstring_string_ok (a0 : List (List UInt8)) (a1 : List UInt8) (u : Int) (h : slices_Index_Lstring_string a0 a1 = some u) : CallC prog 37 [(.v (.slice .str) a0), (.v .str a1)] [] (slices_Index_Lstring_string_R a0 a1 u) (slices_Index_Lstring_string_O a0 a1 u) := by
  unfold slices_Index_Lstring_string at h
  obtain ⟨o5, h6, h⟩ := andThen_some h
  rcases o5 with o7 | o8
  · injection h with h; subst h
    exact env.fun func37 can37 (its := [.dive, .sel [0, 1, 7, 8] [], .part (slices_Index_Lstring_string_1_ex (.inl o7)) (slices_Index_Lstring_string_1_st (.inl o7))]) (pos := [.sel []]) (.c (slices_Index_Lstring_string_1_ok a0 a1 (List.length a0 : Int) (0 : Int) (.inl o7) h6) .n) (by kernel_rfl)
  · injection h with h; subst h
    exact env.fun func37 can37 (its := [.dive, .sel [0, 1, 7, 8] [], .part (slices_Index_Lstring_string_1_ex (.inr o8)) (slices_Index_Lstring_string_1_st (.inr o8))]) (pos := [.sel []]) (.c (slices_Index_Lstring_string_1_ok a0 a1 (List.length a0 : Int) (0 : Int) (.inr o8) h6) .n) (by kernel_rfl)
theorem can26 : Callable prog 26 := ⟨_, func26, by kernel_rfl, by kernel_rfl⟩
def slices_Contains_Lstring_string_R (a0 : List (List UInt8)) (a1 : List UInt8) (u : Bool) : Slot := (.v .bool u)
def slices_Contains_Lstring_string_O (a0 : List (List UInt8)) (a1 : List UInt8) (u : Bool) : List AObj := []
theorem slices_Contains_Lstring_string_ok (a0 : List (List UInt8)) (a1 : List UInt8) (u : Bool) (h : slices_Contains_Lstring_string a0 a1 = some u) : CallC prog 26 [(.v (.slice .str) a0), (.v .str a1)] [] (slices_Contains_Lstring_string_R a0 a1 u) (slices_Contains_Lstring_string_O a0 a1 u) := by
  unfold slices_Contains_Lstring_string at h
  obtain ⟨u1, h2, h⟩ := andThen_some h
  injection h with h; subst h
  exact env.fun func26 can26 (its := [.call [none, none] [] [] true (slices_Index_Lstring_string_R a0 a1 u1) (slices_Index_Lstring_string_O a0 a1 u1)]) (pos := [.sel []]) (.c (slices_Index_Lstring_string_ok a0 a1 u1 h2) .n) (by kernel_rfl)
theorem can14 : Callable prog 14 := ⟨_, func14, by kernel_rfl, by kernel_rfl⟩
def vals_Total_1_in (x0 : Int) (x1 : List (List UInt8 × Int × List UInt8 × Unit)) (x2 : Int) (x3 : Int) : St := ⟨[(3, (.v (.int .i64) x0)), (6, (.v (.slice (.fld .str (.fld (.int .i64) (.fld (.arr 32 (.int .u8)) .unit)))) x1)), (7, (.v (.int .i64) x2)), (8, (.v (.int .i64) x3))], [], 18, 0⟩
def vals_Total_1_ex (o : Int) : Exit := (.exit 0)
def vals_Total_1_st (o : Int) : St := ⟨[(3, (.v (.int .i64) o))], [], 18, 0⟩
theorem vals_Total_1_body (x0 : Int) (x1 : List (List UInt8 × Int × List UInt8 × Unit)) (x2 : Int) (x3 : Int) : ∀ r, vals_Total_1_step x0 x1 x2 x3 = some r → (match r with | .inl s => CodeOK prog (codeAt (bodyOf f14) [1, 1, 0, 1, 0, 0]) (vals_Total_1_in x0 x1 x2 x3) .normal (vals_Total_1_in s.1 x1 x2 s.2) | .inr o => vals_Total_1_ex o ≠ .normal ∧ CodeOK prog (codeAt (bodyOf f14) [1, 1, 0, 1, 0, 0]) (vals_Total_1_in x0 x1 x2 x3) (vals_Total_1_ex o) (vals_Total_1_st o)) := by
  intro r h
  unfold vals_Total_1_step at h
  rcases fork_some h with ⟨h2, h⟩ | ⟨h2, h⟩
  · obtain ⟨h3, h⟩ := need_some h
    injection h with h; subst h
    exact env.code (its := [.br true, .dive, .sel [3, 6, 7, 8] []]) (.c h2 (.c h3 .n)) (by kernel_rfl)
  · injection h with h; subst h
    exact ⟨by intro e; simp [vals_Total_1_ex] at e, env.code (its := [.br false, .sel [3] []]) (.c h2 .n) (by kernel_rfl)⟩
theorem vals_Total_1_ok (x0 : Int) (x1 : List (List UInt8 × Int × List UInt8 × Unit)) (x2 : Int) (x3 : Int) (o : Int) (h : vals_Total_1 x0 x1 x2 x3 = some o) : CodeOK prog (codeAt (bodyOf f14) [1, 1, 0, 1, 0]) (vals_Total_1_in x0 x1 x2 x3) (vals_Total_1_ex o) (vals_Total_1_st o) :=
  LoopOK.of_step (st := fun s => vals_Total_1_in s.1 x1 x2 s.2) (ex := vals_Total_1_ex) (stO := vals_Total_1_st) (fun s s2 hs => vals_Total_1_body s.1 x1 x2 s.2 (.inl s2) hs) (fun s r hs => vals_Total_1_body s.1 x1 x2 s.2 (.inr r) hs) _ o h
def vals_Total_R (a0 : List (List UInt8 × Int × List UInt8 × Unit)) (u : Int) : Slot := (.v (.int .i64) u)
def vals_Total_O (a0 : List (List UInt8 × Int × List UInt8 × Unit)) (u : Int) : List AObj := []
theorem vals_Total_ok (a0 : List (List UInt8 × Int × List UInt8 × Unit)) (u : Int) (h : vals_Total a0 = some u) : CallC prog 14 [(.v (.slice (.fld .str (.fld (.int .i64) (.fld (.arr 32 (.int .u8)) .unit)))) a0)] [] (vals_Total_R a0 u) (vals_Total_O a0 u) := by
  unfold vals_Total at h
  obtain ⟨o4, h5, h⟩ := andThen_some h
  injection h with h; subst h
  exact env.fun func14 can14 (its := [.dive, .sel [3, 6, 7, 8] [], .part (vals_Total_1_ex o4) (vals_Total_1_st o4)]) (pos := [.sel []]) (.c (vals_Total_1_ok (0 : Int) a0 (List.length a0 : Int) (0 : Int) o4 h5) .n) (by kernel_rfl)
theorem can11 : Callable prog 11 := ⟨_, func11, by kernel_rfl, by kernel_rfl⟩
def vals_Tally_1_in (x0 : List (List UInt8 × Int × List UInt8 × Unit)) (x1 : List (List UInt8)) (x2 : Int) (x3 : List (List UInt8 × Int × List UInt8 × Unit)) (x4 : Int) (x5 : Int) : St := ⟨[(0, (.v (.slice (.fld .str (.fld (.int .i64) (.fld (.arr 32 (.int .u8)) .unit)))) x0)), (1, (.v (.slice .str) x1)), (5, (.v (.int .i64) x2)), (8, (.v (.slice (.fld .str (.fld (.int .i64) (.fld (.arr 32 (.int .u8)) .unit)))) x3)), (9, (.v (.int .i64) x4)), (10, (.v (.int .i64) x5))], [], 29, 0⟩
def vals_Tally_1_ex (o : (List (List UInt8 × Int × List UInt8 × Unit)) × Int) : Exit := (.exit 0)
def vals_Tally_1_st (o : (List (List UInt8 × Int × List UInt8 × Unit)) × Int) : St := ⟨[(0, (.v (.slice (.fld .str (.fld (.int .i64) (.fld (.arr 32 (.int .u8)) .unit)))) o.1)), (5, (.v (.int .i64) o.2))], [], 29, 0⟩
theorem vals_Tally_1_body (x0 : List (List UInt8 × Int × List UInt8 × Unit)) (x1 : List (List UInt8)) (x2 : Int) (x3 : List (List UInt8 × Int × List UInt8 × Unit)) (x4 : Int) (x5 : Int) : ∀ r, vals_Tally_1_step x0 x1 x2 x3 x4 x5 = some r → (match r with | .inl s => CodeOK prog (codeAt (bodyOf f11) [1, 1, 0, 1, 0, 0]) (vals_Tally_1_in x0 x1 x2 x3 x4 x5) .normal (vals_Tally_1_in x0 x1 s.1 x3 x4 s.2) | .inr o => vals_Tally_1_ex o ≠ .normal ∧ CodeOK prog (codeAt (bodyOf f11) [1, 1, 0, 1, 0, 0]) (vals_Tally_1_in x0 x1 x2 x3 x4 x5) (vals_Tally_1_ex o) (vals_Tally_1_st o)) := by
  intro r h
  unfold vals_Tally_1_step at h
  rcases fork_some h with ⟨h2, h⟩ | ⟨h2, h⟩
  · obtain ⟨h3, h⟩ := need_some h
    obtain ⟨u4, h5, h⟩ := andThen_some h
    rcases fork_some h with ⟨h6, h⟩ | ⟨h6, h⟩
    · injection h with h; subst h
      exact env.code (its := [.br true, .call [none, none] [] [] true (slices_Contains_Lstring_string_R x1 ((List.getD x3 (Int.toNat x5) (([] : List UInt8), (0 : Int), (List.replicate 32 (0 : UInt8)), ())).1) u4) (slices_Contains_Lstring_string_O x1 ((List.getD x3 (Int.toNat x5) (([] : List UInt8), (0 : Int), (List.replicate 32 (0 : UInt8)), ())).1) u4), .br true, .sel [0, 1, 5, 8, 9, 10] []]) (.c h2 (.c h3 (.c (slices_Contains_Lstring_string_ok x1 ((List.getD x3 (Int.toNat x5) (([] : List UInt8), (0 : Int), (List.replicate 32 (0 : UInt8)), ())).1) u4 h5) (.c h6 .n)))) (by kernel_rfl)
    · injection h with h; subst h
      exact env.code (its := [.br true, .call [none, none] [] [] true (slices_Contains_Lstring_string_R x1 ((List.getD x3 (Int.toNat x5) (([] : List UInt8), (0 : Int), (List.replicate 32 (0 : UInt8)), ())).1) u4) (slices_Contains_Lstring_string_O x1 ((List.getD x3 (Int.toNat x5) (([] : List UInt8), (0 : Int), (List.replicate 32 (0 : UInt8)), ())).1) u4), .br false, .sel [0, 1, 5, 8, 9, 10] []]) (.c h2 (.c h3 (.c (slices_Contains_Lstring_string_ok x1 ((List.getD x3 (Int.toNat x5) (([] : List UInt8), (0 : Int), (List.replicate 32 (0 : UInt8)), ())).1) u4 h5) (.c h6 .n)))) (by kernel_rfl)
  · injection h with h; subst h
    exact ⟨by intro e; simp [vals_Tally_1_ex] at e, env.code (its := [.br false, .sel [0, 5] []]) (.c h2 .n) (by kernel_rfl)⟩
theorem vals_Tally_1_ok (x0 : List (List UInt8 × Int × List UInt8 × Unit)) (x1 : List (List UInt8)) (x2 : Int) (x3 : List (List UInt8 × Int × List UInt8 × Unit)) (x4 : Int) (x5 : Int) (o : (List (List UInt8 × Int × List UInt8 × Unit)) × Int) (h : vals_Tally_1 x0 x1 x2 x3 x4 x5 = some o) : CodeOK prog (codeAt (bodyOf f11) [1, 1, 0, 1, 0]) (vals_Tally_1_in x0 x1 x2 x3 x4 x5) (vals_Tally_1_ex o) (vals_Tally_1_st o) :=
  LoopOK.of_step (st := fun s => vals_Tally_1_in x0 x1 s.1 x3 x4 s.2) (ex := vals_Tally_1_ex) (stO := vals_Tally_1_st) (fun s s2 hs => vals_Tally_1_body x0 x1 s.1 x3 x4 s.2 (.inl s2) hs) (fun s r hs => vals_Tally_1_body x0 x1 s.1 x3 x4 s.2 (.inr r) hs) _ o h
def vals_Tally_R (a0 : List (List UInt8 × Int × List UInt8 × Unit)) (a1 : List (List UInt8)) (u : Int × Int) : Slot := (.v .cplx u)
def vals_Tally_O (a0 : List (List UInt8 × Int × List UInt8 × Unit)) (a1 : List (List UInt8)) (u : Int × Int) : List AObj := []
theorem vals_Tally_ok (a0 : List (List UInt8 × Int × List UInt8 × Unit)) (a1 : List (List UInt8)) (u : Int × Int) (h : vals_Tally a0 a1 = some u) : CallC prog 11 [(.v (.slice (.fld .str (.fld (.int .i64) (.fld (.arr 32 (.int .u8)) .unit)))) a0), (.v (.slice .str) a1)] [] (vals_Tally_R a0 a1 u) (vals_Tally_O a0 a1 u) := by
  unfold vals_Tally at h
  obtain ⟨o7, h8, h⟩ := andThen_some h
  obtain ⟨h9, h⟩ := need_some h
  obtain ⟨u10, h11, h⟩ := andThen_some h
  obtain ⟨h12, h⟩ := need_some h
  injection h with h; subst h
  exact env.fun func11 can11 (its := [.dive, .sel [0, 1, 5, 8, 9, 10] [], .part (vals_Tally_1_ex o7) (vals_Tally_1_st o7), .call [none] [] [] true (vals_Total_R o7.1 u10) (vals_Total_O o7.1 u10)]) (pos := [.sel []]) (.c (vals_Tally_1_ok a0 a1 (0 : Int) a0 (List.length a0 : Int) (0 : Int) o7 h8) (.c h9 (.c (vals_Total_ok o7.1 u10 h11) (.c h12 .n)))) (by kernel_rfl)
theorem can12 : Callable prog 12 := ⟨_, func12, by kernel_rfl, by kernel_rfl⟩
def vals_Over_R (a0 : Int × Int) (a1 : Int) (a2 : Int) (u : Bool) : Slot := (.v .bool u)
def vals_Over_O (a0 : Int × Int) (a1 : Int) (a2 : Int) (u : Bool) : List AObj := []
theorem vals_Over_ok (a0 : Int × Int) (a1 : Int) (a2 : Int) (u : Bool) (h : vals_Over a0 a1 a2 = some u) : CallC prog 12 [(.v .cplx a0), (.v (.int .i64) a1), (.v (.int .i64) a2)] [] (vals_Over_R a0 a1 a2 u) (vals_Over_O a0 a1 a2 u) := by
  unfold vals_Over at h
  injection h with h; subst h
  exact env.fun func12 can12 (its := []) (pos := [.sel []]) .n (by kernel_rfl)
theorem can29 : Callable prog 29 := ⟨_, func29, by kernel_rfl, by kernel_rfl⟩
def slices_Equal_LVal_Val_1_in (x0 : List (List UInt8 × Int × List UInt8 × Unit)) (x1 : List (List UInt8 × Int × List UInt8 × Unit)) (x2 : Int) (x3 : Int) : St := ⟨[(0, (.v (.slice (.fld .str (.fld (.int .i64) (.fld (.arr 32 (.int .u8)) .unit)))) x0)), (1, (.v (.slice (.fld .str (.fld (.int .i64) (.fld (.arr 32 (.int .u8)) .unit)))) x1)), (12, (.v (.int .i64) x2)), (13, (.v (.int .i64) x3))], [], 26, 0⟩
def slices_Equal_LVal_Val_1_ex (o : (Bool) ⊕ (Unit)) : Exit := match o with | (.inl o) => .ret | (.inr o) => (.exit 0)
def slices_Equal_LVal_Val_1_st (o : (Bool) ⊕ (Unit)) : St := match o with | (.inl o) => ⟨[(4, (.v .bool o))], [], 26, 0⟩ | (.inr o) => ⟨[], [], 26, 0⟩
theorem slices_Equal_LVal_Val_1_body (x0 : List (List UInt8 × Int × List UInt8 × Unit)) (x1 : List (List UInt8 × Int × List UInt8 × Unit)) (x2 : Int) (x3 : Int) : ∀ r, slices_Equal_LVal_Val_1_step x0 x1 x2 x3 = some r → (match r with | .inl s => CodeOK prog (codeAt (bodyOf f29) [1, 1, 0, 1, 0, 0]) (slices_Equal_LVal_Val_1_in x0 x1 x2 x3) .normal (slices_Equal_LVal_Val_1_in x0 x1 x2 s) | .inr o => slices_Equal_LVal_Val_1_ex o ≠ .normal ∧ CodeOK prog (codeAt (bodyOf f29) [1, 1, 0, 1, 0, 0]) (slices_Equal_LVal_Val_1_in x0 x1 x2 x3) (slices_Equal_LVal_Val_1_ex o) (slices_Equal_LVal_Val_1_st o)) := by
  intro r h
  unfold slices_Equal_LVal_Val_1_step at h
  rcases fork_some h with ⟨h3, h⟩ | ⟨h3, h⟩
  · obtain ⟨h4, h⟩ := need_some h
    obtain ⟨h5, h⟩ := need_some h
    rcases fork_some h with ⟨h6, h⟩ | ⟨h6, h⟩
    · injection h with h; subst h
      exact ⟨by intro e; simp [slices_Equal_LVal_Val_1_ex] at e, env.code (its := [.br true, .pre [[], [], [0, 1], [0, 1, 2], [], [], [4, 5], [4, 5, 6], [0, 1, 2, 3, 4, 5, 6, 7]], .br true, .sel [4] []]) (.c h3 (.c h4 (.c h5 (.c h6 .n)))) (by kernel_rfl)⟩
    · injection h with h; subst h
      exact env.code (its := [.br true, .pre [[], [], [0, 1], [0, 1, 2], [], [], [4, 5], [4, 5, 6], [0, 1, 2, 3, 4, 5, 6, 7]], .br false, .sel [0, 1, 12, 13] []]) (.c h3 (.c h4 (.c h5 (.c h6 .n)))) (by kernel_rfl)
  · injection h with h; subst h
    exact ⟨by intro e; simp [slices_Equal_LVal_Val_1_ex] at e, env.code (its := [.br false, .sel [] []]) (.c h3 .n) (by kernel_rfl)⟩
theorem slices_Equal_LVal_Val_1_ok (x0 : List (List UInt8 × Int × List UInt8 × Unit)) (x1 : List (List UInt8 × Int × List UInt8 × Unit)) (x2 : Int) (x3 : Int) (o : (Bool) ⊕ (Unit)) (h : slices_Equal_LVal_Val_1 x0 x1 x2 x3 = some o) : CodeOK prog (codeAt (bodyOf f29) [1, 1, 0, 1, 0]) (slices_Equal_LVal_Val_1_in x0 x1 x2 x3) (slices_Equal_LVal_Val_1_ex o) (slices_Equal_LVal_Val_1_st o) :=
  LoopOK.of_step (st := fun s => slices_Equal_LVal_Val_1_in x0 x1 x2 s) (ex := slices_Equal_LVal_Val_1_ex) (stO := slices_Equal_LVal_Val_1_st) (fun s s2 hs => slices_Equal_LVal_Val_1_body x0 x1 x2 s (.inl s2) hs) (fun s r hs => slices_Equal_LVal_Val_1_body x0 x1 x2 s (.inr r) hs) _ o h
def slices_Equal_LVal_Val_R (a0 : List (List UInt8 × Int × List UInt8 × Unit)) (a1 : List (List UInt8 × Int × List UInt8 × Unit)) (u : Bool) : Slot := (.v .bool u)
def slices_Equal_LVal_Val_O (a0 : List (List UInt8 × Int × List UInt8 × Unit)) (a1 : List (List UInt8 × Int × List UInt8 × Unit)) (u : Bool) : List AObj := []
theorem slices_Equal_LVal_Val_ok (a0 : List (List UInt8 × Int × List UInt8 × Unit)) (a1 : List (List UInt8 × Int × List UInt8 × Unit)) (u : Bool) (h : slices_Equal_LVal_Val a0 a1 = some u) : CallC prog 29 [(.v (.slice (.fld .str (.fld (.int .i64) (.fld (.arr 32 (.int .u8)) .unit)))) a0), (.v (.slice (.fld .str (.fld (.int .i64) (.fld (.arr 32 (.int .u8)) .unit)))) a1)] [] (slices_Equal_LVal_Val_R a0 a1 u) (slices_Equal_LVal_Val_O a0 a1 u) := by
  unfold slices_Equal_LVal_Val at h
  rcases fork_some h with ⟨h1, h⟩ | ⟨h1, h⟩
  · injection h with h; subst h
    exact env.fun func29 can29 (its := [.br true]) (pos := [.sel []]) (.c h1 .n) (by kernel_rfl)
  · obtain ⟨o7, h8, h⟩ := andThen_some h
    rcases o7 with o9 | o10
    · injection h with h; subst h
      exact env.fun func29 can29 (its := [.br false, .dive, .sel [0, 1, 12, 13] [], .part (slices_Equal_LVal_Val_1_ex (.inl o9)) (slices_Equal_LVal_Val_1_st (.inl o9))]) (pos := [.sel []]) (.c h1 (.c (slices_Equal_LVal_Val_1_ok a0 a1 (List.length a0 : Int) (0 : Int) (.inl o9) h8) .n)) (by kernel_rfl)
    · injection h with h; subst h
      exact env.fun func29 can29 (its := [.br false, .dive, .sel [0, 1, 12, 13] [], .part (slices_Equal_LVal_Val_1_ex (.inr o10)) (slices_Equal_LVal_Val_1_st (.inr o10))]) (pos := [.sel []]) (.c h1 (.c (slices_Equal_LVal_Val_1_ok a0 a1 (List.length a0 : Int) (0 : Int) (.inr o10) h8) .n)) (by kernel_rfl)
theorem can18 : Callable prog 18 := ⟨_, func18, by kernel_rfl, by kernel_rfl⟩
def vals_Same_R (a0 : List (List UInt8 × Int × List UInt8 × Unit)) (a1 : List (List UInt8 × Int × List UInt8 × Unit)) (u : Bool) : Slot := (.v .bool u)
def vals_Same_O (a0 : List (List UInt8 × Int × List UInt8 × Unit)) (a1 : List (List UInt8 × Int × List UInt8 × Unit)) (u : Bool) : List AObj := []
theorem vals_Same_ok (a0 : List (List UInt8 × Int × List UInt8 × Unit)) (a1 : List (List UInt8 × Int × List UInt8 × Unit)) (u : Bool) (h : vals_Same a0 a1 = some u) : CallC prog 18 [(.v (.slice (.fld .str (.fld (.int .i64) (.fld (.arr 32 (.int .u8)) .unit)))) a0), (.v (.slice (.fld .str (.fld (.int .i64) (.fld (.arr 32 (.int .u8)) .unit)))) a1)] [] (vals_Same_R a0 a1 u) (vals_Same_O a0 a1 u) := by
  unfold vals_Same at h
  obtain ⟨u1, h2, h⟩ := andThen_some h
  injection h with h; subst h
  exact env.fun func18 can18 (its := [.call [none, none] [] [] true (slices_Equal_LVal_Val_R a0 a1 u1) (slices_Equal_LVal_Val_O a0 a1 u1)]) (pos := [.sel []]) (.c (slices_Equal_LVal_Val_ok a0 a1 u1 h2) .n) (by kernel_rfl)
theorem can27 : Callable prog 27 := ⟨_, func27, by kernel_rfl, by kernel_rfl⟩
def vals_may_R (a0 : List UInt8 × Int × List UInt8 × Unit) (u : Bool) : Slot := (.v .bool u)
def vals_may_O (a0 : List UInt8 × Int × List UInt8 × Unit) (u : Bool) : List AObj := []
theorem vals_may_ok (a0 : List UInt8 × Int × List UInt8 × Unit) (u : Bool) (h : vals_may a0 = some u) : CallC prog 27 [(.v (.fld .str (.fld (.int .i64) (.fld (.arr 32 (.int .u8)) .unit))) a0)] [] (vals_may_R a0 u) (vals_may_O a0 u) := by
  unfold vals_may at h
  rcases fork_some h with ⟨h1, h⟩ | ⟨h1, h⟩
  · rcases fork_some h with ⟨h2, h⟩ | ⟨h2, h⟩
    · rcases fork_some h with ⟨h3, h⟩ | ⟨h3, h⟩
      · injection h with h; subst h
        exact env.fun func27 can27 (its := [.br true, .br true, .br true, .br true, .br true, .br true, .br true, .br true, .br true, .br true, .br true, .br true, .br true]) (pos := [.sel []]) (.c h1 (.c h1 (.c h1 (.c h1 (.c h1 (.c h2 (.c h2 (.c h2 (.c h2 (.c h3 (.c h3 (.c h3 (.c h3 .n))))))))))))) (by kernel_rfl)
      · injection h with h; subst h
        exact env.fun func27 can27 (its := [.br true, .br true, .br true, .br true, .br true, .br true, .br true, .br true, .br true, .br false, .br false, .br false, .br false]) (pos := [.sel []]) (.c h1 (.c h1 (.c h1 (.c h1 (.c h1 (.c h2 (.c h2 (.c h2 (.c h2 (.c h3 (.c h3 (.c h3 (.c h3 .n))))))))))))) (by kernel_rfl)
    · injection h with h; subst h
      exact env.fun func27 can27 (its := [.br true, .br true, .br true, .br true, .br true, .br false, .br false, .br false, .br false, .br false, .br false, .br false, .br false]) (pos := [.sel []]) (.c h1 (.c h1 (.c h1 (.c h1 (.c h1 (.c h2 (.c h2 (.c h2 (.c h2 (.c (rfl : (false : Bool) = false) (.c (rfl : (false : Bool) = false) (.c (rfl : (false : Bool) = false) (.c (rfl : (false : Bool) = false) .n))))))))))))) (by kernel_rfl)
  · injection h with h; subst h
    exact env.fun func27 can27 (its := [.br false, .br false, .br false, .br false, .br false, .br false, .br false, .br false, .br false, .br false, .br false, .br false, .br false]) (pos := [.sel []]) (.c h1 (.c h1 (.c h1 (.c h1 (.c h1 (.c (rfl : (false : Bool) = false) (.c (rfl : (false : Bool) = false) (.c (rfl : (false : Bool) = false) (.c (rfl : (false : Bool) = false) (.c (rfl : (false : Bool) = false) (.c (rfl : (false : Bool) = false) (.c (rfl : (false : Bool) = false) (.c (rfl : (false : Bool) = false) .n))))))))))))) (by kernel_rfl)
theorem can13 : Callable prog 13 := ⟨_, func13, by kernel_rfl, by kernel_rfl⟩
def vals_Right_1_in (x0 : List (List UInt8 × Int × List UInt8 × Unit)) (x1 : List (List UInt8 × Int × List UInt8 × Unit)) (x2 : Int) (x3 : Int) : St := ⟨[(0, (.v (.slice (.fld .str (.fld (.int .i64) (.fld (.arr 32 (.int .u8)) .unit)))) x0)), (5, (.v (.slice (.fld .str (.fld (.int .i64) (.fld (.arr 32 (.int .u8)) .unit)))) x1)), (6, (.v (.int .i64) x2)), (7, (.v (.int .i64) x3))], [], 39, 0⟩
def vals_Right_1_ex (o : (Bool) ⊕ (List (List UInt8 × Int × List UInt8 × Unit))) : Exit := match o with | (.inl o) => .ret | (.inr o) => (.exit 0)
def vals_Right_1_st (o : (Bool) ⊕ (List (List UInt8 × Int × List UInt8 × Unit))) : St := match o with | (.inl o) => ⟨[(2, (.v .bool o))], [], 39, 0⟩ | (.inr o) => ⟨[(0, (.v (.slice (.fld .str (.fld (.int .i64) (.fld (.arr 32 (.int .u8)) .unit)))) o))], [], 39, 0⟩
theorem vals_Right_1_body (x0 : List (List UInt8 × Int × List UInt8 × Unit)) (x1 : List (List UInt8 × Int × List UInt8 × Unit)) (x2 : Int) (x3 : Int) : ∀ r, vals_Right_1_step x0 x1 x2 x3 = some r → (match r with | .inl s => CodeOK prog (codeAt (bodyOf f13) [1, 0, 1, 0, 0]) (vals_Right_1_in x0 x1 x2 x3) .normal (vals_Right_1_in x0 x1 x2 s) | .inr o => vals_Right_1_ex o ≠ .normal ∧ CodeOK prog (codeAt (bodyOf f13) [1, 0, 1, 0, 0]) (vals_Right_1_in x0 x1 x2 x3) (vals_Right_1_ex o) (vals_Right_1_st o)) := by
  intro r h
  unfold vals_Right_1_step at h
  rcases fork_some h with ⟨h2, h⟩ | ⟨h2, h⟩
  · obtain ⟨h3, h⟩ := need_some h
    obtain ⟨u4, h5, h⟩ := andThen_some h
    rcases fork_some h with ⟨h6, h⟩ | ⟨h6, h⟩
    · injection h with h; subst h
      exact ⟨by intro e; simp [vals_Right_1_ex] at e, env.code (its := [.br true, .pre [[], [0], [0, 1], [0, 1, 2], [0, 1, 2, 3], [0, 1, 2, 3, 4], [0, 1, 2, 3, 4, 5], [0, 1, 2, 3, 4, 5, 6], [0, 1, 2, 3, 4, 5, 6], [0, 1, 2, 3, 4, 5, 6, 8], [0, 1, 2, 3, 4, 5, 6, 7, 8, 9], [0, 1, 2, 3, 4, 5, 6, 7, 8, 9, 10], [0, 1, 2, 3, 4, 5, 6, 7, 8, 9, 10, 11], [0, 1, 2, 3, 4, 5, 6], [0, 1, 2, 3, 4, 5, 6, 13], [0, 1, 2, 3, 4, 5, 6, 7, 8, 9, 10, 11, 12, 13, 14], [0, 1, 2, 3, 4, 5, 6, 7, 8, 9, 10, 11, 12, 13, 14, 15], [0, 1, 2, 3, 4, 5, 6, 7, 8, 9, 10, 11, 12, 13, 14, 15, 16]], .call [none] [] [] true (vals_may_R (List.getD x1 (Int.toNat x3) (([] : List UInt8), (0 : Int), (List.replicate 32 (0 : UInt8)), ())) u4) (vals_may_O (List.getD x1 (Int.toNat x3) (([] : List UInt8), (0 : Int), (List.replicate 32 (0 : UInt8)), ())) u4), .br true, .br true, .br true, .br true, .br true, .br true, .sel [2] []]) (.c h2 (.c h3 (.c (vals_may_ok (List.getD x1 (Int.toNat x3) (([] : List UInt8), (0 : Int), (List.replicate 32 (0 : UInt8)), ())) u4 h5) (.c h6 (.c h6 (.c h6 (.c h6 (.c h6 (.c (rfl : (true : Bool) = true) .n))))))))) (by kernel_rfl)⟩
    · rcases fork_some h with ⟨h7, h⟩ | ⟨h7, h⟩
      · obtain ⟨h8, h⟩ := need_some h
        rcases fork_some h with ⟨h9, h⟩ | ⟨h9, h⟩
        · injection h with h; subst h
          exact ⟨by intro e; simp [vals_Right_1_ex] at e, env.code (its := [.br true, .pre [[], [0], [0, 1], [0, 1, 2], [0, 1, 2, 3], [0, 1, 2, 3, 4], [0, 1, 2, 3, 4, 5], [0, 1, 2, 3, 4, 5, 6], [0, 1, 2, 3, 4, 5, 6], [0, 1, 2, 3, 4, 5, 6, 8], [0, 1, 2, 3, 4, 5, 6, 7, 8, 9], [0, 1, 2, 3, 4, 5, 6, 7, 8, 9, 10], [0, 1, 2, 3, 4, 5, 6, 7, 8, 9, 10, 11], [0, 1, 2, 3, 4, 5, 6], [0, 1, 2, 3, 4, 5, 6, 13], [0, 1, 2, 3, 4, 5, 6, 7, 8, 9, 10, 11, 12, 13, 14], [0, 1, 2, 3, 4, 5, 6, 7, 8, 9, 10, 11, 12, 13, 14, 15], [0, 1, 2, 3, 4, 5, 6, 7, 8, 9, 10, 11, 12, 13, 14, 15, 16]], .call [none] [] [] true (vals_may_R (List.getD x1 (Int.toNat x3) (([] : List UInt8), (0 : Int), (List.replicate 32 (0 : UInt8)), ())) u4) (vals_may_O (List.getD x1 (Int.toNat x3) (([] : List UInt8), (0 : Int), (List.replicate 32 (0 : UInt8)), ())) u4), .br false, .br false, .br false, .br true, .br true, .br true, .br true, .br true, .br true, .br true, .br true, .br true, .br false, .br true, .br false, .br true, .sel [2] []]) (.c h2 (.c h3 (.c (vals_may_ok (List.getD x1 (Int.toNat x3) (([] : List UInt8), (0 : Int), (List.replicate 32 (0 : UInt8)), ())) u4 h5) (.c h6 (.c h6 (.c h6 (.c h7 (.c h7 (.c h7 (.c h7 (.c h8 (.c h7 (.c h7 (.c h7 (.c h7 (.c h7 (.c h6 (.c h7 (.c h6 (.c h9 .n)))))))))))))))))))) (by kernel_rfl)⟩
        · injection h with h; subst h
          exact env.code (its := [.br true, .pre [[], [0], [0, 1], [0, 1, 2], [0, 1, 2, 3], [0, 1, 2, 3, 4], [0, 1, 2, 3, 4, 5], [0, 1, 2, 3, 4, 5, 6], [0, 1, 2, 3, 4, 5, 6], [0, 1, 2, 3, 4, 5, 6, 8], [0, 1, 2, 3, 4, 5, 6, 7, 8, 9], [0, 1, 2, 3, 4, 5, 6, 7, 8, 9, 10], [0, 1, 2, 3, 4, 5, 6, 7, 8, 9, 10, 11], [0, 1, 2, 3, 4, 5, 6], [0, 1, 2, 3, 4, 5, 6, 13], [0, 1, 2, 3, 4, 5, 6, 7, 8, 9, 10, 11, 12, 13, 14], [0, 1, 2, 3, 4, 5, 6, 7, 8, 9, 10, 11, 12, 13, 14, 15], [0, 1, 2, 3, 4, 5, 6, 7, 8, 9, 10, 11, 12, 13, 14, 15, 16]], .call [none] [] [] true (vals_may_R (List.getD x1 (Int.toNat x3) (([] : List UInt8), (0 : Int), (List.replicate 32 (0 : UInt8)), ())) u4) (vals_may_O (List.getD x1 (Int.toNat x3) (([] : List UInt8), (0 : Int), (List.replicate 32 (0 : UInt8)), ())) u4), .br false, .br false, .br false, .br true, .br true, .br true, .br true, .br true, .br true, .br true, .br true, .br true, .br false, .br true, .br false, .br false, .sel [0, 5, 6, 7] []]) (.c h2 (.c h3 (.c (vals_may_ok (List.getD x1 (Int.toNat x3) (([] : List UInt8), (0 : Int), (List.replicate 32 (0 : UInt8)), ())) u4 h5) (.c h6 (.c h6 (.c h6 (.c h7 (.c h7 (.c h7 (.c h7 (.c h8 (.c h7 (.c h7 (.c h7 (.c h7 (.c h7 (.c h6 (.c h7 (.c h6 (.c h9 .n)))))))))))))))))))) (by kernel_rfl)
      · injection h with h; subst h
        exact env.code (its := [.br true, .pre [[], [0], [0, 1], [0, 1, 2], [0, 1, 2, 3], [0, 1, 2, 3, 4], [0, 1, 2, 3, 4, 5], [0, 1, 2, 3, 4, 5, 6], [0, 1, 2, 3, 4, 5, 6], [0, 1, 2, 3, 4, 5, 6, 8], [0, 1, 2, 3, 4, 5, 6, 7, 8, 9], [0, 1, 2, 3, 4, 5, 6, 7, 8, 9, 10], [0, 1, 2, 3, 4, 5, 6, 7, 8, 9, 10, 11], [0, 1, 2, 3, 4, 5, 6], [0, 1, 2, 3, 4, 5, 6, 13], [0, 1, 2, 3, 4, 5, 6, 7, 8, 9, 10, 11, 12, 13, 14], [0, 1, 2, 3, 4, 5, 6, 7, 8, 9, 10, 11, 12, 13, 14, 15], [0, 1, 2, 3, 4, 5, 6, 7, 8, 9, 10, 11, 12, 13, 14, 15, 16]], .call [none] [] [] true (vals_may_R (List.getD x1 (Int.toNat x3) (([] : List UInt8), (0 : Int), (List.replicate 32 (0 : UInt8)), ())) u4) (vals_may_O (List.getD x1 (Int.toNat x3) (([] : List UInt8), (0 : Int), (List.replicate 32 (0 : UInt8)), ())) u4), .br false, .br false, .br false, .br false, .br false, .br false, .br false, .br false, .br false, .br false, .br false, .br false, .br false, .br false, .br false, .br false, .sel [0, 5, 6, 7] []]) (.c h2 (.c h3 (.c (vals_may_ok (List.getD x1 (Int.toNat x3) (([] : List UInt8), (0 : Int), (List.replicate 32 (0 : UInt8)), ())) u4 h5) (.c h6 (.c h6 (.c h6 (.c h7 (.c h7 (.c h7 (.c h7 (.c h7 (.c h7 (.c h7 (.c h7 (.c h7 (.c h6 (.c h7 (.c h6 (.c (rfl : (false : Bool) = false) .n))))))))))))))))))) (by kernel_rfl)
  · injection h with h; subst h
    exact ⟨by intro e; simp [vals_Right_1_ex] at e, env.code (its := [.br false, .sel [0] []]) (.c h2 .n) (by kernel_rfl)⟩
theorem vals_Right_1_ok (x0 : List (List UInt8 × Int × List UInt8 × Unit)) (x1 : List (List UInt8 × Int × List UInt8 × Unit)) (x2 : Int) (x3 : Int) (o : (Bool) ⊕ (List (List UInt8 × Int × List UInt8 × Unit))) (h : vals_Right_1 x0 x1 x2 x3 = some o) : CodeOK prog (codeAt (bodyOf f13) [1, 0, 1, 0]) (vals_Right_1_in x0 x1 x2 x3) (vals_Right_1_ex o) (vals_Right_1_st o) :=
  LoopOK.of_step (st := fun s => vals_Right_1_in x0 x1 x2 s) (ex := vals_Right_1_ex) (stO := vals_Right_1_st) (fun s s2 hs => vals_Right_1_body x0 x1 x2 s (.inl s2) hs) (fun s r hs => vals_Right_1_body x0 x1 x2 s (.inr r) hs) _ o h
def vals_Right_R (a0 : List (List UInt8 × Int × List UInt8 × Unit)) (u : Bool) : Slot := (.v .bool u)
def vals_Right_O (a0 : List (List UInt8 × Int × List UInt8 × Unit)) (u : Bool) : List AObj := []
theorem vals_Right_ok (a0 : List (List UInt8 × Int × List UInt8 × Unit)) (u : Bool) (h : vals_Right a0 = some u) : CallC prog 13 [(.v (.slice (.fld .str (.fld (.int .i64) (.fld (.arr 32 (.int .u8)) .unit)))) a0)] [] (vals_Right_R a0 u) (vals_Right_O a0 u) := by
  unfold vals_Right at h
  obtain ⟨o10, h11, h⟩ := andThen_some h
  rcases o10 with o12 | o13
  · injection h with h; subst h
    exact env.fun func13 can13 (its := [.dive, .sel [0, 5, 6, 7] [], .part (vals_Right_1_ex (.inl o12)) (vals_Right_1_st (.inl o12))]) (pos := [.sel []]) (.c (vals_Right_1_ok a0 a0 (List.length a0 : Int) (0 : Int) (.inl o12) h11) .n) (by kernel_rfl)
  · rcases fork_some h with ⟨h14, h⟩ | ⟨h14, h⟩
    · injection h with h; subst h
      exact env.fun func13 can13 (its := [.dive, .sel [0, 5, 6, 7] [], .part (vals_Right_1_ex (.inr o13)) (vals_Right_1_st (.inr o13)), .br true, .br true, .br true, .br true]) (pos := [.sel []]) (.c (vals_Right_1_ok a0 a0 (List.length a0 : Int) (0 : Int) (.inr o13) h11) (.c h14 (.c h14 (.c h14 (.c h14 .n))))) (by kernel_rfl)
    · injection h with h; subst h
      exact env.fun func13 can13 (its := [.dive, .sel [0, 5, 6, 7] [], .part (vals_Right_1_ex (.inr o13)) (vals_Right_1_st (.inr o13)), .br false, .br false, .br false, .br false]) (pos := [.sel []]) (.c (vals_Right_1_ok a0 a0 (List.length a0 : Int) (0 : Int) (.inr o13) h11) (.c h14 (.c h14 (.c h14 (.c h14 .n))))) (by kernel_rfl)
theorem can3 : Callable prog 3 := ⟨_, func3, by kernel_rfl, by kernel_rfl⟩
def affiantlaw10_ValsRuns_R  (u : Bool) : Slot := (.v .bool u)
def affiantlaw10_ValsRuns_O  (u : Bool) : List AObj := []
theorem affiantlaw10_ValsRuns_ok  (u : Bool) (h : affiantlaw10_ValsRuns  = some u) : CallC prog 3 [] [] (affiantlaw10_ValsRuns_R u) (affiantlaw10_ValsRuns_O u) := by
  unfold affiantlaw10_ValsRuns at h
  obtain ⟨u1, h2, h⟩ := andThen_some h
  rcases fork_some h with ⟨h3, h⟩ | ⟨h3, h⟩
  · obtain ⟨u4, h5, h⟩ := andThen_some h
    rcases fork_some h with ⟨h6, h⟩ | ⟨h6, h⟩
    · obtain ⟨u7, h8, h⟩ := andThen_some h
      rcases fork_some h with ⟨h9, h⟩ | ⟨h9, h⟩
      · obtain ⟨u10, h11, h⟩ := andThen_some h
        rcases fork_some h with ⟨h12, h⟩ | ⟨h12, h⟩
        · obtain ⟨u13, h14, h⟩ := andThen_some h
          injection h with h; subst h
          exact env.fun func3 can3 (its := [.call [none, none] [] [0, 1] true (vals_Tally_R ([(([97] : List UInt8), (3 : Int), (List.replicate 32 (0 : UInt8)), ()), (([98] : List UInt8), (1 : Int), (List.replicate 32 (0 : UInt8)), ()), (([99] : List UInt8), (1 : Int), (List.replicate 32 (0 : UInt8)), ())] : List (List UInt8 × Int × List UInt8 × Unit)) ([([97] : List UInt8), ([97] : List UInt8), ([113] : List UInt8)] : List (List UInt8)) u1) (vals_Tally_O ([(([97] : List UInt8), (3 : Int), (List.replicate 32 (0 : UInt8)), ()), (([98] : List UInt8), (1 : Int), (List.replicate 32 (0 : UInt8)), ()), (([99] : List UInt8), (1 : Int), (List.replicate 32 (0 : UInt8)), ())] : List (List UInt8 × Int × List UInt8 × Unit)) ([([97] : List UInt8), ([97] : List UInt8), ([113] : List UInt8)] : List (List UInt8)) u1), .br true, .br true, .call [none, none, none] [] [] true (vals_Over_R u1 (1 : Int) (3 : Int) u4) (vals_Over_O u1 (1 : Int) (3 : Int) u4), .br true, .br true, .br true, .call [none, none, none] [] [] true (vals_Over_R u1 (2 : Int) (3 : Int) u7) (vals_Over_O u1 (2 : Int) (3 : Int) u7), .br true, .br true, .br true, .br true, .call [none] [] [0] true (vals_Right_R ([(([97] : List UInt8), (3 : Int), (List.replicate 32 (0 : UInt8)), ()), (([98] : List UInt8), (1 : Int), (List.replicate 32 (0 : UInt8)), ()), (([99] : List UInt8), (1 : Int), (List.replicate 32 (0 : UInt8)), ())] : List (List UInt8 × Int × List UInt8 × Unit)) u10) (vals_Right_O ([(([97] : List UInt8), (3 : Int), (List.replicate 32 (0 : UInt8)), ()), (([98] : List UInt8), (1 : Int), (List.replicate 32 (0 : UInt8)), ()), (([99] : List UInt8), (1 : Int), (List.replicate 32 (0 : UInt8)), ())] : List (List UInt8 × Int × List UInt8 × Unit)) u10), .br true, .br true, .br true, .call [none] [] [0] true (vals_Total_R ([(([97] : List UInt8), (3 : Int), (List.replicate 32 (0 : UInt8)), ()), (([98] : List UInt8), (1 : Int), (List.replicate 32 (0 : UInt8)), ()), (([99] : List UInt8), (1 : Int), (List.replicate 32 (0 : UInt8)), ())] : List (List UInt8 × Int × List UInt8 × Unit)) u13) (vals_Total_O ([(([97] : List UInt8), (3 : Int), (List.replicate 32 (0 : UInt8)), ()), (([98] : List UInt8), (1 : Int), (List.replicate 32 (0 : UInt8)), ()), (([99] : List UInt8), (1 : Int), (List.replicate 32 (0 : UInt8)), ())] : List (List UInt8 × Int × List UInt8 × Unit)) u13), .br true, .br true]) (pos := [.sel []]) (.c (vals_Tally_ok ([(([97] : List UInt8), (3 : Int), (List.replicate 32 (0 : UInt8)), ()), (([98] : List UInt8), (1 : Int), (List.replicate 32 (0 : UInt8)), ()), (([99] : List UInt8), (1 : Int), (List.replicate 32 (0 : UInt8)), ())] : List (List UInt8 × Int × List UInt8 × Unit)) ([([97] : List UInt8), ([97] : List UInt8), ([113] : List UInt8)] : List (List UInt8)) u1 h2) (.c h3 (.c h3 (.c (vals_Over_ok u1 (1 : Int) (3 : Int) u4 h5) (.c h3 (.c h6 (.c h6 (.c (vals_Over_ok u1 (2 : Int) (3 : Int) u7 h8) (.c h6 (.c h6 (.c h9 (.c h9 (.c (vals_Right_ok ([(([97] : List UInt8), (3 : Int), (List.replicate 32 (0 : UInt8)), ()), (([98] : List UInt8), (1 : Int), (List.replicate 32 (0 : UInt8)), ()), (([99] : List UInt8), (1 : Int), (List.replicate 32 (0 : UInt8)), ())] : List (List UInt8 × Int × List UInt8 × Unit)) u10 h11) (.c h9 (.c h12 (.c h12 (.c (vals_Total_ok ([(([97] : List UInt8), (3 : Int), (List.replicate 32 (0 : UInt8)), ()), (([98] : List UInt8), (1 : Int), (List.replicate 32 (0 : UInt8)), ()), (([99] : List UInt8), (1 : Int), (List.replicate 32 (0 : UInt8)), ())] : List (List UInt8 × Int × List UInt8 × Unit)) u13 h14) (.c h12 (.c h12 .n))))))))))))))))))) (by kernel_rfl)
        · cases h
      · cases h
    · cases h
  · cases h
theorem can5 : Callable prog 5 := ⟨_, func5, by kernel_rfl, by kernel_rfl⟩
def affiantlaw10_ValsLaws_1_in (x0 : List Bool) (x1 : List Bool) (x2 : Int) (x3 : Int) (x4 : List (List UInt8 × Int × List UInt8 × Unit)) (x5 : List (List UInt8)) (x6 : List (List UInt8)) (x7 : List (List UInt8)) (x8 : List (List UInt8)) : St := ⟨[(1, (.v (.slice .bool) x0)), (2, (.v (.slice .bool) x1)), (7, (.own 0 [])), (8, (.own 1 [])), (9, (.own 2 [])), (10, (.own 3 [])), (11, (.own 4 [])), (22, (.own 0 [])), (23, (.v (.int .i64) x2)), (24, (.v (.int .i64) x3))], [.row (.fld .str (.fld (.int .i64) (.fld (.arr 32 (.int .u8)) .unit))) x4 true, .row .str x5 true, .row .str x6 true, .row .str x7 true, .row .str x8 true], 156, 0⟩
def affiantlaw10_ValsLaws_1_ex (o : (List (List UInt8 × Int × List UInt8 × Unit)) × List (List UInt8) × List (List UInt8) × List (List UInt8) × List (List UInt8)) : Exit := (.exit 0)
def affiantlaw10_ValsLaws_1_st (o : (List (List UInt8 × Int × List UInt8 × Unit)) × List (List UInt8) × List (List UInt8) × List (List UInt8) × List (List UInt8)) : St := ⟨[(7, (.own 0 [])), (8, (.own 1 [])), (9, (.own 2 [])), (10, (.own 3 [])), (11, (.own 4 []))], [.row (.fld .str (.fld (.int .i64) (.fld (.arr 32 (.int .u8)) .unit))) o.1 true, .row .str o.2.1 true, .row .str o.2.2.1 true, .row .str o.2.2.2.1 true, .row .str o.2.2.2.2 true], 156, 0⟩
theorem affiantlaw10_ValsLaws_1_body (x0 : List Bool) (x1 : List Bool) (x2 : Int) (x3 : Int) (x4 : List (List UInt8 × Int × List UInt8 × Unit)) (x5 : List (List UInt8)) (x6 : List (List UInt8)) (x7 : List (List UInt8)) (x8 : List (List UInt8)) : ∀ r, affiantlaw10_ValsLaws_1_step x0 x1 x2 x3 x4 x5 x6 x7 x8 = some r → (match r with | .inl s => CodeOK prog (codeAt (bodyOf f5) [1, 1, 1, 0, 1, 0, 0]) (affiantlaw10_ValsLaws_1_in x0 x1 x2 x3 x4 x5 x6 x7 x8) .normal (affiantlaw10_ValsLaws_1_in x0 x1 x2 s.1 x4 s.2.1 s.2.2.1 s.2.2.2.1 s.2.2.2.2) | .inr o => affiantlaw10_ValsLaws_1_ex o ≠ .normal ∧ CodeOK prog (codeAt (bodyOf f5) [1, 1, 1, 0, 1, 0, 0]) (affiantlaw10_ValsLaws_1_in x0 x1 x2 x3 x4 x5 x6 x7 x8) (affiantlaw10_ValsLaws_1_ex o) (affiantlaw10_ValsLaws_1_st o)) := by
  intro r h
  unfold affiantlaw10_ValsLaws_1_step at h
  rcases fork_some h with ⟨h4, h⟩ | ⟨h4, h⟩
  · obtain ⟨h5, h⟩ := need_some h
    rcases fork_some h with ⟨h6, h⟩ | ⟨h6, h⟩
    · obtain ⟨h7, h⟩ := need_some h
      rcases fork_some h with ⟨h8, h⟩ | ⟨h8, h⟩
      · obtain ⟨h9, h⟩ := need_some h
        rcases fork_some h with ⟨h10, h⟩ | ⟨h10, h⟩
        · obtain ⟨h11, h⟩ := need_some h
          rcases fork_some h with ⟨h12, h⟩ | ⟨h12, h⟩
          · obtain ⟨h13, h⟩ := need_some h
            obtain ⟨h14, h⟩ := need_some h
            obtain ⟨h15, h⟩ := need_some h
            injection h with h; subst h
            exact env.code (its := [.br true, .pre [[], [], [1], [0, 1, 2], [0, 1, 2, 3], [0, 1, 2, 3, 4], [0, 1, 2, 3, 4], [0, 1, 2, 3, 4, 5, 6], [0, 1, 2, 3, 4, 5, 6, 7], [0, 1, 2, 3, 4, 5, 6, 7, 8], [], [], [11], [10, 11, 12], [0, 1, 2, 3, 4, 10, 11, 12, 13], [0, 1, 2, 3, 4, 10, 11, 12, 13, 14], [0, 1, 2, 3, 4, 10, 11, 12, 13, 14], [0, 1, 2, 3, 4, 10, 11, 12, 13, 14, 15, 16], [0, 1, 2, 3, 4, 10, 11, 12, 13, 14, 15, 16, 17], [0, 1, 2, 3, 4, 10, 11, 12, 13, 14, 15, 16, 17, 18], [0, 1, 2, 3, 4, 5, 6, 7, 8, 9, 10, 11, 12, 13, 14], [0, 1, 2, 3, 4, 5, 6, 7, 8, 9, 10, 11, 12, 13, 14, 15, 16, 17, 18, 19, 20]], .br true, .br true, .br true, .br true, .br true, .br true, .br true, .br true, .br true, .br true, .br true, .br true, .br true, .br true, .br true, .sel [1, 2, 7, 8, 9, 10, 11, 22, 23, 24] [0, 7, 9, 11, 13]]) (.c h4 (.c h5 (.c h6 (.c h6 (.c h6 (.c h7 (.c h6 (.c h6 (.c h8 (.c h8 (.c h8 (.c h9 (.c h8 (.c h8 (.c h10 (.c h11 (.c h12 (.c h13 (.c h10 (.c h10 (.c h12 (.c h14 (.c h15 .n))))))))))))))))))))))) (by kernel_rfl)
          · obtain ⟨h16, h⟩ := need_some h
            injection h with h; subst h
            exact env.code (its := [.br true, .pre [[], [], [1], [0, 1, 2], [0, 1, 2, 3], [0, 1, 2, 3, 4], [0, 1, 2, 3, 4], [0, 1, 2, 3, 4, 5, 6], [0, 1, 2, 3, 4, 5, 6, 7], [0, 1, 2, 3, 4, 5, 6, 7, 8], [], [], [11], [10, 11, 12], [0, 1, 2, 3, 4, 10, 11, 12, 13], [0, 1, 2, 3, 4, 10, 11, 12, 13, 14], [0, 1, 2, 3, 4, 10, 11, 12, 13, 14], [0, 1, 2, 3, 4, 10, 11, 12, 13, 14, 15, 16], [0, 1, 2, 3, 4, 10, 11, 12, 13, 14, 15, 16, 17], [0, 1, 2, 3, 4, 10, 11, 12, 13, 14, 15, 16, 17, 18], [0, 1, 2, 3, 4, 5, 6, 7, 8, 9, 10, 11, 12, 13, 14], [0, 1, 2, 3, 4, 5, 6, 7, 8, 9, 10, 11, 12, 13, 14, 15, 16, 17, 18, 19, 20]], .br true, .br true, .br true, .br true, .br true, .br true, .br true, .br true, .br true, .br true, .br true, .br false, .br true, .br true, .br false, .sel [1, 2, 7, 8, 9, 10, 11, 22, 23, 24] [0, 7, 2, 3, 9]]) (.c h4 (.c h5 (.c h6 (.c h6 (.c h6 (.c h7 (.c h6 (.c h6 (.c h8 (.c h8 (.c h8 (.c h9 (.c h8 (.c h8 (.c h10 (.c h11 (.c h12 (.c h10 (.c h10 (.c h12 (.c h16 .n))))))))))))))))))))) (by kernel_rfl)
        · rcases fork_some h with ⟨h17, h⟩ | ⟨h17, h⟩
          · obtain ⟨h18, h⟩ := need_some h
            obtain ⟨h19, h⟩ := need_some h
            injection h with h; subst h
            exact env.code (its := [.br true, .pre [[], [], [1], [0, 1, 2], [0, 1, 2, 3], [0, 1, 2, 3, 4], [0, 1, 2, 3, 4], [0, 1, 2, 3, 4, 5, 6], [0, 1, 2, 3, 4, 5, 6, 7], [0, 1, 2, 3, 4, 5, 6, 7, 8], [], [], [11], [10, 11, 12], [0, 1, 2, 3, 4, 10, 11, 12, 13], [0, 1, 2, 3, 4, 10, 11, 12, 13, 14], [0, 1, 2, 3, 4, 10, 11, 12, 13, 14], [0, 1, 2, 3, 4, 10, 11, 12, 13, 14, 15, 16], [0, 1, 2, 3, 4, 10, 11, 12, 13, 14, 15, 16, 17], [0, 1, 2, 3, 4, 10, 11, 12, 13, 14, 15, 16, 17, 18], [0, 1, 2, 3, 4, 5, 6, 7, 8, 9, 10, 11, 12, 13, 14], [0, 1, 2, 3, 4, 5, 6, 7, 8, 9, 10, 11, 12, 13, 14, 15, 16, 17, 18, 19, 20]], .br true, .br true, .br true, .br true, .br true, .br true, .br true, .br true, .br true, .br true, .br false, .br true, .br false, .br false, .br false, .sel [1, 2, 7, 8, 9, 10, 11, 22, 23, 24] [0, 1, 7, 3, 9]]) (.c h4 (.c h5 (.c h6 (.c h6 (.c h6 (.c h7 (.c h6 (.c h6 (.c h8 (.c h8 (.c h8 (.c h9 (.c h8 (.c h8 (.c h10 (.c h17 (.c h18 (.c h10 (.c h10 (.c (rfl : (false : Bool) = false) (.c h19 .n))))))))))))))))))))) (by kernel_rfl)
          · obtain ⟨h20, h⟩ := need_some h
            injection h with h; subst h
            exact env.code (its := [.br true, .pre [[], [], [1], [0, 1, 2], [0, 1, 2, 3], [0, 1, 2, 3, 4], [0, 1, 2, 3, 4], [0, 1, 2, 3, 4, 5, 6], [0, 1, 2, 3, 4, 5, 6, 7], [0, 1, 2, 3, 4, 5, 6, 7, 8], [], [], [11], [10, 11, 12], [0, 1, 2, 3, 4, 10, 11, 12, 13], [0, 1, 2, 3, 4, 10, 11, 12, 13, 14], [0, 1, 2, 3, 4, 10, 11, 12, 13, 14], [0, 1, 2, 3, 4, 10, 11, 12, 13, 14, 15, 16], [0, 1, 2, 3, 4, 10, 11, 12, 13, 14, 15, 16, 17], [0, 1, 2, 3, 4, 10, 11, 12, 13, 14, 15, 16, 17, 18], [0, 1, 2, 3, 4, 5, 6, 7, 8, 9, 10, 11, 12, 13, 14], [0, 1, 2, 3, 4, 5, 6, 7, 8, 9, 10, 11, 12, 13, 14, 15, 16, 17, 18, 19, 20]], .br true, .br true, .br true, .br true, .br true, .br true, .br true, .br true, .br true, .br true, .br false, .br false, .br false, .br false, .br false, .sel [1, 2, 7, 8, 9, 10, 11, 22, 23, 24] [0, 1, 2, 3, 7]]) (.c h4 (.c h5 (.c h6 (.c h6 (.c h6 (.c h7 (.c h6 (.c h6 (.c h8 (.c h8 (.c h8 (.c h9 (.c h8 (.c h8 (.c h10 (.c h17 (.c h10 (.c h10 (.c (rfl : (false : Bool) = false) (.c h20 .n)))))))))))))))))))) (by kernel_rfl)
      · rcases fork_some h with ⟨h21, h⟩ | ⟨h21, h⟩
        · obtain ⟨h22, h⟩ := need_some h
          obtain ⟨h23, h⟩ := need_some h
          injection h with h; subst h
          exact env.code (its := [.br true, .pre [[], [], [1], [0, 1, 2], [0, 1, 2, 3], [0, 1, 2, 3, 4], [0, 1, 2, 3, 4], [0, 1, 2, 3, 4, 5, 6], [0, 1, 2, 3, 4, 5, 6, 7], [0, 1, 2, 3, 4, 5, 6, 7, 8], [], [], [11], [10, 11, 12], [0, 1, 2, 3, 4, 10, 11, 12, 13], [0, 1, 2, 3, 4, 10, 11, 12, 13, 14], [0, 1, 2, 3, 4, 10, 11, 12, 13, 14], [0, 1, 2, 3, 4, 10, 11, 12, 13, 14, 15, 16], [0, 1, 2, 3, 4, 10, 11, 12, 13, 14, 15, 16, 17], [0, 1, 2, 3, 4, 10, 11, 12, 13, 14, 15, 16, 17, 18], [0, 1, 2, 3, 4, 5, 6, 7, 8, 9, 10, 11, 12, 13, 14], [0, 1, 2, 3, 4, 5, 6, 7, 8, 9, 10, 11, 12, 13, 14, 15, 16, 17, 18, 19, 20]], .br true, .br true, .br true, .br true, .br true, .br false, .br false, .br false, .br false, .br false, .br true, .br false, .br true, .br true, .br false, .sel [1, 2, 7, 8, 9, 10, 11, 22, 23, 24] [0, 7, 2, 3, 9]]) (.c h4 (.c h5 (.c h6 (.c h6 (.c h6 (.c h7 (.c h6 (.c h6 (.c h8 (.c h8 (.c h8 (.c h8 (.c h8 (.c h21 (.c h22 (.c (rfl : (false : Bool) = false) (.c h21 (.c h21 (.c (rfl : (false : Bool) = false) (.c h23 .n)))))))))))))))))))) (by kernel_rfl)
        · obtain ⟨h24, h⟩ := need_some h
          injection h with h; subst h
          exact env.code (its := [.br true, .pre [[], [], [1], [0, 1, 2], [0, 1, 2, 3], [0, 1, 2, 3, 4], [0, 1, 2, 3, 4], [0, 1, 2, 3, 4, 5, 6], [0, 1, 2, 3, 4, 5, 6, 7], [0, 1, 2, 3, 4, 5, 6, 7, 8], [], [], [11], [10, 11, 12], [0, 1, 2, 3, 4, 10, 11, 12, 13], [0, 1, 2, 3, 4, 10, 11, 12, 13, 14], [0, 1, 2, 3, 4, 10, 11, 12, 13, 14], [0, 1, 2, 3, 4, 10, 11, 12, 13, 14, 15, 16], [0, 1, 2, 3, 4, 10, 11, 12, 13, 14, 15, 16, 17], [0, 1, 2, 3, 4, 10, 11, 12, 13, 14, 15, 16, 17, 18], [0, 1, 2, 3, 4, 5, 6, 7, 8, 9, 10, 11, 12, 13, 14], [0, 1, 2, 3, 4, 5, 6, 7, 8, 9, 10, 11, 12, 13, 14, 15, 16, 17, 18, 19, 20]], .br true, .br true, .br true, .br true, .br true, .br false, .br false, .br false, .br false, .br false, .br false, .br false, .br false, .br false, .br false, .sel [1, 2, 7, 8, 9, 10, 11, 22, 23, 24] [0, 1, 2, 3, 7]]) (.c h4 (.c h5 (.c h6 (.c h6 (.c h6 (.c h7 (.c h6 (.c h6 (.c h8 (.c h8 (.c h8 (.c h8 (.c h8 (.c h21 (.c (rfl : (false : Bool) = false) (.c h21 (.c h21 (.c (rfl : (false : Bool) = false) (.c h24 .n))))))))))))))))))) (by kernel_rfl)
    · rcases fork_some h with ⟨h25, h⟩ | ⟨h25, h⟩
      · obtain ⟨h26, h⟩ := need_some h
        rcases fork_some h with ⟨h27, h⟩ | ⟨h27, h⟩
        · obtain ⟨h28, h⟩ := need_some h
          obtain ⟨h29, h⟩ := need_some h
          injection h with h; subst h
          exact env.code (its := [.br true, .pre [[], [], [1], [0, 1, 2], [0, 1, 2, 3], [0, 1, 2, 3, 4], [0, 1, 2, 3, 4], [0, 1, 2, 3, 4, 5, 6], [0, 1, 2, 3, 4, 5, 6, 7], [0, 1, 2, 3, 4, 5, 6, 7, 8], [], [], [11], [10, 11, 12], [0, 1, 2, 3, 4, 10, 11, 12, 13], [0, 1, 2, 3, 4, 10, 11, 12, 13, 14], [0, 1, 2, 3, 4, 10, 11, 12, 13, 14], [0, 1, 2, 3, 4, 10, 11, 12, 13, 14, 15, 16], [0, 1, 2, 3, 4, 10, 11, 12, 13, 14, 15, 16, 17], [0, 1, 2, 3, 4, 10, 11, 12, 13, 14, 15, 16, 17, 18], [0, 1, 2, 3, 4, 5, 6, 7, 8, 9, 10, 11, 12, 13, 14], [0, 1, 2, 3, 4, 5, 6, 7, 8, 9, 10, 11, 12, 13, 14, 15, 16, 17, 18, 19, 20]], .br false, .br false, .br false, .br false, .br false, .br true, .br true, .br true, .br true, .br true, .br false, .br true, .br false, .br false, .br false, .sel [1, 2, 7, 8, 9, 10, 11, 22, 23, 24] [0, 1, 7, 3, 9]]) (.c h4 (.c h5 (.c h6 (.c h6 (.c h6 (.c h6 (.c h6 (.c h25 (.c h25 (.c h25 (.c h26 (.c h25 (.c h25 (.c (rfl : (false : Bool) = false) (.c h27 (.c h28 (.c (rfl : (false : Bool) = false) (.c (rfl : (false : Bool) = false) (.c (rfl : (false : Bool) = false) (.c h29 .n)))))))))))))))))))) (by kernel_rfl)
        · obtain ⟨h30, h⟩ := need_some h
          injection h with h; subst h
          exact env.code (its := [.br true, .pre [[], [], [1], [0, 1, 2], [0, 1, 2, 3], [0, 1, 2, 3, 4], [0, 1, 2, 3, 4], [0, 1, 2, 3, 4, 5, 6], [0, 1, 2, 3, 4, 5, 6, 7], [0, 1, 2, 3, 4, 5, 6, 7, 8], [], [], [11], [10, 11, 12], [0, 1, 2, 3, 4, 10, 11, 12, 13], [0, 1, 2, 3, 4, 10, 11, 12, 13, 14], [0, 1, 2, 3, 4, 10, 11, 12, 13, 14], [0, 1, 2, 3, 4, 10, 11, 12, 13, 14, 15, 16], [0, 1, 2, 3, 4, 10, 11, 12, 13, 14, 15, 16, 17], [0, 1, 2, 3, 4, 10, 11, 12, 13, 14, 15, 16, 17, 18], [0, 1, 2, 3, 4, 5, 6, 7, 8, 9, 10, 11, 12, 13, 14], [0, 1, 2, 3, 4, 5, 6, 7, 8, 9, 10, 11, 12, 13, 14, 15, 16, 17, 18, 19, 20]], .br false, .br false, .br false, .br false, .br false, .br true, .br true, .br true, .br true, .br true, .br false, .br false, .br false, .br false, .br false, .sel [1, 2, 7, 8, 9, 10, 11, 22, 23, 24] [0, 1, 2, 3, 7]]) (.c h4 (.c h5 (.c h6 (.c h6 (.c h6 (.c h6 (.c h6 (.c h25 (.c h25 (.c h25 (.c h26 (.c h25 (.c h25 (.c (rfl : (false : Bool) = false) (.c h27 (.c (rfl : (false : Bool) = false) (.c (rfl : (false : Bool) = false) (.c (rfl : (false : Bool) = false) (.c h30 .n))))))))))))))))))) (by kernel_rfl)
      · obtain ⟨h31, h⟩ := need_some h
        injection h with h; subst h
        exact env.code (its := [.br true, .pre [[], [], [1], [0, 1, 2], [0, 1, 2, 3], [0, 1, 2, 3, 4], [0, 1, 2, 3, 4], [0, 1, 2, 3, 4, 5, 6], [0, 1, 2, 3, 4, 5, 6, 7], [0, 1, 2, 3, 4, 5, 6, 7, 8], [], [], [11], [10, 11, 12], [0, 1, 2, 3, 4, 10, 11, 12, 13], [0, 1, 2, 3, 4, 10, 11, 12, 13, 14], [0, 1, 2, 3, 4, 10, 11, 12, 13, 14], [0, 1, 2, 3, 4, 10, 11, 12, 13, 14, 15, 16], [0, 1, 2, 3, 4, 10, 11, 12, 13, 14, 15, 16, 17], [0, 1, 2, 3, 4, 10, 11, 12, 13, 14, 15, 16, 17, 18], [0, 1, 2, 3, 4, 5, 6, 7, 8, 9, 10, 11, 12, 13, 14], [0, 1, 2, 3, 4, 5, 6, 7, 8, 9, 10, 11, 12, 13, 14, 15, 16, 17, 18, 19, 20]], .br false, .br false, .br false, .br false, .br false, .br false, .br false, .br false, .br false, .br false, .br false, .br false, .br false, .br false, .br false, .sel [1, 2, 7, 8, 9, 10, 11, 22, 23, 24] [0, 1, 2, 3, 7]]) (.c h4 (.c h5 (.c h6 (.c h6 (.c h6 (.c h6 (.c h6 (.c h25 (.c h25 (.c h25 (.c h25 (.c h25 (.c (rfl : (false : Bool) = false) (.c (rfl : (false : Bool) = false) (.c (rfl : (false : Bool) = false) (.c (rfl : (false : Bool) = false) (.c (rfl : (false : Bool) = false) (.c h31 .n)))))))))))))))))) (by kernel_rfl)
  · injection h with h; subst h
    exact ⟨by intro e; simp [affiantlaw10_ValsLaws_1_ex] at e, env.code (its := [.br false, .sel [7, 8, 9, 10, 11] [0, 1, 2, 3, 4]]) (.c h4 .n) (by kernel_rfl)⟩
theorem affiantlaw10_ValsLaws_1_ok (x0 : List Bool) (x1 : List Bool) (x2 : Int) (x3 : Int) (x4 : List (List UInt8 × Int × List UInt8 × Unit)) (x5 : List (List UInt8)) (x6 : List (List UInt8)) (x7 : List (List UInt8)) (x8 : List (List UInt8)) (o : (List (List UInt8 × Int × List UInt8 × Unit)) × List (List UInt8) × List (List UInt8) × List (List UInt8) × List (List UInt8)) (h : affiantlaw10_ValsLaws_1 x0 x1 x2 x3 x4 x5 x6 x7 x8 = some o) : CodeOK prog (codeAt (bodyOf f5) [1, 1, 1, 0, 1, 0]) (affiantlaw10_ValsLaws_1_in x0 x1 x2 x3 x4 x5 x6 x7 x8) (affiantlaw10_ValsLaws_1_ex o) (affiantlaw10_ValsLaws_1_st o) :=
  LoopOK.of_step (st := fun s => affiantlaw10_ValsLaws_1_in x0 x1 x2 s.1 x4 s.2.1 s.2.2.1 s.2.2.2.1 s.2.2.2.2) (ex := affiantlaw10_ValsLaws_1_ex) (stO := affiantlaw10_ValsLaws_1_st) (fun s s2 hs => affiantlaw10_ValsLaws_1_body x0 x1 x2 s.1 x4 s.2.1 s.2.2.1 s.2.2.2.1 s.2.2.2.2 (.inl s2) hs) (fun s r hs => affiantlaw10_ValsLaws_1_body x0 x1 x2 s.1 x4 s.2.1 s.2.2.1 s.2.2.2.1 s.2.2.2.2 (.inr r) hs) _ o h
def affiantlaw10_ValsLaws_R (a0 : List Int) (a1 : List Bool) (a2 : List Bool) (u : Bool) : Slot := (.v .bool u)
def affiantlaw10_ValsLaws_O (a0 : List Int) (a1 : List Bool) (a2 : List Bool) (u : Bool) : List AObj := []
theorem affiantlaw10_ValsLaws_ok (a0 : List Int) (a1 : List Bool) (a2 : List Bool) (u : Bool) (h : affiantlaw10_ValsLaws a0 a1 a2 = some u) : CallC prog 5 [(.v (.slice (.int .i64)) a0), (.v (.slice .bool) a1), (.v (.slice .bool) a2)] [] (affiantlaw10_ValsLaws_R a0 a1 a2 u) (affiantlaw10_ValsLaws_O a0 a1 a2 u) := by
  unfold affiantlaw10_ValsLaws at h
  obtain ⟨u1, h2, h⟩ := andThen_some h
  obtain ⟨o32, h33, h⟩ := andThen_some h
  obtain ⟨u34, h35, h⟩ := andThen_some h
  obtain ⟨u36, h37, h⟩ := andThen_some h
  obtain ⟨u38, h39, h⟩ := andThen_some h
  obtain ⟨u40, h41, h⟩ := andThen_some h
  rcases fork_some h with ⟨h42, h⟩ | ⟨h42, h⟩
  · obtain ⟨u43, h44, h⟩ := andThen_some h
    rcases fork_some h with ⟨h45, h⟩ | ⟨h45, h⟩
    · obtain ⟨u46, h47, h⟩ := andThen_some h
      rcases fork_some h with ⟨h48, h⟩ | ⟨h48, h⟩
      · cases h
      · obtain ⟨h49, h⟩ := need_some h
        obtain ⟨h50, h⟩ := need_some h
        obtain ⟨h51, h⟩ := need_some h
        obtain ⟨u52, h53, h⟩ := andThen_some h
        obtain ⟨u54, h55, h⟩ := andThen_some h
        rcases fork_some h with ⟨h56, h⟩ | ⟨h56, h⟩
        · obtain ⟨u57, h58, h⟩ := andThen_some h
          rcases fork_some h with ⟨h59, h⟩ | ⟨h59, h⟩
          · rcases fork_some h with ⟨h60, h⟩ | ⟨h60, h⟩
            · rcases fork_some h with ⟨h61, h⟩ | ⟨h61, h⟩
              · obtain ⟨u62, h63, h⟩ := andThen_some h
                obtain ⟨u64, h65, h⟩ := andThen_some h
                rcases fork_some h with ⟨h66, h⟩ | ⟨h66, h⟩
                · obtain ⟨u67, h68, h⟩ := andThen_some h
                  obtain ⟨u69, h70, h⟩ := andThen_some h
                  rcases fork_some h with ⟨h71, h⟩ | ⟨h71, h⟩
                  · obtain ⟨h72, h⟩ := need_some h
                    obtain ⟨u73, h74, h⟩ := andThen_some h
                    rcases fork_some h with ⟨h75, h⟩ | ⟨h75, h⟩
                    · obtain ⟨u76, h77, h⟩ := andThen_some h
                      injection h with h; subst h
                      exact env.fun func5 can5 (its := [.call [none] [] [] true (affiantkeep_Set_R a0 u1) (affiantkeep_Set_O a0 u1), .dive, .promote 8 .str, .promote 9 .str, .promote 10 .str, .promote 11 .str, .sel [1, 2, 7, 8, 9, 10, 11, 22, 23, 24] [0, 1, 2, 3, 4], .part (affiantlaw10_ValsLaws_1_ex o32) (affiantlaw10_ValsLaws_1_st o32), .call [none, none] [] [0, 1] true (vals_Tally_R o32.1 o32.2.1 u34) (vals_Tally_O o32.1 o32.2.1 u34), .call [none, none] [] [0, 2] true (vals_Tally_R o32.1 o32.2.2.1 u36) (vals_Tally_O o32.1 o32.2.2.1 u36), .call [none, none] [] [0, 3] true (vals_Tally_R o32.1 o32.2.2.2.1 u38) (vals_Tally_O o32.1 o32.2.2.2.1 u38), .call [none, none, none] [] [] true (vals_Over_R u34 (2 : Int) (3 : Int) u40) (vals_Over_O u34 (2 : Int) (3 : Int) u40), .br true, .br true, .call [none, none, none] [] [] true (vals_Over_R u36 (2 : Int) (3 : Int) u43) (vals_Over_O u36 (2 : Int) (3 : Int) u43), .br true, .br true, .br true, .call [none, none, none] [] [] true (vals_Over_R u38 (1 : Int) (3 : Int) u46) (vals_Over_O u38 (1 : Int) (3 : Int) u46), .br true, .br true, .br false, .pre [[], [], [], [1, 2], [], [4], [4, 5], [4, 5, 6], [4, 5, 6, 7], [1, 2, 3, 4, 5, 6, 7, 8], [0, 1, 2, 3, 4, 5, 6, 7, 8, 9], [0, 1, 2, 3, 4, 5, 6, 7, 8, 9, 10]], .call [none, none] [] [0, 1] true (vals_Tally_R o32.1 ((([] : List (List UInt8)) ++ o32.2.1) ++ ([(List.getD o32.1 (Int.toNat (0 : Int)) (([] : List UInt8), (0 : Int), (List.replicate 32 (0 : UInt8)), ())).1] : List (List UInt8))) u52) (vals_Tally_O o32.1 ((([] : List (List UInt8)) ++ o32.2.1) ++ ([(List.getD o32.1 (Int.toNat (0 : Int)) (([] : List UInt8), (0 : Int), (List.replicate 32 (0 : UInt8)), ())).1] : List (List UInt8))) u52), .call [none, (some .str)] [] [0] true (vals_Tally_R o32.1 ([] : List (List UInt8)) u54) (vals_Tally_O o32.1 ([] : List (List UInt8)) u54), .br true, .br true, .br true, .call [none, none] [] [0, 4] true (vals_Tally_R o32.1 o32.2.2.2.2 u57) (vals_Tally_O o32.1 o32.2.2.2.2 u57), .br true, .br true, .br true, .br true, .br true, .br true, .br true, .br true, .br true, .br true, .br true, .br true, .br true, .br true, .br true, .br true, .br true, .br true, .br true, .br true, .call [none, none] [] [0, 4] true (vals_Tally_R o32.1 o32.2.2.2.2 u62) (vals_Tally_O o32.1 o32.2.2.2.2 u62), .br true, .call [none, none, none] [] [] true (vals_Over_R u62 (2 : Int) (3 : Int) u64) (vals_Over_O u62 (2 : Int) (3 : Int) u64), .br true, .br true, .br true, .call [none, (some .str)] [] [0] true (vals_Tally_R o32.1 ([] : List (List UInt8)) u67) (vals_Tally_O o32.1 ([] : List (List UInt8)) u67), .br true, .call [none, none, none] [] [] true (vals_Over_R u67 (0 : Int) (1 : Int) u69) (vals_Over_O u67 (0 : Int) (1 : Int) u69), .br true, .br true, .br true, .br true, .br true, .br true, .br true, .call [none, none] [] [0, 10] true (vals_Same_R o32.1 (([] : List (List UInt8 × Int × List UInt8 × Unit)) ++ o32.1) u73) (vals_Same_O o32.1 (([] : List (List UInt8 × Int × List UInt8 × Unit)) ++ o32.1) u73), .br true, .br true, .call [] [] [] true (affiantlaw10_ValsRuns_R u76) (affiantlaw10_ValsRuns_O u76), .br true]) (pos := [.sel []]) (.c (affiantkeep_Set_ok a0 u1 h2) (.c (affiantlaw10_ValsLaws_1_ok a1 a2 (List.length u1 : Int) (0 : Int) u1 ([] : List (List UInt8)) ([] : List (List UInt8)) ([] : List (List UInt8)) ([] : List (List UInt8)) o32 h33) (.c (vals_Tally_ok o32.1 o32.2.1 u34 h35) (.c (vals_Tally_ok o32.1 o32.2.2.1 u36 h37) (.c (vals_Tally_ok o32.1 o32.2.2.2.1 u38 h39) (.c (vals_Over_ok u34 (2 : Int) (3 : Int) u40 h41) (.c h42 (.c h42 (.c (vals_Over_ok u36 (2 : Int) (3 : Int) u43 h44) (.c h42 (.c h45 (.c h45 (.c (vals_Over_ok u38 (1 : Int) (3 : Int) u46 h47) (.c h45 (.c h45 (.c h48 (.c h49 (.c h50 (.c h51 (.c (vals_Tally_ok o32.1 ((([] : List (List UInt8)) ++ o32.2.1) ++ ([(List.getD o32.1 (Int.toNat (0 : Int)) (([] : List UInt8), (0 : Int), (List.replicate 32 (0 : UInt8)), ())).1] : List (List UInt8))) u52 h53) (.c (vals_Tally_ok o32.1 ([] : List (List UInt8)) u54 h55) (.c h56 (.c h56 (.c h56 (.c (vals_Tally_ok o32.1 o32.2.2.2.2 u57 h58) (.c h56 (.c h56 (.c h56 (.c h56 (.c h56 (.c h59 (.c h59 (.c h59 (.c h59 (.c h59 (.c h59 (.c h60 (.c h60 (.c h60 (.c h60 (.c h60 (.c h60 (.c h61 (.c h61 (.c h61 (.c (vals_Tally_ok o32.1 o32.2.2.2.2 u62 h63) (.c h61 (.c (vals_Over_ok u62 (2 : Int) (3 : Int) u64 h65) (.c h61 (.c h66 (.c h66 (.c (vals_Tally_ok o32.1 ([] : List (List UInt8)) u67 h68) (.c h66 (.c (vals_Over_ok u67 (0 : Int) (1 : Int) u69 h70) (.c h66 (.c h66 (.c h71 (.c h71 (.c h71 (.c h71 (.c h72 (.c h71 (.c (vals_Same_ok o32.1 (([] : List (List UInt8 × Int × List UInt8 × Unit)) ++ o32.1) u73 h74) (.c h71 (.c h75 (.c (affiantlaw10_ValsRuns_ok u76 h77) (.c h75 .n))))))))))))))))))))))))))))))))))))))))))))))))))))))))))))))))))) (by kernel_rfl)
                    · cases h
                  · cases h
                · cases h
              · cases h
            · cases h
          · cases h
        · cases h
    · obtain ⟨h78, h⟩ := need_some h
      obtain ⟨h79, h⟩ := need_some h
      obtain ⟨h80, h⟩ := need_some h
      obtain ⟨u81, h82, h⟩ := andThen_some h
      obtain ⟨u83, h84, h⟩ := andThen_some h
      rcases fork_some h with ⟨h85, h⟩ | ⟨h85, h⟩
      · obtain ⟨u86, h87, h⟩ := andThen_some h
        rcases fork_some h with ⟨h88, h⟩ | ⟨h88, h⟩
        · rcases fork_some h with ⟨h89, h⟩ | ⟨h89, h⟩
          · rcases fork_some h with ⟨h90, h⟩ | ⟨h90, h⟩
            · obtain ⟨u91, h92, h⟩ := andThen_some h
              obtain ⟨u93, h94, h⟩ := andThen_some h
              rcases fork_some h with ⟨h95, h⟩ | ⟨h95, h⟩
              · obtain ⟨u96, h97, h⟩ := andThen_some h
                obtain ⟨u98, h99, h⟩ := andThen_some h
                rcases fork_some h with ⟨h100, h⟩ | ⟨h100, h⟩
                · obtain ⟨h101, h⟩ := need_some h
                  obtain ⟨u102, h103, h⟩ := andThen_some h
                  rcases fork_some h with ⟨h104, h⟩ | ⟨h104, h⟩
                  · obtain ⟨u105, h106, h⟩ := andThen_some h
                    injection h with h; subst h
                    exact env.fun func5 can5 (its := [.call [none] [] [] true (affiantkeep_Set_R a0 u1) (affiantkeep_Set_O a0 u1), .dive, .promote 8 .str, .promote 9 .str, .promote 10 .str, .promote 11 .str, .sel [1, 2, 7, 8, 9, 10, 11, 22, 23, 24] [0, 1, 2, 3, 4], .part (affiantlaw10_ValsLaws_1_ex o32) (affiantlaw10_ValsLaws_1_st o32), .call [none, none] [] [0, 1] true (vals_Tally_R o32.1 o32.2.1 u34) (vals_Tally_O o32.1 o32.2.1 u34), .call [none, none] [] [0, 2] true (vals_Tally_R o32.1 o32.2.2.1 u36) (vals_Tally_O o32.1 o32.2.2.1 u36), .call [none, none] [] [0, 3] true (vals_Tally_R o32.1 o32.2.2.2.1 u38) (vals_Tally_O o32.1 o32.2.2.2.1 u38), .call [none, none, none] [] [] true (vals_Over_R u34 (2 : Int) (3 : Int) u40) (vals_Over_O u34 (2 : Int) (3 : Int) u40), .br true, .br true, .call [none, none, none] [] [] true (vals_Over_R u36 (2 : Int) (3 : Int) u43) (vals_Over_O u36 (2 : Int) (3 : Int) u43), .br true, .br false, .br false, .br false, .br false, .br false, .pre [[], [], [], [1, 2], [], [4], [4, 5], [4, 5, 6], [4, 5, 6, 7], [1, 2, 3, 4, 5, 6, 7, 8], [0, 1, 2, 3, 4, 5, 6, 7, 8, 9], [0, 1, 2, 3, 4, 5, 6, 7, 8, 9, 10]], .call [none, none] [] [0, 1] true (vals_Tally_R o32.1 ((([] : List (List UInt8)) ++ o32.2.1) ++ ([(List.getD o32.1 (Int.toNat (0 : Int)) (([] : List UInt8), (0 : Int), (List.replicate 32 (0 : UInt8)), ())).1] : List (List UInt8))) u81) (vals_Tally_O o32.1 ((([] : List (List UInt8)) ++ o32.2.1) ++ ([(List.getD o32.1 (Int.toNat (0 : Int)) (([] : List UInt8), (0 : Int), (List.replicate 32 (0 : UInt8)), ())).1] : List (List UInt8))) u81), .call [none, (some .str)] [] [0] true (vals_Tally_R o32.1 ([] : List (List UInt8)) u83) (vals_Tally_O o32.1 ([] : List (List UInt8)) u83), .br true, .br true, .br true, .call [none, none] [] [0, 4] true (vals_Tally_R o32.1 o32.2.2.2.2 u86) (vals_Tally_O o32.1 o32.2.2.2.2 u86), .br true, .br true, .br true, .br true, .br true, .br true, .br true, .br true, .br true, .br true, .br true, .br true, .br true, .br true, .br true, .br true, .br true, .br true, .br true, .br true, .call [none, none] [] [0, 4] true (vals_Tally_R o32.1 o32.2.2.2.2 u91) (vals_Tally_O o32.1 o32.2.2.2.2 u91), .br true, .call [none, none, none] [] [] true (vals_Over_R u91 (2 : Int) (3 : Int) u93) (vals_Over_O u91 (2 : Int) (3 : Int) u93), .br true, .br true, .br true, .call [none, (some .str)] [] [0] true (vals_Tally_R o32.1 ([] : List (List UInt8)) u96) (vals_Tally_O o32.1 ([] : List (List UInt8)) u96), .br true, .call [none, none, none] [] [] true (vals_Over_R u96 (0 : Int) (1 : Int) u98) (vals_Over_O u96 (0 : Int) (1 : Int) u98), .br true, .br true, .br true, .br true, .br true, .br true, .br true, .call [none, none] [] [0, 10] true (vals_Same_R o32.1 (([] : List (List UInt8 × Int × List UInt8 × Unit)) ++ o32.1) u102) (vals_Same_O o32.1 (([] : List (List UInt8 × Int × List UInt8 × Unit)) ++ o32.1) u102), .br true, .br true, .call [] [] [] true (affiantlaw10_ValsRuns_R u105) (affiantlaw10_ValsRuns_O u105), .br true]) (pos := [.sel []]) (.c (affiantkeep_Set_ok a0 u1 h2) (.c (affiantlaw10_ValsLaws_1_ok a1 a2 (List.length u1 : Int) (0 : Int) u1 ([] : List (List UInt8)) ([] : List (List UInt8)) ([] : List (List UInt8)) ([] : List (List UInt8)) o32 h33) (.c (vals_Tally_ok o32.1 o32.2.1 u34 h35) (.c (vals_Tally_ok o32.1 o32.2.2.1 u36 h37) (.c (vals_Tally_ok o32.1 o32.2.2.2.1 u38 h39) (.c (vals_Over_ok u34 (2 : Int) (3 : Int) u40 h41) (.c h42 (.c h42 (.c (vals_Over_ok u36 (2 : Int) (3 : Int) u43 h44) (.c h42 (.c h45 (.c h45 (.c h45 (.c h45 (.c (rfl : (false : Bool) = false) (.c h78 (.c h79 (.c h80 (.c (vals_Tally_ok o32.1 ((([] : List (List UInt8)) ++ o32.2.1) ++ ([(List.getD o32.1 (Int.toNat (0 : Int)) (([] : List UInt8), (0 : Int), (List.replicate 32 (0 : UInt8)), ())).1] : List (List UInt8))) u81 h82) (.c (vals_Tally_ok o32.1 ([] : List (List UInt8)) u83 h84) (.c h85 (.c h85 (.c h85 (.c (vals_Tally_ok o32.1 o32.2.2.2.2 u86 h87) (.c h85 (.c h85 (.c h85 (.c h85 (.c h85 (.c h88 (.c h88 (.c h88 (.c h88 (.c h88 (.c h88 (.c h89 (.c h89 (.c h89 (.c h89 (.c h89 (.c h89 (.c h90 (.c h90 (.c h90 (.c (vals_Tally_ok o32.1 o32.2.2.2.2 u91 h92) (.c h90 (.c (vals_Over_ok u91 (2 : Int) (3 : Int) u93 h94) (.c h90 (.c h95 (.c h95 (.c (vals_Tally_ok o32.1 ([] : List (List UInt8)) u96 h97) (.c h95 (.c (vals_Over_ok u96 (0 : Int) (1 : Int) u98 h99) (.c h95 (.c h95 (.c h100 (.c h100 (.c h100 (.c h100 (.c h101 (.c h100 (.c (vals_Same_ok o32.1 (([] : List (List UInt8 × Int × List UInt8 × Unit)) ++ o32.1) u102 h103) (.c h100 (.c h104 (.c (affiantlaw10_ValsRuns_ok u105 h106) (.c h104 .n)))))))))))))))))))))))))))))))))))))))))))))))))))))))))))))))))) (by kernel_rfl)
                  · cases h
                · cases h
              · cases h
            · cases h
          · cases h
        · cases h
      · cases h
  · obtain ⟨h107, h⟩ := need_some h
    obtain ⟨h108, h⟩ := need_some h
    obtain ⟨h109, h⟩ := need_some h
    obtain ⟨u110, h111, h⟩ := andThen_some h
    obtain ⟨u112, h113, h⟩ := andThen_some h
    rcases fork_some h with ⟨h114, h⟩ | ⟨h114, h⟩
    · obtain ⟨u115, h116, h⟩ := andThen_some h
      rcases fork_some h with ⟨h117, h⟩ | ⟨h117, h⟩
      · rcases fork_some h with ⟨h118, h⟩ | ⟨h118, h⟩
        · rcases fork_some h with ⟨h119, h⟩ | ⟨h119, h⟩
          · obtain ⟨u120, h121, h⟩ := andThen_some h
            obtain ⟨u122, h123, h⟩ := andThen_some h
            rcases fork_some h with ⟨h124, h⟩ | ⟨h124, h⟩
            · obtain ⟨u125, h126, h⟩ := andThen_some h
              obtain ⟨u127, h128, h⟩ := andThen_some h
              rcases fork_some h with ⟨h129, h⟩ | ⟨h129, h⟩
              · obtain ⟨h130, h⟩ := need_some h
                obtain ⟨u131, h132, h⟩ := andThen_some h
                rcases fork_some h with ⟨h133, h⟩ | ⟨h133, h⟩
                · obtain ⟨u134, h135, h⟩ := andThen_some h
                  injection h with h; subst h
                  exact env.fun func5 can5 (its := [.call [none] [] [] true (affiantkeep_Set_R a0 u1) (affiantkeep_Set_O a0 u1), .dive, .promote 8 .str, .promote 9 .str, .promote 10 .str, .promote 11 .str, .sel [1, 2, 7, 8, 9, 10, 11, 22, 23, 24] [0, 1, 2, 3, 4], .part (affiantlaw10_ValsLaws_1_ex o32) (affiantlaw10_ValsLaws_1_st o32), .call [none, none] [] [0, 1] true (vals_Tally_R o32.1 o32.2.1 u34) (vals_Tally_O o32.1 o32.2.1 u34), .call [none, none] [] [0, 2] true (vals_Tally_R o32.1 o32.2.2.1 u36) (vals_Tally_O o32.1 o32.2.2.1 u36), .call [none, none] [] [0, 3] true (vals_Tally_R o32.1 o32.2.2.2.1 u38) (vals_Tally_O o32.1 o32.2.2.2.1 u38), .call [none, none, none] [] [] true (vals_Over_R u34 (2 : Int) (3 : Int) u40) (vals_Over_O u34 (2 : Int) (3 : Int) u40), .br false, .br false, .br false, .br false, .br false, .br false, .br false, .br false, .pre [[], [], [], [1, 2], [], [4], [4, 5], [4, 5, 6], [4, 5, 6, 7], [1, 2, 3, 4, 5, 6, 7, 8], [0, 1, 2, 3, 4, 5, 6, 7, 8, 9], [0, 1, 2, 3, 4, 5, 6, 7, 8, 9, 10]], .call [none, none] [] [0, 1] true (vals_Tally_R o32.1 ((([] : List (List UInt8)) ++ o32.2.1) ++ ([(List.getD o32.1 (Int.toNat (0 : Int)) (([] : List UInt8), (0 : Int), (List.replicate 32 (0 : UInt8)), ())).1] : List (List UInt8))) u110) (vals_Tally_O o32.1 ((([] : List (List UInt8)) ++ o32.2.1) ++ ([(List.getD o32.1 (Int.toNat (0 : Int)) (([] : List UInt8), (0 : Int), (List.replicate 32 (0 : UInt8)), ())).1] : List (List UInt8))) u110), .call [none, (some .str)] [] [0] true (vals_Tally_R o32.1 ([] : List (List UInt8)) u112) (vals_Tally_O o32.1 ([] : List (List UInt8)) u112), .br true, .br true, .br true, .call [none, none] [] [0, 4] true (vals_Tally_R o32.1 o32.2.2.2.2 u115) (vals_Tally_O o32.1 o32.2.2.2.2 u115), .br true, .br true, .br true, .br true, .br true, .br true, .br true, .br true, .br true, .br true, .br true, .br true, .br true, .br true, .br true, .br true, .br true, .br true, .br true, .br true, .call [none, none] [] [0, 4] true (vals_Tally_R o32.1 o32.2.2.2.2 u120) (vals_Tally_O o32.1 o32.2.2.2.2 u120), .br true, .call [none, none, none] [] [] true (vals_Over_R u120 (2 : Int) (3 : Int) u122) (vals_Over_O u120 (2 : Int) (3 : Int) u122), .br true, .br true, .br true, .call [none, (some .str)] [] [0] true (vals_Tally_R o32.1 ([] : List (List UInt8)) u125) (vals_Tally_O o32.1 ([] : List (List UInt8)) u125), .br true, .call [none, none, none] [] [] true (vals_Over_R u125 (0 : Int) (1 : Int) u127) (vals_Over_O u125 (0 : Int) (1 : Int) u127), .br true, .br true, .br true, .br true, .br true, .br true, .br true, .call [none, none] [] [0, 10] true (vals_Same_R o32.1 (([] : List (List UInt8 × Int × List UInt8 × Unit)) ++ o32.1) u131) (vals_Same_O o32.1 (([] : List (List UInt8 × Int × List UInt8 × Unit)) ++ o32.1) u131), .br true, .br true, .call [] [] [] true (affiantlaw10_ValsRuns_R u134) (affiantlaw10_ValsRuns_O u134), .br true]) (pos := [.sel []]) (.c (affiantkeep_Set_ok a0 u1 h2) (.c (affiantlaw10_ValsLaws_1_ok a1 a2 (List.length u1 : Int) (0 : Int) u1 ([] : List (List UInt8)) ([] : List (List UInt8)) ([] : List (List UInt8)) ([] : List (List UInt8)) o32 h33) (.c (vals_Tally_ok o32.1 o32.2.1 u34 h35) (.c (vals_Tally_ok o32.1 o32.2.2.1 u36 h37) (.c (vals_Tally_ok o32.1 o32.2.2.2.1 u38 h39) (.c (vals_Over_ok u34 (2 : Int) (3 : Int) u40 h41) (.c h42 (.c h42 (.c h42 (.c (rfl : (false : Bool) = false) (.c (rfl : (false : Bool) = false) (.c (rfl : (false : Bool) = false) (.c (rfl : (false : Bool) = false) (.c (rfl : (false : Bool) = false) (.c h107 (.c h108 (.c h109 (.c (vals_Tally_ok o32.1 ((([] : List (List UInt8)) ++ o32.2.1) ++ ([(List.getD o32.1 (Int.toNat (0 : Int)) (([] : List UInt8), (0 : Int), (List.replicate 32 (0 : UInt8)), ())).1] : List (List UInt8))) u110 h111) (.c (vals_Tally_ok o32.1 ([] : List (List UInt8)) u112 h113) (.c h114 (.c h114 (.c h114 (.c (vals_Tally_ok o32.1 o32.2.2.2.2 u115 h116) (.c h114 (.c h114 (.c h114 (.c h114 (.c h114 (.c h117 (.c h117 (.c h117 (.c h117 (.c h117 (.c h117 (.c h118 (.c h118 (.c h118 (.c h118 (.c h118 (.c h118 (.c h119 (.c h119 (.c h119 (.c (vals_Tally_ok o32.1 o32.2.2.2.2 u120 h121) (.c h119 (.c (vals_Over_ok u120 (2 : Int) (3 : Int) u122 h123) (.c h119 (.c h124 (.c h124 (.c (vals_Tally_ok o32.1 ([] : List (List UInt8)) u125 h126) (.c h124 (.c (vals_Over_ok u125 (0 : Int) (1 : Int) u127 h128) (.c h124 (.c h124 (.c h129 (.c h129 (.c h129 (.c h129 (.c h130 (.c h129 (.c (vals_Same_ok o32.1 (([] : List (List UInt8 × Int × List UInt8 × Unit)) ++ o32.1) u131 h132) (.c h129 (.c h133 (.c (affiantlaw10_ValsRuns_ok u134 h135) (.c h133 .n))))))))))))))))))))))))))))))))))))))))))))))))))))))))))))))))) (by kernel_rfl)
                · cases h
              · cases h
            · cases h
          · cases h
        · cases h
      · cases h
    · cases h
end
end Go.Proofs.Ytoemjkbemenjhaa.valsLaws
