/-
  The functions, walked through: each call comes to what the pure text says.
-/
import Derived.Test.YtoemjkbemenjhaaProg
import Derived.Test.YtoemjkbemenjhaaAxC
import Derived.Test.YtoemjkbemenjhaaCValsRunsP
namespace Go.Proofs.Ytoemjkbemenjhaa.valsRuns
open Go.Ax Go.Ax.V Go.Proofs.Try
set_option maxRecDepth 100000
set_option linter.unusedVariables false
noncomputable section
def T : Tab := [(3, (.int .i64), 8), (4, .bool, 1), (5, (.int .u8), 1), (9, .str, 16), (23, (.arr 32 (.int .u8)), 32), (25, (.fld .str (.fld (.int .i64) (.fld (.arr 32 (.int .u8)) .unit))), 56), (26, (.slice (.fld .str (.fld (.int .i64) (.fld (.arr 32 (.int .u8)) .unit)))), 24), (27, .cplx, 16), (34, (.slice (.int .u8)), 24), (37, (.slice (.int .i64)), 24), (38, (.slice .bool), 24), (40, (.slice .str), 24), (41, .flt, 8), (52, (.slice (.slice (.int .u8))), 24), (57, (.int .u32), 4), (58, (.arr 8 (.int .u32)), 32), (60, (.arr 64 (.int .u32)), 256), (66, (.slice (.int .u32)), 24), (68, (.int .u64), 8), (69, (.int .u64), 8)]
theorem tab : TabOK prog T := tab_of_b (by kernel_rfl)
theorem bytes : bytesB T = true := by kernel_rfl
theorem mix : prog.follows .mixedOrders = true := by kernel_rfl
theorem eqs : eqTypes prog T [23, 25] = true := by kernel_rfl
theorem env : Env prog T [23, 25] := ⟨tab, eqs, mix⟩
theorem can37 : Callable prog 37 := ⟨_, func37, by kernel_rfl, by kernel_rfl⟩
def slices_Index_Lstring_string_1_in (x0 : List (List UInt8)) (x1 : List UInt8) (x2 : Int) (x3 : Int) : St := ⟨[(0, (.v (.slice .str) x0)), (1, (.v .str x1)), (7, (.v (.int .i64) x2)), (8, (.v (.int .i64) x3))], [], 19, 0⟩
def slices_Index_Lstring_string_1_ex (o : (Int) ⊕ (Unit)) : Exit := match o with | (.inl o) => .ret | (.inr o) => (.exit 0)
def slices_Index_Lstring_string_1_st (o : (Int) ⊕ (Unit)) : St := match o with | (.inl o) => ⟨[(4, (.v (.int .i64) o))], [], 19, 0⟩ | (.inr o) => ⟨[], [], 19, 0⟩
theorem slices_Index_Lstring_string_1_body (x0 : List (List UInt8)) (x1 : List UInt8) (x2 : Int) (x3 : Int) : ∀ r, slices_Index_Lstring_string_1_step x0 x1 x2 x3 = some r → (match r with | .inl s => CodeOK prog (codeAt (bodyOf f37) [1, 0, 1, 0, 0]) (slices_Index_Lstring_string_1_in x0 x1 x2 x3) .normal (slices_Index_Lstring_string_1_in x0 x1 x2 s) | .inr o => slices_Index_Lstring_string_1_ex o ≠ .normal ∧ CodeOK prog (codeAt (bodyOf f37) [1, 0, 1, 0, 0]) (slices_Index_Lstring_string_1_in x0 x1 x2 x3) (slices_Index_Lstring_string_1_ex o) (slices_Index_Lstring_string_1_st o)) := by
  intro r h
  unfold slices_Index_Lstring_string_1_step at h
  rcases fork_some h with ⟨h2, h⟩ | ⟨h2, h⟩
  · obtain ⟨h3, h⟩ := need_some h
    rcases fork_some h with ⟨h4, h⟩ | ⟨h4, h⟩
    · injection h with h; subst h
      exact ⟨by intro e; simp [slices_Index_Lstring_string_1_ex] at e, env.code (its := [.br true, .br true, .sel [4] []]) (.c h2 (.c h3 (.c h4 .n))) (by kernel_rfl)⟩
    · injection h with h; subst h
      exact env.code (its := [.br true, .br false, .sel [0, 1, 7, 8] []]) (.c h2 (.c h3 (.c h4 .n))) (by kernel_rfl)
  · injection h with h; subst h
    exact ⟨by intro e; simp [slices_Index_Lstring_string_1_ex] at e, env.code (its := [.br false, .sel [] []]) (.c h2 .n) (by kernel_rfl)⟩
theorem slices_Index_Lstring_string_1_ok (x0 : List (List UInt8)) (x1 : List UInt8) (x2 : Int) (x3 : Int) (o : (Int) ⊕ (Unit)) (h : slices_Index_Lstring_string_1 x0 x1 x2 x3 = some o) : CodeOK prog (codeAt (bodyOf f37) [1, 0, 1, 0]) (slices_Index_Lstring_string_1_in x0 x1 x2 x3) (slices_Index_Lstring_string_1_ex o) (slices_Index_Lstring_string_1_st o) :=
  LoopOK.of_step (st := fun s => slices_Index_Lstring_string_1_in x0 x1 x2 s) (ex := slices_Index_Lstring_string_1_ex) (stO := slices_Index_Lstring_string_1_st) (fun s s2 hs => slices_Index_Lstring_string_1_body x0 x1 x2 s (.inl s2) hs) (fun s r hs => slices_Index_Lstring_string_1_body x0 x1 x2 s (.inr r) hs) _ o h
def slices_Index_Lstring_string_R (a0 : List (List UInt8)) (a1 : List UInt8) (u : Int) : Slot := (.v (.int .i64) u)
def slices_Index_Lstring_string_O (a0 : List (List UInt8)) (a1 : List UInt8) (u : Int) : List AObj := []
theorem slices_Index_Lstring_string_ok (a0 : List (List UInt8)) (a1 : List UInt8) (u : Int) (h : slices_Index_Lstring_string a0 a1 = some u) : CallC prog 37 [(.v (.slice .str) a0), (.v .str a1)] [] (slices_Index_Lstring_string_R a0 a1 u) (slices_Index_Lstring_string_O a0 a1 u) := by
  unfold slices_Index_Lstring_string at h
  obtain ⟨o5, h6, h⟩ := andThen_some h
  rcases o5 with o7 | o8
  · injection h with h; subst h
    exact env.fun func37 can37 (its := [.dive, .sel [0, 1, 7, 8] [], .part (slices_Index_Lstring_string_1_ex (.inl o7)) (slices_Index_Lstring_string_1_st (.inl o7))]) (pos := [.sel []]) (.c (slices_Index_Lstring_string_1_ok a0 a1 (List.length a0 : Int) (0 : Int) (.inl o7) h6) .n) (by kernel_rfl)
  · injection h with h; subst h
    exact env.fun func37 can37 (its := [.dive, .sel [0, 1, 7, 8] [], .part (slices_Index_Lstring_string_1_ex (.inr o8)) (slices_Index_Lstring_string_1_st (.inr o8))]) (pos := [.sel []]) (.c (slices_Index_Lstring_string_1_ok a0 a1 (List.length a0 : Int) (0 : Int) (.inr o8) h6) .n) (by kernel_rfl)
theorem can26 : Callable prog 26 := ⟨_, func26, by kernel_rfl, by kernel_rfl⟩
def slices_Contains_Lstring_string_R (a0 : List (List UInt8)) (a1 : List UInt8) (u : Bool) : Slot := (.v .bool u)
def slices_Contains_Lstring_string_O (a0 : List (List UInt8)) (a1 : List UInt8) (u : Bool) : List AObj := []
theorem slices_Contains_Lstring_string_ok (a0 : List (List UInt8)) (a1 : List UInt8) (u : Bool) (h : slices_Contains_Lstring_string a0 a1 = some u) : CallC prog 26 [(.v (.slice .str) a0), (.v .str a1)] [] (slices_Contains_Lstring_string_R a0 a1 u) (slices_Contains_Lstring_string_O a0 a1 u) := by
  unfold slices_Contains_Lstring_string at h
  obtain ⟨u1, h2, h⟩ := andThen_some h
  injection h with h; subst h
  exact env.fun func26 can26 (its := [.call [none, none] [] [] true (slices_Index_Lstring_string_R a0 a1 u1) (slices_Index_Lstring_string_O a0 a1 u1)]) (pos := [.sel []]) (.c (slices_Index_Lstring_string_ok a0 a1 u1 h2) .n) (by kernel_rfl)
theorem can14 : Callable prog 14 := ⟨_, func14, by kernel_rfl, by kernel_rfl⟩
def vals_Total_1_in (x0 : Int) (x1 : List (List UInt8 × Int × List UInt8 × Unit)) (x2 : Int) (x3 : Int) : St := ⟨[(3, (.v (.int .i64) x0)), (6, (.v (.slice (.fld .str (.fld (.int .i64) (.fld (.arr 32 (.int .u8)) .unit)))) x1)), (7, (.v (.int .i64) x2)), (8, (.v (.int .i64) x3))], [], 18, 0⟩
def vals_Total_1_ex (o : Int) : Exit := (.exit 0)
def vals_Total_1_st (o : Int) : St := ⟨[(3, (.v (.int .i64) o))], [], 18, 0⟩
theorem vals_Total_1_body (x0 : Int) (x1 : List (List UInt8 × Int × List UInt8 × Unit)) (x2 : Int) (x3 : Int) : ∀ r, vals_Total_1_step x0 x1 x2 x3 = some r → (match r with | .inl s => CodeOK prog (codeAt (bodyOf f14) [1, 1, 0, 1, 0, 0]) (vals_Total_1_in x0 x1 x2 x3) .normal (vals_Total_1_in s.1 x1 x2 s.2) | .inr o => vals_Total_1_ex o ≠ .normal ∧ CodeOK prog (codeAt (bodyOf f14) [1, 1, 0, 1, 0, 0]) (vals_Total_1_in x0 x1 x2 x3) (vals_Total_1_ex o) (vals_Total_1_st o)) := by
  intro r h
  unfold vals_Total_1_step at h
  rcases fork_some h with ⟨h2, h⟩ | ⟨h2, h⟩
  · obtain ⟨h3, h⟩ := need_some h
    injection h with h; subst h
    exact env.code (its := [.br true, .dive, .sel [3, 6, 7, 8] []]) (.c h2 (.c h3 .n)) (by kernel_rfl)
  · injection h with h; subst h
    exact ⟨by intro e; simp [vals_Total_1_ex] at e, env.code (its := [.br false, .sel [3] []]) (.c h2 .n) (by kernel_rfl)⟩
theorem vals_Total_1_ok (x0 : Int) (x1 : List (List UInt8 × Int × List UInt8 × Unit)) (x2 : Int) (x3 : Int) (o : Int) (h : vals_Total_1 x0 x1 x2 x3 = some o) : CodeOK prog (codeAt (bodyOf f14) [1, 1, 0, 1, 0]) (vals_Total_1_in x0 x1 x2 x3) (vals_Total_1_ex o) (vals_Total_1_st o) :=
  LoopOK.of_step (st := fun s => vals_Total_1_in s.1 x1 x2 s.2) (ex := vals_Total_1_ex) (stO := vals_Total_1_st) (fun s s2 hs => vals_Total_1_body s.1 x1 x2 s.2 (.inl s2) hs) (fun s r hs => vals_Total_1_body s.1 x1 x2 s.2 (.inr r) hs) _ o h
def vals_Total_R (a0 : List (List UInt8 × Int × List UInt8 × Unit)) (u : Int) : Slot := (.v (.int .i64) u)
def vals_Total_O (a0 : List (List UInt8 × Int × List UInt8 × Unit)) (u : Int) : List AObj := []
theorem vals_Total_ok (a0 : List (List UInt8 × Int × List UInt8 × Unit)) (u : Int) (h : vals_Total a0 = some u) : CallC prog 14 [(.v (.slice (.fld .str (.fld (.int .i64) (.fld (.arr 32 (.int .u8)) .unit)))) a0)] [] (vals_Total_R a0 u) (vals_Total_O a0 u) := by
  unfold vals_Total at h
  obtain ⟨o4, h5, h⟩ := andThen_some h
  injection h with h; subst h
  exact env.fun func14 can14 (its := [.dive, .sel [3, 6, 7, 8] [], .part (vals_Total_1_ex o4) (vals_Total_1_st o4)]) (pos := [.sel []]) (.c (vals_Total_1_ok (0 : Int) a0 (List.length a0 : Int) (0 : Int) o4 h5) .n) (by kernel_rfl)
theorem can11 : Callable prog 11 := ⟨_, func11, by kernel_rfl, by kernel_rfl⟩
def vals_Tally_1_in (x0 : List (List UInt8 × Int × List UInt8 × Unit)) (x1 : List (List UInt8)) (x2 : Int) (x3 : List (List UInt8 × Int × List UInt8 × Unit)) (x4 : Int) (x5 : Int) : St := ⟨[(0, (.v (.slice (.fld .str (.fld (.int .i64) (.fld (.arr 32 (.int .u8)) .unit)))) x0)), (1, (.v (.slice .str) x1)), (5, (.v (.int .i64) x2)), (8, (.v (.slice (.fld .str (.fld (.int .i64) (.fld (.arr 32 (.int .u8)) .unit)))) x3)), (9, (.v (.int .i64) x4)), (10, (.v (.int .i64) x5))], [], 29, 0⟩
def vals_Tally_1_ex (o : (List (List UInt8 × Int × List UInt8 × Unit)) × Int) : Exit := (.exit 0)
def vals_Tally_1_st (o : (List (List UInt8 × Int × List UInt8 × Unit)) × Int) : St := ⟨[(0, (.v (.slice (.fld .str (.fld (.int .i64) (.fld (.arr 32 (.int .u8)) .unit)))) o.1)), (5, (.v (.int .i64) o.2))], [], 29, 0⟩
theorem vals_Tally_1_body (x0 : List (List UInt8 × Int × List UInt8 × Unit)) (x1 : List (List UInt8)) (x2 : Int) (x3 : List (List UInt8 × Int × List UInt8 × Unit)) (x4 : Int) (x5 : Int) : ∀ r, vals_Tally_1_step x0 x1 x2 x3 x4 x5 = some r → (match r with | .inl s => CodeOK prog (codeAt (bodyOf f11) [1, 1, 0, 1, 0, 0]) (vals_Tally_1_in x0 x1 x2 x3 x4 x5) .normal (vals_Tally_1_in x0 x1 s.1 x3 x4 s.2) | .inr o => vals_Tally_1_ex o ≠ .normal ∧ CodeOK prog (codeAt (bodyOf f11) [1, 1, 0, 1, 0, 0]) (vals_Tally_1_in x0 x1 x2 x3 x4 x5) (vals_Tally_1_ex o) (vals_Tally_1_st o)) := by
  intro r h
  unfold vals_Tally_1_step at h
  rcases fork_some h with ⟨h2, h⟩ | ⟨h2, h⟩
  · obtain ⟨h3, h⟩ := need_some h
    obtain ⟨u4, h5, h⟩ := andThen_some h
    rcases fork_some h with ⟨h6, h⟩ | ⟨h6, h⟩
    · injection h with h; subst h
      exact env.code (its := [.br true, .call [none, none] [] [] true (slices_Contains_Lstring_string_R x1 ((List.getD x3 (Int.toNat x5) (([] : List UInt8), (0 : Int), (List.replicate 32 (0 : UInt8)), ())).1) u4) (slices_Contains_Lstring_string_O x1 ((List.getD x3 (Int.toNat x5) (([] : List UInt8), (0 : Int), (List.replicate 32 (0 : UInt8)), ())).1) u4), .br true, .sel [0, 1, 5, 8, 9, 10] []]) (.c h2 (.c h3 (.c (slices_Contains_Lstring_string_ok x1 ((List.getD x3 (Int.toNat x5) (([] : List UInt8), (0 : Int), (List.replicate 32 (0 : UInt8)), ())).1) u4 h5) (.c h6 .n)))) (by kernel_rfl)
    · injection h with h; subst h
      exact env.code (its := [.br true, .call [none, none] [] [] true (slices_Contains_Lstring_string_R x1 ((List.getD x3 (Int.toNat x5) (([] : List UInt8), (0 : Int), (List.replicate 32 (0 : UInt8)), ())).1) u4) (slices_Contains_Lstring_string_O x1 ((List.getD x3 (Int.toNat x5) (([] : List UInt8), (0 : Int), (List.replicate 32 (0 : UInt8)), ())).1) u4), .br false, .sel [0, 1, 5, 8, 9, 10] []]) (.c h2 (.c h3 (.c (slices_Contains_Lstring_string_ok x1 ((List.getD x3 (Int.toNat x5) (([] : List UInt8), (0 : Int), (List.replicate 32 (0 : UInt8)), ())).1) u4 h5) (.c h6 .n)))) (by kernel_rfl)
  · injection h with h; subst h
    exact ⟨by intro e; simp [vals_Tally_1_ex] at e, env.code (its := [.br false, .sel [0, 5] []]) (.c h2 .n) (by kernel_rfl)⟩
theorem vals_Tally_1_ok (x0 : List (List UInt8 × Int × List UInt8 × Unit)) (x1 : List (List UInt8)) (x2 : Int) (x3 : List (List UInt8 × Int × List UInt8 × Unit)) (x4 : Int) (x5 : Int) (o : (List (List UInt8 × Int × List UInt8 × Unit)) × Int) (h : vals_Tally_1 x0 x1 x2 x3 x4 x5 = some o) : CodeOK prog (codeAt (bodyOf f11) [1, 1, 0, 1, 0]) (vals_Tally_1_in x0 x1 x2 x3 x4 x5) (vals_Tally_1_ex o) (vals_Tally_1_st o) :=
  LoopOK.of_step (st := fun s => vals_Tally_1_in x0 x1 s.1 x3 x4 s.2) (ex := vals_Tally_1_ex) (stO := vals_Tally_1_st) (fun s s2 hs => vals_Tally_1_body x0 x1 s.1 x3 x4 s.2 (.inl s2) hs) (fun s r hs => vals_Tally_1_body x0 x1 s.1 x3 x4 s.2 (.inr r) hs) _ o h
def vals_Tally_R (a0 : List (List UInt8 × Int × List UInt8 × Unit)) (a1 : List (List UInt8)) (u : Int × Int) : Slot := (.v .cplx u)
def vals_Tally_O (a0 : List (List UInt8 × Int × List UInt8 × Unit)) (a1 : List (List UInt8)) (u : Int × Int) : List AObj := []
theorem vals_Tally_ok (a0 : List (List UInt8 × Int × List UInt8 × Unit)) (a1 : List (List UInt8)) (u : Int × Int) (h : vals_Tally a0 a1 = some u) : CallC prog 11 [(.v (.slice (.fld .str (.fld (.int .i64) (.fld (.arr 32 (.int .u8)) .unit)))) a0), (.v (.slice .str) a1)] [] (vals_Tally_R a0 a1 u) (vals_Tally_O a0 a1 u) := by
  unfold vals_Tally at h
  obtain ⟨o7, h8, h⟩ := andThen_some h
  obtain ⟨h9, h⟩ := need_some h
  obtain ⟨u10, h11, h⟩ := andThen_some h
  obtain ⟨h12, h⟩ := need_some h
  injection h with h; subst h
  exact env.fun func11 can11 (its := [.dive, .sel [0, 1, 5, 8, 9, 10] [], .part (vals_Tally_1_ex o7) (vals_Tally_1_st o7), .call [none] [] [] true (vals_Total_R o7.1 u10) (vals_Total_O o7.1 u10)]) (pos := [.sel []]) (.c (vals_Tally_1_ok a0 a1 (0 : Int) a0 (List.length a0 : Int) (0 : Int) o7 h8) (.c h9 (.c (vals_Total_ok o7.1 u10 h11) (.c h12 .n)))) (by kernel_rfl)
theorem can12 : Callable prog 12 := ⟨_, func12, by kernel_rfl, by kernel_rfl⟩
def vals_Over_R (a0 : Int × Int) (a1 : Int) (a2 : Int) (u : Bool) : Slot := (.v .bool u)
def vals_Over_O (a0 : Int × Int) (a1 : Int) (a2 : Int) (u : Bool) : List AObj := []
theorem vals_Over_ok (a0 : Int × Int) (a1 : Int) (a2 : Int) (u : Bool) (h : vals_Over a0 a1 a2 = some u) : CallC prog 12 [(.v .cplx a0), (.v (.int .i64) a1), (.v (.int .i64) a2)] [] (vals_Over_R a0 a1 a2 u) (vals_Over_O a0 a1 a2 u) := by
  unfold vals_Over at h
  injection h with h; subst h
  exact env.fun func12 can12 (its := []) (pos := [.sel []]) .n (by kernel_rfl)
theorem can27 : Callable prog 27 := ⟨_, func27, by kernel_rfl, by kernel_rfl⟩
def vals_may_R (a0 : List UInt8 × Int × List UInt8 × Unit) (u : Bool) : Slot := (.v .bool u)
def vals_may_O (a0 : List UInt8 × Int × List UInt8 × Unit) (u : Bool) : List AObj := []
theorem vals_may_ok (a0 : List UInt8 × Int × List UInt8 × Unit) (u : Bool) (h : vals_may a0 = some u) : CallC prog 27 [(.v (.fld .str (.fld (.int .i64) (.fld (.arr 32 (.int .u8)) .unit))) a0)] [] (vals_may_R a0 u) (vals_may_O a0 u) := by
  unfold vals_may at h
  rcases fork_some h with ⟨h1, h⟩ | ⟨h1, h⟩
  · rcases fork_some h with ⟨h2, h⟩ | ⟨h2, h⟩
    · rcases fork_some h with ⟨h3, h⟩ | ⟨h3, h⟩
      · injection h with h; subst h
        exact env.fun func27 can27 (its := [.br true, .br true, .br true, .br true, .br true, .br true, .br true, .br true, .br true, .br true, .br true, .br true, .br true]) (pos := [.sel []]) (.c h1 (.c h1 (.c h1 (.c h1 (.c h1 (.c h2 (.c h2 (.c h2 (.c h2 (.c h3 (.c h3 (.c h3 (.c h3 .n))))))))))))) (by kernel_rfl)
      · injection h with h; subst h
        exact env.fun func27 can27 (its := [.br true, .br true, .br true, .br true, .br true, .br true, .br true, .br true, .br true, .br false, .br false, .br false, .br false]) (pos := [.sel []]) (.c h1 (.c h1 (.c h1 (.c h1 (.c h1 (.c h2 (.c h2 (.c h2 (.c h2 (.c h3 (.c h3 (.c h3 (.c h3 .n))))))))))))) (by kernel_rfl)
    · injection h with h; subst h
      exact env.fun func27 can27 (its := [.br true, .br true, .br true, .br true, .br true, .br false, .br false, .br false, .br false, .br false, .br false, .br false, .br false]) (pos := [.sel []]) (.c h1 (.c h1 (.c h1 (.c h1 (.c h1 (.c h2 (.c h2 (.c h2 (.c h2 (.c (rfl : (false : Bool) = false) (.c (rfl : (false : Bool) = false) (.c (rfl : (false : Bool) = false) (.c (rfl : (false : Bool) = false) .n))))))))))))) (by kernel_rfl)
  · injection h with h; subst h
    exact env.fun func27 can27 (its := [.br false, .br false, .br false, .br false, .br false, .br false, .br false, .br false, .br false, .br false, .br false, .br false, .br false]) (pos := [.sel []]) (.c h1 (.c h1 (.c h1 (.c h1 (.c h1 (.c (rfl : (false : Bool) = false) (.c (rfl : (false : Bool) = false) (.c (rfl : (false : Bool) = false) (.c (rfl : (false : Bool) = false) (.c (rfl : (false : Bool) = false) (.c (rfl : (false : Bool) = false) (.c (rfl : (false : Bool) = false) (.c (rfl : (false : Bool) = false) .n))))))))))))) (by kernel_rfl)
theorem can13 : Callable prog 13 := ⟨_, func13, by kernel_rfl, by kernel_rfl⟩
def vals_Right_1_in (x0 : List (List UInt8 × Int × List UInt8 × Unit)) (x1 : List (List UInt8 × Int × List UInt8 × Unit)) (x2 : Int) (x3 : Int) : St := ⟨[(0, (.v (.slice (.fld .str (.fld (.int .i64) (.fld (.arr 32 (.int .u8)) .unit)))) x0)), (5, (.v (.slice (.fld .str (.fld (.int .i64) (.fld (.arr 32 (.int .u8)) .unit)))) x1)), (6, (.v (.int .i64) x2)), (7, (.v (.int .i64) x3))], [], 39, 0⟩
def vals_Right_1_ex (o : (Bool) ⊕ (List (List UInt8 × Int × List UInt8 × Unit))) : Exit := match o with | (.inl o) => .ret | (.inr o) => (.exit 0)
def vals_Right_1_st (o : (Bool) ⊕ (List (List UInt8 × Int × List UInt8 × Unit))) : St := match o with | (.inl o) => ⟨[(2, (.v .bool o))], [], 39, 0⟩ | (.inr o) => ⟨[(0, (.v (.slice (.fld .str (.fld (.int .i64) (.fld (.arr 32 (.int .u8)) .unit)))) o))], [], 39, 0⟩
theorem vals_Right_1_body (x0 : List (List UInt8 × Int × List UInt8 × Unit)) (x1 : List (List UInt8 × Int × List UInt8 × Unit)) (x2 : Int) (x3 : Int) : ∀ r, vals_Right_1_step x0 x1 x2 x3 = some r → (match r with | .inl s => CodeOK prog (codeAt (bodyOf f13) [1, 0, 1, 0, 0]) (vals_Right_1_in x0 x1 x2 x3) .normal (vals_Right_1_in x0 x1 x2 s) | .inr o => vals_Right_1_ex o ≠ .normal ∧ CodeOK prog (codeAt (bodyOf f13) [1, 0, 1, 0, 0]) (vals_Right_1_in x0 x1 x2 x3) (vals_Right_1_ex o) (vals_Right_1_st o)) := by
  intro r h
  unfold vals_Right_1_step at h
  rcases fork_some h with ⟨h2, h⟩ | ⟨h2, h⟩
  · obtain ⟨h3, h⟩ := need_some h
    obtain ⟨u4, h5, h⟩ := andThen_some h
    rcases fork_some h with ⟨h6, h⟩ | ⟨h6, h⟩
    · injection h with h; subst h
      exact ⟨by intro e; simp [vals_Right_1_ex] at e, env.code (its := [.br true, .pre [[], [0], [0, 1], [0, 1, 2], [0, 1, 2, 3], [0, 1, 2, 3, 4], [0, 1, 2, 3, 4, 5], [0, 1, 2, 3, 4, 5, 6], [0, 1, 2, 3, 4, 5, 6], [0, 1, 2, 3, 4, 5, 6, 8], [0, 1, 2, 3, 4, 5, 6, 7, 8, 9], [0, 1, 2, 3, 4, 5, 6, 7, 8, 9, 10], [0, 1, 2, 3, 4, 5, 6, 7, 8, 9, 10, 11], [0, 1, 2, 3, 4, 5, 6], [0, 1, 2, 3, 4, 5, 6, 13], [0, 1, 2, 3, 4, 5, 6, 7, 8, 9, 10, 11, 12, 13, 14], [0, 1, 2, 3, 4, 5, 6, 7, 8, 9, 10, 11, 12, 13, 14, 15], [0, 1, 2, 3, 4, 5, 6, 7, 8, 9, 10, 11, 12, 13, 14, 15, 16]], .call [none] [] [] true (vals_may_R (List.getD x1 (Int.toNat x3) (([] : List UInt8), (0 : Int), (List.replicate 32 (0 : UInt8)), ())) u4) (vals_may_O (List.getD x1 (Int.toNat x3) (([] : List UInt8), (0 : Int), (List.replicate 32 (0 : UInt8)), ())) u4), .br true, .br true, .br true, .br true, .br true, .br true, .sel [2] []]) (.c h2 (.c h3 (.c (vals_may_ok (List.getD x1 (Int.toNat x3) (([] : List UInt8), (0 : Int), (List.replicate 32 (0 : UInt8)), ())) u4 h5) (.c h6 (.c h6 (.c h6 (.c h6 (.c h6 (.c (rfl : (true : Bool) = true) .n))))))))) (by kernel_rfl)⟩
    · rcases fork_some h with ⟨h7, h⟩ | ⟨h7, h⟩
      · obtain ⟨h8, h⟩ := need_some h
        rcases fork_some h with ⟨h9, h⟩ | ⟨h9, h⟩
        · injection h with h; subst h
          exact ⟨by intro e; simp [vals_Right_1_ex] at e, env.code (its := [.br true, .pre [[], [0], [0, 1], [0, 1, 2], [0, 1, 2, 3], [0, 1, 2, 3, 4], [0, 1, 2, 3, 4, 5], [0, 1, 2, 3, 4, 5, 6], [0, 1, 2, 3, 4, 5, 6], [0, 1, 2, 3, 4, 5, 6, 8], [0, 1, 2, 3, 4, 5, 6, 7, 8, 9], [0, 1, 2, 3, 4, 5, 6, 7, 8, 9, 10], [0, 1, 2, 3, 4, 5, 6, 7, 8, 9, 10, 11], [0, 1, 2, 3, 4, 5, 6], [0, 1, 2, 3, 4, 5, 6, 13], [0, 1, 2, 3, 4, 5, 6, 7, 8, 9, 10, 11, 12, 13, 14], [0, 1, 2, 3, 4, 5, 6, 7, 8, 9, 10, 11, 12, 13, 14, 15], [0, 1, 2, 3, 4, 5, 6, 7, 8, 9, 10, 11, 12, 13, 14, 15, 16]], .call [none] [] [] true (vals_may_R (List.getD x1 (Int.toNat x3) (([] : List UInt8), (0 : Int), (List.replicate 32 (0 : UInt8)), ())) u4) (vals_may_O (List.getD x1 (Int.toNat x3) (([] : List UInt8), (0 : Int), (List.replicate 32 (0 : UInt8)), ())) u4), .br false, .br false, .br false, .br true, .br true, .br true, .br true, .br true, .br true, .br true, .br true, .br true, .br false, .br true, .br false, .br true, .sel [2] []]) (.c h2 (.c h3 (.c (vals_may_ok (List.getD x1 (Int.toNat x3) (([] : List UInt8), (0 : Int), (List.replicate 32 (0 : UInt8)), ())) u4 h5) (.c h6 (.c h6 (.c h6 (.c h7 (.c h7 (.c h7 (.c h7 (.c h8 (.c h7 (.c h7 (.c h7 (.c h7 (.c h7 (.c h6 (.c h7 (.c h6 (.c h9 .n)))))))))))))))))))) (by kernel_rfl)⟩
        · injection h with h; subst h
          exact env.code (its := [.br true, .pre [[], [0], [0, 1], [0, 1, 2], [0, 1, 2, 3], [0, 1, 2, 3, 4], [0, 1, 2, 3, 4, 5], [0, 1, 2, 3, 4, 5, 6], [0, 1, 2, 3, 4, 5, 6], [0, 1, 2, 3, 4, 5, 6, 8], [0, 1, 2, 3, 4, 5, 6, 7, 8, 9], [0, 1, 2, 3, 4, 5, 6, 7, 8, 9, 10], [0, 1, 2, 3, 4, 5, 6, 7, 8, 9, 10, 11], [0, 1, 2, 3, 4, 5, 6], [0, 1, 2, 3, 4, 5, 6, 13], [0, 1, 2, 3, 4, 5, 6, 7, 8, 9, 10, 11, 12, 13, 14], [0, 1, 2, 3, 4, 5, 6, 7, 8, 9, 10, 11, 12, 13, 14, 15], [0, 1, 2, 3, 4, 5, 6, 7, 8, 9, 10, 11, 12, 13, 14, 15, 16]], .call [none] [] [] true (vals_may_R (List.getD x1 (Int.toNat x3) (([] : List UInt8), (0 : Int), (List.replicate 32 (0 : UInt8)), ())) u4) (vals_may_O (List.getD x1 (Int.toNat x3) (([] : List UInt8), (0 : Int), (List.replicate 32 (0 : UInt8)), ())) u4), .br false, .br false, .br false, .br true, .br true, .br true, .br true, .br true, .br true, .br true, .br true, .br true, .br false, .br true, .br false, .br false, .sel [0, 5, 6, 7] []]) (.c h2 (.c h3 (.c (vals_may_ok (List.getD x1 (Int.toNat x3) (([] : List UInt8), (0 : Int), (List.replicate 32 (0 : UInt8)), ())) u4 h5) (.c h6 (.c h6 (.c h6 (.c h7 (.c h7 (.c h7 (.c h7 (.c h8 (.c h7 (.c h7 (.c h7 (.c h7 (.c h7 (.c h6 (.c h7 (.c h6 (.c h9 .n)))))))))))))))))))) (by kernel_rfl)
      · injection h with h; subst h
        exact env.code (its := [.br true, .pre [[], [0], [0, 1], [0, 1, 2], [0, 1, 2, 3], [0, 1, 2, 3, 4], [0, 1, 2, 3, 4, 5], [0, 1, 2, 3, 4, 5, 6], [0, 1, 2, 3, 4, 5, 6], [0, 1, 2, 3, 4, 5, 6, 8], [0, 1, 2, 3, 4, 5, 6, 7, 8, 9], [0, 1, 2, 3, 4, 5, 6, 7, 8, 9, 10], [0, 1, 2, 3, 4, 5, 6, 7, 8, 9, 10, 11], [0, 1, 2, 3, 4, 5, 6], [0, 1, 2, 3, 4, 5, 6, 13], [0, 1, 2, 3, 4, 5, 6, 7, 8, 9, 10, 11, 12, 13, 14], [0, 1, 2, 3, 4, 5, 6, 7, 8, 9, 10, 11, 12, 13, 14, 15], [0, 1, 2, 3, 4, 5, 6, 7, 8, 9, 10, 11, 12, 13, 14, 15, 16]], .call [none] [] [] true (vals_may_R (List.getD x1 (Int.toNat x3) (([] : List UInt8), (0 : Int), (List.replicate 32 (0 : UInt8)), ())) u4) (vals_may_O (List.getD x1 (Int.toNat x3) (([] : List UInt8), (0 : Int), (List.replicate 32 (0 : UInt8)), ())) u4), .br false, .br false, .br false, .br false, .br false, .br false, .br false, .br false, .br false, .br false, .br false, .br false, .br false, .br false, .br false, .br false, .sel [0, 5, 6, 7] []]) (.c h2 (.c h3 (.c (vals_may_ok (List.getD x1 (Int.toNat x3) (([] : List UInt8), (0 : Int), (List.replicate 32 (0 : UInt8)), ())) u4 h5) (.c h6 (.c h6 (.c h6 (.c h7 (.c h7 (.c h7 (.c h7 (.c h7 (.c h7 (.c h7 (.c h7 (.c h7 (.c h6 (.c h7 (.c h6 (.c (rfl : (false : Bool) = false) .n))))))))))))))))))) (by kernel_rfl)
  · injection h with h; subst h
    exact ⟨by intro e; simp [vals_Right_1_ex] at e, env.code (its := [.br false, .sel [0] []]) (.c h2 .n) (by kernel_rfl)⟩
theorem vals_Right_1_ok (x0 : List (List UInt8 × Int × List UInt8 × Unit)) (x1 : List (List UInt8 × Int × List UInt8 × Unit)) (x2 : Int) (x3 : Int) (o : (Bool) ⊕ (List (List UInt8 × Int × List UInt8 × Unit))) (h : vals_Right_1 x0 x1 x2 x3 = some o) : CodeOK prog (codeAt (bodyOf f13) [1, 0, 1, 0]) (vals_Right_1_in x0 x1 x2 x3) (vals_Right_1_ex o) (vals_Right_1_st o) :=
  LoopOK.of_step (st := fun s => vals_Right_1_in x0 x1 x2 s) (ex := vals_Right_1_ex) (stO := vals_Right_1_st) (fun s s2 hs => vals_Right_1_body x0 x1 x2 s (.inl s2) hs) (fun s r hs => vals_Right_1_body x0 x1 x2 s (.inr r) hs) _ o h
def vals_Right_R (a0 : List (List UInt8 × Int × List UInt8 × Unit)) (u : Bool) : Slot := (.v .bool u)
def vals_Right_O (a0 : List (List UInt8 × Int × List UInt8 × Unit)) (u : Bool) : List AObj := []
theorem vals_Right_ok (a0 : List (List UInt8 × Int × List UInt8 × Unit)) (u : Bool) (h : vals_Right a0 = some u) : CallC prog 13 [(.v (.slice (.fld .str (.fld (.int .i64) (.fld (.arr 32 (.int .u8)) .unit)))) a0)] [] (vals_Right_R a0 u) (vals_Right_O a0 u) := by
  unfold vals_Right at h
  obtain ⟨o10, h11, h⟩ := andThen_some h
  rcases o10 with o12 | o13
  · injection h with h; subst h
    exact env.fun func13 can13 (its := [.dive, .sel [0, 5, 6, 7] [], .part (vals_Right_1_ex (.inl o12)) (vals_Right_1_st (.inl o12))]) (pos := [.sel []]) (.c (vals_Right_1_ok a0 a0 (List.length a0 : Int) (0 : Int) (.inl o12) h11) .n) (by kernel_rfl)
  · rcases fork_some h with ⟨h14, h⟩ | ⟨h14, h⟩
    · injection h with h; subst h
      exact env.fun func13 can13 (its := [.dive, .sel [0, 5, 6, 7] [], .part (vals_Right_1_ex (.inr o13)) (vals_Right_1_st (.inr o13)), .br true, .br true, .br true, .br true]) (pos := [.sel []]) (.c (vals_Right_1_ok a0 a0 (List.length a0 : Int) (0 : Int) (.inr o13) h11) (.c h14 (.c h14 (.c h14 (.c h14 .n))))) (by kernel_rfl)
    · injection h with h; subst h
      exact env.fun func13 can13 (its := [.dive, .sel [0, 5, 6, 7] [], .part (vals_Right_1_ex (.inr o13)) (vals_Right_1_st (.inr o13)), .br false, .br false, .br false, .br false]) (pos := [.sel []]) (.c (vals_Right_1_ok a0 a0 (List.length a0 : Int) (0 : Int) (.inr o13) h11) (.c h14 (.c h14 (.c h14 (.c h14 .n))))) (by kernel_rfl)
theorem can3 : Callable prog 3 := ⟨_, func3, by kernel_rfl, by kernel_rfl⟩
def affiantlaw10_ValsRuns_R  (u : Bool) : Slot := (.v .bool u)
def affiantlaw10_ValsRuns_O  (u : Bool) : List AObj := []
theorem affiantlaw10_ValsRuns_ok  (u : Bool) (h : affiantlaw10_ValsRuns  = some u) : CallC prog 3 [] [] (affiantlaw10_ValsRuns_R u) (affiantlaw10_ValsRuns_O u) := by
  unfold affiantlaw10_ValsRuns at h
  obtain ⟨u1, h2, h⟩ := andThen_some h
  rcases fork_some h with ⟨h3, h⟩ | ⟨h3, h⟩
  · obtain ⟨u4, h5, h⟩ := andThen_some h
    rcases fork_some h with ⟨h6, h⟩ | ⟨h6, h⟩
    · obtain ⟨u7, h8, h⟩ := andThen_some h
      rcases fork_some h with ⟨h9, h⟩ | ⟨h9, h⟩
      · obtain ⟨u10, h11, h⟩ := andThen_some h
        rcases fork_some h with ⟨h12, h⟩ | ⟨h12, h⟩
        · obtain ⟨u13, h14, h⟩ := andThen_some h
          injection h with h; subst h
          exact env.fun func3 can3 (its := [.call [none, none] [] [0, 1] true (vals_Tally_R ([(([97] : List UInt8), (3 : Int), (List.replicate 32 (0 : UInt8)), ()), (([98] : List UInt8), (1 : Int), (List.replicate 32 (0 : UInt8)), ()), (([99] : List UInt8), (1 : Int), (List.replicate 32 (0 : UInt8)), ())] : List (List UInt8 × Int × List UInt8 × Unit)) ([([97] : List UInt8), ([97] : List UInt8), ([113] : List UInt8)] : List (List UInt8)) u1) (vals_Tally_O ([(([97] : List UInt8), (3 : Int), (List.replicate 32 (0 : UInt8)), ()), (([98] : List UInt8), (1 : Int), (List.replicate 32 (0 : UInt8)), ()), (([99] : List UInt8), (1 : Int), (List.replicate 32 (0 : UInt8)), ())] : List (List UInt8 × Int × List UInt8 × Unit)) ([([97] : List UInt8), ([97] : List UInt8), ([113] : List UInt8)] : List (List UInt8)) u1), .br true, .br true, .call [none, none, none] [] [] true (vals_Over_R u1 (1 : Int) (3 : Int) u4) (vals_Over_O u1 (1 : Int) (3 : Int) u4), .br true, .br true, .br true, .call [none, none, none] [] [] true (vals_Over_R u1 (2 : Int) (3 : Int) u7) (vals_Over_O u1 (2 : Int) (3 : Int) u7), .br true, .br true, .br true, .br true, .call [none] [] [0] true (vals_Right_R ([(([97] : List UInt8), (3 : Int), (List.replicate 32 (0 : UInt8)), ()), (([98] : List UInt8), (1 : Int), (List.replicate 32 (0 : UInt8)), ()), (([99] : List UInt8), (1 : Int), (List.replicate 32 (0 : UInt8)), ())] : List (List UInt8 × Int × List UInt8 × Unit)) u10) (vals_Right_O ([(([97] : List UInt8), (3 : Int), (List.replicate 32 (0 : UInt8)), ()), (([98] : List UInt8), (1 : Int), (List.replicate 32 (0 : UInt8)), ()), (([99] : List UInt8), (1 : Int), (List.replicate 32 (0 : UInt8)), ())] : List (List UInt8 × Int × List UInt8 × Unit)) u10), .br true, .br true, .br true, .call [none] [] [0] true (vals_Total_R ([(([97] : List UInt8), (3 : Int), (List.replicate 32 (0 : UInt8)), ()), (([98] : List UInt8), (1 : Int), (List.replicate 32 (0 : UInt8)), ()), (([99] : List UInt8), (1 : Int), (List.replicate 32 (0 : UInt8)), ())] : List (List UInt8 × Int × List UInt8 × Unit)) u13) (vals_Total_O ([(([97] : List UInt8), (3 : Int), (List.replicate 32 (0 : UInt8)), ()), (([98] : List UInt8), (1 : Int), (List.replicate 32 (0 : UInt8)), ()), (([99] : List UInt8), (1 : Int), (List.replicate 32 (0 : UInt8)), ())] : List (List UInt8 × Int × List UInt8 × Unit)) u13), .br true, .br true]) (pos := [.sel []]) (.c (vals_Tally_ok ([(([97] : List UInt8), (3 : Int), (List.replicate 32 (0 : UInt8)), ()), (([98] : List UInt8), (1 : Int), (List.replicate 32 (0 : UInt8)), ()), (([99] : List UInt8), (1 : Int), (List.replicate 32 (0 : UInt8)), ())] : List (List UInt8 × Int × List UInt8 × Unit)) ([([97] : List UInt8), ([97] : List UInt8), ([113] : List UInt8)] : List (List UInt8)) u1 h2) (.c h3 (.c h3 (.c (vals_Over_ok u1 (1 : Int) (3 : Int) u4 h5) (.c h3 (.c h6 (.c h6 (.c (vals_Over_ok u1 (2 : Int) (3 : Int) u7 h8) (.c h6 (.c h6 (.c h9 (.c h9 (.c (vals_Right_ok ([(([97] : List UInt8), (3 : Int), (List.replicate 32 (0 : UInt8)), ()), (([98] : List UInt8), (1 : Int), (List.replicate 32 (0 : UInt8)), ()), (([99] : List UInt8), (1 : Int), (List.replicate 32 (0 : UInt8)), ())] : List (List UInt8 × Int × List UInt8 × Unit)) u10 h11) (.c h9 (.c h12 (.c h12 (.c (vals_Total_ok ([(([97] : List UInt8), (3 : Int), (List.replicate 32 (0 : UInt8)), ()), (([98] : List UInt8), (1 : Int), (List.replicate 32 (0 : UInt8)), ()), (([99] : List UInt8), (1 : Int), (List.replicate 32 (0 : UInt8)), ())] : List (List UInt8 × Int × List UInt8 × Unit)) u13 h14) (.c h12 (.c h12 .n))))))))))))))))))) (by kernel_rfl)
        · cases h
      · cases h
    · cases h
  · cases h
end
end Go.Proofs.Ytoemjkbemenjhaa.valsRuns
