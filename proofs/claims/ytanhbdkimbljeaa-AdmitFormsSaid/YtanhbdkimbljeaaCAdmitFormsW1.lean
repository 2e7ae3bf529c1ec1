/-
  The functions, walked through: each call comes to what the pure text says.
-/
import Derived.Test.YtanhbdkimbljeaaProg
import Derived.Test.YtanhbdkimbljeaaAxC
import Derived.Test.YtanhbdkimbljeaaCAdmitFormsP
import Derived.Test.YtanhbdkimbljeaaCAdmitFormsW0
namespace Go.Proofs.Ytanhbdkimbljeaa.admitForms
open Go.Ax Go.Ax.V Go.Proofs.Try
set_option maxRecDepth 100000
set_option linter.unusedVariables false
noncomputable section
theorem can64 : Callable prog 64 := ⟨_, func64, by kernel_rfl, by kernel_rfl⟩
def check_Cost_R (a0 : T20c7) (u : Int) : Slot := (.v (.int .i64) u)
def check_Cost_O (a0 : T20c7) (u : Int) : List AObj := []
theorem check_Cost_ok (a0 : T20c7) (u : Int) (h : check_Cost a0 = some u) : CallC prog 64 [(.v Y20c7 a0)] [] (check_Cost_R a0 u) (check_Cost_O a0 u) := by
 unfold check_Cost at h
 rcases fork_some h with ⟨h1, h⟩ | ⟨h1, h⟩
 ·injection h with h; subst h
  exact env.fun func64 can64 (its := [b1]) (pos := [.sel []]) (.c h1 .n) (by kernel_rfl)
 ·obtain ⟨u2, h3, h⟩ := andThen_some h
  injection h with h; subst h
  exact env.fun func64 can64 (its := [b0, .pre p31, .asis, .call [none] [] [] true (prove_Size_R a0 u2) (prove_Size_O a0 u2)]) (pos := [.sel []]) (.c h1 (.c rn (.c (prove_Size_ok a0 u2 h3) .n))) (by kernel_rfl)
theorem can39 : Callable prog 39 := ⟨_, func39, by kernel_rfl, by kernel_rfl⟩
def admit_Cost_R (a0 : T1f7e) (u : Int) : Slot := (.v (.int .i64) u)
def admit_Cost_O (a0 : T1f7e) (u : Int) : List AObj := []
theorem admit_Cost_ok (a0 : T1f7e) (u : Int) (h : admit_Cost a0 = some u) : CallC prog 39 [(.v Y1f7e a0)] [] (admit_Cost_R a0 u) (admit_Cost_O a0 u) := by
 unfold admit_Cost at h
 obtain ⟨u1, h2, h⟩ := andThen_some h
 rcases fork_some h with ⟨h3, h⟩ | ⟨h3, h⟩
 ·injection h with h; subst h
  exact env.fun func39 can39 (its := [.call [none] [] [] true (admit_Right_R a0 u1) (admit_Right_O a0 u1), b1]) (pos := [.sel []]) (.c (admit_Right_ok a0 u1 h2) (.c h3 .n)) (by kernel_rfl)
 ·obtain ⟨u4, h5, h⟩ := andThen_some h
  injection h with h; subst h
  exact env.fun func39 can39 (its := [.call [none] [] [] true (admit_Right_R a0 u1) (admit_Right_O a0 u1), b0, .call [none] [] [] true (check_Cost_R a0.2.2.2.1 u4) (check_Cost_O a0.2.2.2.1 u4)]) (pos := [.sel []]) (.c (admit_Right_ok a0 u1 h2) (.c h3 (.c (check_Cost_ok a0.2.2.2.1 u4 h5) .n))) (by kernel_rfl)
theorem can7 : Callable prog 7 := ⟨_, func7, by kernel_rfl, by kernel_rfl⟩
def affiantlaw17_AdmitRuns_R  (u : Bool) : Slot := (.v .bool u)
def affiantlaw17_AdmitRuns_O  (u : Bool) : List AObj := []
theorem affiantlaw17_AdmitRuns_ok  (u : Bool) (h : affiantlaw17_AdmitRuns  = some u) : CallC prog 7 [] [] (affiantlaw17_AdmitRuns_R u) (affiantlaw17_AdmitRuns_O u) := by
 unfold affiantlaw17_AdmitRuns at h
 obtain ⟨u1, h2, h⟩ := andThen_some h
 obtain ⟨u3, h4, h⟩ := andThen_some h
 obtain ⟨u5, h6, h⟩ := andThen_some h
 rcases fork_some h with ⟨h7, h⟩ | ⟨h7, h⟩
 ·obtain ⟨u8, h9, h⟩ := andThen_some h
  obtain ⟨u10, h11, h⟩ := andThen_some h
  rcases fork_some h with ⟨h12, h⟩ | ⟨h12, h⟩
  ·obtain ⟨u13, h14, h⟩ := andThen_some h
   obtain ⟨u15, h16, h⟩ := andThen_some h
   injection h with h; subst h
   exact env.fun func7 can7 (its := [.call [none, none, none, none] [] [0] false (affiantref16_Answer_R (1 : Int) ((1 : Int), ([97] : B8), ([] : B8), (0 : Int), (1 : Int), ()) (1 : Int) ([(([97] : B8), ([49] : B8), ())] : List (T18c3)) u1) (affiantref16_Answer_O (1 : Int) ((1 : Int), ([97] : B8), ([] : B8), (0 : Int), (1 : Int), ()) (1 : Int) ([(([97] : B8), ([49] : B8), ())] : List (T18c3)) u1), .pre p32, .asis, .call [none] [] [0] true (store_Root_R ([(([97] : B8), ([49] : B8), ())] : List (T18c3)) u3) (store_Root_O ([(([97] : B8), ([49] : B8), ())] : List (T18c3)) u3), .asis, .call [none, none, none] [] [] true (admit_Check_R ((1 : Int), ([97] : B8), ([] : B8), (0 : Int), (1 : Int), ()) u3 u1 u5) (admit_Check_O ((1 : Int), ([97] : B8), ([] : B8), (0 : Int), (1 : Int), ()) u3 u1 u5), b1, b1, b1, .asis, .call [none] [] [0] true (store_Root_R ([(([97] : B8), ([49] : B8), ())] : List (T18c3)) u8) (store_Root_O ([(([97] : B8), ([49] : B8), ())] : List (T18c3)) u8), b1, b1, .asis, .call [none, none, none] [] [] true (admit_Check_R ((1 : Int), ([97] : B8), ([] : B8), (0 : Int), (1 : Int), ()) u8 (u1.1, u1.2.1, ([(([97] : B8), ([50] : B8), ())] : List (T18c3)), u1.2.2.2.1, ()) u10) (admit_Check_O ((1 : Int), ([97] : B8), ([] : B8), (0 : Int), (1 : Int), ()) u8 (u1.1, u1.2.1, ([(([97] : B8), ([50] : B8), ())] : List (T18c3)), u1.2.2.2.1, ()) u10), b1, b1, b1, b1, b1, .asis, .call [none] [] [0] true (store_Root_R ([(([97] : B8), ([49] : B8), ())] : List (T18c3)) u13) (store_Root_O ([(([97] : B8), ([49] : B8), ())] : List (T18c3)) u13), b1, b1, .asis, .call [none, none, none] [] [] true (admit_Check_R ((1 : Int), ([97] : B8), ([] : B8), (0 : Int), (1 : Int), ()) u13 Z1f7e u15) (admit_Check_O ((1 : Int), ([97] : B8), ([] : B8), (0 : Int), (1 : Int), ()) u13 Z1f7e u15), b1, b1]) (pos := [.sel []]) (.c (affiantref16_Answer_ok (1 : Int) ((1 : Int), ([97] : B8), ([] : B8), (0 : Int), (1 : Int), ()) (1 : Int) ([(([97] : B8), ([49] : B8), ())] : List (T18c3)) u1 h2) (.c (rfl : ([.row Y18c3 ([(([97] : B8), ([49] : B8), ())] : List (T18c3)) false] : List AObj) = [.row Y18c3 ([(([97] : B8), ([49] : B8), ())] : List (T18c3)) false]) (.c (store_Root_ok ([(([97] : B8), ([49] : B8), ())] : List (T18c3)) u3 h4) (.c rn (.c (admit_Check_ok ((1 : Int), ([97] : B8), ([] : B8), (0 : Int), (1 : Int), ()) u3 u1 u5 h6) (.c h7 (.c h7 (.c h7 (.c (rfl : ([.row Y18c3 ([(([97] : B8), ([49] : B8), ())] : List (T18c3)) false] : List AObj) = [.row Y18c3 ([(([97] : B8), ([49] : B8), ())] : List (T18c3)) false]) (.c (store_Root_ok ([(([97] : B8), ([49] : B8), ())] : List (T18c3)) u8 h9) (.c h7 (.c h7 (.c rn (.c (admit_Check_ok ((1 : Int), ([97] : B8), ([] : B8), (0 : Int), (1 : Int), ()) u8 (u1.1, u1.2.1, ([(([97] : B8), ([50] : B8), ())] : List (T18c3)), u1.2.2.2.1, ()) u10 h11) (.c h7 (.c h7 (.c h12 (.c h12 (.c h12 (.c (rfl : ([.row Y18c3 ([(([97] : B8), ([49] : B8), ())] : List (T18c3)) false] : List AObj) = [.row Y18c3 ([(([97] : B8), ([49] : B8), ())] : List (T18c3)) false]) (.c (store_Root_ok ([(([97] : B8), ([49] : B8), ())] : List (T18c3)) u13 h14) (.c h12 (.c h12 (.c rn (.c (admit_Check_ok ((1 : Int), ([97] : B8), ([] : B8), (0 : Int), (1 : Int), ()) u13 Z1f7e u15 h16) (.c h12 (.c h12 .n))))))))))))))))))))))))))) (by kernel_rfl)
  ·cases h
 ·cases h
theorem can9 : Callable prog 9 := ⟨_, func9, by kernel_rfl, by kernel_rfl⟩
def affiantlaw17_AdmitForms_R (a0 : List Int) (a1 : T1a67) (a2 : Int) (a3 : Int) (u : Bool) : Slot := (.v .bool u)
def affiantlaw17_AdmitForms_O (a0 : List Int) (a1 : T1a67) (a2 : Int) (a3 : Int) (u : Bool) : List AObj := []
theorem affiantlaw17_AdmitForms_ok (a0 : List Int) (a1 : T1a67) (a2 : Int) (a3 : Int) (u : Bool) (h : affiantlaw17_AdmitForms a0 a1 a2 a3 = some u) : CallC prog 9 [(.v (.slice (.int .i64)) a0), (.v Y1a67 a1), (.v (.int .i64) a2), (.v (.int .i64) a3)] [] (affiantlaw17_AdmitForms_R a0 a1 a2 a3 u) (affiantlaw17_AdmitForms_O a0 a1 a2 a3 u) := by
 unfold affiantlaw17_AdmitForms at h
 obtain ⟨u1, h2, h⟩ := andThen_some h
 obtain ⟨u3, h4, h⟩ := andThen_some h
 obtain ⟨u5, h6, h⟩ := andThen_some h
 obtain ⟨u7, h8, h⟩ := andThen_some h
 obtain ⟨u9, h10, h⟩ := andThen_some h
 obtain ⟨u11, h12, h⟩ := andThen_some h
 rcases fork_some h with ⟨h13, h⟩ | ⟨h13, h⟩
 ·obtain ⟨u14, h15, h⟩ := andThen_some h
  rcases fork_some h with ⟨h16, h⟩ | ⟨h16, h⟩
  ·obtain ⟨u17, h18, h⟩ := andThen_some h
   rcases fork_some h with ⟨h19, h⟩ | ⟨h19, h⟩
   ·obtain ⟨u20, h21, h⟩ := andThen_some h
    rcases fork_some h with ⟨h22, h⟩ | ⟨h22, h⟩
    ·obtain ⟨u23, h24, h⟩ := andThen_some h
     rcases fork_some h with ⟨h25, h⟩ | ⟨h25, h⟩
     ·obtain ⟨u26, h27, h⟩ := andThen_some h
      rcases fork_some h with ⟨h28, h⟩ | ⟨h28, h⟩
      ·obtain ⟨u29, h30, h⟩ := andThen_some h
       injection h with h; subst h
       exact env.fun func9 can9 (its := [.call [none] [] [] true (affiantkeep_Pairs_R a0 u1) (affiantkeep_Pairs_O a0 u1), .call [none] [] [] true (affiantkeep_Query_Query_R a1 u3) (affiantkeep_Query_Query_O a1 u3), .call [none] [] [1] true (store_Root_R u1 u5) (store_Root_O u1 u5), .call [none, none, none, none] [] [1] false (affiantref16_Answer_R (1 : Int) u3 (2 : Int) u1 u7) (affiantref16_Answer_O (1 : Int) u3 (2 : Int) u1 u7), .call [none, none, none] [] [] true (affiantbook_Within_R a3 (0 : Int) (99 : Int) u9) (affiantbook_Within_O a3 (0 : Int) (99 : Int) u9), .call [none, none, none] [] [] true (affiantbook_Within_R a2 (0 : Int) (4 : Int) u11) (affiantbook_Within_O a2 (0 : Int) (4 : Int) u11), b1, .call [none, none, none] [] [] true (admit_Check_R u3 u5 (u7.1, (w64 (0 - u9)), u7.2.2.1, u7.2.2.2.1, ()) u14) (admit_Check_O u3 u5 (u7.1, (w64 (0 - u9)), u7.2.2.1, u7.2.2.2.1, ()) u14), b1, b1, .call [none] [] [] true (admit_Right_R (u7.1, (w64 (0 - u9)), u7.2.2.1, u7.2.2.2.1, ()) u17) (admit_Right_O (u7.1, (w64 (0 - u9)), u7.2.2.1, u7.2.2.2.1, ()) u17), b1, b1, b1, b1, .call [none] [] [] true (admit_Cost_R (u7.1, (w64 (0 - u9)), u7.2.2.1, u7.2.2.2.1, ()) u20) (admit_Cost_O (u7.1, (w64 (0 - u9)), u7.2.2.1, u7.2.2.2.1, ()) u20), b1, b1, b1, b1, .call [none] [] [] true (admit_Right_R u7 u23) (admit_Right_O u7 u23), b1, b1, b1, b1, b1, .call [none, none, none] [] [] true (admit_Check_R u3 u5 (u7.1, u7.2.1, ([(([110, 101, 118, 101, 114] : B8), ([] : B8), ()), (([110, 101, 118, 101, 114, 101, 118, 101, 114] : B8), ([] : B8), ())] : List (T18c3)), u7.2.2.2.1, ()) u26) (admit_Check_O u3 u5 (u7.1, u7.2.1, ([(([110, 101, 118, 101, 114] : B8), ([] : B8), ()), (([110, 101, 118, 101, 114, 101, 118, 101, 114] : B8), ([] : B8), ())] : List (T18c3)), u7.2.2.2.1, ()) u26), b1, b1, b1, .call [] [] [] true (affiantlaw17_AdmitRuns_R u29) (affiantlaw17_AdmitRuns_O u29), b1]) (pos := [.sel []]) (.c (affiantkeep_Pairs_ok a0 u1 h2) (.c (affiantkeep_Query_Query_ok a1 u3 h4) (.c (store_Root_ok u1 u5 h6) (.c (affiantref16_Answer_ok (1 : Int) u3 (2 : Int) u1 u7 h8) (.c (affiantbook_Within_ok a3 (0 : Int) (99 : Int) u9 h10) (.c (affiantbook_Within_ok a2 (0 : Int) (4 : Int) u11 h12) (.c h13 (.c (admit_Check_ok u3 u5 (u7.1, (w64 (0 - u9)), u7.2.2.1, u7.2.2.2.1, ()) u14 h15) (.c h16 (.c h16 (.c (admit_Right_ok (u7.1, (w64 (0 - u9)), u7.2.2.1, u7.2.2.2.1, ()) u17 h18) (.c h16 (.c h16 (.c h19 (.c h19 (.c (admit_Cost_ok (u7.1, (w64 (0 - u9)), u7.2.2.1, u7.2.2.2.1, ()) u20 h21) (.c h19 (.c h19 (.c h22 (.c h22 (.c (admit_Right_ok u7 u23 h24) (.c h22 (.c h25 (.c h25 (.c h25 (.c h25 (.c (admit_Check_ok u3 u5 (u7.1, u7.2.1, ([(([110, 101, 118, 101, 114] : B8), ([] : B8), ()), (([110, 101, 118, 101, 114, 101, 118, 101, 114] : B8), ([] : B8), ())] : List (T18c3)), u7.2.2.2.1, ()) u26 h27) (.c h25 (.c h25 (.c h28 (.c (affiantlaw17_AdmitRuns_ok u29 h30) (.c h28 .n)))))))))))))))))))))))))))))))) (by kernel_rfl)
      ·cases h
     ·cases h
    ·cases h
   ·cases h
  ·cases h
 ·rcases fork_some h with ⟨h31, h⟩ | ⟨h31, h⟩
  ·obtain ⟨u32, h33, h⟩ := andThen_some h
   rcases fork_some h with ⟨h34, h⟩ | ⟨h34, h⟩
   ·obtain ⟨u35, h36, h⟩ := andThen_some h
    rcases fork_some h with ⟨h37, h⟩ | ⟨h37, h⟩
    ·obtain ⟨u38, h39, h⟩ := andThen_some h
     rcases fork_some h with ⟨h40, h⟩ | ⟨h40, h⟩
     ·obtain ⟨u41, h42, h⟩ := andThen_some h
      rcases fork_some h with ⟨h43, h⟩ | ⟨h43, h⟩
      ·obtain ⟨u44, h45, h⟩ := andThen_some h
       rcases fork_some h with ⟨h46, h⟩ | ⟨h46, h⟩
       ·obtain ⟨u47, h48, h⟩ := andThen_some h
        injection h with h; subst h
        exact env.fun func9 can9 (its := [.call [none] [] [] true (affiantkeep_Pairs_R a0 u1) (affiantkeep_Pairs_O a0 u1), .call [none] [] [] true (affiantkeep_Query_Query_R a1 u3) (affiantkeep_Query_Query_O a1 u3), .call [none] [] [1] true (store_Root_R u1 u5) (store_Root_O u1 u5), .call [none, none, none, none] [] [1] false (affiantref16_Answer_R (1 : Int) u3 (2 : Int) u1 u7) (affiantref16_Answer_O (1 : Int) u3 (2 : Int) u1 u7), .call [none, none, none] [] [] true (affiantbook_Within_R a3 (0 : Int) (99 : Int) u9) (affiantbook_Within_O a3 (0 : Int) (99 : Int) u9), .call [none, none, none] [] [] true (affiantbook_Within_R a2 (0 : Int) (4 : Int) u11) (affiantbook_Within_O a2 (0 : Int) (4 : Int) u11), b0, b1, .call [none, none, none] [] [] true (admit_Check_R u3 u5 (u7.1, (w64 ((17 : Int) + u9)), u7.2.2.1, u7.2.2.2.1, ()) u32) (admit_Check_O u3 u5 (u7.1, (w64 ((17 : Int) + u9)), u7.2.2.1, u7.2.2.2.1, ()) u32), b1, b1, .call [none] [] [] true (admit_Right_R (u7.1, (w64 ((17 : Int) + u9)), u7.2.2.1, u7.2.2.2.1, ()) u35) (admit_Right_O (u7.1, (w64 ((17 : Int) + u9)), u7.2.2.1, u7.2.2.2.1, ()) u35), b1, b1, b1, b1, .call [none] [] [] true (admit_Cost_R (u7.1, (w64 ((17 : Int) + u9)), u7.2.2.1, u7.2.2.2.1, ()) u38) (admit_Cost_O (u7.1, (w64 ((17 : Int) + u9)), u7.2.2.1, u7.2.2.2.1, ()) u38), b1, b1, b1, b1, .call [none] [] [] true (admit_Right_R u7 u41) (admit_Right_O u7 u41), b1, b1, b1, b1, b1, .call [none, none, none] [] [] true (admit_Check_R u3 u5 (u7.1, u7.2.1, ([(([110, 101, 118, 101, 114] : B8), ([] : B8), ()), (([110, 101, 118, 101, 114, 101, 118, 101, 114] : B8), ([] : B8), ())] : List (T18c3)), u7.2.2.2.1, ()) u44) (admit_Check_O u3 u5 (u7.1, u7.2.1, ([(([110, 101, 118, 101, 114] : B8), ([] : B8), ()), (([110, 101, 118, 101, 114, 101, 118, 101, 114] : B8), ([] : B8), ())] : List (T18c3)), u7.2.2.2.1, ()) u44), b1, b1, b1, .call [] [] [] true (affiantlaw17_AdmitRuns_R u47) (affiantlaw17_AdmitRuns_O u47), b1]) (pos := [.sel []]) (.c (affiantkeep_Pairs_ok a0 u1 h2) (.c (affiantkeep_Query_Query_ok a1 u3 h4) (.c (store_Root_ok u1 u5 h6) (.c (affiantref16_Answer_ok (1 : Int) u3 (2 : Int) u1 u7 h8) (.c (affiantbook_Within_ok a3 (0 : Int) (99 : Int) u9 h10) (.c (affiantbook_Within_ok a2 (0 : Int) (4 : Int) u11 h12) (.c h13 (.c h31 (.c (admit_Check_ok u3 u5 (u7.1, (w64 ((17 : Int) + u9)), u7.2.2.1, u7.2.2.2.1, ()) u32 h33) (.c h34 (.c h34 (.c (admit_Right_ok (u7.1, (w64 ((17 : Int) + u9)), u7.2.2.1, u7.2.2.2.1, ()) u35 h36) (.c h34 (.c h34 (.c h37 (.c h37 (.c (admit_Cost_ok (u7.1, (w64 ((17 : Int) + u9)), u7.2.2.1, u7.2.2.2.1, ()) u38 h39) (.c h37 (.c h37 (.c h40 (.c h40 (.c (admit_Right_ok u7 u41 h42) (.c h40 (.c h43 (.c h43 (.c h43 (.c h43 (.c (admit_Check_ok u3 u5 (u7.1, u7.2.1, ([(([110, 101, 118, 101, 114] : B8), ([] : B8), ()), (([110, 101, 118, 101, 114, 101, 118, 101, 114] : B8), ([] : B8), ())] : List (T18c3)), u7.2.2.2.1, ()) u44 h45) (.c h43 (.c h43 (.c h46 (.c (affiantlaw17_AdmitRuns_ok u47 h48) (.c h46 .n))))))))))))))))))))))))))))))))) (by kernel_rfl)
       ·cases h
      ·cases h
     ·cases h
    ·cases h
   ·cases h
  ·rcases fork_some h with ⟨h49, h⟩ | ⟨h49, h⟩
   ·obtain ⟨u50, h51, h⟩ := andThen_some h
    rcases fork_some h with ⟨h52, h⟩ | ⟨h52, h⟩
    ·obtain ⟨u53, h54, h⟩ := andThen_some h
     rcases fork_some h with ⟨h55, h⟩ | ⟨h55, h⟩
     ·obtain ⟨u56, h57, h⟩ := andThen_some h
      rcases fork_some h with ⟨h58, h⟩ | ⟨h58, h⟩
      ·obtain ⟨u59, h60, h⟩ := andThen_some h
       rcases fork_some h with ⟨h61, h⟩ | ⟨h61, h⟩
       ·obtain ⟨u62, h63, h⟩ := andThen_some h
        rcases fork_some h with ⟨h64, h⟩ | ⟨h64, h⟩
        ·obtain ⟨u65, h66, h⟩ := andThen_some h
         injection h with h; subst h
         exact env.fun func9 can9 (its := [.call [none] [] [] true (affiantkeep_Pairs_R a0 u1) (affiantkeep_Pairs_O a0 u1), .call [none] [] [] true (affiantkeep_Query_Query_R a1 u3) (affiantkeep_Query_Query_O a1 u3), .call [none] [] [1] true (store_Root_R u1 u5) (store_Root_O u1 u5), .call [none, none, none, none] [] [1] false (affiantref16_Answer_R (1 : Int) u3 (2 : Int) u1 u7) (affiantref16_Answer_O (1 : Int) u3 (2 : Int) u1 u7), .call [none, none, none] [] [] true (affiantbook_Within_R a3 (0 : Int) (99 : Int) u9) (affiantbook_Within_O a3 (0 : Int) (99 : Int) u9), .call [none, none, none] [] [] true (affiantbook_Within_R a2 (0 : Int) (4 : Int) u11) (affiantbook_Within_O a2 (0 : Int) (4 : Int) u11), b0, b0, b1, .call [none, none, none] [] [] true (admit_Check_R u3 u5 (u7.1, u7.2.1, ([(([98] : B8), ([] : B8), ()), (([97] : B8), ([] : B8), ())] : List (T18c3)), u7.2.2.2.1, ()) u50) (admit_Check_O u3 u5 (u7.1, u7.2.1, ([(([98] : B8), ([] : B8), ()), (([97] : B8), ([] : B8), ())] : List (T18c3)), u7.2.2.2.1, ()) u50), b1, b1, .call [none] [] [] true (admit_Right_R (u7.1, u7.2.1, ([(([98] : B8), ([] : B8), ()), (([97] : B8), ([] : B8), ())] : List (T18c3)), u7.2.2.2.1, ()) u53) (admit_Right_O (u7.1, u7.2.1, ([(([98] : B8), ([] : B8), ()), (([97] : B8), ([] : B8), ())] : List (T18c3)), u7.2.2.2.1, ()) u53), b1, b1, b1, b1, .call [none] [] [] true (admit_Cost_R (u7.1, u7.2.1, ([(([98] : B8), ([] : B8), ()), (([97] : B8), ([] : B8), ())] : List (T18c3)), u7.2.2.2.1, ()) u56) (admit_Cost_O (u7.1, u7.2.1, ([(([98] : B8), ([] : B8), ()), (([97] : B8), ([] : B8), ())] : List (T18c3)), u7.2.2.2.1, ()) u56), b1, b1, b1, b1, .call [none] [] [] true (admit_Right_R u7 u59) (admit_Right_O u7 u59), b1, b1, b1, b1, b1, .call [none, none, none] [] [] true (admit_Check_R u3 u5 (u7.1, u7.2.1, ([(([110, 101, 118, 101, 114] : B8), ([] : B8), ()), (([110, 101, 118, 101, 114, 101, 118, 101, 114] : B8), ([] : B8), ())] : List (T18c3)), u7.2.2.2.1, ()) u62) (admit_Check_O u3 u5 (u7.1, u7.2.1, ([(([110, 101, 118, 101, 114] : B8), ([] : B8), ()), (([110, 101, 118, 101, 114, 101, 118, 101, 114] : B8), ([] : B8), ())] : List (T18c3)), u7.2.2.2.1, ()) u62), b1, b1, b1, .call [] [] [] true (affiantlaw17_AdmitRuns_R u65) (affiantlaw17_AdmitRuns_O u65), b1]) (pos := [.sel []]) (.c (affiantkeep_Pairs_ok a0 u1 h2) (.c (affiantkeep_Query_Query_ok a1 u3 h4) (.c (store_Root_ok u1 u5 h6) (.c (affiantref16_Answer_ok (1 : Int) u3 (2 : Int) u1 u7 h8) (.c (affiantbook_Within_ok a3 (0 : Int) (99 : Int) u9 h10) (.c (affiantbook_Within_ok a2 (0 : Int) (4 : Int) u11 h12) (.c h13 (.c h31 (.c h49 (.c (admit_Check_ok u3 u5 (u7.1, u7.2.1, ([(([98] : B8), ([] : B8), ()), (([97] : B8), ([] : B8), ())] : List (T18c3)), u7.2.2.2.1, ()) u50 h51) (.c h52 (.c h52 (.c (admit_Right_ok (u7.1, u7.2.1, ([(([98] : B8), ([] : B8), ()), (([97] : B8), ([] : B8), ())] : List (T18c3)), u7.2.2.2.1, ()) u53 h54) (.c h52 (.c h52 (.c h55 (.c h55 (.c (admit_Cost_ok (u7.1, u7.2.1, ([(([98] : B8), ([] : B8), ()), (([97] : B8), ([] : B8), ())] : List (T18c3)), u7.2.2.2.1, ()) u56 h57) (.c h55 (.c h55 (.c h58 (.c h58 (.c (admit_Right_ok u7 u59 h60) (.c h58 (.c h61 (.c h61 (.c h61 (.c h61 (.c (admit_Check_ok u3 u5 (u7.1, u7.2.1, ([(([110, 101, 118, 101, 114] : B8), ([] : B8), ()), (([110, 101, 118, 101, 114, 101, 118, 101, 114] : B8), ([] : B8), ())] : List (T18c3)), u7.2.2.2.1, ()) u62 h63) (.c h61 (.c h61 (.c h64 (.c (affiantlaw17_AdmitRuns_ok u65 h66) (.c h64 .n)))))))))))))))))))))))))))))))))) (by kernel_rfl)
        ·cases h
       ·cases h
      ·cases h
     ·cases h
    ·cases h
   ·rcases fork_some h with ⟨h67, h⟩ | ⟨h67, h⟩
    ·obtain ⟨u68, h69, h⟩ := andThen_some h
     rcases fork_some h with ⟨h70, h⟩ | ⟨h70, h⟩
     ·obtain ⟨u71, h72, h⟩ := andThen_some h
      rcases fork_some h with ⟨h73, h⟩ | ⟨h73, h⟩
      ·obtain ⟨u74, h75, h⟩ := andThen_some h
       rcases fork_some h with ⟨h76, h⟩ | ⟨h76, h⟩
       ·obtain ⟨u77, h78, h⟩ := andThen_some h
        rcases fork_some h with ⟨h79, h⟩ | ⟨h79, h⟩
        ·obtain ⟨u80, h81, h⟩ := andThen_some h
         rcases fork_some h with ⟨h82, h⟩ | ⟨h82, h⟩
         ·obtain ⟨u83, h84, h⟩ := andThen_some h
          injection h with h; subst h
          exact env.fun func9 can9 (its := [.call [none] [] [] true (affiantkeep_Pairs_R a0 u1) (affiantkeep_Pairs_O a0 u1), .call [none] [] [] true (affiantkeep_Query_Query_R a1 u3) (affiantkeep_Query_Query_O a1 u3), .call [none] [] [1] true (store_Root_R u1 u5) (store_Root_O u1 u5), .call [none, none, none, none] [] [1] false (affiantref16_Answer_R (1 : Int) u3 (2 : Int) u1 u7) (affiantref16_Answer_O (1 : Int) u3 (2 : Int) u1 u7), .call [none, none, none] [] [] true (affiantbook_Within_R a3 (0 : Int) (99 : Int) u9) (affiantbook_Within_O a3 (0 : Int) (99 : Int) u9), .call [none, none, none] [] [] true (affiantbook_Within_R a2 (0 : Int) (4 : Int) u11) (affiantbook_Within_O a2 (0 : Int) (4 : Int) u11), b0, b0, b0, b1, .call [none, none, none] [] [] true (admit_Check_R u3 u5 (u7.1, u7.2.1, ([Z18c3] : List (T18c3)), u7.2.2.2.1, ()) u68) (admit_Check_O u3 u5 (u7.1, u7.2.1, ([Z18c3] : List (T18c3)), u7.2.2.2.1, ()) u68), b1, b1, .call [none] [] [] true (admit_Right_R (u7.1, u7.2.1, ([Z18c3] : List (T18c3)), u7.2.2.2.1, ()) u71) (admit_Right_O (u7.1, u7.2.1, ([Z18c3] : List (T18c3)), u7.2.2.2.1, ()) u71), b1, b1, b1, b1, .call [none] [] [] true (admit_Cost_R (u7.1, u7.2.1, ([Z18c3] : List (T18c3)), u7.2.2.2.1, ()) u74) (admit_Cost_O (u7.1, u7.2.1, ([Z18c3] : List (T18c3)), u7.2.2.2.1, ()) u74), b1, b1, b1, b1, .call [none] [] [] true (admit_Right_R u7 u77) (admit_Right_O u7 u77), b1, b1, b1, b1, b1, .call [none, none, none] [] [] true (admit_Check_R u3 u5 (u7.1, u7.2.1, ([(([110, 101, 118, 101, 114] : B8), ([] : B8), ()), (([110, 101, 118, 101, 114, 101, 118, 101, 114] : B8), ([] : B8), ())] : List (T18c3)), u7.2.2.2.1, ()) u80) (admit_Check_O u3 u5 (u7.1, u7.2.1, ([(([110, 101, 118, 101, 114] : B8), ([] : B8), ()), (([110, 101, 118, 101, 114, 101, 118, 101, 114] : B8), ([] : B8), ())] : List (T18c3)), u7.2.2.2.1, ()) u80), b1, b1, b1, .call [] [] [] true (affiantlaw17_AdmitRuns_R u83) (affiantlaw17_AdmitRuns_O u83), b1]) (pos := [.sel []]) (.c (affiantkeep_Pairs_ok a0 u1 h2) (.c (affiantkeep_Query_Query_ok a1 u3 h4) (.c (store_Root_ok u1 u5 h6) (.c (affiantref16_Answer_ok (1 : Int) u3 (2 : Int) u1 u7 h8) (.c (affiantbook_Within_ok a3 (0 : Int) (99 : Int) u9 h10) (.c (affiantbook_Within_ok a2 (0 : Int) (4 : Int) u11 h12) (.c h13 (.c h31 (.c h49 (.c h67 (.c (admit_Check_ok u3 u5 (u7.1, u7.2.1, ([Z18c3] : List (T18c3)), u7.2.2.2.1, ()) u68 h69) (.c h70 (.c h70 (.c (admit_Right_ok (u7.1, u7.2.1, ([Z18c3] : List (T18c3)), u7.2.2.2.1, ()) u71 h72) (.c h70 (.c h70 (.c h73 (.c h73 (.c (admit_Cost_ok (u7.1, u7.2.1, ([Z18c3] : List (T18c3)), u7.2.2.2.1, ()) u74 h75) (.c h73 (.c h73 (.c h76 (.c h76 (.c (admit_Right_ok u7 u77 h78) (.c h76 (.c h79 (.c h79 (.c h79 (.c h79 (.c (admit_Check_ok u3 u5 (u7.1, u7.2.1, ([(([110, 101, 118, 101, 114] : B8), ([] : B8), ()), (([110, 101, 118, 101, 114, 101, 118, 101, 114] : B8), ([] : B8), ())] : List (T18c3)), u7.2.2.2.1, ()) u80 h81) (.c h79 (.c h79 (.c h82 (.c (affiantlaw17_AdmitRuns_ok u83 h84) (.c h82 .n))))))))))))))))))))))))))))))))))) (by kernel_rfl)
         ·cases h
        ·cases h
       ·cases h
      ·cases h
     ·cases h
    ·obtain ⟨h85, h⟩ := need_some h
     obtain ⟨u86, h87, h⟩ := andThen_some h
     rcases fork_some h with ⟨h88, h⟩ | ⟨h88, h⟩
     ·obtain ⟨u89, h90, h⟩ := andThen_some h
      rcases fork_some h with ⟨h91, h⟩ | ⟨h91, h⟩
      ·obtain ⟨u92, h93, h⟩ := andThen_some h
       rcases fork_some h with ⟨h94, h⟩ | ⟨h94, h⟩
       ·obtain ⟨u95, h96, h⟩ := andThen_some h
        rcases fork_some h with ⟨h97, h⟩ | ⟨h97, h⟩
        ·obtain ⟨u98, h99, h⟩ := andThen_some h
         rcases fork_some h with ⟨h100, h⟩ | ⟨h100, h⟩
         ·obtain ⟨u101, h102, h⟩ := andThen_some h
          injection h with h; subst h
          exact env.fun func9 can9 (its := [.call [none] [] [] true (affiantkeep_Pairs_R a0 u1) (affiantkeep_Pairs_O a0 u1), .call [none] [] [] true (affiantkeep_Query_Query_R a1 u3) (affiantkeep_Query_Query_O a1 u3), .call [none] [] [1] true (store_Root_R u1 u5) (store_Root_O u1 u5), .call [none, none, none, none] [] [1] false (affiantref16_Answer_R (1 : Int) u3 (2 : Int) u1 u7) (affiantref16_Answer_O (1 : Int) u3 (2 : Int) u1 u7), .call [none, none, none] [] [] true (affiantbook_Within_R a3 (0 : Int) (99 : Int) u9) (affiantbook_Within_O a3 (0 : Int) (99 : Int) u9), .call [none, none, none] [] [] true (affiantbook_Within_R a2 (0 : Int) (4 : Int) u11) (affiantbook_Within_O a2 (0 : Int) (4 : Int) u11), b0, b0, b0, b0, .call [none, none, none] [] [] true (admit_Check_R u3 u5 (u7.1, u7.2.1, ([(([97] : B8), (List.replicate (Int.toNat (25 : Int)) (0 : UInt8)), ())] : List (T18c3)), u7.2.2.2.1, ()) u86) (admit_Check_O u3 u5 (u7.1, u7.2.1, ([(([97] : B8), (List.replicate (Int.toNat (25 : Int)) (0 : UInt8)), ())] : List (T18c3)), u7.2.2.2.1, ()) u86), b1, b1, .call [none] [] [] true (admit_Right_R (u7.1, u7.2.1, ([(([97] : B8), (List.replicate (Int.toNat (25 : Int)) (0 : UInt8)), ())] : List (T18c3)), u7.2.2.2.1, ()) u89) (admit_Right_O (u7.1, u7.2.1, ([(([97] : B8), (List.replicate (Int.toNat (25 : Int)) (0 : UInt8)), ())] : List (T18c3)), u7.2.2.2.1, ()) u89), b1, b1, b1, b1, .call [none] [] [] true (admit_Cost_R (u7.1, u7.2.1, ([(([97] : B8), (List.replicate (Int.toNat (25 : Int)) (0 : UInt8)), ())] : List (T18c3)), u7.2.2.2.1, ()) u92) (admit_Cost_O (u7.1, u7.2.1, ([(([97] : B8), (List.replicate (Int.toNat (25 : Int)) (0 : UInt8)), ())] : List (T18c3)), u7.2.2.2.1, ()) u92), b1, b1, b1, b1, .call [none] [] [] true (admit_Right_R u7 u95) (admit_Right_O u7 u95), b1, b1, b1, b1, b1, .call [none, none, none] [] [] true (admit_Check_R u3 u5 (u7.1, u7.2.1, ([(([110, 101, 118, 101, 114] : B8), ([] : B8), ()), (([110, 101, 118, 101, 114, 101, 118, 101, 114] : B8), ([] : B8), ())] : List (T18c3)), u7.2.2.2.1, ()) u98) (admit_Check_O u3 u5 (u7.1, u7.2.1, ([(([110, 101, 118, 101, 114] : B8), ([] : B8), ()), (([110, 101, 118, 101, 114, 101, 118, 101, 114] : B8), ([] : B8), ())] : List (T18c3)), u7.2.2.2.1, ()) u98), b1, b1, b1, .call [] [] [] true (affiantlaw17_AdmitRuns_R u101) (affiantlaw17_AdmitRuns_O u101), b1]) (pos := [.sel []]) (.c (affiantkeep_Pairs_ok a0 u1 h2) (.c (affiantkeep_Query_Query_ok a1 u3 h4) (.c (store_Root_ok u1 u5 h6) (.c (affiantref16_Answer_ok (1 : Int) u3 (2 : Int) u1 u7 h8) (.c (affiantbook_Within_ok a3 (0 : Int) (99 : Int) u9 h10) (.c (affiantbook_Within_ok a2 (0 : Int) (4 : Int) u11 h12) (.c h13 (.c h31 (.c h49 (.c h67 (.c h85 (.c (admit_Check_ok u3 u5 (u7.1, u7.2.1, ([(([97] : B8), (List.replicate (Int.toNat (25 : Int)) (0 : UInt8)), ())] : List (T18c3)), u7.2.2.2.1, ()) u86 h87) (.c h88 (.c h88 (.c (admit_Right_ok (u7.1, u7.2.1, ([(([97] : B8), (List.replicate (Int.toNat (25 : Int)) (0 : UInt8)), ())] : List (T18c3)), u7.2.2.2.1, ()) u89 h90) (.c h88 (.c h88 (.c h91 (.c h91 (.c (admit_Cost_ok (u7.1, u7.2.1, ([(([97] : B8), (List.replicate (Int.toNat (25 : Int)) (0 : UInt8)), ())] : List (T18c3)), u7.2.2.2.1, ()) u92 h93) (.c h91 (.c h91 (.c h94 (.c h94 (.c (admit_Right_ok u7 u95 h96) (.c h94 (.c h97 (.c h97 (.c h97 (.c h97 (.c (admit_Check_ok u3 u5 (u7.1, u7.2.1, ([(([110, 101, 118, 101, 114] : B8), ([] : B8), ()), (([110, 101, 118, 101, 114, 101, 118, 101, 114] : B8), ([] : B8), ())] : List (T18c3)), u7.2.2.2.1, ()) u98 h99) (.c h97 (.c h97 (.c h100 (.c (affiantlaw17_AdmitRuns_ok u101 h102) (.c h100 .n)))))))))))))))))))))))))))))))))))) (by kernel_rfl)
         ·cases h
        ·cases h
       ·cases h
      ·cases h
     ·cases h
end
end Go.Proofs.Ytanhbdkimbljeaa.admitForms
