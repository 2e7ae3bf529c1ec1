/-
  The functions, walked through: each call comes to what the pure text says.
-/
import Derived.Test.YtnckmagemlajeaaProg
import Derived.Test.YtnckmagemlajeaaAxC
import Derived.Test.YtnckmagemlajeaaCAdmitBindsP
import Derived.Test.YtnckmagemlajeaaCAdmitBindsW0
namespace Go.Proofs.Ytnckmagemlajeaa.admitBinds
open Go.Ax Go.Ax.V Go.Proofs.Try
set_option maxRecDepth 100000
set_option linter.unusedVariables false
noncomputable section
theorem can10 : Callable prog 10 := ⟨_, func10, by kernel_rfl, by kernel_rfl⟩
def affiantkeep_Response_R (a0 : T1f7e) (a1 : T1f7e) (a2 : Int) (a3 : Int) (a4 : Int) (u : T1f7e) : Slot := (.v Y1f7e u)
def affiantkeep_Response_O (a0 : T1f7e) (a1 : T1f7e) (a2 : Int) (a3 : Int) (a4 : Int) (u : T1f7e) : List AObj := []
theorem affiantkeep_Response_ok (a0 : T1f7e) (a1 : T1f7e) (a2 : Int) (a3 : Int) (a4 : Int) (u : T1f7e) (h : affiantkeep_Response a0 a1 a2 a3 a4 = some u) : CallC prog 10 [(.v Y1f7e a0), (.v Y1f7e a1), (.v (.int .i64) a2), (.v (.int .i64) a3), (.v (.int .i64) a4)] [] (affiantkeep_Response_R a0 a1 a2 a3 a4 u) (affiantkeep_Response_O a0 a1 a2 a3 a4 u) := by
 unfold affiantkeep_Response at h
 obtain ⟨h1, h⟩ := need_some h
 obtain ⟨h2, h⟩ := need_some h
 obtain ⟨h3, h⟩ := need_some h
 obtain ⟨u4, h5, h⟩ := andThen_some h
 rcases fork_some h with ⟨h6, h⟩ | ⟨h6, h⟩
 ·injection h with h; subst h
  exact env.fun func10 can10 (its := [.pre p31, .call [none, none, none] [] [] true (affiantbook_Within_R a2 (0 : Int) (13 : Int) u4) (affiantbook_Within_O a2 (0 : Int) (13 : Int) u4), b1]) (pos := s0) (.c h1 (.c h2 (.c h3 (.c (affiantbook_Within_ok a2 (0 : Int) (13 : Int) u4 h5) (.c h6 .n))))) (by kernel_rfl)
 ·rcases fork_some h with ⟨h7, h⟩ | ⟨h7, h⟩
  ·injection h with h; subst h
   exact env.fun func10 can10 (its := [.pre p31, .call [none, none, none] [] [] true (affiantbook_Within_R a2 (0 : Int) (13 : Int) u4) (affiantbook_Within_O a2 (0 : Int) (13 : Int) u4), b0, b1]) (pos := s0) (.c h1 (.c h2 (.c h3 (.c (affiantbook_Within_ok a2 (0 : Int) (13 : Int) u4 h5) (.c h6 (.c h7 .n)))))) (by kernel_rfl)
  ·rcases fork_some h with ⟨h8, h⟩ | ⟨h8, h⟩
   ·rcases fork_some h with ⟨h9, h⟩ | ⟨h9, h⟩
    ·obtain ⟨u10, h11, h⟩ := andThen_some h
     obtain ⟨u12, h13, h⟩ := andThen_some h
     obtain ⟨h14, h⟩ := need_some h
     injection h with h; subst h
     exact env.fun func10 can10 (its := [.pre p31, .call [none, none, none] [] [] true (affiantbook_Within_R a2 (0 : Int) (13 : Int) u4) (affiantbook_Within_O a2 (0 : Int) (13 : Int) u4), b0, b0, b1, b1, .pre p32, .asis, .call [none, none, none] [] [] true (affiantbook_Within_R a3 (0 : Int) (w64 ((List.length (([] : List (T18c3)) ++ a0.2.2.1) : Int) - (1 : Int))) u10) (affiantbook_Within_O a3 (0 : Int) (w64 ((List.length (([] : List (T18c3)) ++ a0.2.2.1) : Int) - (1 : Int))) u10), .asis, .call [none] [] [] true (affiantkeep_Text_R a4 u12) (affiantkeep_Text_O a4 u12)]) (pos := s0) (.c h1 (.c h2 (.c h3 (.c (affiantbook_Within_ok a2 (0 : Int) (13 : Int) u4 h5) (.c h6 (.c h7 (.c h8 (.c h9 (.c rn (.c (affiantbook_Within_ok a3 (0 : Int) (w64 ((List.length (([] : List (T18c3)) ++ a0.2.2.1) : Int) - (1 : Int))) u10 h11) (.c rn (.c (affiantkeep_Text_ok a4 u12 h13) (.c h14 .n))))))))))))) (by kernel_rfl)
    ·injection h with h; subst h
     exact env.fun func10 can10 (its := [.pre p31, .call [none, none, none] [] [] true (affiantbook_Within_R a2 (0 : Int) (13 : Int) u4) (affiantbook_Within_O a2 (0 : Int) (13 : Int) u4), b0, b0, b1, b0]) (pos := s0) (.c h1 (.c h2 (.c h3 (.c (affiantbook_Within_ok a2 (0 : Int) (13 : Int) u4 h5) (.c h6 (.c h7 (.c h8 (.c h9 .n)))))))) (by kernel_rfl)
   ·rcases fork_some h with ⟨h15, h⟩ | ⟨h15, h⟩
    ·rcases fork_some h with ⟨h16, h⟩ | ⟨h16, h⟩
     ·obtain ⟨h17, h⟩ := need_some h
      injection h with h; subst h
      exact env.fun func10 can10 (its := [.pre p31, .call [none, none, none] [] [] true (affiantbook_Within_R a2 (0 : Int) (13 : Int) u4) (affiantbook_Within_O a2 (0 : Int) (13 : Int) u4), b0, b0, b0, b1, b1, b0]) (pos := s0) (.c h1 (.c h2 (.c h3 (.c (affiantbook_Within_ok a2 (0 : Int) (13 : Int) u4 h5) (.c h6 (.c h7 (.c h8 (.c h15 (.c h16 (.c h17 .n)))))))))) (by kernel_rfl)
     ·injection h with h; subst h
      exact env.fun func10 can10 (its := [.pre p31, .call [none, none, none] [] [] true (affiantbook_Within_R a2 (0 : Int) (13 : Int) u4) (affiantbook_Within_O a2 (0 : Int) (13 : Int) u4), b0, b0, b0, b1, b0]) (pos := s0) (.c h1 (.c h2 (.c h3 (.c (affiantbook_Within_ok a2 (0 : Int) (13 : Int) u4 h5) (.c h6 (.c h7 (.c h8 (.c h15 (.c h16 .n))))))))) (by kernel_rfl)
    ·rcases fork_some h with ⟨h18, h⟩ | ⟨h18, h⟩
     ·rcases fork_some h with ⟨h19, h⟩ | ⟨h19, h⟩
      ·obtain ⟨u20, h21, h⟩ := andThen_some h
       obtain ⟨u22, h23, h⟩ := andThen_some h
       obtain ⟨h24, h⟩ := need_some h
       injection h with h; subst h
       exact env.fun func10 can10 (its := [.pre p31, .call [none, none, none] [] [] true (affiantbook_Within_R a2 (0 : Int) (13 : Int) u4) (affiantbook_Within_O a2 (0 : Int) (13 : Int) u4), b0, b0, b0, b0, b1, b1, .pre p33, .asis, .call [none, none, none] [] [] true (affiantbook_Within_R a3 (0 : Int) (w64 ((List.length (([] : List (T18c3)) ++ a0.2.2.2.1.2.2.1) : Int) - (1 : Int))) u20) (affiantbook_Within_O a3 (0 : Int) (w64 ((List.length (([] : List (T18c3)) ++ a0.2.2.2.1.2.2.1) : Int) - (1 : Int))) u20), .asis, .call [none] [] [] true (affiantkeep_Text_R a4 u22) (affiantkeep_Text_O a4 u22)]) (pos := s0) (.c h1 (.c h2 (.c h3 (.c (affiantbook_Within_ok a2 (0 : Int) (13 : Int) u4 h5) (.c h6 (.c h7 (.c h8 (.c h15 (.c h18 (.c h19 (.c rn (.c (affiantbook_Within_ok a3 (0 : Int) (w64 ((List.length (([] : List (T18c3)) ++ a0.2.2.2.1.2.2.1) : Int) - (1 : Int))) u20 h21) (.c rn (.c (affiantkeep_Text_ok a4 u22 h23) (.c h24 .n))))))))))))))) (by kernel_rfl)
      ·injection h with h; subst h
       exact env.fun func10 can10 (its := [.pre p31, .call [none, none, none] [] [] true (affiantbook_Within_R a2 (0 : Int) (13 : Int) u4) (affiantbook_Within_O a2 (0 : Int) (13 : Int) u4), b0, b0, b0, b0, b1, b0]) (pos := s0) (.c h1 (.c h2 (.c h3 (.c (affiantbook_Within_ok a2 (0 : Int) (13 : Int) u4 h5) (.c h6 (.c h7 (.c h8 (.c h15 (.c h18 (.c h19 .n)))))))))) (by kernel_rfl)
     ·rcases fork_some h with ⟨h25, h⟩ | ⟨h25, h⟩
      ·rcases fork_some h with ⟨h26, h⟩ | ⟨h26, h⟩
       ·obtain ⟨h27, h⟩ := need_some h
        obtain ⟨h28, h⟩ := need_some h
        injection h with h; subst h
        exact env.fun func10 can10 (its := [.pre p31, .call [none, none, none] [] [] true (affiantbook_Within_R a2 (0 : Int) (13 : Int) u4) (affiantbook_Within_O a2 (0 : Int) (13 : Int) u4), b0, b0, b0, b0, b0, b1, b1, .freeze [9], .pre p34, .kept [], b0, .kept [9], b0, .kept [5, 7, 9], .kept [5, 9]]) (pos := s0) (.c h1 (.c h2 (.c h3 (.c (affiantbook_Within_ok a2 (0 : Int) (13 : Int) u4 h5) (.c h6 (.c h7 (.c h8 (.c h15 (.c h18 (.c h25 (.c h26 (.c (rfl : ([] : List AObj) = ([] : List AObj)) (.c h27 (.c (rfl : ([.row (.slice Yh) (([] : List (List (B8))) ++ a0.2.2.2.1.2.2.2.1) false] : List AObj) = ([.row (.slice Yh) (([] : List (List (B8))) ++ a0.2.2.2.1.2.2.2.1) false] : List AObj)) (.c h28 (.c (rfl : ([.row Y18c3 (([] : List (T18c3)) ++ a0.2.2.1) true, .row Y18c3 (([] : List (T18c3)) ++ a0.2.2.2.1.2.2.1) false, .row (.slice Yh) (([] : List (List (B8))) ++ a0.2.2.2.1.2.2.2.1) false] : List AObj) = ([.row Y18c3 (([] : List (T18c3)) ++ a0.2.2.1) true, .row Y18c3 (([] : List (T18c3)) ++ a0.2.2.2.1.2.2.1) false, .row (.slice Yh) (([] : List (List (B8))) ++ a0.2.2.2.1.2.2.2.1) false] : List AObj)) (.c (rfl : ([.row Y18c3 (([] : List (T18c3)) ++ a0.2.2.1) true, .row (.slice Yh) (([] : List (List (B8))) ++ a0.2.2.2.1.2.2.2.1) false] : List AObj) = ([.row Y18c3 (([] : List (T18c3)) ++ a0.2.2.1) true, .row (.slice Yh) (([] : List (List (B8))) ++ a0.2.2.2.1.2.2.2.1) false] : List AObj)) .n))))))))))))))))) (by kernel_rfl)
       ·injection h with h; subst h
        exact env.fun func10 can10 (its := [.pre p31, .call [none, none, none] [] [] true (affiantbook_Within_R a2 (0 : Int) (13 : Int) u4) (affiantbook_Within_O a2 (0 : Int) (13 : Int) u4), b0, b0, b0, b0, b0, b1, b0]) (pos := s0) (.c h1 (.c h2 (.c h3 (.c (affiantbook_Within_ok a2 (0 : Int) (13 : Int) u4 h5) (.c h6 (.c h7 (.c h8 (.c h15 (.c h18 (.c h25 (.c h26 .n))))))))))) (by kernel_rfl)
      ·rcases fork_some h with ⟨h29, h⟩ | ⟨h29, h⟩
       ·rcases fork_some h with ⟨h30, h⟩ | ⟨h30, h⟩
        ·obtain ⟨h31, h⟩ := need_some h
         obtain ⟨h32, h⟩ := need_some h
         injection h with h; subst h
         exact env.fun func10 can10 (its := [.pre p31, .call [none, none, none] [] [] true (affiantbook_Within_R a2 (0 : Int) (13 : Int) u4) (affiantbook_Within_O a2 (0 : Int) (13 : Int) u4), b0, b0, b0, b0, b0, b0, b1, b1, .freeze [9], .pre p35, .kept [], b0, .kept [9], b0, .kept [5, 7, 9], .kept [5, 9]]) (pos := s0) (.c h1 (.c h2 (.c h3 (.c (affiantbook_Within_ok a2 (0 : Int) (13 : Int) u4 h5) (.c h6 (.c h7 (.c h8 (.c h15 (.c h18 (.c h25 (.c h29 (.c h30 (.c (rfl : ([] : List AObj) = ([] : List AObj)) (.c h31 (.c (rfl : ([.row (.slice Yh) (([] : List (List (B8))) ++ a0.2.2.2.1.2.2.2.1) false] : List AObj) = ([.row (.slice Yh) (([] : List (List (B8))) ++ a0.2.2.2.1.2.2.2.1) false] : List AObj)) (.c h32 (.c (rfl : ([.row Y18c3 (([] : List (T18c3)) ++ a0.2.2.1) true, .row Y18c3 (([] : List (T18c3)) ++ a0.2.2.2.1.2.2.1) false, .row (.slice Yh) (([] : List (List (B8))) ++ a0.2.2.2.1.2.2.2.1) false] : List AObj) = ([.row Y18c3 (([] : List (T18c3)) ++ a0.2.2.1) true, .row Y18c3 (([] : List (T18c3)) ++ a0.2.2.2.1.2.2.1) false, .row (.slice Yh) (([] : List (List (B8))) ++ a0.2.2.2.1.2.2.2.1) false] : List AObj)) (.c (rfl : ([.row Y18c3 (([] : List (T18c3)) ++ a0.2.2.1) true, .row (.slice Yh) (([] : List (List (B8))) ++ a0.2.2.2.1.2.2.2.1) false] : List AObj) = ([.row Y18c3 (([] : List (T18c3)) ++ a0.2.2.1) true, .row (.slice Yh) (([] : List (List (B8))) ++ a0.2.2.2.1.2.2.2.1) false] : List AObj)) .n)))))))))))))))))) (by kernel_rfl)
        ·injection h with h; subst h
         exact env.fun func10 can10 (its := [.pre p31, .call [none, none, none] [] [] true (affiantbook_Within_R a2 (0 : Int) (13 : Int) u4) (affiantbook_Within_O a2 (0 : Int) (13 : Int) u4), b0, b0, b0, b0, b0, b0, b1, b0]) (pos := s0) (.c h1 (.c h2 (.c h3 (.c (affiantbook_Within_ok a2 (0 : Int) (13 : Int) u4 h5) (.c h6 (.c h7 (.c h8 (.c h15 (.c h18 (.c h25 (.c h29 (.c h30 .n)))))))))))) (by kernel_rfl)
       ·rcases fork_some h with ⟨h33, h⟩ | ⟨h33, h⟩
        ·obtain ⟨u34, h35, h⟩ := andThen_some h
         injection h with h; subst h
         exact env.fun func10 can10 (its := [.pre p31, .call [none, none, none] [] [] true (affiantbook_Within_R a2 (0 : Int) (13 : Int) u4) (affiantbook_Within_O a2 (0 : Int) (13 : Int) u4), b0, b0, b0, b0, b0, b0, b0, b1, .call [none, none, none] [] [] true (affiantbook_Within_R a4 (0 : Int) (17 : Int) u34) (affiantbook_Within_O a4 (0 : Int) (17 : Int) u34)]) (pos := s0) (.c h1 (.c h2 (.c h3 (.c (affiantbook_Within_ok a2 (0 : Int) (13 : Int) u4 h5) (.c h6 (.c h7 (.c h8 (.c h15 (.c h18 (.c h25 (.c h29 (.c h33 (.c (affiantbook_Within_ok a4 (0 : Int) (17 : Int) u34 h35) .n))))))))))))) (by kernel_rfl)
        ·rcases fork_some h with ⟨h36, h⟩ | ⟨h36, h⟩
         ·obtain ⟨u37, h38, h⟩ := andThen_some h
          injection h with h; subst h
          exact env.fun func10 can10 (its := [.pre p31, .call [none, none, none] [] [] true (affiantbook_Within_R a2 (0 : Int) (13 : Int) u4) (affiantbook_Within_O a2 (0 : Int) (13 : Int) u4), b0, b0, b0, b0, b0, b0, b0, b0, b1, .pre p36, .asis, .call [none, none, none] [] [] true (affiantbook_Within_R a4 (-2 : Int) (2 : Int) u37) (affiantbook_Within_O a4 (-2 : Int) (2 : Int) u37)]) (pos := s0) (.c h1 (.c h2 (.c h3 (.c (affiantbook_Within_ok a2 (0 : Int) (13 : Int) u4 h5) (.c h6 (.c h7 (.c h8 (.c h15 (.c h18 (.c h25 (.c h29 (.c h33 (.c h36 (.c rn (.c (affiantbook_Within_ok a4 (-2 : Int) (2 : Int) u37 h38) .n))))))))))))))) (by kernel_rfl)
         ·rcases fork_some h with ⟨h39, h⟩ | ⟨h39, h⟩
          ·obtain ⟨u40, h41, h⟩ := andThen_some h
           injection h with h; subst h
           exact env.fun func10 can10 (its := [.pre p31, .call [none, none, none] [] [] true (affiantbook_Within_R a2 (0 : Int) (13 : Int) u4) (affiantbook_Within_O a2 (0 : Int) (13 : Int) u4), b0, b0, b0, b0, b0, b0, b0, b0, b0, b1, .call [none, none, none] [] [] true (affiantbook_Within_R a4 (0 : Int) (9 : Int) u40) (affiantbook_Within_O a4 (0 : Int) (9 : Int) u40)]) (pos := s0) (.c h1 (.c h2 (.c h3 (.c (affiantbook_Within_ok a2 (0 : Int) (13 : Int) u4 h5) (.c h6 (.c h7 (.c h8 (.c h15 (.c h18 (.c h25 (.c h29 (.c h33 (.c h36 (.c h39 (.c (affiantbook_Within_ok a4 (0 : Int) (9 : Int) u40 h41) .n))))))))))))))) (by kernel_rfl)
          ·injection h with h; subst h
           exact env.fun func10 can10 (its := [.pre p31, .call [none, none, none] [] [] true (affiantbook_Within_R a2 (0 : Int) (13 : Int) u4) (affiantbook_Within_O a2 (0 : Int) (13 : Int) u4), b0, b0, b0, b0, b0, b0, b0, b0, b0, b0]) (pos := s0) (.c h1 (.c h2 (.c h3 (.c (affiantbook_Within_ok a2 (0 : Int) (13 : Int) u4 h5) (.c h6 (.c h7 (.c h8 (.c h15 (.c h18 (.c h25 (.c h29 (.c h33 (.c h36 (.c h39 .n)))))))))))))) (by kernel_rfl)
theorem can11 : Callable prog 11 := ⟨_, func11, by kernel_rfl, by kernel_rfl⟩
def affiantlaw17_AdmitRuns_R  (u : Bool) : Slot := (.v .bool u)
def affiantlaw17_AdmitRuns_O  (u : Bool) : List AObj := []
theorem affiantlaw17_AdmitRuns_ok  (u : Bool) (h : affiantlaw17_AdmitRuns  = some u) : CallC prog 11 [] [] (affiantlaw17_AdmitRuns_R u) (affiantlaw17_AdmitRuns_O u) := by
 unfold affiantlaw17_AdmitRuns at h
 obtain ⟨u1, h2, h⟩ := andThen_some h
 obtain ⟨u3, h4, h⟩ := andThen_some h
 obtain ⟨u5, h6, h⟩ := andThen_some h
 rcases fork_some h with ⟨h7, h⟩ | ⟨h7, h⟩
 ·obtain ⟨u8, h9, h⟩ := andThen_some h
  obtain ⟨u10, h11, h⟩ := andThen_some h
  rcases fork_some h with ⟨h12, h⟩ | ⟨h12, h⟩
  ·obtain ⟨u13, h14, h⟩ := andThen_some h
   obtain ⟨u15, h16, h⟩ := andThen_some h
   injection h with h; subst h
   exact env.fun func11 can11 (its := [.call [none, none, none, none] [] [0] false (affiantref16_Answer_R (1 : Int) ((1 : Int), ([97] : B8), ([] : B8), (0 : Int), (1 : Int), ()) (1 : Int) ([(([97] : B8), ([49] : B8), ())] : List (T18c3)) u1) (affiantref16_Answer_O (1 : Int) ((1 : Int), ([97] : B8), ([] : B8), (0 : Int), (1 : Int), ()) (1 : Int) ([(([97] : B8), ([49] : B8), ())] : List (T18c3)) u1), .pre p37, .asis, .call [none] [] [0] true (store_Root_R ([(([97] : B8), ([49] : B8), ())] : List (T18c3)) u3) (store_Root_O ([(([97] : B8), ([49] : B8), ())] : List (T18c3)) u3), .asis, .call [none, none, none] [] [] true (admit_Check_R ((1 : Int), ([97] : B8), ([] : B8), (0 : Int), (1 : Int), ()) u3 u1 u5) (admit_Check_O ((1 : Int), ([97] : B8), ([] : B8), (0 : Int), (1 : Int), ()) u3 u1 u5), b1, b1, b1, .asis, .call [none] [] [0] true (store_Root_R ([(([97] : B8), ([49] : B8), ())] : List (T18c3)) u8) (store_Root_O ([(([97] : B8), ([49] : B8), ())] : List (T18c3)) u8), b1, b1, .asis, .call [none, none, none] [] [] true (admit_Check_R ((1 : Int), ([97] : B8), ([] : B8), (0 : Int), (1 : Int), ()) u8 (u1.1, u1.2.1, ([(([97] : B8), ([50] : B8), ())] : List (T18c3)), u1.2.2.2.1, ()) u10) (admit_Check_O ((1 : Int), ([97] : B8), ([] : B8), (0 : Int), (1 : Int), ()) u8 (u1.1, u1.2.1, ([(([97] : B8), ([50] : B8), ())] : List (T18c3)), u1.2.2.2.1, ()) u10), b1, b1, b1, b1, b1, .asis, .call [none] [] [0] true (store_Root_R ([(([97] : B8), ([49] : B8), ())] : List (T18c3)) u13) (store_Root_O ([(([97] : B8), ([49] : B8), ())] : List (T18c3)) u13), b1, b1, .asis, .call [none, none, none] [] [] true (admit_Check_R ((1 : Int), ([97] : B8), ([] : B8), (0 : Int), (1 : Int), ()) u13 Z1f7e u15) (admit_Check_O ((1 : Int), ([97] : B8), ([] : B8), (0 : Int), (1 : Int), ()) u13 Z1f7e u15), b1, b1]) (pos := s0) (.c (affiantref16_Answer_ok (1 : Int) ((1 : Int), ([97] : B8), ([] : B8), (0 : Int), (1 : Int), ()) (1 : Int) ([(([97] : B8), ([49] : B8), ())] : List (T18c3)) u1 h2) (.c (rfl : ([.row Y18c3 ([(([97] : B8), ([49] : B8), ())] : List (T18c3)) false] : List AObj) = [.row Y18c3 ([(([97] : B8), ([49] : B8), ())] : List (T18c3)) false]) (.c (store_Root_ok ([(([97] : B8), ([49] : B8), ())] : List (T18c3)) u3 h4) (.c rn (.c (admit_Check_ok ((1 : Int), ([97] : B8), ([] : B8), (0 : Int), (1 : Int), ()) u3 u1 u5 h6) (.c h7 (.c h7 (.c h7 (.c (rfl : ([.row Y18c3 ([(([97] : B8), ([49] : B8), ())] : List (T18c3)) false] : List AObj) = [.row Y18c3 ([(([97] : B8), ([49] : B8), ())] : List (T18c3)) false]) (.c (store_Root_ok ([(([97] : B8), ([49] : B8), ())] : List (T18c3)) u8 h9) (.c h7 (.c h7 (.c rn (.c (admit_Check_ok ((1 : Int), ([97] : B8), ([] : B8), (0 : Int), (1 : Int), ()) u8 (u1.1, u1.2.1, ([(([97] : B8), ([50] : B8), ())] : List (T18c3)), u1.2.2.2.1, ()) u10 h11) (.c h7 (.c h7 (.c h12 (.c h12 (.c h12 (.c (rfl : ([.row Y18c3 ([(([97] : B8), ([49] : B8), ())] : List (T18c3)) false] : List AObj) = [.row Y18c3 ([(([97] : B8), ([49] : B8), ())] : List (T18c3)) false]) (.c (store_Root_ok ([(([97] : B8), ([49] : B8), ())] : List (T18c3)) u13 h14) (.c h12 (.c h12 (.c rn (.c (admit_Check_ok ((1 : Int), ([97] : B8), ([] : B8), (0 : Int), (1 : Int), ()) u13 Z1f7e u15 h16) (.c h12 (.c h12 .n))))))))))))))))))))))))))) (by kernel_rfl)
  ·cases h
 ·cases h
theorem can14 : Callable prog 14 := ⟨_, func14, by kernel_rfl, by kernel_rfl⟩
def affiantbook_Same_Pair_1_in (x0 : List (T18c3)) (x1 : List (T18c3)) (x2 : Int) : St := ⟨[(0, (.v (.slice Y18c3) x0)), (1, (.v (.slice Y18c3) x1)), (5, (.v (.int .i64) x2))], [], 26, 0⟩
def affiantbook_Same_Pair_1_ex (o : (Bool) ⊕ (Unit)) : Exit := match o with | (.inl o) => .ret | (.inr o) => (.exit 0)
def affiantbook_Same_Pair_1_st (o : (Bool) ⊕ (Unit)) : St := match o with | (.inl o) => ⟨[(4, (.v .bool o))], [], 26, 0⟩ | (.inr o) => ⟨[], [], 26, 0⟩
theorem affiantbook_Same_Pair_1_body (x0 : List (T18c3)) (x1 : List (T18c3)) (x2 : Int) : ∀ r, affiantbook_Same_Pair_1_step x0 x1 x2 = some r → (match r with | .inl s => CodeOK prog (codeAt (bodyOf f14) [1, 1, 0, 1, 0, 0]) (affiantbook_Same_Pair_1_in x0 x1 x2) .normal (affiantbook_Same_Pair_1_in x0 x1 s) | .inr o => affiantbook_Same_Pair_1_ex o ≠ .normal ∧ CodeOK prog (codeAt (bodyOf f14) [1, 1, 0, 1, 0, 0]) (affiantbook_Same_Pair_1_in x0 x1 x2) (affiantbook_Same_Pair_1_ex o) (affiantbook_Same_Pair_1_st o)) := by
 intro r h
 unfold affiantbook_Same_Pair_1_step at h
 rcases fork_some h with ⟨h3, h⟩ | ⟨h3, h⟩
 ·obtain ⟨h4, h⟩ := need_some h
  obtain ⟨h5, h⟩ := need_some h
  rcases fork_some h with ⟨h6, h⟩ | ⟨h6, h⟩
  ·injection h with h; subst h
   exact ⟨by intro e; simp [affiantbook_Same_Pair_1_ex] at e, env.code (its := [b1, .pre p29, b1, .sel [4] []]) (.c h3 (.c h4 (.c h5 (.c h6 .n)))) (by kernel_rfl)⟩
  ·injection h with h; subst h
   exact env.code (its := [b1, .pre p29, b0, .sel [0, 1, 5] []]) (.c h3 (.c h4 (.c h5 (.c h6 .n)))) (by kernel_rfl)
 ·injection h with h; subst h
  exact ⟨by intro e; simp [affiantbook_Same_Pair_1_ex] at e, env.code (its := [b0, .sel [] []]) (.c h3 .n) (by kernel_rfl)⟩
theorem affiantbook_Same_Pair_1_ok (x0 : List (T18c3)) (x1 : List (T18c3)) (x2 : Int) (o : (Bool) ⊕ (Unit)) (h : affiantbook_Same_Pair_1 x0 x1 x2 = some o) : CodeOK prog (codeAt (bodyOf f14) [1, 1, 0, 1, 0]) (affiantbook_Same_Pair_1_in x0 x1 x2) (affiantbook_Same_Pair_1_ex o) (affiantbook_Same_Pair_1_st o) :=
 LoopOK.of_step (st := fun s => affiantbook_Same_Pair_1_in x0 x1 s) (ex := affiantbook_Same_Pair_1_ex) (stO := affiantbook_Same_Pair_1_st) (fun s s2 hs => affiantbook_Same_Pair_1_body x0 x1 s (.inl s2) hs) (fun s r hs => affiantbook_Same_Pair_1_body x0 x1 s (.inr r) hs) _ o h
def affiantbook_Same_Pair_R (a0 : List (T18c3)) (a1 : List (T18c3)) (u : Bool) : Slot := (.v .bool u)
def affiantbook_Same_Pair_O (a0 : List (T18c3)) (a1 : List (T18c3)) (u : Bool) : List AObj := []
theorem affiantbook_Same_Pair_ok (a0 : List (T18c3)) (a1 : List (T18c3)) (u : Bool) (h : affiantbook_Same_Pair a0 a1 = some u) : CallC prog 14 [(.v (.slice Y18c3) a0), (.v (.slice Y18c3) a1)] [] (affiantbook_Same_Pair_R a0 a1 u) (affiantbook_Same_Pair_O a0 a1 u) := by
 unfold affiantbook_Same_Pair at h
 rcases fork_some h with ⟨h1, h⟩ | ⟨h1, h⟩
 ·injection h with h; subst h
  exact env.fun func14 can14 (its := [b1]) (pos := s0) (.c h1 .n) (by kernel_rfl)
 ·obtain ⟨o7, h8, h⟩ := andThen_some h
  rcases o7 with o9 | o10
  ·injection h with h; subst h
   exact env.fun func14 can14 (its := [b0, .dive, .sel [0, 1, 5] [], .part (affiantbook_Same_Pair_1_ex (.inl o9)) (affiantbook_Same_Pair_1_st (.inl o9))]) (pos := s0) (.c h1 (.c (affiantbook_Same_Pair_1_ok a0 a1 (0 : Int) (.inl o9) h8) .n)) (by kernel_rfl)
  ·injection h with h; subst h
   exact env.fun func14 can14 (its := [b0, .dive, .sel [0, 1, 5] [], .part (affiantbook_Same_Pair_1_ex (.inr o10)) (affiantbook_Same_Pair_1_st (.inr o10))]) (pos := s0) (.c h1 (.c (affiantbook_Same_Pair_1_ok a0 a1 (0 : Int) (.inr o10) h8) .n)) (by kernel_rfl)
theorem can44 : Callable prog 44 := ⟨_, func44, by kernel_rfl, by kernel_rfl⟩
def affiantref1_inputs_R (a0 : List (B8)) (u : List (B8)) : Slot := (.own 0 [])
def affiantref1_inputs_O (a0 : List (B8)) (u : List (B8)) : List AObj := [.row Yb u true]
theorem affiantref1_inputs_f_ok : ∀ (k : Nat) (a0 : List (B8)) (u : List (B8)) (h : affiantref1_inputs_f k a0 = some u), CallC prog 44 [(.v Ybb a0)] [] (affiantref1_inputs_R a0 u) (affiantref1_inputs_O a0 u)
 | 0, a0, u, h => by cases h
 | k + 1, a0, u, h => by
  unfold affiantref1_inputs_f at h
  rcases fork_some h with ⟨h1, h⟩ | ⟨h1, h⟩
  ·injection h with h; subst h
   exact env.fun func44 can44 (its := [b1]) (pos := [.sel [1]]) (.c h1 .n) (by kernel_rfl)
  ·rcases fork_some h with ⟨h2, h⟩ | ⟨h2, h⟩
   ·obtain ⟨h3, h⟩ := need_some h
    obtain ⟨h4, h⟩ := need_some h
    injection h with h; subst h
    exact env.fun func44 can44 (its := [b0, b1]) (pos := [.sel [2]]) (.c h1 (.c h2 (.c h3 (.c h4 .n)))) (by kernel_rfl)
   ·obtain ⟨u5, h6, h⟩ := andThen_some h
    obtain ⟨h7, h⟩ := need_some h
    obtain ⟨u8, h9, h⟩ := andThen_some h
    obtain ⟨h10, h⟩ := need_some h
    obtain ⟨u11, h12, h⟩ := andThen_some h
    obtain ⟨h13, h⟩ := need_some h
    obtain ⟨h14, h⟩ := need_some h
    obtain ⟨u15, h16, h⟩ := andThen_some h
    obtain ⟨u17, h18, h⟩ := andThen_some h
    obtain ⟨h19, h⟩ := need_some h
    obtain ⟨h20, h⟩ := need_some h
    injection h with h; subst h
    exact env.fun func44 can44 (its := [b0, b0, .call [none] [] [] true (affiantref1_half_R (List.length a0 : Int) u5) (affiantref1_half_O (List.length a0 : Int) u5), .pre p16, b0, .asis, .call [none] [] [] true (affiantref1_Root_R (cutL a0 (0 : Int) u5) u8) (affiantref1_Root_O (cutL a0 (0 : Int) u5) u8), b0, .asis, .call [none] [] [] true (affiantref1_Root_R (cutL a0 u5 (List.length a0 : Int)) u11) (affiantref1_Root_O (cutL a0 u5 (List.length a0 : Int)) u11), .pre p38, b1, b1, .pre p39, b0, .call [none] [] [] false (affiantref1_inputs_R (cutL a0 (0 : Int) u5) u15) (affiantref1_inputs_O (cutL a0 (0 : Int) u5) u15), b0, .call [none] [] [] false (affiantref1_inputs_R (cutL a0 u5 (List.length a0 : Int)) u17) (affiantref1_inputs_O (cutL a0 u5 (List.length a0 : Int)) u17)]) (pos := [.sel [9]]) (.c h1 (.c h2 (.c (affiantref1_half_ok (List.length a0 : Int) u5 h6) (.c h7 (.c rn (.c (affiantref1_Root_ok (cutL a0 (0 : Int) u5) u8 h9) (.c h10 (.c rn (.c (affiantref1_Root_ok (cutL a0 u5 (List.length a0 : Int)) u11 h12) (.c h13 (.c h14 (.c h7 (.c (affiantref1_inputs_f_ok k (cutL a0 (0 : Int) u5) u15 h16) (.c h10 (.c (affiantref1_inputs_f_ok k (cutL a0 u5 (List.length a0 : Int)) u17 h18) (.c h19 (.c h20 .n))))))))))))))))) (by kernel_rfl)
theorem affiantref1_inputs_ok (a0 : List (B8)) (u : List (B8)) (h : affiantref1_inputs a0 = some u) : CallC prog 44 [(.v Ybb a0)] [] (affiantref1_inputs_R a0 u) (affiantref1_inputs_O a0 u) := affiantref1_inputs_f_ok 64 a0 u h
theorem can16 : Callable prog 16 := ⟨_, func16, by kernel_rfl, by kernel_rfl⟩
def affiantref1_Inputs_R (a0 : List (T18c3)) (u : List (B8)) : Slot := (.own 0 [])
def affiantref1_Inputs_O (a0 : List (T18c3)) (u : List (B8)) : List AObj := [.row Yb u true]
theorem affiantref1_Inputs_ok (a0 : List (T18c3)) (u : List (B8)) (h : affiantref1_Inputs a0 = some u) : CallC prog 16 [(.v (.slice Y18c3) a0)] [] (affiantref1_Inputs_R a0 u) (affiantref1_Inputs_O a0 u) := by
 unfold affiantref1_Inputs at h
 obtain ⟨u1, h2, h⟩ := andThen_some h
 obtain ⟨u3, h4, h⟩ := andThen_some h
 obtain ⟨u5, h6, h⟩ := andThen_some h
 obtain ⟨u7, h8, h⟩ := andThen_some h
 obtain ⟨u9, h10, h⟩ := andThen_some h
 obtain ⟨h11, h⟩ := need_some h
 obtain ⟨h12, h⟩ := need_some h
 obtain ⟨h13, h⟩ := need_some h
 injection h with h; subst h
 exact env.fun func16 can16 (its := [.call [none] [] [] false (affiantref1_leaves_R a0 u1) (affiantref1_leaves_O a0 u1), .call [none] [] [0] true (affiantref1_Root_R u1 u3) (affiantref1_Root_O u1 u3), .pre p40, .call [none] [] [] false (affiantref1_leaves_R a0 u5) (affiantref1_leaves_O a0 u5), .call [none] [] [0] false (affiantref1_inputs_R u5 u7) (affiantref1_inputs_O u5 u7), .call [none] [] [] true (affiantref1_Put_R (List.length a0 : Int) u9) (affiantref1_Put_O (List.length a0 : Int) u9), b1]) (pos := [.sel [9]]) (.c (affiantref1_leaves_ok a0 u1 h2) (.c (affiantref1_Root_ok u1 u3 h4) (.c (affiantref1_leaves_ok a0 u5 h6) (.c (affiantref1_inputs_ok u5 u7 h8) (.c (affiantref1_Put_ok (List.length a0 : Int) u9 h10) (.c h11 (.c h12 (.c h13 .n)))))))) (by kernel_rfl)
theorem can47 : Callable prog 47 := ⟨_, func47, by kernel_rfl, by kernel_rfl⟩
def affiantref1_Up_R (a0 : B8) (a1 : Int) (a2 : Int) (a3 : List (B8)) (u : B8 × Bool) : Slot := (.tup (.v Yh u.1) (.tup (.v .bool u.2) .tnil))
def affiantref1_Up_O (a0 : B8) (a1 : Int) (a2 : Int) (a3 : List (B8)) (u : B8 × Bool) : List AObj := []
theorem affiantref1_Up_f_ok : ∀ (k : Nat) (a0 : B8) (a1 : Int) (a2 : Int) (a3 : List (B8)) (u : B8 × Bool) (h : affiantref1_Up_f k a0 a1 a2 a3 = some u), CallC prog 47 [(.v Yb a0), (.v (.int .i64) a1), (.v (.int .i64) a2), (.v (.slice Yh) a3)] [] (affiantref1_Up_R a0 a1 a2 a3 u) (affiantref1_Up_O a0 a1 a2 a3 u)
 | 0, a0, a1, a2, a3, u, h => by cases h
 | k + 1, a0, a1, a2, a3, u, h => by
  unfold affiantref1_Up_f at h
  rcases fork_some h with ⟨h1, h⟩ | ⟨h1, h⟩
  ·injection h with h; subst h
   exact env.fun func47 can47 (its := [b1, b1, b1, b1, b1, b1, b1, b1]) (pos := s0) (.c h1 (.c h1 (.c h1 (.c h1 (.c r1 (.c r1 (.c r1 (.c r1 .n)))))))) (by kernel_rfl)
  ·rcases fork_some h with ⟨h2, h⟩ | ⟨h2, h⟩
   ·injection h with h; subst h
    exact env.fun func47 can47 (its := [b0, b0, b0, b0, b1, b1, b1, b1]) (pos := s0) (.c h1 (.c h1 (.c h1 (.c h1 (.c h2 (.c h2 (.c h2 (.c r1 .n)))))))) (by kernel_rfl)
   ·rcases fork_some h with ⟨h3, h⟩ | ⟨h3, h⟩
    ·injection h with h; subst h
     exact env.fun func47 can47 (its := [b0, b0, b0, b0, b0, b0, b0, b1]) (pos := s0) (.c h1 (.c h1 (.c h1 (.c h1 (.c h2 (.c h2 (.c h2 (.c h3 .n)))))))) (by kernel_rfl)
    ·rcases fork_some h with ⟨h4, h⟩ | ⟨h4, h⟩
     ·obtain ⟨u5, h6, h⟩ := andThen_some h
      injection h with h; subst h
      exact env.fun func47 can47 (its := [b0, b0, b0, b0, b0, b0, b0, b0, b1, .call [none, none] [] [1] true (affiantref1_Tagged_R (0 : UInt8) ([a0] : List (B8)) u5) (affiantref1_Tagged_O (0 : UInt8) ([a0] : List (B8)) u5)]) (pos := s0) (.c h1 (.c h1 (.c h1 (.c h1 (.c h2 (.c h2 (.c h2 (.c h3 (.c h4 (.c (affiantref1_Tagged_ok (0 : UInt8) ([a0] : List (B8)) u5 h6) .n)))))))))) (by kernel_rfl)
     ·rcases fork_some h with ⟨h7, h⟩ | ⟨h7, h⟩
      ·injection h with h; subst h
       exact env.fun func47 can47 (its := [b0, b0, b0, b0, b0, b0, b0, b0, b0, b1]) (pos := s0) (.c h1 (.c h1 (.c h1 (.c h1 (.c h2 (.c h2 (.c h2 (.c h3 (.c h4 (.c h7 .n)))))))))) (by kernel_rfl)
      ·obtain ⟨u8, h9, h⟩ := andThen_some h
       obtain ⟨h10, h⟩ := need_some h
       rcases fork_some h with ⟨h11, h⟩ | ⟨h11, h⟩
       ·obtain ⟨h12, h⟩ := need_some h
        obtain ⟨u13, h14, h⟩ := andThen_some h
        obtain ⟨u15, h16, h⟩ := andThen_some h
        injection h with h; subst h
        exact env.fun func47 can47 (its := [b0, b0, b0, b0, b0, b0, b0, b0, b0, b0, .pre p41, .asis, .call [none] [] [] true (affiantref1_half_R a2 u8) (affiantref1_half_O a2 u8), b1, b0, .call [none, none, none, none] [] [] true (affiantref1_Up_R a0 a1 u8 (cutL a3 (0 : Int) (w64 ((List.length a3 : Int) - (1 : Int)))) u13) (affiantref1_Up_O a0 a1 u8 (cutL a3 (0 : Int) (w64 ((List.length a3 : Int) - (1 : Int)))) u13), .pre p42, b1, b1, .asis, .call [none, none] [] [0] true (affiantref1_Tagged_R (1 : UInt8) ([u13.1, (List.getD a3 (Int.toNat (w64 ((List.length a3 : Int) - (1 : Int)))) Z32)] : List (B8)) u15) (affiantref1_Tagged_O (1 : UInt8) ([u13.1, (List.getD a3 (Int.toNat (w64 ((List.length a3 : Int) - (1 : Int)))) Z32)] : List (B8)) u15)]) (pos := s0) (.c h1 (.c h1 (.c h1 (.c h1 (.c h2 (.c h2 (.c h2 (.c h3 (.c h4 (.c h7 (.c rn (.c (affiantref1_half_ok a2 u8 h9) (.c h10 (.c h11 (.c h12 (.c (affiantref1_Up_f_ok k a0 a1 u8 (cutL a3 (0 : Int) (w64 ((List.length a3 : Int) - (1 : Int)))) u13 h14) (.c (rfl : ([.row Yb ([u13.1, (List.getD a3 (Int.toNat (w64 ((List.length a3 : Int) - (1 : Int)))) Z32)] : List (B8)) true] : List AObj) = [.row Yb ([u13.1, (List.getD a3 (Int.toNat (w64 ((List.length a3 : Int) - (1 : Int)))) Z32)] : List (B8)) true]) (.c (affiantref1_Tagged_ok (1 : UInt8) ([u13.1, (List.getD a3 (Int.toNat (w64 ((List.length a3 : Int) - (1 : Int)))) Z32)] : List (B8)) u15 h16) .n)))))))))))))))))) (by kernel_rfl)
       ·obtain ⟨h17, h⟩ := need_some h
        obtain ⟨u18, h19, h⟩ := andThen_some h
        obtain ⟨u20, h21, h⟩ := andThen_some h
        injection h with h; subst h
        exact env.fun func47 can47 (its := [b0, b0, b0, b0, b0, b0, b0, b0, b0, b0, .pre p41, .asis, .call [none] [] [] true (affiantref1_half_R a2 u8) (affiantref1_half_O a2 u8), b0, b0, .call [none, none, none, none] [] [] true (affiantref1_Up_R a0 (w64 (a1 - u8)) (w64 (a2 - u8)) (cutL a3 (0 : Int) (w64 ((List.length a3 : Int) - (1 : Int)))) u18) (affiantref1_Up_O a0 (w64 (a1 - u8)) (w64 (a2 - u8)) (cutL a3 (0 : Int) (w64 ((List.length a3 : Int) - (1 : Int)))) u18), .pre p42, b1, b1, .asis, .call [none, none] [] [0] true (affiantref1_Tagged_R (1 : UInt8) ([(List.getD a3 (Int.toNat (w64 ((List.length a3 : Int) - (1 : Int)))) Z32), u18.1] : List (B8)) u20) (affiantref1_Tagged_O (1 : UInt8) ([(List.getD a3 (Int.toNat (w64 ((List.length a3 : Int) - (1 : Int)))) Z32), u18.1] : List (B8)) u20)]) (pos := s0) (.c h1 (.c h1 (.c h1 (.c h1 (.c h2 (.c h2 (.c h2 (.c h3 (.c h4 (.c h7 (.c rn (.c (affiantref1_half_ok a2 u8 h9) (.c h10 (.c h11 (.c h17 (.c (affiantref1_Up_f_ok k a0 (w64 (a1 - u8)) (w64 (a2 - u8)) (cutL a3 (0 : Int) (w64 ((List.length a3 : Int) - (1 : Int)))) u18 h19) (.c (rfl : ([.row Yb ([(List.getD a3 (Int.toNat (w64 ((List.length a3 : Int) - (1 : Int)))) Z32), u18.1] : List (B8)) true] : List AObj) = [.row Yb ([(List.getD a3 (Int.toNat (w64 ((List.length a3 : Int) - (1 : Int)))) Z32), u18.1] : List (B8)) true]) (.c (affiantref1_Tagged_ok (1 : UInt8) ([(List.getD a3 (Int.toNat (w64 ((List.length a3 : Int) - (1 : Int)))) Z32), u18.1] : List (B8)) u20 h21) .n)))))))))))))))))) (by kernel_rfl)
theorem affiantref1_Up_ok (a0 : B8) (a1 : Int) (a2 : Int) (a3 : List (B8)) (u : B8 × Bool) (h : affiantref1_Up a0 a1 a2 a3 = some u) : CallC prog 47 [(.v Yb a0), (.v (.int .i64) a1), (.v (.int .i64) a2), (.v (.slice Yh) a3)] [] (affiantref1_Up_R a0 a1 a2 a3 u) (affiantref1_Up_O a0 a1 a2 a3 u) := affiantref1_Up_f_ok 64 a0 a1 a2 a3 u h
theorem can49 : Callable prog 49 := ⟨_, func49, by kernel_rfl, by kernel_rfl⟩
def affiantref1_ups_R (a0 : B8) (a1 : Int) (a2 : Int) (a3 : List (B8)) (u : List (B8)) : Slot := (.own 0 [])
def affiantref1_ups_O (a0 : B8) (a1 : Int) (a2 : Int) (a3 : List (B8)) (u : List (B8)) : List AObj := [.row Yb u true]
theorem affiantref1_ups_f_ok : ∀ (k : Nat) (a0 : B8) (a1 : Int) (a2 : Int) (a3 : List (B8)) (u : List (B8)) (h : affiantref1_ups_f k a0 a1 a2 a3 = some u), CallC prog 49 [(.v Yb a0), (.v (.int .i64) a1), (.v (.int .i64) a2), (.v (.slice Yh) a3)] [] (affiantref1_ups_R a0 a1 a2 a3 u) (affiantref1_ups_O a0 a1 a2 a3 u)
 | 0, a0, a1, a2, a3, u, h => by cases h
 | k + 1, a0, a1, a2, a3, u, h => by
  unfold affiantref1_ups_f at h
  rcases fork_some h with ⟨h1, h⟩ | ⟨h1, h⟩
  ·obtain ⟨h2, h⟩ := need_some h
   injection h with h; subst h
   exact env.fun func49 can49 (its := [b1]) (pos := [.sel [2]]) (.c h1 (.c h2 .n)) (by kernel_rfl)
  ·obtain ⟨u3, h4, h⟩ := andThen_some h
   obtain ⟨h5, h⟩ := need_some h
   rcases fork_some h with ⟨h6, h⟩ | ⟨h6, h⟩
   ·obtain ⟨h7, h⟩ := need_some h
    obtain ⟨u8, h9, h⟩ := andThen_some h
    obtain ⟨u10, h11, h⟩ := andThen_some h
    obtain ⟨h12, h⟩ := need_some h
    obtain ⟨h13, h⟩ := need_some h
    obtain ⟨h14, h⟩ := need_some h
    injection h with h; subst h
    exact env.fun func49 can49 (its := [b0, .pre p41, .asis, .call [none] [] [] true (affiantref1_half_R a2 u3) (affiantref1_half_O a2 u3), b1, b0, .call [none, none, none, none] [] [] true (affiantref1_Up_R a0 a1 u3 (cutL a3 (0 : Int) (w64 ((List.length a3 : Int) - (1 : Int)))) u8) (affiantref1_Up_O a0 a1 u3 (cutL a3 (0 : Int) (w64 ((List.length a3 : Int) - (1 : Int)))) u8), .pre p43, b0, .call [none, none, none, none] [] [] false (affiantref1_ups_R a0 a1 u3 (cutL a3 (0 : Int) (w64 ((List.length a3 : Int) - (1 : Int)))) u10) (affiantref1_ups_O a0 a1 u3 (cutL a3 (0 : Int) (w64 ((List.length a3 : Int) - (1 : Int)))) u10), b1, b1]) (pos := [.sel [7]]) (.c h1 (.c rn (.c (affiantref1_half_ok a2 u3 h4) (.c h5 (.c h6 (.c h7 (.c (affiantref1_Up_ok a0 a1 u3 (cutL a3 (0 : Int) (w64 ((List.length a3 : Int) - (1 : Int)))) u8 h9) (.c h7 (.c (affiantref1_ups_f_ok k a0 a1 u3 (cutL a3 (0 : Int) (w64 ((List.length a3 : Int) - (1 : Int)))) u10 h11) (.c h12 (.c h13 (.c h14 .n)))))))))))) (by kernel_rfl)
   ·obtain ⟨h15, h⟩ := need_some h
    obtain ⟨u16, h17, h⟩ := andThen_some h
    obtain ⟨u18, h19, h⟩ := andThen_some h
    obtain ⟨h20, h⟩ := need_some h
    obtain ⟨h21, h⟩ := need_some h
    obtain ⟨h22, h⟩ := need_some h
    injection h with h; subst h
    exact env.fun func49 can49 (its := [b0, .pre p41, .asis, .call [none] [] [] true (affiantref1_half_R a2 u3) (affiantref1_half_O a2 u3), b0, b0, .call [none, none, none, none] [] [] true (affiantref1_Up_R a0 (w64 (a1 - u3)) (w64 (a2 - u3)) (cutL a3 (0 : Int) (w64 ((List.length a3 : Int) - (1 : Int)))) u16) (affiantref1_Up_O a0 (w64 (a1 - u3)) (w64 (a2 - u3)) (cutL a3 (0 : Int) (w64 ((List.length a3 : Int) - (1 : Int)))) u16), .pre p44, b0, .call [none, none, none, none] [] [] false (affiantref1_ups_R a0 (w64 (a1 - u3)) (w64 (a2 - u3)) (cutL a3 (0 : Int) (w64 ((List.length a3 : Int) - (1 : Int)))) u18) (affiantref1_ups_O a0 (w64 (a1 - u3)) (w64 (a2 - u3)) (cutL a3 (0 : Int) (w64 ((List.length a3 : Int) - (1 : Int)))) u18), b1, b1]) (pos := [.sel [7]]) (.c h1 (.c rn (.c (affiantref1_half_ok a2 u3 h4) (.c h5 (.c h6 (.c h15 (.c (affiantref1_Up_ok a0 (w64 (a1 - u3)) (w64 (a2 - u3)) (cutL a3 (0 : Int) (w64 ((List.length a3 : Int) - (1 : Int)))) u16 h17) (.c h15 (.c (affiantref1_ups_f_ok k a0 (w64 (a1 - u3)) (w64 (a2 - u3)) (cutL a3 (0 : Int) (w64 ((List.length a3 : Int) - (1 : Int)))) u18 h19) (.c h20 (.c h21 (.c h22 .n)))))))))))) (by kernel_rfl)
theorem affiantref1_ups_ok (a0 : B8) (a1 : Int) (a2 : Int) (a3 : List (B8)) (u : List (B8)) (h : affiantref1_ups a0 a1 a2 a3 = some u) : CallC prog 49 [(.v Yb a0), (.v (.int .i64) a1), (.v (.int .i64) a2), (.v (.slice Yh) a3)] [] (affiantref1_ups_R a0 a1 a2 a3 u) (affiantref1_ups_O a0 a1 a2 a3 u) := affiantref1_ups_f_ok 64 a0 a1 a2 a3 u h
theorem can17 : Callable prog 17 := ⟨_, func17, by kernel_rfl, by kernel_rfl⟩
def affiantref1_Proven_1_in (x0 : List (T18c3)) (x1 : Int) (x2 : Int) (x3 : T20c7) (x4 : List (B8)) : St := ⟨[(1, (.ptr 0 [])), (4, (.own 1 [])), (21, (.v (.slice Y18c3) x0)), (22, (.v (.int .i64) x1)), (23, (.v (.int .i64) x2))], [.box Y20c7 (.v Y20c7 x3) true, .row Yb x4 true], 73, 0⟩
def affiantref1_Proven_1_ex (o : List (B8)) : Exit := (.exit 0)
def affiantref1_Proven_1_st (o : List (B8)) : St := ⟨[(4, (.own 0 []))], [.row Yb o true], 73, 0⟩
theorem affiantref1_Proven_1_body (x0 : List (T18c3)) (x1 : Int) (x2 : Int) (x3 : T20c7) (x4 : List (B8)) : ∀ r, affiantref1_Proven_1_step x0 x1 x2 x3 x4 = some r → (match r with | .inl s => CodeOK prog (codeAt (bodyOf f17) [1, 1, 1, 0, 1, 0, 0]) (affiantref1_Proven_1_in x0 x1 x2 x3 x4) .normal (affiantref1_Proven_1_in x0 x1 s.1 x3 s.2) | .inr o => affiantref1_Proven_1_ex o ≠ .normal ∧ CodeOK prog (codeAt (bodyOf f17) [1, 1, 1, 0, 1, 0, 0]) (affiantref1_Proven_1_in x0 x1 x2 x3 x4) (affiantref1_Proven_1_ex o) (affiantref1_Proven_1_st o)) := by
 intro r h
 unfold affiantref1_Proven_1_step at h
 rcases fork_some h with ⟨h9, h⟩ | ⟨h9, h⟩
 ·obtain ⟨h10, h⟩ := need_some h
  obtain ⟨u11, h12, h⟩ := andThen_some h
  obtain ⟨h13, h⟩ := need_some h
  obtain ⟨u14, h15, h⟩ := andThen_some h
  rcases fork_some h with ⟨h16, h⟩ | ⟨h16, h⟩
  ·obtain ⟨u17, h18, h⟩ := andThen_some h
   obtain ⟨u19, h20, h⟩ := andThen_some h
   obtain ⟨h21, h⟩ := need_some h
   obtain ⟨u22, h23, h⟩ := andThen_some h
   obtain ⟨h24, h⟩ := need_some h
   obtain ⟨h25, h⟩ := need_some h
   obtain ⟨h26, h⟩ := need_some h
   injection h with h; subst h
   exact env.code (its := [b1, .pre p26, .call [none] [] [] true (affiantref1_Leaf_R (List.getD x0 (Int.toNat x2) Z18c3) u11) (affiantref1_Leaf_O (List.getD x0 (Int.toNat x2) Z18c3) u11), .asis, .call [none, none, none, none] [] [0] true (affiantref1_Up_R u11 (w64 (x3.2.1 + x2)) x3.1 (List.getD x3.2.2.2.1 (Int.toNat x2) ([] : List (B8))) u14) (affiantref1_Up_O u11 (w64 (x3.2.1 + x2)) x3.1 (List.getD x3.2.2.2.1 (Int.toNat x2) ([] : List (B8))) u14), b1, .pre p45, .call [none] [] [] true (affiantref1_Leaf_R (List.getD x0 (Int.toNat x2) Z18c3) u17) (affiantref1_Leaf_O (List.getD x0 (Int.toNat x2) Z18c3) u17), .call [none, none, none, none] [] [0] false (affiantref1_ups_R u17 (w64 (x3.2.1 + x2)) x3.1 (List.getD x3.2.2.2.1 (Int.toNat x2) ([] : List (B8))) u19) (affiantref1_ups_O u17 (w64 (x3.2.1 + x2)) x3.1 (List.getD x3.2.2.2.1 (Int.toNat x2) ([] : List (B8))) u19), .call [none] [] [] true (affiantref1_Put_R x3.1 u22) (affiantref1_Put_O x3.1 u22), b1, .sel [1, 4, 21, 22, 23] [0, 13]]) (.c h9 (.c h10 (.c (affiantref1_Leaf_ok (List.getD x0 (Int.toNat x2) Z18c3) u11 h12) (.c h13 (.c (rfl : ([.row (.int .u8) u11 true] : List AObj) = [.row (.int .u8) u11 true]) (.c (affiantref1_Up_ok u11 (w64 (x3.2.1 + x2)) x3.1 (List.getD x3.2.2.2.1 (Int.toNat x2) ([] : List (B8))) u14 h15) (.c h16 (.c (affiantref1_Leaf_ok (List.getD x0 (Int.toNat x2) Z18c3) u17 h18) (.c h13 (.c (affiantref1_ups_ok u17 (w64 (x3.2.1 + x2)) x3.1 (List.getD x3.2.2.2.1 (Int.toNat x2) ([] : List (B8))) u19 h20) (.c h21 (.c (affiantref1_Put_ok x3.1 u22 h23) (.c h24 (.c h25 (.c h26 .n))))))))))))))) (by kernel_rfl)
  ·injection h with h; subst h
   exact env.code (its := [b1, .pre p26, .call [none] [] [] true (affiantref1_Leaf_R (List.getD x0 (Int.toNat x2) Z18c3) u11) (affiantref1_Leaf_O (List.getD x0 (Int.toNat x2) Z18c3) u11), .asis, .call [none, none, none, none] [] [0] true (affiantref1_Up_R u11 (w64 (x3.2.1 + x2)) x3.1 (List.getD x3.2.2.2.1 (Int.toNat x2) ([] : List (B8))) u14) (affiantref1_Up_O u11 (w64 (x3.2.1 + x2)) x3.1 (List.getD x3.2.2.2.1 (Int.toNat x2) ([] : List (B8))) u14), b0, .sel [1, 4, 21, 22, 23] [0, 1]]) (.c h9 (.c h10 (.c (affiantref1_Leaf_ok (List.getD x0 (Int.toNat x2) Z18c3) u11 h12) (.c h13 (.c (rfl : ([.row (.int .u8) u11 true] : List AObj) = [.row (.int .u8) u11 true]) (.c (affiantref1_Up_ok u11 (w64 (x3.2.1 + x2)) x3.1 (List.getD x3.2.2.2.1 (Int.toNat x2) ([] : List (B8))) u14 h15) (.c h16 .n))))))) (by kernel_rfl)
 ·injection h with h; subst h
  exact ⟨by intro e; simp [affiantref1_Proven_1_ex] at e, env.code (its := [b0, .sel [4] [1]]) (.c h9 .n) (by kernel_rfl)⟩
theorem affiantref1_Proven_1_ok (x0 : List (T18c3)) (x1 : Int) (x2 : Int) (x3 : T20c7) (x4 : List (B8)) (o : List (B8)) (h : affiantref1_Proven_1 x0 x1 x2 x3 x4 = some o) : CodeOK prog (codeAt (bodyOf f17) [1, 1, 1, 0, 1, 0]) (affiantref1_Proven_1_in x0 x1 x2 x3 x4) (affiantref1_Proven_1_ex o) (affiantref1_Proven_1_st o) :=
 LoopOK.of_step (st := fun s => affiantref1_Proven_1_in x0 x1 s.1 x3 s.2) (ex := affiantref1_Proven_1_ex) (stO := affiantref1_Proven_1_st) (fun s s2 hs => affiantref1_Proven_1_body x0 x1 s.1 x3 s.2 (.inl s2) hs) (fun s r hs => affiantref1_Proven_1_body x0 x1 s.1 x3 s.2 (.inr r) hs) _ o h
def affiantref1_Proven_R (a0 : T20c7) (u : List (B8)) : Slot := (.own 0 [])
def affiantref1_Proven_O (a0 : T20c7) (u : List (B8)) : List AObj := [.row Yb u true]
theorem affiantref1_Proven_ok (a0 : T20c7) (u : List (B8)) (h : affiantref1_Proven a0 = some u) : CallC prog 17 [(.v Y20c7 a0)] [] (affiantref1_Proven_R a0 u) (affiantref1_Proven_O a0 u) := by
 unfold affiantref1_Proven at h
 rcases fork_some h with ⟨h1, h⟩ | ⟨h1, h⟩
 ·obtain ⟨u2, h3, h⟩ := andThen_some h
  obtain ⟨u4, h5, h⟩ := andThen_some h
  obtain ⟨h6, h⟩ := need_some h
  obtain ⟨h7, h⟩ := need_some h
  injection h with h; subst h
  exact env.fun func17 can17 (its := [b1, .call [none, (some Yb)] [] [] true (affiantref1_Tagged_R (2 : UInt8) ([] : List (B8)) u2) (affiantref1_Tagged_O (2 : UInt8) ([] : List (B8)) u2), .pre p46, .call [none] [] [] true (affiantref1_Put_R (0 : Int) u4) (affiantref1_Put_O (0 : Int) u4), b1]) (pos := [.sel [7]]) (.c h1 (.c (affiantref1_Tagged_ok (2 : UInt8) ([] : List (B8)) u2 h3) (.c (affiantref1_Put_ok (0 : Int) u4 h5) (.c h6 (.c h7 .n))))) (by kernel_rfl)
 ·obtain ⟨o27, h28, h⟩ := andThen_some h
  injection h with h; subst h
  exact env.fun func17 can17 (its := [b0, .dive, .promote 4 Yb, .sel [1, 4, 21, 22, 23] [0, 1], .part (affiantref1_Proven_1_ex o27) (affiantref1_Proven_1_st o27)]) (pos := s1) (.c h1 (.c (affiantref1_Proven_1_ok a0.2.2.1 (List.length a0.2.2.1 : Int) (0 : Int) a0 ([] : List (B8)) o27 h28) .n)) (by kernel_rfl)
theorem can15 : Callable prog 15 := ⟨_, func15, by kernel_rfl, by kernel_rfl⟩
def affiantref1_Clash_1_in (x0 : List (B8)) (x1 : Int) (x2 : Int) (x3 : List (B8 × B8)) : St := ⟨[(3, (.mp 0)), (10, (.v Ybb x0)), (11, (.v (.int .i64) x1)), (12, (.v (.int .i64) x2))], [.map Yh .str x3 true], 36, 0⟩
def affiantref1_Clash_1_ex (o : (Bool) ⊕ (Unit)) : Exit := match o with | (.inl o) => .ret | (.inr o) => (.exit 0)
def affiantref1_Clash_1_st (o : (Bool) ⊕ (Unit)) : St := match o with | (.inl o) => ⟨[(2, (.v .bool o))], [], 36, 0⟩ | (.inr o) => ⟨[], [], 36, 0⟩
theorem affiantref1_Clash_1_body (x0 : List (B8)) (x1 : Int) (x2 : Int) (x3 : List (B8 × B8)) : ∀ r, affiantref1_Clash_1_step x0 x1 x2 x3 = some r → (match r with | .inl s => CodeOK prog (codeAt (bodyOf f15) [1, 1, 0, 1, 0, 0]) (affiantref1_Clash_1_in x0 x1 x2 x3) .normal (affiantref1_Clash_1_in x0 x1 s.1 s.2) | .inr o => affiantref1_Clash_1_ex o ≠ .normal ∧ CodeOK prog (codeAt (bodyOf f15) [1, 1, 0, 1, 0, 0]) (affiantref1_Clash_1_in x0 x1 x2 x3) (affiantref1_Clash_1_ex o) (affiantref1_Clash_1_st o)) := by
 intro r h
 unfold affiantref1_Clash_1_step at h
 rcases fork_some h with ⟨h2, h⟩ | ⟨h2, h⟩
 ·obtain ⟨h3, h⟩ := need_some h
  obtain ⟨u4, h5, h⟩ := andThen_some h
  rcases fork_some h with ⟨h6, h⟩ | ⟨h6, h⟩
  ·rcases fork_some h with ⟨h7, h⟩ | ⟨h7, h⟩
   ·injection h with h; subst h
    exact ⟨by intro e; simp [affiantref1_Clash_1_ex] at e, env.code (its := [b1, .call [none] [] [] true (affiantref1_Sum_R (List.getD x0 (Int.toNat x2) ([] : B8)) u4) (affiantref1_Sum_O (List.getD x0 (Int.toNat x2) ([] : B8)) u4), b1, b1, b1, b1, b1, b1, .sel [2] []]) (.c h2 (.c h3 (.c (affiantref1_Sum_ok (List.getD x0 (Int.toNat x2) ([] : B8)) u4 h5) (.c h6 (.c h6 (.c h6 (.c h6 (.c h6 (.c h7 .n))))))))) (by kernel_rfl)⟩
   ·injection h with h; subst h
    exact env.code (its := [b1, .call [none] [] [] true (affiantref1_Sum_R (List.getD x0 (Int.toNat x2) ([] : B8)) u4) (affiantref1_Sum_O (List.getD x0 (Int.toNat x2) ([] : B8)) u4), b1, b1, b1, b1, b1, b0, .sel [3, 10, 11, 12] [0]]) (.c h2 (.c h3 (.c (affiantref1_Sum_ok (List.getD x0 (Int.toNat x2) ([] : B8)) u4 h5) (.c h6 (.c h6 (.c h6 (.c h6 (.c h6 (.c h7 .n))))))))) (by kernel_rfl)
  ·injection h with h; subst h
   exact env.code (its := [b1, .call [none] [] [] true (affiantref1_Sum_R (List.getD x0 (Int.toNat x2) ([] : B8)) u4) (affiantref1_Sum_O (List.getD x0 (Int.toNat x2) ([] : B8)) u4), b0, b0, b0, b0, b0, b0, .sel [3, 10, 11, 12] [0]]) (.c h2 (.c h3 (.c (affiantref1_Sum_ok (List.getD x0 (Int.toNat x2) ([] : B8)) u4 h5) (.c h6 (.c h6 (.c h6 (.c h6 (.c h6 (.c r0 .n))))))))) (by kernel_rfl)
 ·injection h with h; subst h
  exact ⟨by intro e; simp [affiantref1_Clash_1_ex] at e, env.code (its := [b0, .sel [] []]) (.c h2 .n) (by kernel_rfl)⟩
theorem affiantref1_Clash_1_ok (x0 : List (B8)) (x1 : Int) (x2 : Int) (x3 : List (B8 × B8)) (o : (Bool) ⊕ (Unit)) (h : affiantref1_Clash_1 x0 x1 x2 x3 = some o) : CodeOK prog (codeAt (bodyOf f15) [1, 1, 0, 1, 0]) (affiantref1_Clash_1_in x0 x1 x2 x3) (affiantref1_Clash_1_ex o) (affiantref1_Clash_1_st o) :=
 LoopOK.of_step (st := fun s => affiantref1_Clash_1_in x0 x1 s.1 s.2) (ex := affiantref1_Clash_1_ex) (stO := affiantref1_Clash_1_st) (fun s s2 hs => affiantref1_Clash_1_body x0 x1 s.1 s.2 (.inl s2) hs) (fun s r hs => affiantref1_Clash_1_body x0 x1 s.1 s.2 (.inr r) hs) _ o h
def affiantref1_Clash_R (a0 : List (B8)) (u : Bool) : Slot := (.v .bool u)
def affiantref1_Clash_O (a0 : List (B8)) (u : Bool) : List AObj := []
theorem affiantref1_Clash_ok (a0 : List (B8)) (u : Bool) (h : affiantref1_Clash a0 = some u) : CallC prog 15 [(.v Ybb a0)] [] (affiantref1_Clash_R a0 u) (affiantref1_Clash_O a0 u) := by
 unfold affiantref1_Clash at h
 obtain ⟨o8, h9, h⟩ := andThen_some h
 rcases o8 with o10 | o11
 ·injection h with h; subst h
  exact env.fun func15 can15 (its := [.val 0 .str, .dive, .sel [3, 10, 11, 12] [0], .part (affiantref1_Clash_1_ex (.inl o10)) (affiantref1_Clash_1_st (.inl o10))]) (pos := s0) (.c (affiantref1_Clash_1_ok a0 (List.length a0 : Int) (0 : Int) ([] : List (B8 × B8)) (.inl o10) h9) .n) (by kernel_rfl)
 ·injection h with h; subst h
  exact env.fun func15 can15 (its := [.val 0 .str, .dive, .sel [3, 10, 11, 12] [0], .part (affiantref1_Clash_1_ex (.inr o11)) (affiantref1_Clash_1_st (.inr o11))]) (pos := s0) (.c (affiantref1_Clash_1_ok a0 (List.length a0 : Int) (0 : Int) ([] : List (B8 × B8)) (.inr o11) h9) .n) (by kernel_rfl)
theorem can3 : Callable prog 3 := ⟨_, func3, by kernel_rfl, by kernel_rfl⟩
def affiantlaw17_AdmitBinds_R (a0 : List Int) (a1 : T1a67) (a2 : T1a67) (a3 : Int) (a4 : Int) (a5 : Int) (a6 : Int) (u : Bool) : Slot := (.v .bool u)
def affiantlaw17_AdmitBinds_O (a0 : List Int) (a1 : T1a67) (a2 : T1a67) (a3 : Int) (a4 : Int) (a5 : Int) (a6 : Int) (u : Bool) : List AObj := []
theorem affiantlaw17_AdmitBinds_ok (a0 : List Int) (a1 : T1a67) (a2 : T1a67) (a3 : Int) (a4 : Int) (a5 : Int) (a6 : Int) (u : Bool) (h : affiantlaw17_AdmitBinds a0 a1 a2 a3 a4 a5 a6 = some u) : CallC prog 3 [(.v (.slice (.int .i64)) a0), (.v Y1a67 a1), (.v Y1a67 a2), (.v (.int .i64) a3), (.v (.int .i64) a4), (.v (.int .i64) a5), (.v (.int .i64) a6)] [] (affiantlaw17_AdmitBinds_R a0 a1 a2 a3 a4 a5 a6 u) (affiantlaw17_AdmitBinds_O a0 a1 a2 a3 a4 a5 a6 u) := by
 unfold affiantlaw17_AdmitBinds at h
 obtain ⟨u1, h2, h⟩ := andThen_some h
 obtain ⟨u3, h4, h⟩ := andThen_some h
 obtain ⟨u5, h6, h⟩ := andThen_some h
 obtain ⟨u7, h8, h⟩ := andThen_some h
 obtain ⟨u9, h10, h⟩ := andThen_some h
 obtain ⟨u11, h12, h⟩ := andThen_some h
 rcases fork_some h with ⟨h13, h⟩ | ⟨h13, h⟩
 ·cases h
 ·obtain ⟨u14, h15, h⟩ := andThen_some h
  obtain ⟨u16, h17, h⟩ := andThen_some h
  obtain ⟨u18, h19, h⟩ := andThen_some h
  obtain ⟨u20, h21, h⟩ := andThen_some h
  rcases fork_some h with ⟨h22, h⟩ | ⟨h22, h⟩
  ·obtain ⟨u23, h24, h⟩ := andThen_some h
   injection h with h; subst h
   exact env.fun func3 can3 (its := [.call [none] [] [] true (affiantkeep_Pairs_R a0 u1) (affiantkeep_Pairs_O a0 u1), .pre p47, .asis, .call [none] [] [] true (affiantkeep_Query_Query_R a1 u3) (affiantkeep_Query_Query_O a1 u3), .asis, .call [none] [] [] true (affiantkeep_Query_Query_R a2 u5) (affiantkeep_Query_Query_O a2 u5), .call [none] [] [2] true (store_Root_R u1 u7) (store_Root_O u1 u7), .call [none, none, none, none] [] [2] false (affiantref16_Answer_R (1 : Int) u3 (3 : Int) u1 u9) (affiantref16_Answer_O (1 : Int) u3 (3 : Int) u1 u9), .call [none, none, none] [] [] true (admit_Check_R u3 u7 u9 u11) (admit_Check_O u3 u7 u9 u11), b0, .pre p48, .asis, .call [none, none, none, none] [] [0] false (affiantref16_Answer_R (1 : Int) u5 (3 : Int) u1 u14) (affiantref16_Answer_O (1 : Int) u5 (3 : Int) u1 u14), .asis, .call [none, none, none, none, none] [] [] false (affiantkeep_Response_R u9 u14 a3 a4 a5 u16) (affiantkeep_Response_O u9 u14 a3 a4 a5 u16), .asis, .call [none, none, none, none, none] [] [] false (affiantkeep_Response_R u16 u9 a6 a5 a4 u18) (affiantkeep_Response_O u16 u9 a6 a5 a4 u18), .call [none, none, none] [] [] true (admit_Check_R u3 u7 u18 u20) (admit_Check_O u3 u7 u18 u20), b1, .call [] [] [] true (affiantlaw17_AdmitRuns_R u23) (affiantlaw17_AdmitRuns_O u23)]) (pos := s0) (.c (affiantkeep_Pairs_ok a0 u1 h2) (.c rn (.c (affiantkeep_Query_Query_ok a1 u3 h4) (.c rn (.c (affiantkeep_Query_Query_ok a2 u5 h6) (.c (store_Root_ok u1 u7 h8) (.c (affiantref16_Answer_ok (1 : Int) u3 (3 : Int) u1 u9 h10) (.c (admit_Check_ok u3 u7 u9 u11 h12) (.c h13 (.c (rfl : ([.row Y18c3 u1 false] : List AObj) = [.row Y18c3 u1 false]) (.c (affiantref16_Answer_ok (1 : Int) u5 (3 : Int) u1 u14 h15) (.c rn (.c (affiantkeep_Response_ok u9 u14 a3 a4 a5 u16 h17) (.c rn (.c (affiantkeep_Response_ok u16 u9 a6 a5 a4 u18 h19) (.c (admit_Check_ok u3 u7 u18 u20 h21) (.c h22 (.c (affiantlaw17_AdmitRuns_ok u23 h24) .n)))))))))))))))))) (by kernel_rfl)
  ·obtain ⟨u25, h26, h⟩ := andThen_some h
   rcases fork_some h with ⟨h27, h⟩ | ⟨h27, h⟩
   ·obtain ⟨u28, h29, h⟩ := andThen_some h
    rcases fork_some h with ⟨h30, h⟩ | ⟨h30, h⟩
    ·obtain ⟨u31, h32, h⟩ := andThen_some h
     rcases fork_some h with ⟨h33, h⟩ | ⟨h33, h⟩
     ·obtain ⟨u34, h35, h⟩ := andThen_some h
      injection h with h; subst h
      exact env.fun func3 can3 (its := [.call [none] [] [] true (affiantkeep_Pairs_R a0 u1) (affiantkeep_Pairs_O a0 u1), .pre p47, .asis, .call [none] [] [] true (affiantkeep_Query_Query_R a1 u3) (affiantkeep_Query_Query_O a1 u3), .asis, .call [none] [] [] true (affiantkeep_Query_Query_R a2 u5) (affiantkeep_Query_Query_O a2 u5), .call [none] [] [2] true (store_Root_R u1 u7) (store_Root_O u1 u7), .call [none, none, none, none] [] [2] false (affiantref16_Answer_R (1 : Int) u3 (3 : Int) u1 u9) (affiantref16_Answer_O (1 : Int) u3 (3 : Int) u1 u9), .call [none, none, none] [] [] true (admit_Check_R u3 u7 u9 u11) (admit_Check_O u3 u7 u9 u11), b0, .pre p48, .asis, .call [none, none, none, none] [] [0] false (affiantref16_Answer_R (1 : Int) u5 (3 : Int) u1 u14) (affiantref16_Answer_O (1 : Int) u5 (3 : Int) u1 u14), .asis, .call [none, none, none, none, none] [] [] false (affiantkeep_Response_R u9 u14 a3 a4 a5 u16) (affiantkeep_Response_O u9 u14 a3 a4 a5 u16), .asis, .call [none, none, none, none, none] [] [] false (affiantkeep_Response_R u16 u9 a6 a5 a4 u18) (affiantkeep_Response_O u16 u9 a6 a5 a4 u18), .call [none, none, none] [] [] true (admit_Check_R u3 u7 u18 u20) (admit_Check_O u3 u7 u18 u20), b0, .call [none, none, none] [] [2] true (kv_Range_R u1 u3.2.1 u3.2.2.1 u25) (kv_Range_O u1 u3.2.1 u3.2.2.1 u25), b1, .call [none, none] [] [2] true (kv_Get_R u1 u3.2.1 u28) (kv_Get_O u1 u3.2.1 u28), b1, .pre p49, .asis, .call [none, none] [] [0] true (affiantbook_Same_Pair_R u18.2.2.1 ([(u3.2.1, u28.1, ())] : List (T18c3)) u31) (affiantbook_Same_Pair_O u18.2.2.1 ([(u3.2.1, u28.1, ())] : List (T18c3)) u31), b1, b1, b1, b1, b1, b1, b1, b1, b1, .asis, .call [] [] [] true (affiantlaw17_AdmitRuns_R u34) (affiantlaw17_AdmitRuns_O u34), b1]) (pos := s0) (.c (affiantkeep_Pairs_ok a0 u1 h2) (.c rn (.c (affiantkeep_Query_Query_ok a1 u3 h4) (.c rn (.c (affiantkeep_Query_Query_ok a2 u5 h6) (.c (store_Root_ok u1 u7 h8) (.c (affiantref16_Answer_ok (1 : Int) u3 (3 : Int) u1 u9 h10) (.c (admit_Check_ok u3 u7 u9 u11 h12) (.c h13 (.c (rfl : ([.row Y18c3 u1 false] : List AObj) = [.row Y18c3 u1 false]) (.c (affiantref16_Answer_ok (1 : Int) u5 (3 : Int) u1 u14 h15) (.c rn (.c (affiantkeep_Response_ok u9 u14 a3 a4 a5 u16 h17) (.c rn (.c (affiantkeep_Response_ok u16 u9 a6 a5 a4 u18 h19) (.c (admit_Check_ok u3 u7 u18 u20 h21) (.c h22 (.c (kv_Range_ok u1 u3.2.1 u3.2.2.1 u25 h26) (.c h27 (.c (kv_Get_ok u1 u3.2.1 u28 h29) (.c h30 (.c (rfl : ([.row Y18c3 ([(u3.2.1, u28.1, ())] : List (T18c3)) true] : List AObj) = [.row Y18c3 ([(u3.2.1, u28.1, ())] : List (T18c3)) true]) (.c (affiantbook_Same_Pair_ok u18.2.2.1 ([(u3.2.1, u28.1, ())] : List (T18c3)) u31 h32) (.c h33 (.c h33 (.c h33 (.c h33 (.c h33 (.c h33 (.c h33 (.c h33 (.c r1 (.c rn (.c (affiantlaw17_AdmitRuns_ok u34 h35) (.c r1 .n))))))))))))))))))))))))))))))))))) (by kernel_rfl)
     ·obtain ⟨u36, h37, h⟩ := andThen_some h
      obtain ⟨u38, h39, h⟩ := andThen_some h
      obtain ⟨h40, h⟩ := need_some h
      obtain ⟨u41, h42, h⟩ := andThen_some h
      rcases fork_some h with ⟨h43, h⟩ | ⟨h43, h⟩
      ·obtain ⟨u44, h45, h⟩ := andThen_some h
       injection h with h; subst h
       exact env.fun func3 can3 (its := [.call [none] [] [] true (affiantkeep_Pairs_R a0 u1) (affiantkeep_Pairs_O a0 u1), .pre p47, .asis, .call [none] [] [] true (affiantkeep_Query_Query_R a1 u3) (affiantkeep_Query_Query_O a1 u3), .asis, .call [none] [] [] true (affiantkeep_Query_Query_R a2 u5) (affiantkeep_Query_Query_O a2 u5), .call [none] [] [2] true (store_Root_R u1 u7) (store_Root_O u1 u7), .call [none, none, none, none] [] [2] false (affiantref16_Answer_R (1 : Int) u3 (3 : Int) u1 u9) (affiantref16_Answer_O (1 : Int) u3 (3 : Int) u1 u9), .call [none, none, none] [] [] true (admit_Check_R u3 u7 u9 u11) (admit_Check_O u3 u7 u9 u11), b0, .pre p48, .asis, .call [none, none, none, none] [] [0] false (affiantref16_Answer_R (1 : Int) u5 (3 : Int) u1 u14) (affiantref16_Answer_O (1 : Int) u5 (3 : Int) u1 u14), .asis, .call [none, none, none, none, none] [] [] false (affiantkeep_Response_R u9 u14 a3 a4 a5 u16) (affiantkeep_Response_O u9 u14 a3 a4 a5 u16), .asis, .call [none, none, none, none, none] [] [] false (affiantkeep_Response_R u16 u9 a6 a5 a4 u18) (affiantkeep_Response_O u16 u9 a6 a5 a4 u18), .call [none, none, none] [] [] true (admit_Check_R u3 u7 u18 u20) (admit_Check_O u3 u7 u18 u20), b0, .call [none, none, none] [] [2] true (kv_Range_R u1 u3.2.1 u3.2.2.1 u25) (kv_Range_O u1 u3.2.1 u3.2.2.1 u25), b1, .call [none, none] [] [2] true (kv_Get_R u1 u3.2.1 u28) (kv_Get_O u1 u3.2.1 u28), b1, .pre p49, .asis, .call [none, none] [] [0] true (affiantbook_Same_Pair_R u18.2.2.1 ([(u3.2.1, u28.1, ())] : List (T18c3)) u31) (affiantbook_Same_Pair_O u18.2.2.1 ([(u3.2.1, u28.1, ())] : List (T18c3)) u31), b0, b0, .call [none] [] [0] false (affiantref1_Inputs_R u1 u36) (affiantref1_Inputs_O u1 u36), b0, b0, b0, .call [none] [] [] false (affiantref1_Proven_R u18.2.2.2.1 u38) (affiantref1_Proven_O u18.2.2.2.1 u38), b0, b0, .asis, .call [none] [] [0] true (affiantref1_Clash_R (u36 ++ u38) u41) (affiantref1_Clash_O (u36 ++ u38) u41), b0, b1, .asis, .call [] [] [] true (affiantlaw17_AdmitRuns_R u44) (affiantlaw17_AdmitRuns_O u44), b1]) (pos := s0) (.c (affiantkeep_Pairs_ok a0 u1 h2) (.c rn (.c (affiantkeep_Query_Query_ok a1 u3 h4) (.c rn (.c (affiantkeep_Query_Query_ok a2 u5 h6) (.c (store_Root_ok u1 u7 h8) (.c (affiantref16_Answer_ok (1 : Int) u3 (3 : Int) u1 u9 h10) (.c (admit_Check_ok u3 u7 u9 u11 h12) (.c h13 (.c (rfl : ([.row Y18c3 u1 false] : List AObj) = [.row Y18c3 u1 false]) (.c (affiantref16_Answer_ok (1 : Int) u5 (3 : Int) u1 u14 h15) (.c rn (.c (affiantkeep_Response_ok u9 u14 a3 a4 a5 u16 h17) (.c rn (.c (affiantkeep_Response_ok u16 u9 a6 a5 a4 u18 h19) (.c (admit_Check_ok u3 u7 u18 u20 h21) (.c h22 (.c (kv_Range_ok u1 u3.2.1 u3.2.2.1 u25 h26) (.c h27 (.c (kv_Get_ok u1 u3.2.1 u28 h29) (.c h30 (.c (rfl : ([.row Y18c3 ([(u3.2.1, u28.1, ())] : List (T18c3)) true] : List AObj) = [.row Y18c3 ([(u3.2.1, u28.1, ())] : List (T18c3)) true]) (.c (affiantbook_Same_Pair_ok u18.2.2.1 ([(u3.2.1, u28.1, ())] : List (T18c3)) u31 h32) (.c h33 (.c h33 (.c (affiantref1_Inputs_ok u1 u36 h37) (.c h33 (.c h33 (.c h33 (.c (affiantref1_Proven_ok u18.2.2.2.1 u38 h39) (.c h33 (.c h40 (.c h33 (.c (rfl : ([.row Yb (u36 ++ u38) true] : List AObj) = [.row Yb (u36 ++ u38) true]) (.c (affiantref1_Clash_ok (u36 ++ u38) u41 h42) (.c h33 (.c h43 (.c rn (.c (affiantlaw17_AdmitRuns_ok u44 h45) (.c h43 .n)))))))))))))))))))))))))))))))))))))))) (by kernel_rfl)
      ·cases h
    ·obtain ⟨u46, h47, h⟩ := andThen_some h
     rcases fork_some h with ⟨h48, h⟩ | ⟨h48, h⟩
     ·obtain ⟨u49, h50, h⟩ := andThen_some h
      injection h with h; subst h
      exact env.fun func3 can3 (its := [.call [none] [] [] true (affiantkeep_Pairs_R a0 u1) (affiantkeep_Pairs_O a0 u1), .pre p47, .asis, .call [none] [] [] true (affiantkeep_Query_Query_R a1 u3) (affiantkeep_Query_Query_O a1 u3), .asis, .call [none] [] [] true (affiantkeep_Query_Query_R a2 u5) (affiantkeep_Query_Query_O a2 u5), .call [none] [] [2] true (store_Root_R u1 u7) (store_Root_O u1 u7), .call [none, none, none, none] [] [2] false (affiantref16_Answer_R (1 : Int) u3 (3 : Int) u1 u9) (affiantref16_Answer_O (1 : Int) u3 (3 : Int) u1 u9), .call [none, none, none] [] [] true (admit_Check_R u3 u7 u9 u11) (admit_Check_O u3 u7 u9 u11), b0, .pre p48, .asis, .call [none, none, none, none] [] [0] false (affiantref16_Answer_R (1 : Int) u5 (3 : Int) u1 u14) (affiantref16_Answer_O (1 : Int) u5 (3 : Int) u1 u14), .asis, .call [none, none, none, none, none] [] [] false (affiantkeep_Response_R u9 u14 a3 a4 a5 u16) (affiantkeep_Response_O u9 u14 a3 a4 a5 u16), .asis, .call [none, none, none, none, none] [] [] false (affiantkeep_Response_R u16 u9 a6 a5 a4 u18) (affiantkeep_Response_O u16 u9 a6 a5 a4 u18), .call [none, none, none] [] [] true (admit_Check_R u3 u7 u18 u20) (admit_Check_O u3 u7 u18 u20), b0, .call [none, none, none] [] [2] true (kv_Range_R u1 u3.2.1 u3.2.2.1 u25) (kv_Range_O u1 u3.2.1 u3.2.2.1 u25), b1, .call [none, none] [] [2] true (kv_Get_R u1 u3.2.1 u28) (kv_Get_O u1 u3.2.1 u28), b0, .pre p49, .asis, .call [none, (some Y18c3)] [] [] true (affiantbook_Same_Pair_R u18.2.2.1 ([] : List (T18c3)) u46) (affiantbook_Same_Pair_O u18.2.2.1 ([] : List (T18c3)) u46), b1, b1, b1, b1, b1, b1, b1, b1, b1, .asis, .call [] [] [] true (affiantlaw17_AdmitRuns_R u49) (affiantlaw17_AdmitRuns_O u49), b1]) (pos := s0) (.c (affiantkeep_Pairs_ok a0 u1 h2) (.c rn (.c (affiantkeep_Query_Query_ok a1 u3 h4) (.c rn (.c (affiantkeep_Query_Query_ok a2 u5 h6) (.c (store_Root_ok u1 u7 h8) (.c (affiantref16_Answer_ok (1 : Int) u3 (3 : Int) u1 u9 h10) (.c (admit_Check_ok u3 u7 u9 u11 h12) (.c h13 (.c (rfl : ([.row Y18c3 u1 false] : List AObj) = [.row Y18c3 u1 false]) (.c (affiantref16_Answer_ok (1 : Int) u5 (3 : Int) u1 u14 h15) (.c rn (.c (affiantkeep_Response_ok u9 u14 a3 a4 a5 u16 h17) (.c rn (.c (affiantkeep_Response_ok u16 u9 a6 a5 a4 u18 h19) (.c (admit_Check_ok u3 u7 u18 u20 h21) (.c h22 (.c (kv_Range_ok u1 u3.2.1 u3.2.2.1 u25 h26) (.c h27 (.c (kv_Get_ok u1 u3.2.1 u28 h29) (.c h30 (.c rn (.c (affiantbook_Same_Pair_ok u18.2.2.1 ([] : List (T18c3)) u46 h47) (.c h48 (.c h48 (.c h48 (.c h48 (.c h48 (.c h48 (.c h48 (.c h48 (.c r1 (.c rn (.c (affiantlaw17_AdmitRuns_ok u49 h50) (.c r1 .n))))))))))))))))))))))))))))))))))) (by kernel_rfl)
     ·obtain ⟨u51, h52, h⟩ := andThen_some h
      obtain ⟨u53, h54, h⟩ := andThen_some h
      obtain ⟨h55, h⟩ := need_some h
      obtain ⟨u56, h57, h⟩ := andThen_some h
      rcases fork_some h with ⟨h58, h⟩ | ⟨h58, h⟩
      ·obtain ⟨u59, h60, h⟩ := andThen_some h
       injection h with h; subst h
       exact env.fun func3 can3 (its := [.call [none] [] [] true (affiantkeep_Pairs_R a0 u1) (affiantkeep_Pairs_O a0 u1), .pre p47, .asis, .call [none] [] [] true (affiantkeep_Query_Query_R a1 u3) (affiantkeep_Query_Query_O a1 u3), .asis, .call [none] [] [] true (affiantkeep_Query_Query_R a2 u5) (affiantkeep_Query_Query_O a2 u5), .call [none] [] [2] true (store_Root_R u1 u7) (store_Root_O u1 u7), .call [none, none, none, none] [] [2] false (affiantref16_Answer_R (1 : Int) u3 (3 : Int) u1 u9) (affiantref16_Answer_O (1 : Int) u3 (3 : Int) u1 u9), .call [none, none, none] [] [] true (admit_Check_R u3 u7 u9 u11) (admit_Check_O u3 u7 u9 u11), b0, .pre p48, .asis, .call [none, none, none, none] [] [0] false (affiantref16_Answer_R (1 : Int) u5 (3 : Int) u1 u14) (affiantref16_Answer_O (1 : Int) u5 (3 : Int) u1 u14), .asis, .call [none, none, none, none, none] [] [] false (affiantkeep_Response_R u9 u14 a3 a4 a5 u16) (affiantkeep_Response_O u9 u14 a3 a4 a5 u16), .asis, .call [none, none, none, none, none] [] [] false (affiantkeep_Response_R u16 u9 a6 a5 a4 u18) (affiantkeep_Response_O u16 u9 a6 a5 a4 u18), .call [none, none, none] [] [] true (admit_Check_R u3 u7 u18 u20) (admit_Check_O u3 u7 u18 u20), b0, .call [none, none, none] [] [2] true (kv_Range_R u1 u3.2.1 u3.2.2.1 u25) (kv_Range_O u1 u3.2.1 u3.2.2.1 u25), b1, .call [none, none] [] [2] true (kv_Get_R u1 u3.2.1 u28) (kv_Get_O u1 u3.2.1 u28), b0, .pre p49, .asis, .call [none, (some Y18c3)] [] [] true (affiantbook_Same_Pair_R u18.2.2.1 ([] : List (T18c3)) u46) (affiantbook_Same_Pair_O u18.2.2.1 ([] : List (T18c3)) u46), b0, b0, .call [none] [] [0] false (affiantref1_Inputs_R u1 u51) (affiantref1_Inputs_O u1 u51), b0, b0, b0, .call [none] [] [] false (affiantref1_Proven_R u18.2.2.2.1 u53) (affiantref1_Proven_O u18.2.2.2.1 u53), b0, b0, .asis, .call [none] [] [0] true (affiantref1_Clash_R (u51 ++ u53) u56) (affiantref1_Clash_O (u51 ++ u53) u56), b0, b1, .asis, .call [] [] [] true (affiantlaw17_AdmitRuns_R u59) (affiantlaw17_AdmitRuns_O u59), b1]) (pos := s0) (.c (affiantkeep_Pairs_ok a0 u1 h2) (.c rn (.c (affiantkeep_Query_Query_ok a1 u3 h4) (.c rn (.c (affiantkeep_Query_Query_ok a2 u5 h6) (.c (store_Root_ok u1 u7 h8) (.c (affiantref16_Answer_ok (1 : Int) u3 (3 : Int) u1 u9 h10) (.c (admit_Check_ok u3 u7 u9 u11 h12) (.c h13 (.c (rfl : ([.row Y18c3 u1 false] : List AObj) = [.row Y18c3 u1 false]) (.c (affiantref16_Answer_ok (1 : Int) u5 (3 : Int) u1 u14 h15) (.c rn (.c (affiantkeep_Response_ok u9 u14 a3 a4 a5 u16 h17) (.c rn (.c (affiantkeep_Response_ok u16 u9 a6 a5 a4 u18 h19) (.c (admit_Check_ok u3 u7 u18 u20 h21) (.c h22 (.c (kv_Range_ok u1 u3.2.1 u3.2.2.1 u25 h26) (.c h27 (.c (kv_Get_ok u1 u3.2.1 u28 h29) (.c h30 (.c rn (.c (affiantbook_Same_Pair_ok u18.2.2.1 ([] : List (T18c3)) u46 h47) (.c h48 (.c h48 (.c (affiantref1_Inputs_ok u1 u51 h52) (.c h48 (.c h48 (.c h48 (.c (affiantref1_Proven_ok u18.2.2.2.1 u53 h54) (.c h48 (.c h55 (.c h48 (.c (rfl : ([.row Yb (u51 ++ u53) true] : List AObj) = [.row Yb (u51 ++ u53) true]) (.c (affiantref1_Clash_ok (u51 ++ u53) u56 h57) (.c h48 (.c h58 (.c rn (.c (affiantlaw17_AdmitRuns_ok u59 h60) (.c h58 .n)))))))))))))))))))))))))))))))))))))))) (by kernel_rfl)
      ·cases h
   ·obtain ⟨u61, h62, h⟩ := andThen_some h
    rcases fork_some h with ⟨h63, h⟩ | ⟨h63, h⟩
    ·obtain ⟨u64, h65, h⟩ := andThen_some h
     injection h with h; subst h
     exact env.fun func3 can3 (its := [.call [none] [] [] true (affiantkeep_Pairs_R a0 u1) (affiantkeep_Pairs_O a0 u1), .pre p47, .asis, .call [none] [] [] true (affiantkeep_Query_Query_R a1 u3) (affiantkeep_Query_Query_O a1 u3), .asis, .call [none] [] [] true (affiantkeep_Query_Query_R a2 u5) (affiantkeep_Query_Query_O a2 u5), .call [none] [] [2] true (store_Root_R u1 u7) (store_Root_O u1 u7), .call [none, none, none, none] [] [2] false (affiantref16_Answer_R (1 : Int) u3 (3 : Int) u1 u9) (affiantref16_Answer_O (1 : Int) u3 (3 : Int) u1 u9), .call [none, none, none] [] [] true (admit_Check_R u3 u7 u9 u11) (admit_Check_O u3 u7 u9 u11), b0, .pre p48, .asis, .call [none, none, none, none] [] [0] false (affiantref16_Answer_R (1 : Int) u5 (3 : Int) u1 u14) (affiantref16_Answer_O (1 : Int) u5 (3 : Int) u1 u14), .asis, .call [none, none, none, none, none] [] [] false (affiantkeep_Response_R u9 u14 a3 a4 a5 u16) (affiantkeep_Response_O u9 u14 a3 a4 a5 u16), .asis, .call [none, none, none, none, none] [] [] false (affiantkeep_Response_R u16 u9 a6 a5 a4 u18) (affiantkeep_Response_O u16 u9 a6 a5 a4 u18), .call [none, none, none] [] [] true (admit_Check_R u3 u7 u18 u20) (admit_Check_O u3 u7 u18 u20), b0, .call [none, none, none] [] [2] true (kv_Range_R u1 u3.2.1 u3.2.2.1 u25) (kv_Range_O u1 u3.2.1 u3.2.2.1 u25), b0, .pre p49, .asis, .call [none, none] [] [0] true (affiantbook_Same_Pair_R u18.2.2.1 u25 u61) (affiantbook_Same_Pair_O u18.2.2.1 u25 u61), b1, b1, b1, b1, b1, b1, b1, b1, b1, .asis, .call [] [] [] true (affiantlaw17_AdmitRuns_R u64) (affiantlaw17_AdmitRuns_O u64), b1]) (pos := s0) (.c (affiantkeep_Pairs_ok a0 u1 h2) (.c rn (.c (affiantkeep_Query_Query_ok a1 u3 h4) (.c rn (.c (affiantkeep_Query_Query_ok a2 u5 h6) (.c (store_Root_ok u1 u7 h8) (.c (affiantref16_Answer_ok (1 : Int) u3 (3 : Int) u1 u9 h10) (.c (admit_Check_ok u3 u7 u9 u11 h12) (.c h13 (.c (rfl : ([.row Y18c3 u1 false] : List AObj) = [.row Y18c3 u1 false]) (.c (affiantref16_Answer_ok (1 : Int) u5 (3 : Int) u1 u14 h15) (.c rn (.c (affiantkeep_Response_ok u9 u14 a3 a4 a5 u16 h17) (.c rn (.c (affiantkeep_Response_ok u16 u9 a6 a5 a4 u18 h19) (.c (admit_Check_ok u3 u7 u18 u20 h21) (.c h22 (.c (kv_Range_ok u1 u3.2.1 u3.2.2.1 u25 h26) (.c h27 (.c (rfl : ([.row Y18c3 u25 true] : List AObj) = [.row Y18c3 u25 true]) (.c (affiantbook_Same_Pair_ok u18.2.2.1 u25 u61 h62) (.c h63 (.c h63 (.c h63 (.c h63 (.c h63 (.c h63 (.c h63 (.c h63 (.c r1 (.c rn (.c (affiantlaw17_AdmitRuns_ok u64 h65) (.c r1 .n))))))))))))))))))))))))))))))))) (by kernel_rfl)
    ·obtain ⟨u66, h67, h⟩ := andThen_some h
     obtain ⟨u68, h69, h⟩ := andThen_some h
     obtain ⟨h70, h⟩ := need_some h
     obtain ⟨u71, h72, h⟩ := andThen_some h
     rcases fork_some h with ⟨h73, h⟩ | ⟨h73, h⟩
     ·obtain ⟨u74, h75, h⟩ := andThen_some h
      injection h with h; subst h
      exact env.fun func3 can3 (its := [.call [none] [] [] true (affiantkeep_Pairs_R a0 u1) (affiantkeep_Pairs_O a0 u1), .pre p47, .asis, .call [none] [] [] true (affiantkeep_Query_Query_R a1 u3) (affiantkeep_Query_Query_O a1 u3), .asis, .call [none] [] [] true (affiantkeep_Query_Query_R a2 u5) (affiantkeep_Query_Query_O a2 u5), .call [none] [] [2] true (store_Root_R u1 u7) (store_Root_O u1 u7), .call [none, none, none, none] [] [2] false (affiantref16_Answer_R (1 : Int) u3 (3 : Int) u1 u9) (affiantref16_Answer_O (1 : Int) u3 (3 : Int) u1 u9), .call [none, none, none] [] [] true (admit_Check_R u3 u7 u9 u11) (admit_Check_O u3 u7 u9 u11), b0, .pre p48, .asis, .call [none, none, none, none] [] [0] false (affiantref16_Answer_R (1 : Int) u5 (3 : Int) u1 u14) (affiantref16_Answer_O (1 : Int) u5 (3 : Int) u1 u14), .asis, .call [none, none, none, none, none] [] [] false (affiantkeep_Response_R u9 u14 a3 a4 a5 u16) (affiantkeep_Response_O u9 u14 a3 a4 a5 u16), .asis, .call [none, none, none, none, none] [] [] false (affiantkeep_Response_R u16 u9 a6 a5 a4 u18) (affiantkeep_Response_O u16 u9 a6 a5 a4 u18), .call [none, none, none] [] [] true (admit_Check_R u3 u7 u18 u20) (admit_Check_O u3 u7 u18 u20), b0, .call [none, none, none] [] [2] true (kv_Range_R u1 u3.2.1 u3.2.2.1 u25) (kv_Range_O u1 u3.2.1 u3.2.2.1 u25), b0, .pre p49, .asis, .call [none, none] [] [0] true (affiantbook_Same_Pair_R u18.2.2.1 u25 u61) (affiantbook_Same_Pair_O u18.2.2.1 u25 u61), b0, b0, .call [none] [] [0] false (affiantref1_Inputs_R u1 u66) (affiantref1_Inputs_O u1 u66), b0, b0, b0, .call [none] [] [] false (affiantref1_Proven_R u18.2.2.2.1 u68) (affiantref1_Proven_O u18.2.2.2.1 u68), b0, b0, .asis, .call [none] [] [0] true (affiantref1_Clash_R (u66 ++ u68) u71) (affiantref1_Clash_O (u66 ++ u68) u71), b0, b1, .asis, .call [] [] [] true (affiantlaw17_AdmitRuns_R u74) (affiantlaw17_AdmitRuns_O u74), b1]) (pos := s0) (.c (affiantkeep_Pairs_ok a0 u1 h2) (.c rn (.c (affiantkeep_Query_Query_ok a1 u3 h4) (.c rn (.c (affiantkeep_Query_Query_ok a2 u5 h6) (.c (store_Root_ok u1 u7 h8) (.c (affiantref16_Answer_ok (1 : Int) u3 (3 : Int) u1 u9 h10) (.c (admit_Check_ok u3 u7 u9 u11 h12) (.c h13 (.c (rfl : ([.row Y18c3 u1 false] : List AObj) = [.row Y18c3 u1 false]) (.c (affiantref16_Answer_ok (1 : Int) u5 (3 : Int) u1 u14 h15) (.c rn (.c (affiantkeep_Response_ok u9 u14 a3 a4 a5 u16 h17) (.c rn (.c (affiantkeep_Response_ok u16 u9 a6 a5 a4 u18 h19) (.c (admit_Check_ok u3 u7 u18 u20 h21) (.c h22 (.c (kv_Range_ok u1 u3.2.1 u3.2.2.1 u25 h26) (.c h27 (.c (rfl : ([.row Y18c3 u25 true] : List AObj) = [.row Y18c3 u25 true]) (.c (affiantbook_Same_Pair_ok u18.2.2.1 u25 u61 h62) (.c h63 (.c h63 (.c (affiantref1_Inputs_ok u1 u66 h67) (.c h63 (.c h63 (.c h63 (.c (affiantref1_Proven_ok u18.2.2.2.1 u68 h69) (.c h63 (.c h70 (.c h63 (.c (rfl : ([.row Yb (u66 ++ u68) true] : List AObj) = [.row Yb (u66 ++ u68) true]) (.c (affiantref1_Clash_ok (u66 ++ u68) u71 h72) (.c h63 (.c h73 (.c rn (.c (affiantlaw17_AdmitRuns_ok u74 h75) (.c h73 .n)))))))))))))))))))))))))))))))))))))) (by kernel_rfl)
     ·cases h
end
end Go.Proofs.Ytnckmagemlajeaa.admitBinds
