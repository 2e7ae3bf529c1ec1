/-
  The functions, walked through: each call comes to what the pure text says.
-/
import Derived.Test.YtanhbdkimbljeaaGreatProg
import Derived.Test.YtanhbdkimbljeaaGreatAxC
import Derived.Test.YtanhbdkimbljeaaGreatCLightHonestP
import Derived.Test.YtanhbdkimbljeaaGreatCLightHonestW1
namespace Go.Proofs.YtanhbdkimbljeaaGreat.lightHonest
open Go.Ax Go.Ax.V Go.Proofs.Tryz
set_option maxRecDepth 100000
set_option linter.unusedVariables false
noncomputable section
theorem can10 : J01 prog 10 := ⟨_, func10, by kernel_rfl, by kernel_rfl⟩
def qq_R (a0 : Tedcc) (a1 : Int) (a2 : T65da) (u : Int × T65da) : Slot := (.v (.int .i64) u.1)
def qq_O (a0 : Tedcc) (a1 : Int) (a2 : T65da) (u : Int × T65da) : List AObj := [.box Y65da (.v Y65da u.2) true]
theorem qq_ok (a0 : Tedcc) (a1 : Int) (a2 : T65da) (u : Int × T65da) (h : qq a0 a1 a2 = some u) : CallC prog 10 [(.ptr 0 []), (.v Yedcc a0), (.v (.int .i64) a1)] [.box Y65da (.v Y65da a2) true] (qq_R a0 a1 a2 u) (qq_O a0 a1 a2 u) := by
 unfold qq at h
 obtain ⟨u1, h2, h⟩ := andThen_some h
 rcases fork_some h with ⟨h3, h⟩ | ⟨h3, h⟩
 ·injection h with h; subst h
  exact env.fun func10 can10 (its := [.call [none] [0] [] false (ql_R a2 u1) (ql_O a2 u1), b1]) (pos := s1) (.c (ql_ok a2 u1 h2) (.c h3 .n)) (by kernel_rfl)
 ·obtain ⟨u4, h5, h⟩ := andThen_some h
  rcases fork_some h with ⟨h6, h⟩ | ⟨h6, h⟩
  ·injection h with h; subst h
   exact env.fun func10 can10 (its := [.call [none] [0] [] false (ql_R a2 u1) (ql_O a2 u1), b0, .call [none] [] [] true (q2j_R a0 u4) (q2j_O a0 u4), b1]) (pos := s1) (.c (ql_ok a2 u1 h2) (.c h3 (.c (q2j_ok a0 u4 h5) (.c h6 .n)))) (by kernel_rfl)
  ·rcases fork_some h with ⟨h7, h⟩ | ⟨h7, h⟩
   ·injection h with h; subst h
    exact env.fun func10 can10 (its := [.call [none] [0] [] false (ql_R a2 u1) (ql_O a2 u1), b0, .call [none] [] [] true (q2j_R a0 u4) (q2j_O a0 u4), b0, b1]) (pos := s1) (.c (ql_ok a2 u1 h2) (.c h3 (.c (q2j_ok a0 u4 h5) (.c h6 (.c h7 .n))))) (by kernel_rfl)
   ·rcases fork_some h with ⟨h8, h⟩ | ⟨h8, h⟩
    ·injection h with h; subst h
     exact env.fun func10 can10 (its := [.call [none] [0] [] false (ql_R a2 u1) (ql_O a2 u1), b0, .call [none] [] [] true (q2j_R a0 u4) (q2j_O a0 u4), b0, b0, b1]) (pos := s1) (.c (ql_ok a2 u1 h2) (.c h3 (.c (q2j_ok a0 u4 h5) (.c h6 (.c h7 (.c h8 .n)))))) (by kernel_rfl)
    ·obtain ⟨u9, h10, h⟩ := andThen_some h
     rcases fork_some h with ⟨h11, h⟩ | ⟨h11, h⟩
     ·injection h with h; subst h
      exact env.fun func10 can10 (its := [.call [none] [0] [] false (ql_R a2 u1) (ql_O a2 u1), b0, .call [none] [] [] true (q2j_R a0 u4) (q2j_O a0 u4), b0, b0, b0, .call [none, none] [0] [] false (qj_R a1 a2 u9) (qj_O a1 a2 u9), b1, b1, b1, b1, b1, b1, b1]) (pos := s1) (.c (ql_ok a2 u1 h2) (.c h3 (.c (q2j_ok a0 u4 h5) (.c h6 (.c h7 (.c h8 (.c (qj_ok a1 a2 u9 h10) (.c h11 (.c h11 (.c h11 (.c h11 (.c h11 (.c h11 (.c r1 .n)))))))))))))) (by kernel_rfl)
     ·rcases fork_some h with ⟨h12, h⟩ | ⟨h12, h⟩
      ·injection h with h; subst h
       exact env.fun func10 can10 (its := [.call [none] [0] [] false (ql_R a2 u1) (ql_O a2 u1), b0, .call [none] [] [] true (q2j_R a0 u4) (q2j_O a0 u4), b0, b0, b0, .call [none, none] [0] [] false (qj_R a1 a2 u9) (qj_O a1 a2 u9), b0, b0, b0, b0, b0, b0, b1]) (pos := s1) (.c (ql_ok a2 u1 h2) (.c h3 (.c (q2j_ok a0 u4 h5) (.c h6 (.c h7 (.c h8 (.c (qj_ok a1 a2 u9 h10) (.c h11 (.c h11 (.c h11 (.c h11 (.c h11 (.c h11 (.c h12 .n)))))))))))))) (by kernel_rfl)
      ·rcases fork_some h with ⟨h13, h⟩ | ⟨h13, h⟩
       ·rcases fork_some h with ⟨h14, h⟩ | ⟨h14, h⟩
        ·injection h with h; subst h
         exact env.fun func10 can10 (its := [.call [none] [0] [] false (ql_R a2 u1) (ql_O a2 u1), b0, .call [none] [] [] true (q2j_R a0 u4) (q2j_O a0 u4), b0, b0, b0, .call [none, none] [0] [] false (qj_R a1 a2 u9) (qj_O a1 a2 u9), b0, b0, b0, b0, b0, b0, b0, .pre p48, b1, b1, b1, b1, b1, b1, b1, b1, b1, b1, b1, b1, b1, b1, b1, b1, b1, b1, b1, b1, b1, b1]) (pos := s1) (.c (ql_ok a2 u1 h2) (.c h3 (.c (q2j_ok a0 u4 h5) (.c h6 (.c h7 (.c h8 (.c (qj_ok a1 a2 u9 h10) (.c h11 (.c h11 (.c h11 (.c h11 (.c h11 (.c h11 (.c h12 (.c h13 (.c h13 (.c h13 (.c h13 (.c h13 (.c h13 (.c h13 (.c h14 (.c h14 (.c h14 (.c h14 (.c h14 (.c h14 (.c h14 (.c h14 (.c h14 (.c r1 (.c r1 (.c r1 (.c r1 (.c r1 (.c r1 .n)))))))))))))))))))))))))))))))))))) (by kernel_rfl)
        ·obtain ⟨u15, h16, h⟩ := andThen_some h
         rcases fork_some h with ⟨h17, h⟩ | ⟨h17, h⟩
         ·injection h with h; subst h
          exact env.fun func10 can10 (its := [.call [none] [0] [] false (ql_R a2 u1) (ql_O a2 u1), b0, .call [none] [] [] true (q2j_R a0 u4) (q2j_O a0 u4), b0, b0, b0, .call [none, none] [0] [] false (qj_R a1 a2 u9) (qj_O a1 a2 u9), b0, b0, b0, b0, b0, b0, b0, .pre p48, b1, b1, b1, b1, b1, b1, b1, b0, b0, b0, b0, b0, b0, b0, .asis, .call [none, none, none] [] [] true (q2k_R a0.2.2.1 a0.1 a0.2.1 u15) (q2k_O a0.2.2.1 a0.1 a0.2.1 u15), b0, b0, b1, b1, b1, b1, b1, b1]) (pos := s1) (.c (ql_ok a2 u1 h2) (.c h3 (.c (q2j_ok a0 u4 h5) (.c h6 (.c h7 (.c h8 (.c (qj_ok a1 a2 u9 h10) (.c h11 (.c h11 (.c h11 (.c h11 (.c h11 (.c h11 (.c h12 (.c h13 (.c h13 (.c h13 (.c h13 (.c h13 (.c h13 (.c h13 (.c h14 (.c h14 (.c h14 (.c h14 (.c h14 (.c h14 (.c h14 (.c rn (.c (q2k_ok a0.2.2.1 a0.1 a0.2.1 u15 h16) (.c h14 (.c h14 (.c h17 (.c h17 (.c h17 (.c h17 (.c h17 (.c r1 .n)))))))))))))))))))))))))))))))))))))) (by kernel_rfl)
         ·rcases fork_some h with ⟨h18, h⟩ | ⟨h18, h⟩
          ·obtain ⟨u19, h20, h⟩ := andThen_some h
           rcases fork_some h with ⟨h21, h⟩ | ⟨h21, h⟩
           ·injection h with h; subst h
            exact env.fun func10 can10 (its := [.call [none] [0] [] false (ql_R a2 u1) (ql_O a2 u1), b0, .call [none] [] [] true (q2j_R a0 u4) (q2j_O a0 u4), b0, b0, b0, .call [none, none] [0] [] false (qj_R a1 a2 u9) (qj_O a1 a2 u9), b0, b0, b0, b0, b0, b0, b0, .pre p48, b1, b1, b1, b1, b1, b1, b1, b0, b0, b0, b0, b0, b0, b0, .asis, .call [none, none, none] [] [] true (q2k_R a0.2.2.1 a0.1 a0.2.1 u15) (q2k_O a0.2.2.1 a0.1 a0.2.1 u15), b0, b0, b0, b0, b0, b1, b1, b1, b1, b1, b1, b1, b1, b1, .asis, .call [none, none, none] [] [] true (q33_R a2.2.1 a0.1 a0.2.1 u19) (q33_O a2.2.1 a0.1 a0.2.1 u19), b1, b0, b1, b0, b1]) (pos := s1) (.c (ql_ok a2 u1 h2) (.c h3 (.c (q2j_ok a0 u4 h5) (.c h6 (.c h7 (.c h8 (.c (qj_ok a1 a2 u9 h10) (.c h11 (.c h11 (.c h11 (.c h11 (.c h11 (.c h11 (.c h12 (.c h13 (.c h13 (.c h13 (.c h13 (.c h13 (.c h13 (.c h13 (.c h14 (.c h14 (.c h14 (.c h14 (.c h14 (.c h14 (.c h14 (.c rn (.c (q2k_ok a0.2.2.1 a0.1 a0.2.1 u15 h16) (.c h14 (.c h14 (.c h17 (.c h17 (.c h17 (.c h18 (.c h18 (.c h18 (.c h18 (.c h18 (.c h18 (.c h18 (.c h18 (.c h18 (.c rn (.c (q33_ok a2.2.1 a0.1 a0.2.1 u19 h20) (.c h18 (.c h17 (.c h18 (.c h17 (.c h21 .n))))))))))))))))))))))))))))))))))))))))))))))))))) (by kernel_rfl)
           ·obtain ⟨u22, h23, h⟩ := andThen_some h
            obtain ⟨h24, h⟩ := need_some h
            rcases fork_some h with ⟨h25, h⟩ | ⟨h25, h⟩
            ·obtain ⟨h26, h⟩ := need_some h
             obtain ⟨u27, h28, h⟩ := andThen_some h
             injection h with h; subst h
             exact env.fun func10 can10 (its := [.call [none] [0] [] false (ql_R a2 u1) (ql_O a2 u1), b0, .call [none] [] [] true (q2j_R a0 u4) (q2j_O a0 u4), b0, b0, b0, .call [none, none] [0] [] false (qj_R a1 a2 u9) (qj_O a1 a2 u9), b0, b0, b0, b0, b0, b0, b0, .pre p48, b1, b1, b1, b1, b1, b1, b1, b0, b0, b0, b0, b0, b0, b0, .asis, .call [none, none, none] [] [] true (q2k_R a0.2.2.1 a0.1 a0.2.1 u15) (q2k_O a0.2.2.1 a0.1 a0.2.1 u15), b0, b0, b0, b0, b0, b1, b1, b1, b1, b1, b1, b1, b1, b1, .asis, .call [none, none, none] [] [] true (q33_R a2.2.1 a0.1 a0.2.1 u19) (q33_O a2.2.1 a0.1 a0.2.1 u19), b1, b0, b1, b0, b0, .pre p49, .call [none] [] [] true (qg_R a2.1 u22) (qg_O a2.1 u22), b1, b0, .call [none] [] [] true (q14_R a0.2.2.2.1 u27) (q14_O a0.2.2.2.1 u27)]) (pos := [.J67 0 [], .sel [0]]) (.c (ql_ok a2 u1 h2) (.c h3 (.c (q2j_ok a0 u4 h5) (.c h6 (.c h7 (.c h8 (.c (qj_ok a1 a2 u9 h10) (.c h11 (.c h11 (.c h11 (.c h11 (.c h11 (.c h11 (.c h12 (.c h13 (.c h13 (.c h13 (.c h13 (.c h13 (.c h13 (.c h13 (.c h14 (.c h14 (.c h14 (.c h14 (.c h14 (.c h14 (.c h14 (.c rn (.c (q2k_ok a0.2.2.1 a0.1 a0.2.1 u15 h16) (.c h14 (.c h14 (.c h17 (.c h17 (.c h17 (.c h18 (.c h18 (.c h18 (.c h18 (.c h18 (.c h18 (.c h18 (.c h18 (.c h18 (.c rn (.c (q33_ok a2.2.1 a0.1 a0.2.1 u19 h20) (.c h18 (.c h17 (.c h18 (.c h17 (.c h21 (.c (qg_ok a2.1 u22 h23) (.c h24 (.c h25 (.c h26 (.c (q14_ok a0.2.2.2.1 u27 h28) .n)))))))))))))))))))))))))))))))))))))))))))))))))))))))) (by kernel_rfl)
            ·obtain ⟨u29, h30, h⟩ := andThen_some h
             injection h with h; subst h
             exact env.fun func10 can10 (its := [.call [none] [0] [] false (ql_R a2 u1) (ql_O a2 u1), b0, .call [none] [] [] true (q2j_R a0 u4) (q2j_O a0 u4), b0, b0, b0, .call [none, none] [0] [] false (qj_R a1 a2 u9) (qj_O a1 a2 u9), b0, b0, b0, b0, b0, b0, b0, .pre p48, b1, b1, b1, b1, b1, b1, b1, b0, b0, b0, b0, b0, b0, b0, .asis, .call [none, none, none] [] [] true (q2k_R a0.2.2.1 a0.1 a0.2.1 u15) (q2k_O a0.2.2.1 a0.1 a0.2.1 u15), b0, b0, b0, b0, b0, b1, b1, b1, b1, b1, b1, b1, b1, b1, .asis, .call [none, none, none] [] [] true (q33_R a2.2.1 a0.1 a0.2.1 u19) (q33_O a2.2.1 a0.1 a0.2.1 u19), b1, b0, b1, b0, b0, .pre p49, .call [none] [] [] true (qg_R a2.1 u22) (qg_O a2.1 u22), b0, .call [none] [] [] true (q14_R a0.2.2.2.1 u29) (q14_O a0.2.2.2.1 u29)]) (pos := [.J67 0 [], .sel [0]]) (.c (ql_ok a2 u1 h2) (.c h3 (.c (q2j_ok a0 u4 h5) (.c h6 (.c h7 (.c h8 (.c (qj_ok a1 a2 u9 h10) (.c h11 (.c h11 (.c h11 (.c h11 (.c h11 (.c h11 (.c h12 (.c h13 (.c h13 (.c h13 (.c h13 (.c h13 (.c h13 (.c h13 (.c h14 (.c h14 (.c h14 (.c h14 (.c h14 (.c h14 (.c h14 (.c rn (.c (q2k_ok a0.2.2.1 a0.1 a0.2.1 u15 h16) (.c h14 (.c h14 (.c h17 (.c h17 (.c h17 (.c h18 (.c h18 (.c h18 (.c h18 (.c h18 (.c h18 (.c h18 (.c h18 (.c h18 (.c rn (.c (q33_ok a2.2.1 a0.1 a0.2.1 u19 h20) (.c h18 (.c h17 (.c h18 (.c h17 (.c h21 (.c (qg_ok a2.1 u22 h23) (.c h24 (.c h25 (.c (q14_ok a0.2.2.2.1 u29 h30) .n))))))))))))))))))))))))))))))))))))))))))))))))))))))) (by kernel_rfl)
          ·obtain ⟨u31, h32, h⟩ := andThen_some h
           obtain ⟨h33, h⟩ := need_some h
           rcases fork_some h with ⟨h34, h⟩ | ⟨h34, h⟩
           ·obtain ⟨h35, h⟩ := need_some h
            obtain ⟨u36, h37, h⟩ := andThen_some h
            injection h with h; subst h
            exact env.fun func10 can10 (its := [.call [none] [0] [] false (ql_R a2 u1) (ql_O a2 u1), b0, .call [none] [] [] true (q2j_R a0 u4) (q2j_O a0 u4), b0, b0, b0, .call [none, none] [0] [] false (qj_R a1 a2 u9) (qj_O a1 a2 u9), b0, b0, b0, b0, b0, b0, b0, .pre p48, b1, b1, b1, b1, b1, b1, b1, b0, b0, b0, b0, b0, b0, b0, .asis, .call [none, none, none] [] [] true (q2k_R a0.2.2.1 a0.1 a0.2.1 u15) (q2k_O a0.2.2.1 a0.1 a0.2.1 u15), b0, b0, b0, b0, b0, b0, b0, b0, b0, b0, b0, b0, b0, b0, b0, b0, b0, b0, b0, .pre p49, .call [none] [] [] true (qg_R a2.1 u31) (qg_O a2.1 u31), b1, b0, .call [none] [] [] true (q14_R a0.2.2.2.1 u36) (q14_O a0.2.2.2.1 u36)]) (pos := [.J67 0 [], .sel [0]]) (.c (ql_ok a2 u1 h2) (.c h3 (.c (q2j_ok a0 u4 h5) (.c h6 (.c h7 (.c h8 (.c (qj_ok a1 a2 u9 h10) (.c h11 (.c h11 (.c h11 (.c h11 (.c h11 (.c h11 (.c h12 (.c h13 (.c h13 (.c h13 (.c h13 (.c h13 (.c h13 (.c h13 (.c h14 (.c h14 (.c h14 (.c h14 (.c h14 (.c h14 (.c h14 (.c rn (.c (q2k_ok a0.2.2.1 a0.1 a0.2.1 u15 h16) (.c h14 (.c h14 (.c h17 (.c h17 (.c h17 (.c h18 (.c h18 (.c h18 (.c h18 (.c h18 (.c h18 (.c h18 (.c h18 (.c h18 (.c h18 (.c h17 (.c h18 (.c h17 (.c r0 (.c (qg_ok a2.1 u31 h32) (.c h33 (.c h34 (.c h35 (.c (q14_ok a0.2.2.2.1 u36 h37) .n)))))))))))))))))))))))))))))))))))))))))))))))))))))) (by kernel_rfl)
           ·obtain ⟨u38, h39, h⟩ := andThen_some h
            injection h with h; subst h
            exact env.fun func10 can10 (its := [.call [none] [0] [] false (ql_R a2 u1) (ql_O a2 u1), b0, .call [none] [] [] true (q2j_R a0 u4) (q2j_O a0 u4), b0, b0, b0, .call [none, none] [0] [] false (qj_R a1 a2 u9) (qj_O a1 a2 u9), b0, b0, b0, b0, b0, b0, b0, .pre p48, b1, b1, b1, b1, b1, b1, b1, b0, b0, b0, b0, b0, b0, b0, .asis, .call [none, none, none] [] [] true (q2k_R a0.2.2.1 a0.1 a0.2.1 u15) (q2k_O a0.2.2.1 a0.1 a0.2.1 u15), b0, b0, b0, b0, b0, b0, b0, b0, b0, b0, b0, b0, b0, b0, b0, b0, b0, b0, b0, .pre p49, .call [none] [] [] true (qg_R a2.1 u31) (qg_O a2.1 u31), b0, .call [none] [] [] true (q14_R a0.2.2.2.1 u38) (q14_O a0.2.2.2.1 u38)]) (pos := [.J67 0 [], .sel [0]]) (.c (ql_ok a2 u1 h2) (.c h3 (.c (q2j_ok a0 u4 h5) (.c h6 (.c h7 (.c h8 (.c (qj_ok a1 a2 u9 h10) (.c h11 (.c h11 (.c h11 (.c h11 (.c h11 (.c h11 (.c h12 (.c h13 (.c h13 (.c h13 (.c h13 (.c h13 (.c h13 (.c h13 (.c h14 (.c h14 (.c h14 (.c h14 (.c h14 (.c h14 (.c h14 (.c rn (.c (q2k_ok a0.2.2.1 a0.1 a0.2.1 u15 h16) (.c h14 (.c h14 (.c h17 (.c h17 (.c h17 (.c h18 (.c h18 (.c h18 (.c h18 (.c h18 (.c h18 (.c h18 (.c h18 (.c h18 (.c h18 (.c h17 (.c h18 (.c h17 (.c r0 (.c (qg_ok a2.1 u31 h32) (.c h33 (.c h34 (.c (q14_ok a0.2.2.2.1 u38 h39) .n))))))))))))))))))))))))))))))))))))))))))))))))))))) (by kernel_rfl)
       ·obtain ⟨u40, h41, h⟩ := andThen_some h
        rcases fork_some h with ⟨h42, h⟩ | ⟨h42, h⟩
        ·injection h with h; subst h
         exact env.fun func10 can10 (its := [.call [none] [0] [] false (ql_R a2 u1) (ql_O a2 u1), b0, .call [none] [] [] true (q2j_R a0 u4) (q2j_O a0 u4), b0, b0, b0, .call [none, none] [0] [] false (qj_R a1 a2 u9) (qj_O a1 a2 u9), b0, b0, b0, b0, b0, b0, b0, .pre p48, b0, b0, b0, b0, b0, b0, b0, b0, b0, b0, b0, b0, b0, b0, .asis, .call [none, none, none] [] [] true (q2k_R a0.2.2.1 a0.1 a0.2.1 u40) (q2k_O a0.2.2.1 a0.1 a0.2.1 u40), b0, b0, b1, b1, b1, b1, b1, b1]) (pos := s1) (.c (ql_ok a2 u1 h2) (.c h3 (.c (q2j_ok a0 u4 h5) (.c h6 (.c h7 (.c h8 (.c (qj_ok a1 a2 u9 h10) (.c h11 (.c h11 (.c h11 (.c h11 (.c h11 (.c h11 (.c h12 (.c h13 (.c h13 (.c h13 (.c h13 (.c h13 (.c h13 (.c h13 (.c r0 (.c r0 (.c r0 (.c r0 (.c r0 (.c r0 (.c r0 (.c rn (.c (q2k_ok a0.2.2.1 a0.1 a0.2.1 u40 h41) (.c r0 (.c r0 (.c h42 (.c h42 (.c h42 (.c h42 (.c h42 (.c r1 .n)))))))))))))))))))))))))))))))))))))) (by kernel_rfl)
        ·rcases fork_some h with ⟨h43, h⟩ | ⟨h43, h⟩
         ·obtain ⟨u44, h45, h⟩ := andThen_some h
          rcases fork_some h with ⟨h46, h⟩ | ⟨h46, h⟩
          ·injection h with h; subst h
           exact env.fun func10 can10 (its := [.call [none] [0] [] false (ql_R a2 u1) (ql_O a2 u1), b0, .call [none] [] [] true (q2j_R a0 u4) (q2j_O a0 u4), b0, b0, b0, .call [none, none] [0] [] false (qj_R a1 a2 u9) (qj_O a1 a2 u9), b0, b0, b0, b0, b0, b0, b0, .pre p48, b0, b0, b0, b0, b0, b0, b0, b0, b0, b0, b0, b0, b0, b0, .asis, .call [none, none, none] [] [] true (q2k_R a0.2.2.1 a0.1 a0.2.1 u40) (q2k_O a0.2.2.1 a0.1 a0.2.1 u40), b0, b0, b0, b0, b0, b1, b1, b1, b1, b1, b1, b1, b1, b1, .asis, .call [none, none, none] [] [] true (q33_R a2.2.1 a0.1 a0.2.1 u44) (q33_O a2.2.1 a0.1 a0.2.1 u44), b1, b0, b1, b0, b1]) (pos := s1) (.c (ql_ok a2 u1 h2) (.c h3 (.c (q2j_ok a0 u4 h5) (.c h6 (.c h7 (.c h8 (.c (qj_ok a1 a2 u9 h10) (.c h11 (.c h11 (.c h11 (.c h11 (.c h11 (.c h11 (.c h12 (.c h13 (.c h13 (.c h13 (.c h13 (.c h13 (.c h13 (.c h13 (.c r0 (.c r0 (.c r0 (.c r0 (.c r0 (.c r0 (.c r0 (.c rn (.c (q2k_ok a0.2.2.1 a0.1 a0.2.1 u40 h41) (.c r0 (.c r0 (.c h42 (.c h42 (.c h42 (.c h43 (.c h43 (.c h43 (.c h43 (.c h43 (.c h43 (.c h43 (.c h43 (.c h43 (.c rn (.c (q33_ok a2.2.1 a0.1 a0.2.1 u44 h45) (.c h43 (.c h42 (.c h43 (.c h42 (.c h46 .n))))))))))))))))))))))))))))))))))))))))))))))))))) (by kernel_rfl)
          ·obtain ⟨u47, h48, h⟩ := andThen_some h
           obtain ⟨h49, h⟩ := need_some h
           rcases fork_some h with ⟨h50, h⟩ | ⟨h50, h⟩
           ·obtain ⟨h51, h⟩ := need_some h
            obtain ⟨u52, h53, h⟩ := andThen_some h
            injection h with h; subst h
            exact env.fun func10 can10 (its := [.call [none] [0] [] false (ql_R a2 u1) (ql_O a2 u1), b0, .call [none] [] [] true (q2j_R a0 u4) (q2j_O a0 u4), b0, b0, b0, .call [none, none] [0] [] false (qj_R a1 a2 u9) (qj_O a1 a2 u9), b0, b0, b0, b0, b0, b0, b0, .pre p48, b0, b0, b0, b0, b0, b0, b0, b0, b0, b0, b0, b0, b0, b0, .asis, .call [none, none, none] [] [] true (q2k_R a0.2.2.1 a0.1 a0.2.1 u40) (q2k_O a0.2.2.1 a0.1 a0.2.1 u40), b0, b0, b0, b0, b0, b1, b1, b1, b1, b1, b1, b1, b1, b1, .asis, .call [none, none, none] [] [] true (q33_R a2.2.1 a0.1 a0.2.1 u44) (q33_O a2.2.1 a0.1 a0.2.1 u44), b1, b0, b1, b0, b0, .pre p49, .call [none] [] [] true (qg_R a2.1 u47) (qg_O a2.1 u47), b1, b0, .call [none] [] [] true (q14_R a0.2.2.2.1 u52) (q14_O a0.2.2.2.1 u52)]) (pos := [.J67 0 [], .sel [0]]) (.c (ql_ok a2 u1 h2) (.c h3 (.c (q2j_ok a0 u4 h5) (.c h6 (.c h7 (.c h8 (.c (qj_ok a1 a2 u9 h10) (.c h11 (.c h11 (.c h11 (.c h11 (.c h11 (.c h11 (.c h12 (.c h13 (.c h13 (.c h13 (.c h13 (.c h13 (.c h13 (.c h13 (.c r0 (.c r0 (.c r0 (.c r0 (.c r0 (.c r0 (.c r0 (.c rn (.c (q2k_ok a0.2.2.1 a0.1 a0.2.1 u40 h41) (.c r0 (.c r0 (.c h42 (.c h42 (.c h42 (.c h43 (.c h43 (.c h43 (.c h43 (.c h43 (.c h43 (.c h43 (.c h43 (.c h43 (.c rn (.c (q33_ok a2.2.1 a0.1 a0.2.1 u44 h45) (.c h43 (.c h42 (.c h43 (.c h42 (.c h46 (.c (qg_ok a2.1 u47 h48) (.c h49 (.c h50 (.c h51 (.c (q14_ok a0.2.2.2.1 u52 h53) .n)))))))))))))))))))))))))))))))))))))))))))))))))))))))) (by kernel_rfl)
           ·obtain ⟨u54, h55, h⟩ := andThen_some h
            injection h with h; subst h
            exact env.fun func10 can10 (its := [.call [none] [0] [] false (ql_R a2 u1) (ql_O a2 u1), b0, .call [none] [] [] true (q2j_R a0 u4) (q2j_O a0 u4), b0, b0, b0, .call [none, none] [0] [] false (qj_R a1 a2 u9) (qj_O a1 a2 u9), b0, b0, b0, b0, b0, b0, b0, .pre p48, b0, b0, b0, b0, b0, b0, b0, b0, b0, b0, b0, b0, b0, b0, .asis, .call [none, none, none] [] [] true (q2k_R a0.2.2.1 a0.1 a0.2.1 u40) (q2k_O a0.2.2.1 a0.1 a0.2.1 u40), b0, b0, b0, b0, b0, b1, b1, b1, b1, b1, b1, b1, b1, b1, .asis, .call [none, none, none] [] [] true (q33_R a2.2.1 a0.1 a0.2.1 u44) (q33_O a2.2.1 a0.1 a0.2.1 u44), b1, b0, b1, b0, b0, .pre p49, .call [none] [] [] true (qg_R a2.1 u47) (qg_O a2.1 u47), b0, .call [none] [] [] true (q14_R a0.2.2.2.1 u54) (q14_O a0.2.2.2.1 u54)]) (pos := [.J67 0 [], .sel [0]]) (.c (ql_ok a2 u1 h2) (.c h3 (.c (q2j_ok a0 u4 h5) (.c h6 (.c h7 (.c h8 (.c (qj_ok a1 a2 u9 h10) (.c h11 (.c h11 (.c h11 (.c h11 (.c h11 (.c h11 (.c h12 (.c h13 (.c h13 (.c h13 (.c h13 (.c h13 (.c h13 (.c h13 (.c r0 (.c r0 (.c r0 (.c r0 (.c r0 (.c r0 (.c r0 (.c rn (.c (q2k_ok a0.2.2.1 a0.1 a0.2.1 u40 h41) (.c r0 (.c r0 (.c h42 (.c h42 (.c h42 (.c h43 (.c h43 (.c h43 (.c h43 (.c h43 (.c h43 (.c h43 (.c h43 (.c h43 (.c rn (.c (q33_ok a2.2.1 a0.1 a0.2.1 u44 h45) (.c h43 (.c h42 (.c h43 (.c h42 (.c h46 (.c (qg_ok a2.1 u47 h48) (.c h49 (.c h50 (.c (q14_ok a0.2.2.2.1 u54 h55) .n))))))))))))))))))))))))))))))))))))))))))))))))))))))) (by kernel_rfl)
         ·obtain ⟨u56, h57, h⟩ := andThen_some h
          obtain ⟨h58, h⟩ := need_some h
          rcases fork_some h with ⟨h59, h⟩ | ⟨h59, h⟩
          ·obtain ⟨h60, h⟩ := need_some h
           obtain ⟨u61, h62, h⟩ := andThen_some h
           injection h with h; subst h
           exact env.fun func10 can10 (its := [.call [none] [0] [] false (ql_R a2 u1) (ql_O a2 u1), b0, .call [none] [] [] true (q2j_R a0 u4) (q2j_O a0 u4), b0, b0, b0, .call [none, none] [0] [] false (qj_R a1 a2 u9) (qj_O a1 a2 u9), b0, b0, b0, b0, b0, b0, b0, .pre p48, b0, b0, b0, b0, b0, b0, b0, b0, b0, b0, b0, b0, b0, b0, .asis, .call [none, none, none] [] [] true (q2k_R a0.2.2.1 a0.1 a0.2.1 u40) (q2k_O a0.2.2.1 a0.1 a0.2.1 u40), b0, b0, b0, b0, b0, b0, b0, b0, b0, b0, b0, b0, b0, b0, b0, b0, b0, b0, b0, .pre p49, .call [none] [] [] true (qg_R a2.1 u56) (qg_O a2.1 u56), b1, b0, .call [none] [] [] true (q14_R a0.2.2.2.1 u61) (q14_O a0.2.2.2.1 u61)]) (pos := [.J67 0 [], .sel [0]]) (.c (ql_ok a2 u1 h2) (.c h3 (.c (q2j_ok a0 u4 h5) (.c h6 (.c h7 (.c h8 (.c (qj_ok a1 a2 u9 h10) (.c h11 (.c h11 (.c h11 (.c h11 (.c h11 (.c h11 (.c h12 (.c h13 (.c h13 (.c h13 (.c h13 (.c h13 (.c h13 (.c h13 (.c r0 (.c r0 (.c r0 (.c r0 (.c r0 (.c r0 (.c r0 (.c rn (.c (q2k_ok a0.2.2.1 a0.1 a0.2.1 u40 h41) (.c r0 (.c r0 (.c h42 (.c h42 (.c h42 (.c h43 (.c h43 (.c h43 (.c h43 (.c h43 (.c h43 (.c h43 (.c h43 (.c h43 (.c h43 (.c h42 (.c h43 (.c h42 (.c r0 (.c (qg_ok a2.1 u56 h57) (.c h58 (.c h59 (.c h60 (.c (q14_ok a0.2.2.2.1 u61 h62) .n)))))))))))))))))))))))))))))))))))))))))))))))))))))) (by kernel_rfl)
          ·obtain ⟨u63, h64, h⟩ := andThen_some h
           injection h with h; subst h
           exact env.fun func10 can10 (its := [.call [none] [0] [] false (ql_R a2 u1) (ql_O a2 u1), b0, .call [none] [] [] true (q2j_R a0 u4) (q2j_O a0 u4), b0, b0, b0, .call [none, none] [0] [] false (qj_R a1 a2 u9) (qj_O a1 a2 u9), b0, b0, b0, b0, b0, b0, b0, .pre p48, b0, b0, b0, b0, b0, b0, b0, b0, b0, b0, b0, b0, b0, b0, .asis, .call [none, none, none] [] [] true (q2k_R a0.2.2.1 a0.1 a0.2.1 u40) (q2k_O a0.2.2.1 a0.1 a0.2.1 u40), b0, b0, b0, b0, b0, b0, b0, b0, b0, b0, b0, b0, b0, b0, b0, b0, b0, b0, b0, .pre p49, .call [none] [] [] true (qg_R a2.1 u56) (qg_O a2.1 u56), b0, .call [none] [] [] true (q14_R a0.2.2.2.1 u63) (q14_O a0.2.2.2.1 u63)]) (pos := [.J67 0 [], .sel [0]]) (.c (ql_ok a2 u1 h2) (.c h3 (.c (q2j_ok a0 u4 h5) (.c h6 (.c h7 (.c h8 (.c (qj_ok a1 a2 u9 h10) (.c h11 (.c h11 (.c h11 (.c h11 (.c h11 (.c h11 (.c h12 (.c h13 (.c h13 (.c h13 (.c h13 (.c h13 (.c h13 (.c h13 (.c r0 (.c r0 (.c r0 (.c r0 (.c r0 (.c r0 (.c r0 (.c rn (.c (q2k_ok a0.2.2.1 a0.1 a0.2.1 u40 h41) (.c r0 (.c r0 (.c h42 (.c h42 (.c h42 (.c h43 (.c h43 (.c h43 (.c h43 (.c h43 (.c h43 (.c h43 (.c h43 (.c h43 (.c h43 (.c h42 (.c h43 (.c h42 (.c r0 (.c (qg_ok a2.1 u56 h57) (.c h58 (.c h59 (.c (q14_ok a0.2.2.2.1 u63 h64) .n))))))))))))))))))))))))))))))))))))))))))))))))))))) (by kernel_rfl)
theorem can12 : J01 prog 12 := ⟨_, func12, by kernel_rfl, by kernel_rfl⟩
def qw_1_in (x0 : Int) (x1 : List (Tf0bc)) (x2 : Int) (x3 : Int) (x4 : T65da) (x5 : B8) : St := ⟨[(1, (.v (.int .i64) x0)), (4, (.ptr 1 [])), (11, (.v (.slice Yf0bc) x1)), (12, (.v (.int .i64) x2)), (13, (.v (.int .i64) x3))], [.box Y65da (.v Y65da x4) true, .box Yh (.v Yh x5) true], 25, 1⟩
def qw_1_ex (o : (Bool × (T65da) × B8) ⊕ ((T65da) × B8)) : Exit := match o with | (.inl o) => .ret | (.inr o) => (.exit 0)
def qw_1_st (o : (Bool × (T65da) × B8) ⊕ ((T65da) × B8)) : St := match o with | (.inl o) => ⟨[(4, (.ptr 1 [])), (5, (.v .bool o.1))], [.box Y65da (.v Y65da o.2.1) true, .box Yh (.v Yh o.2.2) true], 25, 1⟩ | (.inr o) => ⟨[(4, (.ptr 1 []))], [.box Y65da (.v Y65da o.1) true, .box Yh (.v Yh o.2) true], 25, 1⟩
theorem qw_1_body (x0 : Int) (x1 : List (Tf0bc)) (x2 : Int) (x3 : Int) (x4 : T65da) (x5 : B8) : ∀ r, qw_1_step x0 x1 x2 x3 x4 x5 = some r → (match r with | .inl s => J03 prog (J0w (bodyOf f12) [1, 0, 1, 0, 0]) (qw_1_in x0 x1 x2 x3 x4 x5) .normal (qw_1_in x0 x1 x2 s x4 x5) | .inr o => qw_1_ex o ≠ .normal ∧ J03 prog (J0w (bodyOf f12) [1, 0, 1, 0, 0]) (qw_1_in x0 x1 x2 x3 x4 x5) (qw_1_ex o) (qw_1_st o)) := by
 intro r h
 unfold qw_1_step at h
 rcases fork_some h with ⟨h2, h⟩ | ⟨h2, h⟩
 ·obtain ⟨h3, h⟩ := need_some h
  rcases fork_some h with ⟨h4, h⟩ | ⟨h4, h⟩
  ·injection h with h; subst h
   exact ⟨by intro e; simp [qw_1_ex] at e, env.code (its := [b1, b1, .sel [4, 5] [0, 1]]) (.c h2 (.c h3 (.c h4 .n))) (by kernel_rfl)⟩
  ·injection h with h; subst h
   exact env.code (its := [b1, b0, .sel [1, 4, 11, 12, 13] [0, 1]]) (.c h2 (.c h3 (.c h4 .n))) (by kernel_rfl)
 ·injection h with h; subst h
  exact ⟨by intro e; simp [qw_1_ex] at e, env.code (its := [b0, .sel [4] [0, 1]]) (.c h2 .n) (by kernel_rfl)⟩
theorem qw_1_ok (x0 : Int) (x1 : List (Tf0bc)) (x2 : Int) (x3 : Int) (x4 : T65da) (x5 : B8) (o : (Bool × (T65da) × B8) ⊕ ((T65da) × B8)) (h : qw_1 x0 x1 x2 x3 x4 x5 = some o) : J03 prog (J0w (bodyOf f12) [1, 0, 1, 0]) (qw_1_in x0 x1 x2 x3 x4 x5) (qw_1_ex o) (qw_1_st o) :=
 J06.of_step (st := fun s => qw_1_in x0 x1 x2 s x4 x5) (ex := qw_1_ex) (stO := qw_1_st) (fun s s2 hs => qw_1_body x0 x1 x2 s x4 x5 (.inl s2) hs) (fun s r hs => qw_1_body x0 x1 x2 s x4 x5 (.inr r) hs) _ o h
def qw_R (a0 : Int) (a1 : T65da) (u : B8 × Bool × T65da) : Slot := (.tup (.v Yh u.1) (.tup (.v .bool u.2.1) .tnil))
def qw_O (a0 : Int) (a1 : T65da) (u : B8 × Bool × T65da) : List AObj := [.box Y65da (.v Y65da u.2.2) true]
theorem qw_ok (a0 : Int) (a1 : T65da) (u : B8 × Bool × T65da) (h : qw a0 a1 = some u) : CallC prog 12 [(.ptr 0 []), (.v (.int .i64) a0)] [.box Y65da (.v Y65da a1) true] (qw_R a0 a1 u) (qw_O a0 a1 u) := by
 unfold qw at h
 obtain ⟨o5, h6, h⟩ := andThen_some h
 rcases o5 with o7 | o8
 ·injection h with h; subst h
  exact env.fun func12 can12 (its := [.dive, .sel [1, 4, 11, 12, 13] [0, 1], .part (qw_1_ex (.inl o7)) (qw_1_st (.inl o7))]) (pos := s1) (.c (qw_1_ok a0 a1.1 (List.length a1.1 : Int) (0 : Int) a1 Z32 (.inl o7) h6) .n) (by kernel_rfl)
 ·injection h with h; subst h
  exact env.fun func12 can12 (its := [.dive, .sel [1, 4, 11, 12, 13] [0, 1], .part (qw_1_ex (.inr o8)) (qw_1_st (.inr o8))]) (pos := s1) (.c (qw_1_ok a0 a1.1 (List.length a1.1 : Int) (0 : Int) a1 Z32 (.inr o8) h6) .n) (by kernel_rfl)
theorem can13 : J01 prog 13 := ⟨_, func13, by kernel_rfl, by kernel_rfl⟩
def qx_R (a0 : T65da) (u : (Int × Bool × Unit) × (List (Tf0bc)) × List (T484d)) : Slot := (.ptr 1 [])
def qx_O (a0 : T65da) (u : (Int × Bool × Unit) × (List (Tf0bc)) × List (T484d)) : List AObj := [.box Y65da (.v Y65da a0) true, .box Y65da (.node (.own 2 []) (.node (.own 3 []) (.v (.fld (.int .i64) (.fld .bool .unit)) u.1))) true, .row Yf0bc u.2.1 true, .row Y484d u.2.2 true]
theorem qx_ok (a0 : T65da) (u : (Int × Bool × Unit) × (List (Tf0bc)) × List (T484d)) (h : qx a0 = some u) : CallC prog 13 [(.ptr 0 [])] [.box Y65da (.v Y65da a0) true] (qx_R a0 u) (qx_O a0 u) := by
 unfold qx at h
 obtain ⟨u1, h2, h⟩ := andThen_some h
 obtain ⟨u3, h4, h⟩ := andThen_some h
 injection h with h; subst h
 exact env.fun func13 can13 (its := [.pre p50, .call [none] [] [] true (qg_R a0.1 u1) (qg_O a0.1 u1), .call [none] [] [] true (q14_R a0.2.1 u3) (q14_O a0.2.1 u3)]) (pos := [.sel [0, 1, 2, 3]]) (.c (qg_ok a0.1 u1 h2) (.c (q14_ok a0.2.1 u3 h4) .n)) (by kernel_rfl)
theorem can15 : J01 prog 15 := ⟨_, func15, by kernel_rfl, by kernel_rfl⟩
def qs_R (a0 : Int × Bool × Unit) (a1 : List (Tf0bc)) (a2 : List (T484d)) (u : List (Tf0bc)) : Slot := (.own 3 [])
def qs_O (a0 : Int × Bool × Unit) (a1 : List (Tf0bc)) (a2 : List (T484d)) (u : List (Tf0bc)) : List AObj := [.box Y65da (.node (.own 1 []) (.node (.own 2 []) (.v (.fld (.int .i64) (.fld .bool .unit)) a0))) true, .row Yf0bc a1 true, .row Y484d a2 true, .row Yf0bc u true]
theorem qs_ok (a0 : Int × Bool × Unit) (a1 : List (Tf0bc)) (a2 : List (T484d)) (u : List (Tf0bc)) (h : qs a0 a1 a2 = some u) : CallC prog 15 [(.ptr 0 [])] [.box Y65da (.node (.own 1 []) (.node (.own 2 []) (.v (.fld (.int .i64) (.fld .bool .unit)) a0))) true, .row Yf0bc a1 true, .row Y484d a2 true] (qs_R a0 a1 a2 u) (qs_O a0 a1 a2 u) := by
 unfold qs at h
 obtain ⟨u1, h2, h⟩ := andThen_some h
 injection h with h; subst h
 exact env.fun func15 can15 (its := [.call [none] [] [1] true (qg_R a1 u1) (qg_O a1 u1)]) (pos := [.sel [0, 1, 2, 3]]) (.c (qg_ok a1 u1 h2) .n) (by kernel_rfl)
def qt_R (a0 : T65da) (u : List (Tf0bc)) : Slot := (.own 1 [])
def qt_O (a0 : T65da) (u : List (Tf0bc)) : List AObj := [.box Y65da (.v Y65da a0) true, .row Yf0bc u true]
theorem qt_ok (a0 : T65da) (u : List (Tf0bc)) (h : qt a0 = some u) : CallC prog 15 [(.ptr 0 [])] [.box Y65da (.v Y65da a0) true] (qt_R a0 u) (qt_O a0 u) := by
 unfold qt at h
 obtain ⟨u1, h2, h⟩ := andThen_some h
 injection h with h; subst h
 exact env.fun func15 can15 (its := [.call [none] [] [] true (qg_R a0.1 u1) (qg_O a0.1 u1)]) (pos := [.sel [0, 1]]) (.c (qg_ok a0.1 u1 h2) .n) (by kernel_rfl)
theorem can14 : J01 prog 14 := ⟨_, func14, by kernel_rfl, by kernel_rfl⟩
def qu_1_in (x0 : List (Tf0bc)) (x1 : List (Tf0bc)) (x2 : Int) : St := ⟨[(0, (.v (.slice Yf0bc) x0)), (1, (.v (.slice Yf0bc) x1)), (5, (.v (.int .i64) x2))], [], 26, 0⟩
def qu_1_ex (o : (Bool) ⊕ (Unit)) : Exit := match o with | (.inl o) => .ret | (.inr o) => (.exit 0)
def qu_1_st (o : (Bool) ⊕ (Unit)) : St := match o with | (.inl o) => ⟨[(4, (.v .bool o))], [], 26, 0⟩ | (.inr o) => ⟨[], [], 26, 0⟩
theorem qu_1_body (x0 : List (Tf0bc)) (x1 : List (Tf0bc)) (x2 : Int) : ∀ r, qu_1_step x0 x1 x2 = some r → (match r with | .inl s => J03 prog (J0w (bodyOf f14) [1, 1, 0, 1, 0, 0]) (qu_1_in x0 x1 x2) .normal (qu_1_in x0 x1 s) | .inr o => qu_1_ex o ≠ .normal ∧ J03 prog (J0w (bodyOf f14) [1, 1, 0, 1, 0, 0]) (qu_1_in x0 x1 x2) (qu_1_ex o) (qu_1_st o)) := by
 intro r h
 unfold qu_1_step at h
 rcases fork_some h with ⟨h3, h⟩ | ⟨h3, h⟩
 ·obtain ⟨h4, h⟩ := need_some h
  obtain ⟨h5, h⟩ := need_some h
  rcases fork_some h with ⟨h6, h⟩ | ⟨h6, h⟩
  ·injection h with h; subst h
   exact ⟨by intro e; simp [qu_1_ex] at e, env.code (its := [b1, .pre p51, b1, .sel [4] []]) (.c h3 (.c h4 (.c h5 (.c h6 .n)))) (by kernel_rfl)⟩
  ·injection h with h; subst h
   exact env.code (its := [b1, .pre p51, b0, .sel [0, 1, 5] []]) (.c h3 (.c h4 (.c h5 (.c h6 .n)))) (by kernel_rfl)
 ·injection h with h; subst h
  exact ⟨by intro e; simp [qu_1_ex] at e, env.code (its := [b0, .sel [] []]) (.c h3 .n) (by kernel_rfl)⟩
theorem qu_1_ok (x0 : List (Tf0bc)) (x1 : List (Tf0bc)) (x2 : Int) (o : (Bool) ⊕ (Unit)) (h : qu_1 x0 x1 x2 = some o) : J03 prog (J0w (bodyOf f14) [1, 1, 0, 1, 0]) (qu_1_in x0 x1 x2) (qu_1_ex o) (qu_1_st o) :=
 J06.of_step (st := fun s => qu_1_in x0 x1 s) (ex := qu_1_ex) (stO := qu_1_st) (fun s s2 hs => qu_1_body x0 x1 s (.inl s2) hs) (fun s r hs => qu_1_body x0 x1 s (.inr r) hs) _ o h
def qu_R (a0 : List (Tf0bc)) (a1 : List (Tf0bc)) (u : Bool) : Slot := (.v .bool u)
def qu_O (a0 : List (Tf0bc)) (a1 : List (Tf0bc)) (u : Bool) : List AObj := []
theorem qu_ok (a0 : List (Tf0bc)) (a1 : List (Tf0bc)) (u : Bool) (h : qu a0 a1 = some u) : CallC prog 14 [(.v (.slice Yf0bc) a0), (.v (.slice Yf0bc) a1)] [] (qu_R a0 a1 u) (qu_O a0 a1 u) := by
 unfold qu at h
 rcases fork_some h with ⟨h1, h⟩ | ⟨h1, h⟩
 ·injection h with h; subst h
  exact env.fun func14 can14 (its := [b1]) (pos := s0) (.c h1 .n) (by kernel_rfl)
 ·obtain ⟨o7, h8, h⟩ := andThen_some h
  rcases o7 with o9 | o10
  ·injection h with h; subst h
   exact env.fun func14 can14 (its := [b0, .dive, .sel [0, 1, 5] [], .part (qu_1_ex (.inl o9)) (qu_1_st (.inl o9))]) (pos := s0) (.c h1 (.c (qu_1_ok a0 a1 (0 : Int) (.inl o9) h8) .n)) (by kernel_rfl)
  ·injection h with h; subst h
   exact env.fun func14 can14 (its := [b0, .dive, .sel [0, 1, 5] [], .part (qu_1_ex (.inr o10)) (qu_1_st (.inr o10))]) (pos := s0) (.c h1 (.c (qu_1_ok a0 a1 (0 : Int) (.inr o10) h8) .n)) (by kernel_rfl)
theorem can16 : J01 prog 16 := ⟨_, func16, by kernel_rfl, by kernel_rfl⟩
def qm_R (a0 : T65da) (u : Bool) : Slot := (.v .bool u)
def qm_O (a0 : T65da) (u : Bool) : List AObj := [.box Y65da (.v Y65da a0) true]
theorem qm_ok (a0 : T65da) (u : Bool) (h : qm a0 = some u) : CallC prog 16 [(.ptr 0 [])] [.box Y65da (.v Y65da a0) true] (qm_R a0 u) (qm_O a0 u) := by
 unfold qm at h
 injection h with h; subst h
 exact env.fun func16 can16 (its := []) (pos := s1) .n (by kernel_rfl)
def qc_1_in (x0 : Int) (x1 : Int) (x2 : Int) (x3 : List (Tedcc)) (x4 : List (List (T18c3))) (x5 : Unit) (x6 : List (B8)) (x7 : List (List (B8))) (x8 : List (B8)) (x9 : List (T484d)) (x10 : Tf0bc) (x11 : List (T484d)) (x12 : Unit) (x13 : List (T8f72)) (x14 : List (T484d)) (x15 : B8) : St := ⟨[(0, (.ptr 0 [])), (5, (.v (.int .i64) x0)), (6, (.ptr 5 [])), (7, (.ptr 8 [])), (103, (.own 1 [])), (104, (.v (.int .i64) x1)), (105, (.v (.int .i64) x2))], [.box Y6488 (.node (.own 1 []) (.node (.own 2 []) (.node (.own 3 []) (.node .nil (.node (.own 4 []) (.node (.v (.slice Yedcc) x3) (.node (.v (.slice (.slice Y18c3)) x4) (.v .unit x5)))))))) true, .row Yh x6 true, .row Ybb x7 true, .row .str x8 true, .row Y484d x9 true, .box Yedcc (.node (.v Yf0bc x10) (.node (.own 6 []) (.node (.v (.slice Y484d) x11) (.node (.own 7 []) (.v .unit x12))))) true, .row Y8f72 x13 true, .row Y484d x14 true, .box Yh (.v Yh x15) false], 165, 5⟩
def qc_1_ex (o : Int × (List (Tedcc)) × (List (List (T18c3))) × Unit × List (B8) × List (List (B8)) × List (B8) × (List (T484d)) × (Tf0bc) × (List (T484d)) × Unit × (List (T8f72)) × List (T484d)) : Exit := (.exit 0)
def qc_1_st (o : Int × (List (Tedcc)) × (List (List (T18c3))) × Unit × List (B8) × List (List (B8)) × List (B8) × (List (T484d)) × (Tf0bc) × (List (T484d)) × Unit × (List (T8f72)) × List (T484d)) : St := ⟨[(0, (.ptr 0 [])), (5, (.v (.int .i64) o.1)), (6, (.ptr 5 []))], [.box Y6488 (.node (.own 1 []) (.node (.own 2 []) (.node (.own 3 []) (.node .nil (.node (.own 4 []) (.node (.v (.slice Yedcc) o.2.1) (.node (.v (.slice (.slice Y18c3)) o.2.2.1) (.v .unit o.2.2.2.1)))))))) true, .row Yh o.2.2.2.2.1 true, .row Ybb o.2.2.2.2.2.1 true, .row .str o.2.2.2.2.2.2.1 true, .row Y484d o.2.2.2.2.2.2.2.1 true, .box Yedcc (.node (.v Yf0bc o.2.2.2.2.2.2.2.2.1) (.node (.own 6 []) (.node (.v (.slice Y484d) o.2.2.2.2.2.2.2.2.2.1) (.node (.own 7 []) (.v .unit o.2.2.2.2.2.2.2.2.2.2.1))))) true, .row Y8f72 o.2.2.2.2.2.2.2.2.2.2.2.1 true, .row Y484d o.2.2.2.2.2.2.2.2.2.2.2.2 true], 165, 5⟩
theorem qc_1_body (x0 : Int) (x1 : Int) (x2 : Int) (x3 : List (Tedcc)) (x4 : List (List (T18c3))) (x5 : Unit) (x6 : List (B8)) (x7 : List (List (B8))) (x8 : List (B8)) (x9 : List (T484d)) (x10 : Tf0bc) (x11 : List (T484d)) (x12 : Unit) (x13 : List (T8f72)) (x14 : List (T484d)) (x15 : B8) : ∀ r, qc_1_step x0 x1 x2 x3 x4 x5 x6 x7 x8 x9 x10 x11 x12 x13 x14 x15 = some r → (match r with | .inl s => J03 prog (J0w (bodyOf f7) [1, 1, 1, 1, 1, 1, 1, 1, 1, 0, 1, 0, 0]) (qc_1_in x0 x1 x2 x3 x4 x5 x6 x7 x8 x9 x10 x11 x12 x13 x14 x15) .normal (qc_1_in x0 x1 s.1 x3 x4 x5 x6 x7 x8 x9 x10 x11 x12 s.2 x14 x15) | .inr o => qc_1_ex o ≠ .normal ∧ J03 prog (J0w (bodyOf f7) [1, 1, 1, 1, 1, 1, 1, 1, 1, 0, 1, 0, 0]) (qc_1_in x0 x1 x2 x3 x4 x5 x6 x7 x8 x9 x10 x11 x12 x13 x14 x15) (qc_1_ex o) (qc_1_st o)) := by
 intro r h
 unfold qc_1_step at h
 rcases fork_some h with ⟨h19, h⟩ | ⟨h19, h⟩
 ·obtain ⟨h20, h⟩ := need_some h
  obtain ⟨h21, h⟩ := need_some h
  obtain ⟨h22, h⟩ := need_some h
  obtain ⟨u23, h24, h⟩ := andThen_some h
  obtain ⟨h25, h⟩ := need_some h
  injection h with h; subst h
  exact env.code (its := [b1, .pre p28, b0, .asis, .call [none, none, none, none] [] [] false (q2e_R (List.getD x7 (Int.toNat x2) ([] : List (B8))) (List.getD x6 (Int.toNat x2) Z32) (w64 (x0 + (1 : Int))) x15 u23) (q2e_O (List.getD x7 (Int.toNat x2) ([] : List (B8))) (List.getD x6 (Int.toNat x2) Z32) (w64 (x0 + (1 : Int))) x15 u23), .asis, .sel [0, 5, 6, 7, 103, 104, 105] [0, 1, 2, 3, 4, 5, 11, 7, 8]]) (.c h19 (.c h20 (.c h21 (.c h22 (.c rn (.c (q2e_ok (List.getD x7 (Int.toNat x2) ([] : List (B8))) (List.getD x6 (Int.toNat x2) Z32) (w64 (x0 + (1 : Int))) x15 u23 h24) (.c h25 .n))))))) (by kernel_rfl)
 ·injection h with h; subst h
  exact ⟨by intro e; simp [qc_1_ex] at e, env.code (its := [b0, .sel [0, 5, 6] [0, 1, 2, 3, 4, 5, 6, 7]]) (.c h19 .n) (by kernel_rfl)⟩
theorem qc_1_ok (x0 : Int) (x1 : Int) (x2 : Int) (x3 : List (Tedcc)) (x4 : List (List (T18c3))) (x5 : Unit) (x6 : List (B8)) (x7 : List (List (B8))) (x8 : List (B8)) (x9 : List (T484d)) (x10 : Tf0bc) (x11 : List (T484d)) (x12 : Unit) (x13 : List (T8f72)) (x14 : List (T484d)) (x15 : B8) (o : Int × (List (Tedcc)) × (List (List (T18c3))) × Unit × List (B8) × List (List (B8)) × List (B8) × (List (T484d)) × (Tf0bc) × (List (T484d)) × Unit × (List (T8f72)) × List (T484d)) (h : qc_1 x0 x1 x2 x3 x4 x5 x6 x7 x8 x9 x10 x11 x12 x13 x14 x15 = some o) : J03 prog (J0w (bodyOf f7) [1, 1, 1, 1, 1, 1, 1, 1, 1, 0, 1, 0]) (qc_1_in x0 x1 x2 x3 x4 x5 x6 x7 x8 x9 x10 x11 x12 x13 x14 x15) (qc_1_ex o) (qc_1_st o) :=
 J06.of_step (st := fun s => qc_1_in x0 x1 s.1 x3 x4 x5 x6 x7 x8 x9 x10 x11 x12 s.2 x14 x15) (ex := qc_1_ex) (stO := qc_1_st) (fun s s2 hs => qc_1_body x0 x1 s.1 x3 x4 x5 x6 x7 x8 x9 x10 x11 x12 s.2 x14 x15 (.inl s2) hs) (fun s r hs => qc_1_body x0 x1 s.1 x3 x4 x5 x6 x7 x8 x9 x10 x11 x12 s.2 x14 x15 (.inr r) hs) _ o h
def qc_2_in (x0 : Int) (x1 : Int) (x2 : Int) (x3 : List (Tedcc)) (x4 : List (List (T18c3))) (x5 : Unit) (x6 : List (B8)) (x7 : List (List (B8))) (x8 : List (B8)) (x9 : List (T484d)) (x10 : Tf0bc) (x11 : Unit) (x12 : List (T8f72)) (x13 : List (T484d)) (x14 : B8) : St := ⟨[(0, (.ptr 0 [])), (5, (.v (.int .i64) x0)), (6, (.ptr 5 [])), (7, (.ptr 8 [])), (103, (.own 1 [])), (104, (.v (.int .i64) x1)), (105, (.v (.int .i64) x2))], [.box Y6488 (.node (.own 1 []) (.node (.own 2 []) (.node (.own 3 []) (.node .nil (.node (.own 4 []) (.node (.v (.slice Yedcc) x3) (.node (.v (.slice (.slice Y18c3)) x4) (.v .unit x5)))))))) true, .row Yh x6 true, .row Ybb x7 true, .row .str x8 true, .row Y484d x9 true, .box Yedcc (.node (.v Yf0bc x10) (.node (.own 6 []) (.node (.own 7 []) (.node (.own 7 []) (.v .unit x11))))) true, .row Y8f72 x12 true, .row Y484d x13 true, .box Yh (.v Yh x14) false], 165, 5⟩
def qc_2_ex (o : Int × (List (Tedcc)) × (List (List (T18c3))) × Unit × List (B8) × List (List (B8)) × List (B8) × (List (T484d)) × (Tf0bc) × Unit × (List (T8f72)) × List (T484d)) : Exit := (.exit 0)
def qc_2_st (o : Int × (List (Tedcc)) × (List (List (T18c3))) × Unit × List (B8) × List (List (B8)) × List (B8) × (List (T484d)) × (Tf0bc) × Unit × (List (T8f72)) × List (T484d)) : St := ⟨[(0, (.ptr 0 [])), (5, (.v (.int .i64) o.1)), (6, (.ptr 5 []))], [.box Y6488 (.node (.own 1 []) (.node (.own 2 []) (.node (.own 3 []) (.node .nil (.node (.own 4 []) (.node (.v (.slice Yedcc) o.2.1) (.node (.v (.slice (.slice Y18c3)) o.2.2.1) (.v .unit o.2.2.2.1)))))))) true, .row Yh o.2.2.2.2.1 true, .row Ybb o.2.2.2.2.2.1 true, .row .str o.2.2.2.2.2.2.1 true, .row Y484d o.2.2.2.2.2.2.2.1 true, .box Yedcc (.node (.v Yf0bc o.2.2.2.2.2.2.2.2.1) (.node (.own 6 []) (.node (.own 7 []) (.node (.own 7 []) (.v .unit o.2.2.2.2.2.2.2.2.2.1))))) true, .row Y8f72 o.2.2.2.2.2.2.2.2.2.2.1 true, .row Y484d o.2.2.2.2.2.2.2.2.2.2.2 true], 165, 5⟩
theorem qc_2_body (x0 : Int) (x1 : Int) (x2 : Int) (x3 : List (Tedcc)) (x4 : List (List (T18c3))) (x5 : Unit) (x6 : List (B8)) (x7 : List (List (B8))) (x8 : List (B8)) (x9 : List (T484d)) (x10 : Tf0bc) (x11 : Unit) (x12 : List (T8f72)) (x13 : List (T484d)) (x14 : B8) : ∀ r, qc_2_step x0 x1 x2 x3 x4 x5 x6 x7 x8 x9 x10 x11 x12 x13 x14 = some r → (match r with | .inl s => J03 prog (J0w (bodyOf f7) [1, 1, 1, 1, 1, 1, 1, 1, 1, 0, 1, 0, 0]) (qc_2_in x0 x1 x2 x3 x4 x5 x6 x7 x8 x9 x10 x11 x12 x13 x14) .normal (qc_2_in x0 x1 s.1 x3 x4 x5 x6 x7 x8 x9 x10 x11 s.2 x13 x14) | .inr o => qc_2_ex o ≠ .normal ∧ J03 prog (J0w (bodyOf f7) [1, 1, 1, 1, 1, 1, 1, 1, 1, 0, 1, 0, 0]) (qc_2_in x0 x1 x2 x3 x4 x5 x6 x7 x8 x9 x10 x11 x12 x13 x14) (qc_2_ex o) (qc_2_st o)) := by
 intro r h
 unfold qc_2_step at h
 rcases fork_some h with ⟨h42, h⟩ | ⟨h42, h⟩
 ·obtain ⟨h43, h⟩ := need_some h
  obtain ⟨h44, h⟩ := need_some h
  obtain ⟨h45, h⟩ := need_some h
  obtain ⟨u46, h47, h⟩ := andThen_some h
  obtain ⟨h48, h⟩ := need_some h
  injection h with h; subst h
  exact env.code (its := [b1, .pre p28, b0, .asis, .call [none, none, none, none] [] [] false (q2e_R (List.getD x7 (Int.toNat x2) ([] : List (B8))) (List.getD x6 (Int.toNat x2) Z32) (w64 (x0 + (1 : Int))) x14 u46) (q2e_O (List.getD x7 (Int.toNat x2) ([] : List (B8))) (List.getD x6 (Int.toNat x2) Z32) (w64 (x0 + (1 : Int))) x14 u46), .asis, .sel [0, 5, 6, 7, 103, 104, 105] [0, 1, 2, 3, 4, 5, 11, 7, 8]]) (.c h42 (.c h43 (.c h44 (.c h45 (.c rn (.c (q2e_ok (List.getD x7 (Int.toNat x2) ([] : List (B8))) (List.getD x6 (Int.toNat x2) Z32) (w64 (x0 + (1 : Int))) x14 u46 h47) (.c h48 .n))))))) (by kernel_rfl)
 ·injection h with h; subst h
  exact ⟨by intro e; simp [qc_2_ex] at e, env.code (its := [b0, .sel [0, 5, 6] [0, 1, 2, 3, 4, 5, 6, 7]]) (.c h42 .n) (by kernel_rfl)⟩
theorem qc_2_ok (x0 : Int) (x1 : Int) (x2 : Int) (x3 : List (Tedcc)) (x4 : List (List (T18c3))) (x5 : Unit) (x6 : List (B8)) (x7 : List (List (B8))) (x8 : List (B8)) (x9 : List (T484d)) (x10 : Tf0bc) (x11 : Unit) (x12 : List (T8f72)) (x13 : List (T484d)) (x14 : B8) (o : Int × (List (Tedcc)) × (List (List (T18c3))) × Unit × List (B8) × List (List (B8)) × List (B8) × (List (T484d)) × (Tf0bc) × Unit × (List (T8f72)) × List (T484d)) (h : qc_2 x0 x1 x2 x3 x4 x5 x6 x7 x8 x9 x10 x11 x12 x13 x14 = some o) : J03 prog (J0w (bodyOf f7) [1, 1, 1, 1, 1, 1, 1, 1, 1, 0, 1, 0]) (qc_2_in x0 x1 x2 x3 x4 x5 x6 x7 x8 x9 x10 x11 x12 x13 x14) (qc_2_ex o) (qc_2_st o) :=
 J06.of_step (st := fun s => qc_2_in x0 x1 s.1 x3 x4 x5 x6 x7 x8 x9 x10 x11 s.2 x13 x14) (ex := qc_2_ex) (stO := qc_2_st) (fun s s2 hs => qc_2_body x0 x1 s.1 x3 x4 x5 x6 x7 x8 x9 x10 x11 s.2 x13 x14 (.inl s2) hs) (fun s r hs => qc_2_body x0 x1 s.1 x3 x4 x5 x6 x7 x8 x9 x10 x11 s.2 x13 x14 (.inr r) hs) _ o h
def qc_R (a0 : Int) (a1 : List (Tedcc)) (a2 : List (List (T18c3))) (a3 : Unit) (a4 : List (B8)) (a5 : List (List (B8))) (a6 : List (B8)) (a7 : List (T484d)) (u : Int × (List (Tedcc)) × (List (List (T18c3))) × Unit × List (B8) × List (List (B8)) × List (B8) × List (T484d)) : Slot := (.v (.int .i64) u.1)
def qc_O (a0 : Int) (a1 : List (Tedcc)) (a2 : List (List (T18c3))) (a3 : Unit) (a4 : List (B8)) (a5 : List (List (B8))) (a6 : List (B8)) (a7 : List (T484d)) (u : Int × (List (Tedcc)) × (List (List (T18c3))) × Unit × List (B8) × List (List (B8)) × List (B8) × List (T484d)) : List AObj := [.box Y6488 (.node (.own 1 []) (.node (.own 2 []) (.node (.own 3 []) (.node .nil (.node (.own 4 []) (.node (.v (.slice Yedcc) u.2.1) (.node (.v (.slice (.slice Y18c3)) u.2.2.1) (.v .unit u.2.2.2.1)))))))) true, .row Yh u.2.2.2.2.1 true, .row Ybb u.2.2.2.2.2.1 true, .row .str u.2.2.2.2.2.2.1 true, .row Y484d u.2.2.2.2.2.2.2 true]
theorem qc_ok (a0 : Int) (a1 : List (Tedcc)) (a2 : List (List (T18c3))) (a3 : Unit) (a4 : List (B8)) (a5 : List (List (B8))) (a6 : List (B8)) (a7 : List (T484d)) (u : Int × (List (Tedcc)) × (List (List (T18c3))) × Unit × List (B8) × List (List (B8)) × List (B8) × List (T484d)) (h : qc a0 a1 a2 a3 a4 a5 a6 a7 = some u) : CallC prog 7 [(.ptr 0 []), (.v (.int .i64) a0)] [.box Y6488 (.node (.own 1 []) (.node (.own 2 []) (.node (.own 3 []) (.node .nil (.node (.own 4 []) (.node (.v (.slice Yedcc) a1) (.node (.v (.slice (.slice Y18c3)) a2) (.v .unit a3)))))))) true, .row Yh a4 true, .row Ybb a5 true, .row .str a6 true, .row Y484d a7 true] (qc_R a0 a1 a2 a3 a4 a5 a6 a7 u) (qc_O a0 a1 a2 a3 a4 a5 a6 a7 u) := by
 unfold qc at h
 rcases fork_some h with ⟨h1, h⟩ | ⟨h1, h⟩
 ·injection h with h; subst h
  exact env.fun func7 can7 (its := [b1, b1, b1, b1, b1, b1, b1, b1, b1, b1, b1, b1]) (pos := [.sel [0, 1, 2, 3, 4]]) (.c h1 (.c h1 (.c h1 (.c r1 (.c r1 (.c r1 (.c r1 (.c r1 (.c r1 (.c r1 (.c r1 (.c r1 .n)))))))))))) (by kernel_rfl)
 ·rcases fork_some h with ⟨h2, h⟩ | ⟨h2, h⟩
  ·injection h with h; subst h
   exact env.fun func7 can7 (its := [b0, b0, b0, b1, b1, b1, b1, b1, b1, b1, b1, b1]) (pos := [.sel [0, 1, 2, 3, 4]]) (.c h1 (.c h1 (.c h1 (.c h2 (.c h2 (.c h2 (.c r1 (.c r1 (.c r1 (.c r1 (.c r1 (.c r1 .n)))))))))))) (by kernel_rfl)
  ·rcases fork_some h with ⟨h3, h⟩ | ⟨h3, h⟩
   ·injection h with h; subst h
    exact env.fun func7 can7 (its := [b0, b0, b0, b0, b0, b0, b1, b1, b1, b1, b1, b1]) (pos := [.sel [0, 1, 2, 3, 4]]) (.c h1 (.c h1 (.c h1 (.c h2 (.c h2 (.c h2 (.c h3 (.c h3 (.c h3 (.c h3 (.c h3 (.c r1 .n)))))))))))) (by kernel_rfl)
   ·rcases fork_some h with ⟨h4, h⟩ | ⟨h4, h⟩
    ·obtain ⟨h5, h⟩ := need_some h
     rcases fork_some h with ⟨h6, h⟩ | ⟨h6, h⟩
     ·injection h with h; subst h
      exact env.fun func7 can7 (its := [b0, b0, b0, b0, b0, b0, b0, b0, b0, b1, b1, b1, b1, b1, b1, b1, b1, b1, b1, b1, b1, b0, b1, b0, b1]) (pos := [.sel [0, 1, 2, 3, 4]]) (.c h1 (.c h1 (.c h1 (.c h2 (.c h2 (.c h2 (.c h3 (.c h3 (.c h3 (.c h4 (.c h4 (.c h4 (.c h4 (.c h4 (.c h4 (.c h4 (.c h4 (.c h5 (.c h4 (.c h4 (.c h4 (.c h4 (.c h3 (.c h4 (.c h3 (.c h6 .n)))))))))))))))))))))))))) (by kernel_rfl)
     ·obtain ⟨h7, h⟩ := need_some h
      obtain ⟨u8, h9, h⟩ := andThen_some h
      obtain ⟨u10, h11, h⟩ := andThen_some h
      obtain ⟨u12, h13, h⟩ := andThen_some h
      obtain ⟨u14, h15, h⟩ := andThen_some h
      obtain ⟨u16, h17, h⟩ := andThen_some h
      obtain ⟨o26, h27, h⟩ := andThen_some h
      obtain ⟨h28, h⟩ := need_some h
      obtain ⟨h29, h⟩ := need_some h
      obtain ⟨h30, h⟩ := need_some h
      obtain ⟨h31, h⟩ := need_some h
      injection h with h; subst h
      exact env.fun func7 can7 (its := [b0, b0, b0, b0, b0, b0, b0, b0, b0, b1, b1, b1, b1, b1, b1, b1, b1, b1, b1, b1, b1, b0, b1, b0, b0, .asis, .call [(some Y18c3)] [] [] true (qz_R ([] : List (T18c3)) u8) (qz_O ([] : List (T18c3)) u8), .asis, b1, .pre p29, .asis, .call [none] [] [] true (qv_R ((List.getD a1 (Int.toNat (w64 ((List.length a1 : Int) - (1 : Int)))) Zedcc).1) u10) (qv_O ((List.getD a1 (Int.toNat (w64 ((List.length a1 : Int) - (1 : Int)))) Zedcc).1) u10), .pre p30, .asis, .call [none] [] [] true (q15_R ((List.getD a1 (Int.toNat (w64 ((List.length a1 : Int) - (1 : Int)))) Zedcc).2.2.2.1) u12) (q15_O ((List.getD a1 (Int.toNat (w64 ((List.length a1 : Int) - (1 : Int)))) Zedcc).2.2.2.1) u12), .asis, .call [none] [] [0] true (q15_R (([] : List (T484d)) ++ a7) u14) (q15_O (([] : List (T484d)) ++ a7) u14), .call [none] [] [] true (qv_R ((w64 ((List.length a1 : Int) + (1 : Int))), a0, u8, u12, u14, u10, ()) u16) (qv_O ((w64 ((List.length a1 : Int) + (1 : Int))), a0, u8, u12, u14, u10, ()) u16), .dive, .J4w 7 [.fld 1], .freeze [8], .sel [0, 5, 6, 7, 103, 104, 105] [0, 1, 2, 3, 4, 7, 9, 6, 8], .part (qc_1_ex o26) (qc_1_st o26), .pre p31, .pre p32]) (pos := [.J67 0 [.fld 5], .J67 0 [.fld 6], .sel [0, 1, 2, 3, 4]]) (.c h1 (.c h1 (.c h1 (.c h2 (.c h2 (.c h2 (.c h3 (.c h3 (.c h3 (.c h4 (.c h4 (.c h4 (.c h4 (.c h4 (.c h4 (.c h4 (.c h4 (.c h5 (.c h4 (.c h4 (.c h4 (.c h4 (.c h3 (.c h4 (.c h3 (.c h6 (.c h7 (.c (qz_ok ([] : List (T18c3)) u8 h9) (.c h4 (.c h5 (.c h5 (.c rn (.c (qv_ok ((List.getD a1 (Int.toNat (w64 ((List.length a1 : Int) - (1 : Int)))) Zedcc).1) u10 h11) (.c rn (.c (q15_ok ((List.getD a1 (Int.toNat (w64 ((List.length a1 : Int) - (1 : Int)))) Zedcc).2.2.2.1) u12 h13) (.c (rfl : ([.row Y484d (([] : List (T484d)) ++ a7) true] : List AObj) = [.row Y484d (([] : List (T484d)) ++ a7) true]) (.c (q15_ok (([] : List (T484d)) ++ a7) u14 h15) (.c (qv_ok ((w64 ((List.length a1 : Int) + (1 : Int))), a0, u8, u12, u14, u10, ()) u16 h17) (.c (qc_1_ok (List.length a1 : Int) (List.length a4 : Int) (0 : Int) a1 a2 a3 a4 a5 a6 a7 ((w64 ((List.length a1 : Int) + (1 : Int))), a0, u8, u12, u14, u10, ()) (List.getD a1 (Int.toNat (w64 ((List.length a1 : Int) - (1 : Int)))) Zedcc).2.2.2.1 (()) ([] : List (T8f72)) (([] : List (T484d)) ++ a7) u16 o26 h27) (.c h28 (.c h29 (.c h30 (.c h31 .n))))))))))))))))))))))))))))))))))))))))))) (by kernel_rfl)
    ·obtain ⟨h32, h⟩ := need_some h
     obtain ⟨u33, h34, h⟩ := andThen_some h
     obtain ⟨u35, h36, h⟩ := andThen_some h
     obtain ⟨u37, h38, h⟩ := andThen_some h
     obtain ⟨u39, h40, h⟩ := andThen_some h
     obtain ⟨o49, h50, h⟩ := andThen_some h
     obtain ⟨h51, h⟩ := need_some h
     obtain ⟨h52, h⟩ := need_some h
     obtain ⟨h53, h⟩ := need_some h
     obtain ⟨h54, h⟩ := need_some h
     injection h with h; subst h
     exact env.fun func7 can7 (its := [b0, b0, b0, b0, b0, b0, b0, b0, b0, b0, b0, b0, b0, b0, b0, b0, b0, b0, b0, b0, b0, b0, b0, b0, b0, .asis, .call [(some Y18c3)] [] [] true (qz_R ([] : List (T18c3)) u33) (qz_O ([] : List (T18c3)) u33), .asis, b0, .pre p30, .asis, .call [none] [] [0] true (q15_R (([] : List (T484d)) ++ a7) u35) (q15_O (([] : List (T484d)) ++ a7) u35), .asis, .call [none] [] [0] true (q15_R (([] : List (T484d)) ++ a7) u37) (q15_O (([] : List (T484d)) ++ a7) u37), .call [none] [] [] true (qv_R ((w64 ((List.length a1 : Int) + (1 : Int))), a0, u33, u35, u37, Z32, ()) u39) (qv_O ((w64 ((List.length a1 : Int) + (1 : Int))), a0, u33, u35, u37, Z32, ()) u39), .dive, .J4w 7 [.fld 1], .freeze [8], .sel [0, 5, 6, 7, 103, 104, 105] [0, 1, 2, 3, 4, 7, 9, 6, 8], .part (qc_2_ex o49) (qc_2_st o49), .pre p31, .pre p32]) (pos := [.J67 0 [.fld 5], .J67 0 [.fld 6], .sel [0, 1, 2, 3, 4]]) (.c h1 (.c h1 (.c h1 (.c h2 (.c h2 (.c h2 (.c h3 (.c h3 (.c h3 (.c h4 (.c h4 (.c h4 (.c h4 (.c h4 (.c h4 (.c h4 (.c h4 (.c h4 (.c h4 (.c h4 (.c h4 (.c h3 (.c h4 (.c h3 (.c r0 (.c h32 (.c (qz_ok ([] : List (T18c3)) u33 h34) (.c h4 (.c (rfl : ([.row Y484d (([] : List (T484d)) ++ a7) true] : List AObj) = [.row Y484d (([] : List (T484d)) ++ a7) true]) (.c (q15_ok (([] : List (T484d)) ++ a7) u35 h36) (.c (rfl : ([.row Y484d (([] : List (T484d)) ++ a7) true] : List AObj) = [.row Y484d (([] : List (T484d)) ++ a7) true]) (.c (q15_ok (([] : List (T484d)) ++ a7) u37 h38) (.c (qv_ok ((w64 ((List.length a1 : Int) + (1 : Int))), a0, u33, u35, u37, Z32, ()) u39 h40) (.c (qc_2_ok (List.length a1 : Int) (List.length a4 : Int) (0 : Int) a1 a2 a3 a4 a5 a6 a7 ((w64 ((List.length a1 : Int) + (1 : Int))), a0, u33, u35, u37, Z32, ()) (()) ([] : List (T8f72)) (([] : List (T484d)) ++ a7) u39 o49 h50) (.c h51 (.c h52 (.c h53 (.c h54 .n)))))))))))))))))))))))))))))))))))))) (by kernel_rfl)
theorem can71 : J01 prog 71 := ⟨_, func71, by kernel_rfl, by kernel_rfl⟩
def q1i_R (a0 : B8) (a1 : Int) (a2 : B8) (u : T8266) : Slot := (.v Y8266 u)
def q1i_O (a0 : B8) (a1 : Int) (a2 : B8) (u : T8266) : List AObj := []
theorem q1i_ok (a0 : B8) (a1 : Int) (a2 : B8) (u : T8266) (h : q1i a0 a1 a2 = some u) : CallC prog 71 [(.v Yh a0), (.v (.int .i64) a1), (.v Yb a2)] [] (q1i_R a0 a1 a2 u) (q1i_O a0 a1 a2 u) := by
 unfold q1i at h
 obtain ⟨u1, h2, h⟩ := andThen_some h
 obtain ⟨u3, h4, h⟩ := andThen_some h
 injection h with h; subst h
 exact env.fun func71 can71 (its := [.pre p52, .call [none] [] [] false (q23_R a0 u1) (q23_O a0 u1), .call [none, none, none, none] [] [0] false (q2e_R u1 a0 a1 a2 u3) (q2e_O u1 a0 a1 a2 u3)]) (pos := s0) (.c (q23_ok a0 u1 h2) (.c (q2e_ok u1 a0 a1 a2 u3 h4) .n)) (by kernel_rfl)
theorem can45 : J01 prog 45 := ⟨_, func45, by kernel_rfl, by kernel_rfl⟩
def q1f_1_in (x0 : List Int) (x1 : Int) (x2 : Int) (x3 : Int) (x4 : List Int) (x5 : Int) (x6 : Int) (x7 : Tf0bc) (x8 : Unit) (x9 : Tf0bc) (x10 : (List (T484d)) × (List (T484d)) × Unit) (x11 : List (T8f72)) (x12 : B8) : St := ⟨[(1, (.v (.slice (.int .i64)) x0)), (6, (.ptr 0 [])), (7, (.ptr 1 [])), (8, (.ptr 3 [])), (9, (.v (.int .i64) x1)), (33, (.v (.int .i64) x2)), (34, (.v (.int .i64) x3)), (37, (.v (.slice (.int .i64)) x4)), (38, (.v (.int .i64) x5)), (39, (.v (.int .i64) x6))], [.box Yedcc (.node (.v Yf0bc x7) (.node .nil (.node .nil (.node .nil (.v .unit x8))))) true, .box Yedcc (.node (.v Yf0bc x9) (.node (.own 2 []) (.v (.fld (.slice Y484d) (.fld (.slice Y484d) .unit)) x10))) true, .row Y8f72 x11 true, .box Yh (.v Yh x12) false], 62, 0⟩
def q1f_1_ex (o : List Int × Int × Int × (Tf0bc) × Unit × (Tf0bc) × ((List (T484d)) × (List (T484d)) × Unit) × (List (T8f72)) × B8) : Exit := (.exit 2)
def q1f_1_st (o : List Int × Int × Int × (Tf0bc) × Unit × (Tf0bc) × ((List (T484d)) × (List (T484d)) × Unit) × (List (T8f72)) × B8) : St := ⟨[(1, (.v (.slice (.int .i64)) o.1)), (6, (.ptr 0 [])), (7, (.ptr 1 [])), (8, (.ptr 3 [])), (33, (.v (.int .i64) o.2.1)), (34, (.v (.int .i64) o.2.2.1))], [.box Yedcc (.node (.v Yf0bc o.2.2.2.1) (.node .nil (.node .nil (.node .nil (.v .unit o.2.2.2.2.1))))) true, .box Yedcc (.node (.v Yf0bc o.2.2.2.2.2.1) (.node (.own 2 []) (.v (.fld (.slice Y484d) (.fld (.slice Y484d) .unit)) o.2.2.2.2.2.2.1))) true, .row Y8f72 o.2.2.2.2.2.2.2.1 true, .box Yh (.v Yh o.2.2.2.2.2.2.2.2) false], 62, 0⟩
theorem q1f_1_body (x0 : List Int) (x1 : Int) (x2 : Int) (x3 : Int) (x4 : List Int) (x5 : Int) (x6 : Int) (x7 : Tf0bc) (x8 : Unit) (x9 : Tf0bc) (x10 : (List (T484d)) × (List (T484d)) × Unit) (x11 : List (T8f72)) (x12 : B8) : ∀ r, q1f_1_step x0 x1 x2 x3 x4 x5 x6 x7 x8 x9 x10 x11 x12 = some r → (match r with | .inl s => J03 prog (J0w (bodyOf f45) [1, 1, 1, 1, 1, 0, 1, 0, 0, 1, 1, 0, 0, 1, 1, 0, 0]) (q1f_1_in x0 x1 x2 x3 x4 x5 x6 x7 x8 x9 x10 x11 x12) .normal (q1f_1_in x0 x1 x2 x3 x4 x5 s.1 x7 x8 x9 x10 s.2 x12) | .inr o => q1f_1_ex o ≠ .normal ∧ J03 prog (J0w (bodyOf f45) [1, 1, 1, 1, 1, 0, 1, 0, 0, 1, 1, 0, 0, 1, 1, 0, 0]) (q1f_1_in x0 x1 x2 x3 x4 x5 x6 x7 x8 x9 x10 x11 x12) (q1f_1_ex o) (q1f_1_st o)) := by
 intro r h
 unfold q1f_1_step at h
 rcases fork_some h with ⟨h10, h⟩ | ⟨h10, h⟩
 ·obtain ⟨h11, h⟩ := need_some h
  obtain ⟨u12, h13, h⟩ := andThen_some h
  rcases fork_some h with ⟨h14, h⟩ | ⟨h14, h⟩
  ·obtain ⟨u15, h16, h⟩ := andThen_some h
   obtain ⟨u17, h18, h⟩ := andThen_some h
   obtain ⟨h19, h⟩ := need_some h
   injection h with h; subst h
   exact env.code (its := [b1, .call [none, none, none] [] [] true (q1c_R (List.getD x4 (Int.toNat x6) (0 : Int)) (0 : Int) (4 : Int) u12) (q1c_O (List.getD x4 (Int.toNat x6) (0 : Int)) (0 : Int) (4 : Int) u12), b1, .pre p53, .asis, .call [none] [] [] true (q22_R x1 u15) (q22_O x1 u15), b0, .asis, .call [none, none, none] [] [] false (q1i_R u15 x9.1 x12 u17) (q1i_O u15 x9.1 x12 u17), .sel [1, 6, 7, 8, 9, 33, 34, 37, 38, 39] [0, 1, 2, 3]]) (.c h10 (.c h11 (.c (q1c_ok (List.getD x4 (Int.toNat x6) (0 : Int)) (0 : Int) (4 : Int) u12 h13) (.c h14 (.c rn (.c (q22_ok x1 u15 h16) (.c rn (.c (q1i_ok u15 x9.1 x12 u17 h18) (.c h19 .n))))))))) (by kernel_rfl)
  ·injection h with h; subst h
   exact env.code (its := [b1, .call [none, none, none] [] [] true (q1c_R (List.getD x4 (Int.toNat x6) (0 : Int)) (0 : Int) (4 : Int) u12) (q1c_O (List.getD x4 (Int.toNat x6) (0 : Int)) (0 : Int) (4 : Int) u12), b0, .sel [1, 6, 7, 8, 9, 33, 34, 37, 38, 39] [0, 1, 2, 3]]) (.c h10 (.c h11 (.c (q1c_ok (List.getD x4 (Int.toNat x6) (0 : Int)) (0 : Int) (4 : Int) u12 h13) (.c h14 .n)))) (by kernel_rfl)
 ·injection h with h; subst h
  exact ⟨by intro e; simp [q1f_1_ex] at e, env.code (its := [b0, .sel [1, 6, 7, 8, 33, 34] [0, 1, 2, 3]]) (.c h10 .n) (by kernel_rfl)⟩
theorem q1f_1_ok (x0 : List Int) (x1 : Int) (x2 : Int) (x3 : Int) (x4 : List Int) (x5 : Int) (x6 : Int) (x7 : Tf0bc) (x8 : Unit) (x9 : Tf0bc) (x10 : (List (T484d)) × (List (T484d)) × Unit) (x11 : List (T8f72)) (x12 : B8) (o : List Int × Int × Int × (Tf0bc) × Unit × (Tf0bc) × ((List (T484d)) × (List (T484d)) × Unit) × (List (T8f72)) × B8) (h : q1f_1 x0 x1 x2 x3 x4 x5 x6 x7 x8 x9 x10 x11 x12 = some o) : J03 prog (J0w (bodyOf f45) [1, 1, 1, 1, 1, 0, 1, 0, 0, 1, 1, 0, 0, 1, 1, 0]) (q1f_1_in x0 x1 x2 x3 x4 x5 x6 x7 x8 x9 x10 x11 x12) (q1f_1_ex o) (q1f_1_st o) :=
 J06.of_step (st := fun s => q1f_1_in x0 x1 x2 x3 x4 x5 s.1 x7 x8 x9 x10 s.2 x12) (ex := q1f_1_ex) (stO := q1f_1_st) (fun s s2 hs => q1f_1_body x0 x1 x2 x3 x4 x5 s.1 x7 x8 x9 x10 s.2 x12 (.inl s2) hs) (fun s r hs => q1f_1_body x0 x1 x2 x3 x4 x5 s.1 x7 x8 x9 x10 s.2 x12 (.inr r) hs) _ o h
def q1f_2_in (x0 : List Int) (x1 : Int) (x2 : Int) (x3 : Tf0bc) (x4 : Unit) (x5 : Tf0bc) (x6 : (List (T484d)) × (List (T484d)) × Unit) (x7 : List (T8f72)) (x8 : B8) : St := ⟨[(1, (.v (.slice (.int .i64)) x0)), (6, (.ptr 0 [])), (7, (.ptr 1 [])), (8, (.ptr 3 [])), (33, (.v (.int .i64) x1)), (34, (.v (.int .i64) x2))], [.box Yedcc (.node (.v Yf0bc x3) (.node .nil (.node .nil (.node .nil (.v .unit x4))))) true, .box Yedcc (.node (.v Yf0bc x5) (.node (.own 2 []) (.v (.fld (.slice Y484d) (.fld (.slice Y484d) .unit)) x6))) true, .row Y8f72 x7 true, .box Yh (.v Yh x8) false], 62, 0⟩
def q1f_2_ex (o : (Tf0bc) × Unit × (Tf0bc) × ((List (T484d)) × (List (T484d)) × Unit) × List (T8f72)) : Exit := (.exit 0)
def q1f_2_st (o : (Tf0bc) × Unit × (Tf0bc) × ((List (T484d)) × (List (T484d)) × Unit) × List (T8f72)) : St := ⟨[(6, (.ptr 0 [])), (7, (.ptr 1 []))], [.box Yedcc (.node (.v Yf0bc o.1) (.node .nil (.node .nil (.node .nil (.v .unit o.2.1))))) true, .box Yedcc (.node (.v Yf0bc o.2.2.1) (.node (.own 2 []) (.v (.fld (.slice Y484d) (.fld (.slice Y484d) .unit)) o.2.2.2.1))) true, .row Y8f72 o.2.2.2.2 true], 62, 0⟩
theorem q1f_2_body (x0 : List Int) (x1 : Int) (x2 : Int) (x3 : Tf0bc) (x4 : Unit) (x5 : Tf0bc) (x6 : (List (T484d)) × (List (T484d)) × Unit) (x7 : List (T8f72)) (x8 : B8) : ∀ r, q1f_2_step x0 x1 x2 x3 x4 x5 x6 x7 x8 = some r → (match r with | .inl s => J03 prog (J0w (bodyOf f45) [1, 1, 1, 1, 1, 0, 1, 0, 0]) (q1f_2_in x0 x1 x2 x3 x4 x5 x6 x7 x8) .normal (q1f_2_in s.1 s.2.1 s.2.2.1 s.2.2.2.1 s.2.2.2.2.1 s.2.2.2.2.2.1 s.2.2.2.2.2.2.1 s.2.2.2.2.2.2.2.1 s.2.2.2.2.2.2.2.2) | .inr o => q1f_2_ex o ≠ .normal ∧ J03 prog (J0w (bodyOf f45) [1, 1, 1, 1, 1, 0, 1, 0, 0]) (q1f_2_in x0 x1 x2 x3 x4 x5 x6 x7 x8) (q1f_2_ex o) (q1f_2_st o)) := by
 intro r h
 unfold q1f_2_step at h
 rcases fork_some h with ⟨h8, h⟩ | ⟨h8, h⟩
 ·obtain ⟨o20, h21, h⟩ := andThen_some h
  injection h with h; subst h
  exact env.code (its := [b1, .dive, .dive, .sel [1, 6, 7, 8, 9, 33, 34, 37, 38, 39] [0, 1, 2, 3], .part (q1f_1_ex o20) (q1f_1_st o20), .sel [1, 6, 7, 8, 33, 34] [0, 1, 2, 3]]) (.c h8 (.c (q1f_1_ok x0 x2 x1 x2 x0 (List.length x0 : Int) (0 : Int) x3 x4 x5 x6 x7 x8 o20 h21) .n)) (by kernel_rfl)
 ·injection h with h; subst h
  exact ⟨by intro e; simp [q1f_2_ex] at e, env.code (its := [b0, .sel [6, 7] [0, 1, 2]]) (.c h8 .n) (by kernel_rfl)⟩
theorem q1f_2_ok (x0 : List Int) (x1 : Int) (x2 : Int) (x3 : Tf0bc) (x4 : Unit) (x5 : Tf0bc) (x6 : (List (T484d)) × (List (T484d)) × Unit) (x7 : List (T8f72)) (x8 : B8) (o : (Tf0bc) × Unit × (Tf0bc) × ((List (T484d)) × (List (T484d)) × Unit) × List (T8f72)) (h : q1f_2 x0 x1 x2 x3 x4 x5 x6 x7 x8 = some o) : J03 prog (J0w (bodyOf f45) [1, 1, 1, 1, 1, 0, 1, 0]) (q1f_2_in x0 x1 x2 x3 x4 x5 x6 x7 x8) (q1f_2_ex o) (q1f_2_st o) :=
 J06.of_step (st := fun s => q1f_2_in s.1 s.2.1 s.2.2.1 s.2.2.2.1 s.2.2.2.2.1 s.2.2.2.2.2.1 s.2.2.2.2.2.2.1 s.2.2.2.2.2.2.2.1 s.2.2.2.2.2.2.2.2) (ex := q1f_2_ex) (stO := q1f_2_st) (fun s s2 hs => q1f_2_body s.1 s.2.1 s.2.2.1 s.2.2.2.1 s.2.2.2.2.1 s.2.2.2.2.2.1 s.2.2.2.2.2.2.1 s.2.2.2.2.2.2.2.1 s.2.2.2.2.2.2.2.2 (.inl s2) hs) (fun s r hs => q1f_2_body s.1 s.2.1 s.2.2.1 s.2.2.2.1 s.2.2.2.2.1 s.2.2.2.2.2.1 s.2.2.2.2.2.2.1 s.2.2.2.2.2.2.2.1 s.2.2.2.2.2.2.2.2 (.inr r) hs) _ o h
def q1f_R (a0 : Tedcc) (a1 : List Int) (a2 : Int) (u : Tedcc) : Slot := (.v Yedcc u)
def q1f_O (a0 : Tedcc) (a1 : List Int) (a2 : Int) (u : Tedcc) : List AObj := []
theorem q1f_ok (a0 : Tedcc) (a1 : List Int) (a2 : Int) (u : Tedcc) (h : q1f a0 a1 a2 = some u) : CallC prog 45 [(.v Yedcc a0), (.v (.slice (.int .i64)) a1), (.v (.int .i64) a2)] [] (q1f_R a0 a1 a2 u) (q1f_O a0 a1 a2 u) := by
 unfold q1f at h
 obtain ⟨u1, h2, h⟩ := andThen_some h
 obtain ⟨h3, h⟩ := need_some h
 obtain ⟨u4, h5, h⟩ := andThen_some h
 obtain ⟨h6, h⟩ := need_some h
 obtain ⟨o22, h23, h⟩ := andThen_some h
 injection h with h; subst h
 exact env.fun func45 can45 (its := [.call [none, none, none] [] [] true (q1c_R a2 (0 : Int) (31 : Int) u1) (q1c_O a2 (0 : Int) (31 : Int) u1), .call [none] [] [] true (qv_R (a0.1.1, a0.1.2.1, (List.set a0.1.2.2.1 (Int.toNat u1) ((List.getD a0.1.2.2.1 (Int.toNat u1) (0 : UInt8)) ^^^ (1 : UInt8))), a0.1.2.2.2.1, a0.1.2.2.2.2.1, a0.1.2.2.2.2.2.1, ()) u4) (qv_O (a0.1.1, a0.1.2.1, (List.set a0.1.2.2.1 (Int.toNat u1) ((List.getD a0.1.2.2.1 (Int.toNat u1) (0 : UInt8)) ^^^ (1 : UInt8))), a0.1.2.2.2.1, a0.1.2.2.2.2.1, a0.1.2.2.2.2.2.1, ()) u4), .dive, .freeze [3], .sel [1, 6, 7, 8, 33, 34] [1, 2, 5, 3], .part (q1f_2_ex o22) (q1f_2_st o22)]) (pos := s0) (.c (q1c_ok a2 (0 : Int) (31 : Int) u1 h2) (.c h3 (.c h3 (.c (qv_ok (a0.1.1, a0.1.2.1, (List.set a0.1.2.2.1 (Int.toNat u1) ((List.getD a0.1.2.2.1 (Int.toNat u1) (0 : UInt8)) ^^^ (1 : UInt8))), a0.1.2.2.2.1, a0.1.2.2.2.2.1, a0.1.2.2.2.2.2.1, ()) u4 h5) (.c h6 (.c (q1f_2_ok a1 (List.length (([] : List (T8f72)) ++ a0.2.1) : Int) (0 : Int) Zf0bc (()) (a0.1.1, a0.1.2.1, (List.set a0.1.2.2.1 (Int.toNat u1) ((List.getD a0.1.2.2.1 (Int.toNat u1) (0 : UInt8)) ^^^ (1 : UInt8))), a0.1.2.2.2.1, a0.1.2.2.2.2.1, a0.1.2.2.2.2.2.1, ()) (a0.2.2.1, a0.2.2.2.1, ()) (([] : List (T8f72)) ++ a0.2.1) u4 o22 h23) .n)))))) (by kernel_rfl)
theorem can46 : J01 prog 46 := ⟨_, func46, by kernel_rfl, by kernel_rfl⟩
def qf_1_in (x0 : Int) (x1 : Int) (x2 : T65da) (x3 : List (Tedcc)) : St := ⟨[(0, (.ptr 0 [])), (39, (.own 1 [])), (40, (.v (.int .i64) x0)), (41, (.v (.int .i64) x1))], [.box Y65da (.v Y65da x2) true, .row Yedcc x3 true], 69, 1⟩
def qf_1_ex (o : (Int × T65da) ⊕ (T65da)) : Exit := match o with | (.inl o) => .ret | (.inr o) => (.exit 0)
def qf_1_st (o : (Int × T65da) ⊕ (T65da)) : St := match o with | (.inl o) => ⟨[(6, (.v (.int .i64) o.1))], [.box Y65da (.v Y65da o.2) true], 69, 1⟩ | (.inr o) => ⟨[(0, (.ptr 0 []))], [.box Y65da (.v Y65da o) true], 69, 1⟩
theorem qf_1_body (x0 : Int) (x1 : Int) (x2 : T65da) (x3 : List (Tedcc)) : ∀ r, qf_1_step x0 x1 x2 x3 = some r → (match r with | .inl s => J03 prog (J0w (bodyOf f46) [1, 1, 1, 0, 1, 0, 0]) (qf_1_in x0 x1 x2 x3) .normal (qf_1_in x0 s x2 x3) | .inr o => qf_1_ex o ≠ .normal ∧ J03 prog (J0w (bodyOf f46) [1, 1, 1, 0, 1, 0, 0]) (qf_1_in x0 x1 x2 x3) (qf_1_ex o) (qf_1_st o)) := by
 intro r h
 unfold qf_1_step at h
 rcases fork_some h with ⟨h11, h⟩ | ⟨h11, h⟩
 ·obtain ⟨h12, h⟩ := need_some h
  obtain ⟨u13, h14, h⟩ := andThen_some h
  rcases fork_some h with ⟨h15, h⟩ | ⟨h15, h⟩
  ·injection h with h; subst h
   exact ⟨by intro e; simp [qf_1_ex] at e, env.code (its := [b1, .pre p54, .asis, .call [none, none, none] [] [] true (q2k_R ((List.getD x3 (Int.toNat x1) Zedcc).2.2.1) ((List.getD x3 (Int.toNat x1) Zedcc).1) ((List.getD x3 (Int.toNat x1) Zedcc).2.1) u13) (q2k_O ((List.getD x3 (Int.toNat x1) Zedcc).2.2.1) ((List.getD x3 (Int.toNat x1) Zedcc).1) ((List.getD x3 (Int.toNat x1) Zedcc).2.1) u13), b1, b1, b1, b1, b1, b1, b1, b1, b1, b1, b1, b1, .sel [6] [0]]) (.c h11 (.c h12 (.c rn (.c (q2k_ok ((List.getD x3 (Int.toNat x1) Zedcc).2.2.1) ((List.getD x3 (Int.toNat x1) Zedcc).1) ((List.getD x3 (Int.toNat x1) Zedcc).2.1) u13 h14) (.c h15 (.c h15 (.c h15 (.c h15 (.c h15 (.c h15 (.c h15 (.c h15 (.c h15 (.c h15 (.c h15 (.c r1 .n)))))))))))))))) (by kernel_rfl)⟩
  ·obtain ⟨u16, h17, h⟩ := andThen_some h
   rcases fork_some h with ⟨h18, h⟩ | ⟨h18, h⟩
   ·injection h with h; subst h
    exact ⟨by intro e; simp [qf_1_ex] at e, env.code (its := [b1, .pre p54, .asis, .call [none, none, none] [] [] true (q2k_R ((List.getD x3 (Int.toNat x1) Zedcc).2.2.1) ((List.getD x3 (Int.toNat x1) Zedcc).1) ((List.getD x3 (Int.toNat x1) Zedcc).2.1) u13) (q2k_O ((List.getD x3 (Int.toNat x1) Zedcc).2.2.1) ((List.getD x3 (Int.toNat x1) Zedcc).1) ((List.getD x3 (Int.toNat x1) Zedcc).2.1) u13), b0, b0, b0, b0, b0, b0, b0, b0, b0, .asis, .call [none, none, none] [] [] true (q33_R x2.2.1 ((List.getD x3 (Int.toNat x1) Zedcc).1) ((List.getD x3 (Int.toNat x1) Zedcc).2.1) u16) (q33_O x2.2.1 ((List.getD x3 (Int.toNat x1) Zedcc).1) ((List.getD x3 (Int.toNat x1) Zedcc).2.1) u16), b0, b0, b1, .sel [6] [0]]) (.c h11 (.c h12 (.c rn (.c (q2k_ok ((List.getD x3 (Int.toNat x1) Zedcc).2.2.1) ((List.getD x3 (Int.toNat x1) Zedcc).1) ((List.getD x3 (Int.toNat x1) Zedcc).2.1) u13 h14) (.c h15 (.c h15 (.c h15 (.c h15 (.c h15 (.c h15 (.c h15 (.c h15 (.c h15 (.c rn (.c (q33_ok x2.2.1 ((List.getD x3 (Int.toNat x1) Zedcc).1) ((List.getD x3 (Int.toNat x1) Zedcc).2.1) u16 h17) (.c h15 (.c h15 (.c h18 .n)))))))))))))))))) (by kernel_rfl)⟩
   ·injection h with h; subst h
    exact env.code (its := [b1, .pre p54, .asis, .call [none, none, none] [] [] true (q2k_R ((List.getD x3 (Int.toNat x1) Zedcc).2.2.1) ((List.getD x3 (Int.toNat x1) Zedcc).1) ((List.getD x3 (Int.toNat x1) Zedcc).2.1) u13) (q2k_O ((List.getD x3 (Int.toNat x1) Zedcc).2.2.1) ((List.getD x3 (Int.toNat x1) Zedcc).1) ((List.getD x3 (Int.toNat x1) Zedcc).2.1) u13), b0, b0, b0, b0, b0, b0, b0, b0, b0, .asis, .call [none, none, none] [] [] true (q33_R x2.2.1 ((List.getD x3 (Int.toNat x1) Zedcc).1) ((List.getD x3 (Int.toNat x1) Zedcc).2.1) u16) (q33_O x2.2.1 ((List.getD x3 (Int.toNat x1) Zedcc).1) ((List.getD x3 (Int.toNat x1) Zedcc).2.1) u16), b0, b0, b0, .sel [0, 39, 40, 41] [0, 1]]) (.c h11 (.c h12 (.c rn (.c (q2k_ok ((List.getD x3 (Int.toNat x1) Zedcc).2.2.1) ((List.getD x3 (Int.toNat x1) Zedcc).1) ((List.getD x3 (Int.toNat x1) Zedcc).2.1) u13 h14) (.c h15 (.c h15 (.c h15 (.c h15 (.c h15 (.c h15 (.c h15 (.c h15 (.c h15 (.c rn (.c (q33_ok x2.2.1 ((List.getD x3 (Int.toNat x1) Zedcc).1) ((List.getD x3 (Int.toNat x1) Zedcc).2.1) u16 h17) (.c h15 (.c h15 (.c h18 .n)))))))))))))))))) (by kernel_rfl)
 ·injection h with h; subst h
  exact ⟨by intro e; simp [qf_1_ex] at e, env.code (its := [b0, .sel [0] [0]]) (.c h11 .n) (by kernel_rfl)⟩
theorem qf_1_ok (x0 : Int) (x1 : Int) (x2 : T65da) (x3 : List (Tedcc)) (o : (Int × T65da) ⊕ (T65da)) (h : qf_1 x0 x1 x2 x3 = some o) : J03 prog (J0w (bodyOf f46) [1, 1, 1, 0, 1, 0]) (qf_1_in x0 x1 x2 x3) (qf_1_ex o) (qf_1_st o) :=
 J06.of_step (st := fun s => qf_1_in x0 s x2 x3) (ex := qf_1_ex) (stO := qf_1_st) (fun s s2 hs => qf_1_body x0 s x2 x3 (.inl s2) hs) (fun s r hs => qf_1_body x0 s x2 x3 (.inr r) hs) _ o h
def qf_R (a0 : Tedcc) (a1 : Tedcc) (a2 : T65da) (u : Int × T65da) : Slot := (.v (.int .i64) u.1)
def qf_O (a0 : Tedcc) (a1 : Tedcc) (a2 : T65da) (u : Int × T65da) : List AObj := [.box Y65da (.v Y65da u.2) true]
theorem qf_ok (a0 : Tedcc) (a1 : Tedcc) (a2 : T65da) (u : Int × T65da) (h : qf a0 a1 a2 = some u) : CallC prog 46 [(.ptr 0 []), (.v Yedcc a0), (.v Yedcc a1)] [.box Y65da (.v Y65da a2) true] (qf_R a0 a1 a2 u) (qf_O a0 a1 a2 u) := by
 unfold qf at h
 rcases fork_some h with ⟨h1, h⟩ | ⟨h1, h⟩
 ·injection h with h; subst h
  exact env.fun func46 can46 (its := [b1]) (pos := s1) (.c h1 .n) (by kernel_rfl)
 ·obtain ⟨u2, h3, h⟩ := andThen_some h
  rcases fork_some h with ⟨h4, h⟩ | ⟨h4, h⟩
  ·injection h with h; subst h
   exact env.fun func46 can46 (its := [b0, .call [none] [] [] true (q2j_R a0 u2) (q2j_O a0 u2), b1, b1, b1, b1, b1, b1, b1, b1, b1, b1, b1, b1, b1, b1, b1, b1, b1, b1, b1]) (pos := s1) (.c h1 (.c (q2j_ok a0 u2 h3) (.c h4 (.c h4 (.c h4 (.c h4 (.c r1 (.c r1 (.c r1 (.c r1 (.c r1 (.c r1 (.c r1 (.c r1 (.c r1 (.c r1 (.c r1 (.c r1 (.c r1 (.c r1 (.c r1 .n))))))))))))))))))))) (by kernel_rfl)
  ·obtain ⟨u5, h6, h⟩ := andThen_some h
   rcases fork_some h with ⟨h7, h⟩ | ⟨h7, h⟩
   ·injection h with h; subst h
    exact env.fun func46 can46 (its := [b0, .call [none] [] [] true (q2j_R a0 u2) (q2j_O a0 u2), b0, b0, .call [none] [] [] true (q2j_R a1 u5) (q2j_O a1 u5), b0, b0, b1, b1, b1, b1, b1, b1, b1, b1, b1, b1, b1, b1, b1, b1, b1]) (pos := s1) (.c h1 (.c (q2j_ok a0 u2 h3) (.c h4 (.c h4 (.c (q2j_ok a1 u5 h6) (.c h4 (.c h4 (.c h7 (.c h7 (.c h7 (.c h7 (.c h7 (.c h7 (.c h7 (.c h7 (.c r1 (.c r1 (.c r1 (.c r1 (.c r1 (.c r1 (.c r1 .n)))))))))))))))))))))) (by kernel_rfl)
   ·rcases fork_some h with ⟨h8, h⟩ | ⟨h8, h⟩
    ·injection h with h; subst h
     exact env.fun func46 can46 (its := [b0, .call [none] [] [] true (q2j_R a0 u2) (q2j_O a0 u2), b0, b0, .call [none] [] [] true (q2j_R a1 u5) (q2j_O a1 u5), b0, b0, b0, b0, b0, b0, b0, b0, b0, b0, b1, b1, b1, b1, b1, b1, b1]) (pos := s1) (.c h1 (.c (q2j_ok a0 u2 h3) (.c h4 (.c h4 (.c (q2j_ok a1 u5 h6) (.c h4 (.c h4 (.c h7 (.c h7 (.c h7 (.c h7 (.c h7 (.c h7 (.c h7 (.c h7 (.c h8 (.c h8 (.c h8 (.c h8 (.c h8 (.c h8 (.c r1 .n)))))))))))))))))))))) (by kernel_rfl)
    ·rcases fork_some h with ⟨h9, h⟩ | ⟨h9, h⟩
     ·injection h with h; subst h
      exact env.fun func46 can46 (its := [b0, .call [none] [] [] true (q2j_R a0 u2) (q2j_O a0 u2), b0, b0, .call [none] [] [] true (q2j_R a1 u5) (q2j_O a1 u5), b0, b0, b0, b0, b0, b0, b0, b0, b0, b0, b0, b0, b0, b0, b0, b0, b1]) (pos := s1) (.c h1 (.c (q2j_ok a0 u2 h3) (.c h4 (.c h4 (.c (q2j_ok a1 u5 h6) (.c h4 (.c h4 (.c h7 (.c h7 (.c h7 (.c h7 (.c h7 (.c h7 (.c h7 (.c h7 (.c h8 (.c h8 (.c h8 (.c h8 (.c h8 (.c h8 (.c h9 .n)))))))))))))))))))))) (by kernel_rfl)
     ·obtain ⟨o19, h20, h⟩ := andThen_some h
      rcases o19 with o21 | o22
      ·injection h with h; subst h
       exact env.fun func46 can46 (its := [b0, .call [none] [] [] true (q2j_R a0 u2) (q2j_O a0 u2), b0, b0, .call [none] [] [] true (q2j_R a1 u5) (q2j_O a1 u5), b0, b0, b0, b0, b0, b0, b0, b0, b0, b0, b0, b0, b0, b0, b0, b0, b0, .dive, .sel [0, 39, 40, 41] [0, 3], .part (qf_1_ex (.inl o21)) (qf_1_st (.inl o21))]) (pos := s1) (.c h1 (.c (q2j_ok a0 u2 h3) (.c h4 (.c h4 (.c (q2j_ok a1 u5 h6) (.c h4 (.c h4 (.c h7 (.c h7 (.c h7 (.c h7 (.c h7 (.c h7 (.c h7 (.c h7 (.c h8 (.c h8 (.c h8 (.c h8 (.c h8 (.c h8 (.c h9 (.c (qf_1_ok (List.length ([a0, a1] : List (Tedcc)) : Int) (0 : Int) a2 ([a0, a1] : List (Tedcc)) (.inl o21) h20) .n))))))))))))))))))))))) (by kernel_rfl)
      ·injection h with h; subst h
       exact env.fun func46 can46 (its := [b0, .call [none] [] [] true (q2j_R a0 u2) (q2j_O a0 u2), b0, b0, .call [none] [] [] true (q2j_R a1 u5) (q2j_O a1 u5), b0, b0, b0, b0, b0, b0, b0, b0, b0, b0, b0, b0, b0, b0, b0, b0, b0, .dive, .sel [0, 39, 40, 41] [0, 3], .part (qf_1_ex (.inr o22)) (qf_1_st (.inr o22))]) (pos := s1) (.c h1 (.c (q2j_ok a0 u2 h3) (.c h4 (.c h4 (.c (q2j_ok a1 u5 h6) (.c h4 (.c h4 (.c h7 (.c h7 (.c h7 (.c h7 (.c h7 (.c h7 (.c h7 (.c h7 (.c h8 (.c h8 (.c h8 (.c h8 (.c h8 (.c h8 (.c h9 (.c (qf_1_ok (List.length ([a0, a1] : List (Tedcc)) : Int) (0 : Int) a2 ([a0, a1] : List (Tedcc)) (.inr o22) h20) .n))))))))))))))))))))))) (by kernel_rfl)
theorem can18 : J01 prog 18 := ⟨_, func18, by kernel_rfl, by kernel_rfl⟩
def qy_1_in (x0 : Int) (x1 : List (Tedcc)) (x2 : List (List (T18c3))) (x3 : Unit) (x4 : List (B8)) (x5 : List (List (B8))) (x6 : List (B8)) (x7 : List (T484d)) : St := ⟨[(1, (.ptr 0 [])), (12, (.v (.int .i64) x0))], [.box Y6488 (.node (.own 1 []) (.node (.own 2 []) (.node (.own 3 []) (.node .nil (.node (.own 4 []) (.node (.v (.slice Yedcc) x1) (.node (.v (.slice (.slice Y18c3)) x2) (.v .unit x3)))))))) true, .row Yh x4 true, .row Ybb x5 true, .row .str x6 true, .row Y484d x7 true], 86, 0⟩
def qy_1_ex (o : (List (Tedcc)) × (List (List (T18c3))) × Unit × List (B8) × List (List (B8)) × List (B8) × List (T484d)) : Exit := (.exit 0)
def qy_1_st (o : (List (Tedcc)) × (List (List (T18c3))) × Unit × List (B8) × List (List (B8)) × List (B8) × List (T484d)) : St := ⟨[(1, (.ptr 0 []))], [.box Y6488 (.node (.own 1 []) (.node (.own 2 []) (.node (.own 3 []) (.node .nil (.node (.own 4 []) (.node (.v (.slice Yedcc) o.1) (.node (.v (.slice (.slice Y18c3)) o.2.1) (.v .unit o.2.2.1)))))))) true, .row Yh o.2.2.2.1 true, .row Ybb o.2.2.2.2.1 true, .row .str o.2.2.2.2.2.1 true, .row Y484d o.2.2.2.2.2.2 true], 86, 0⟩
theorem qy_1_body (x0 : Int) (x1 : List (Tedcc)) (x2 : List (List (T18c3))) (x3 : Unit) (x4 : List (B8)) (x5 : List (List (B8))) (x6 : List (B8)) (x7 : List (T484d)) : ∀ r, qy_1_step x0 x1 x2 x3 x4 x5 x6 x7 = some r → (match r with | .inl s => J03 prog (J0w (bodyOf f18) [1, 1, 0, 1, 0, 0]) (qy_1_in x0 x1 x2 x3 x4 x5 x6 x7) .normal (qy_1_in s.1 s.2.1 s.2.2.1 s.2.2.2.1 s.2.2.2.2.1 s.2.2.2.2.2.1 s.2.2.2.2.2.2.1 s.2.2.2.2.2.2.2) | .inr o => qy_1_ex o ≠ .normal ∧ J03 prog (J0w (bodyOf f18) [1, 1, 0, 1, 0, 0]) (qy_1_in x0 x1 x2 x3 x4 x5 x6 x7) (qy_1_ex o) (qy_1_st o)) := by
 intro r h
 unfold qy_1_step at h
 rcases fork_some h with ⟨h4, h⟩ | ⟨h4, h⟩
 ·obtain ⟨u5, h6, h⟩ := andThen_some h
  injection h with h; subst h
  exact env.code (its := [b1, .call [none, none] [0, 1, 2, 3, 4] [] false (qc_R (w64 ((10 : Int) * (w64 (x0 + (1 : Int))))) x1 x2 x3 x4 x5 x6 x7 u5) (qc_O (w64 ((10 : Int) * (w64 (x0 + (1 : Int))))) x1 x2 x3 x4 x5 x6 x7 u5), .sel [1, 12] [0, 1, 2, 3, 4]]) (.c h4 (.c (qc_ok (w64 ((10 : Int) * (w64 (x0 + (1 : Int))))) x1 x2 x3 x4 x5 x6 x7 u5 h6) .n)) (by kernel_rfl)
 ·injection h with h; subst h
  exact ⟨by intro e; simp [qy_1_ex] at e, env.code (its := [b0, .sel [1] [0, 1, 2, 3, 4]]) (.c h4 .n) (by kernel_rfl)⟩
theorem qy_1_ok (x0 : Int) (x1 : List (Tedcc)) (x2 : List (List (T18c3))) (x3 : Unit) (x4 : List (B8)) (x5 : List (List (B8))) (x6 : List (B8)) (x7 : List (T484d)) (o : (List (Tedcc)) × (List (List (T18c3))) × Unit × List (B8) × List (List (B8)) × List (B8) × List (T484d)) (h : qy_1 x0 x1 x2 x3 x4 x5 x6 x7 = some o) : J03 prog (J0w (bodyOf f18) [1, 1, 0, 1, 0]) (qy_1_in x0 x1 x2 x3 x4 x5 x6 x7) (qy_1_ex o) (qy_1_st o) :=
 J06.of_step (st := fun s => qy_1_in s.1 s.2.1 s.2.2.1 s.2.2.2.1 s.2.2.2.2.1 s.2.2.2.2.2.1 s.2.2.2.2.2.2.1 s.2.2.2.2.2.2.2) (ex := qy_1_ex) (stO := qy_1_st) (fun s s2 hs => qy_1_body s.1 s.2.1 s.2.2.1 s.2.2.2.1 s.2.2.2.2.1 s.2.2.2.2.2.1 s.2.2.2.2.2.2.1 s.2.2.2.2.2.2.2 (.inl s2) hs) (fun s r hs => qy_1_body s.1 s.2.1 s.2.2.1 s.2.2.2.1 s.2.2.2.2.1 s.2.2.2.2.2.1 s.2.2.2.2.2.2.1 s.2.2.2.2.2.2.2 (.inr r) hs) _ o h
def qy_R  (u : Bool) : Slot := (.v .bool u)
def qy_O  (u : Bool) : List AObj := []
theorem qy_ok  (u : Bool) (h : qy  = some u) : CallC prog 18 [] [] (qy_R u) (qy_O u) := by
 unfold qy at h
 obtain ⟨u1, h2, h⟩ := andThen_some h
 obtain ⟨o7, h8, h⟩ := andThen_some h
 obtain ⟨h9, h⟩ := need_some h
 obtain ⟨u10, h11, h⟩ := andThen_some h
 rcases u10 with u12 | u13
 ·cases h
 ·rcases fork_some h with ⟨h14, h⟩ | ⟨h14, h⟩
  ·cases h
  ·obtain ⟨h15, h⟩ := need_some h
   obtain ⟨u16, h17, h⟩ := andThen_some h
   obtain ⟨u18, h19, h⟩ := andThen_some h
   obtain ⟨h20, h⟩ := need_some h
   obtain ⟨u21, h22, h⟩ := andThen_some h
   obtain ⟨u23, h24, h⟩ := andThen_some h
   rcases fork_some h with ⟨h25, h⟩ | ⟨h25, h⟩
   ·rcases fork_some h with ⟨h26, h⟩ | ⟨h26, h⟩
    ·rcases fork_some h with ⟨h27, h⟩ | ⟨h27, h⟩
     ·obtain ⟨u28, h29, h⟩ := andThen_some h
      rcases fork_some h with ⟨h30, h⟩ | ⟨h30, h⟩
      ·obtain ⟨u31, h32, h⟩ := andThen_some h
       injection h with h; subst h
       exact env.fun func18 can18 (its := [.call [none] [] [0] false (q1r_R ([(1 : Int)] : List (Int)) u1) (q1r_O ([(1 : Int)] : List (Int)) u1), .dive, .J67 1 [.fld 5], .J67 1 [.fld 6], .sel [1, 12] [1, 2, 3, 4, 5], .part (qy_1_ex o7) (qy_1_st o7), .pre p55, .call [none, none, none] [] [] false (q3a_R ((List.getD o7.1 (Int.toNat (0 : Int)) Zedcc).1) ((List.getD o7.1 (Int.toNat (0 : Int)) Zedcc).2.2.2.1) (100 : Int) (.inr u13)) (q3a_O ((List.getD o7.1 (Int.toNat (0 : Int)) Zedcc).1) ((List.getD o7.1 (Int.toNat (0 : Int)) Zedcc).2.2.2.1) (100 : Int) (.inr u13)), b0, b0, b0, b0, .pre p56, .call [none, none, none] [0] [] false (qq_R (List.getD o7.1 (Int.toNat (1 : Int)) Zedcc) (25 : Int) u13.2 u16) (qq_O (List.getD o7.1 (Int.toNat (1 : Int)) Zedcc) (25 : Int) u13.2 u16), .call [none, none, none] [0] [] false (qq_R (List.getD o7.1 (Int.toNat (1 : Int)) Zedcc) (25 : Int) u16.2 u18) (qq_O (List.getD o7.1 (Int.toNat (1 : Int)) Zedcc) (25 : Int) u16.2 u18), .call [none, none, none] [] [6] false (q1f_R (List.getD o7.1 (Int.toNat (2 : Int)) Zedcc) ([(0 : Int)] : List (Int)) (5 : Int) u21) (q1f_O (List.getD o7.1 (Int.toNat (2 : Int)) Zedcc) ([(0 : Int)] : List (Int)) (5 : Int) u21), .pre p57, .call [none, none, none] [0] [] false (qf_R (List.getD o7.1 (Int.toNat (2 : Int)) Zedcc) u21 u18.2 u23) (qf_O (List.getD o7.1 (Int.toNat (2 : Int)) Zedcc) u21 u18.2 u23), b1, b1, b1, b1, b1, b1, b1, b1, .call [none] [5] [] false (qm_R u23.2 u28) (qm_O u23.2 u28), b1, b1, b1, b1, b1, b1, .call [none, none, none] [5] [] false (qq_R (List.getD o7.1 (Int.toNat (2 : Int)) Zedcc) (35 : Int) u23.2 u31) (qq_O (List.getD o7.1 (Int.toNat (2 : Int)) Zedcc) (35 : Int) u23.2 u31), b1, b1]) (pos := s0) (.c (q1r_ok ([(1 : Int)] : List (Int)) u1 h2) (.c (qy_1_ok (0 : Int) ([] : List (Tedcc)) ([] : List (List (T18c3))) u1.1 u1.2.1 u1.2.2.1 u1.2.2.2.1 u1.2.2.2.2 o7 h8) (.c h9 (.c h9 (.c (q3a_ok ((List.getD o7.1 (Int.toNat (0 : Int)) Zedcc).1) ((List.getD o7.1 (Int.toNat (0 : Int)) Zedcc).2.2.2.1) (100 : Int) (.inr u13) h11) (.c r0 (.c r0 (.c r0 (.c h14 (.c h15 (.c (qq_ok (List.getD o7.1 (Int.toNat (1 : Int)) Zedcc) (25 : Int) u13.2 u16 h17) (.c h15 (.c (qq_ok (List.getD o7.1 (Int.toNat (1 : Int)) Zedcc) (25 : Int) u16.2 u18 h19) (.c h20 (.c (q1f_ok (List.getD o7.1 (Int.toNat (2 : Int)) Zedcc) ([(0 : Int)] : List (Int)) (5 : Int) u21 h22) (.c h20 (.c (qf_ok (List.getD o7.1 (Int.toNat (2 : Int)) Zedcc) u21 u18.2 u23 h24) (.c h25 (.c h25 (.c h25 (.c h26 (.c h26 (.c h26 (.c h27 (.c h27 (.c (qm_ok u23.2 u28 h29) (.c h27 (.c h30 (.c h30 (.c h30 (.c h20 (.c h30 (.c h30 (.c (qq_ok (List.getD o7.1 (Int.toNat (2 : Int)) Zedcc) (35 : Int) u23.2 u31 h32) (.c h30 (.c h30 .n)))))))))))))))))))))))))))))))))))) (by kernel_rfl)
      ·cases h
     ·cases h
    ·cases h
   ·cases h
end
end Go.Proofs.YtanhbdkimbljeaaGreat.lightHonest
