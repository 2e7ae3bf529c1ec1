/-
  The functions, walked through: each call comes to what the pure text says.
-/
import Derived.Test.YtcfaippbnmmelaaGreatProg
import Derived.Test.YtcfaippbnmmelaaGreatAxC
import Derived.Test.YtcfaippbnmmelaaGreatCLightSkipsP
import Derived.Test.YtcfaippbnmmelaaGreatCLightSkipsW1
namespace Go.Proofs.YtcfaippbnmmelaaGreat.lightSkips
open Go.Ax Go.Ax.V Go.Proofs.Tryz
set_option maxRecDepth 100000
set_option linter.unusedVariables false
noncomputable section
theorem can94 : J01 prog 94 := ⟨_, func94, by kernel_rfl, by kernel_rfl⟩
def q2r_1_in (x0 : List (T484d)) (x1 : List (B8)) (x2 : Int) (x3 : List (T484d)) (x4 : Int) (x5 : Int) : St := ⟨[(0, (.v (.slice Y484d) x0)), (1, (.v (.slice .str) x1)), (5, (.v (.int .i64) x2)), (8, (.v (.slice Y484d) x3)), (9, (.v (.int .i64) x4)), (10, (.v (.int .i64) x5))], [], 29, 0⟩
def q2r_1_ex (o : (List (T484d)) × Int) : Exit := (.exit 0)
def q2r_1_st (o : (List (T484d)) × Int) : St := ⟨[(0, (.v (.slice Y484d) o.1)), (5, (.v (.int .i64) o.2))], [], 29, 0⟩
theorem q2r_1_body (x0 : List (T484d)) (x1 : List (B8)) (x2 : Int) (x3 : List (T484d)) (x4 : Int) (x5 : Int) : ∀ r, q2r_1_step x0 x1 x2 x3 x4 x5 = some r → (match r with | .inl s => J03 prog (J0w (bodyOf f94) [1, 1, 0, 1, 0, 0]) (q2r_1_in x0 x1 x2 x3 x4 x5) .normal (q2r_1_in x0 x1 s.1 x3 x4 s.2) | .inr o => q2r_1_ex o ≠ .normal ∧ J03 prog (J0w (bodyOf f94) [1, 1, 0, 1, 0, 0]) (q2r_1_in x0 x1 x2 x3 x4 x5) (q2r_1_ex o) (q2r_1_st o)) := by
 intro r h
 unfold q2r_1_step at h
 rcases fork_some h with ⟨h2, h⟩ | ⟨h2, h⟩
 ·obtain ⟨h3, h⟩ := need_some h
  obtain ⟨u4, h5, h⟩ := andThen_some h
  rcases fork_some h with ⟨h6, h⟩ | ⟨h6, h⟩
  ·injection h with h; subst h
   exact env.code (its := [b1, .call [none, none] [] [] true (qb_R x1 ((List.getD x3 (Int.toNat x5) Z484d).1) u4) (qb_O x1 ((List.getD x3 (Int.toNat x5) Z484d).1) u4), b1, .sel [0, 1, 5, 8, 9, 10] []]) (.c h2 (.c h3 (.c (qb_ok x1 ((List.getD x3 (Int.toNat x5) Z484d).1) u4 h5) (.c h6 .n)))) (by kernel_rfl)
  ·injection h with h; subst h
   exact env.code (its := [b1, .call [none, none] [] [] true (qb_R x1 ((List.getD x3 (Int.toNat x5) Z484d).1) u4) (qb_O x1 ((List.getD x3 (Int.toNat x5) Z484d).1) u4), b0, .sel [0, 1, 5, 8, 9, 10] []]) (.c h2 (.c h3 (.c (qb_ok x1 ((List.getD x3 (Int.toNat x5) Z484d).1) u4 h5) (.c h6 .n)))) (by kernel_rfl)
 ·injection h with h; subst h
  exact ⟨by intro e; simp [q2r_1_ex] at e, env.code (its := [b0, .sel [0, 5] []]) (.c h2 .n) (by kernel_rfl)⟩
theorem q2r_1_ok (x0 : List (T484d)) (x1 : List (B8)) (x2 : Int) (x3 : List (T484d)) (x4 : Int) (x5 : Int) (o : (List (T484d)) × Int) (h : q2r_1 x0 x1 x2 x3 x4 x5 = some o) : J03 prog (J0w (bodyOf f94) [1, 1, 0, 1, 0]) (q2r_1_in x0 x1 x2 x3 x4 x5) (q2r_1_ex o) (q2r_1_st o) :=
 J06.of_step (st := fun s => q2r_1_in x0 x1 s.1 x3 x4 s.2) (ex := q2r_1_ex) (stO := q2r_1_st) (fun s s2 hs => q2r_1_body x0 x1 s.1 x3 x4 s.2 (.inl s2) hs) (fun s r hs => q2r_1_body x0 x1 s.1 x3 x4 s.2 (.inr r) hs) _ o h
def q2r_R (a0 : List (T484d)) (a1 : List (B8)) (u : Int × Int) : Slot := (.v .cplx u)
def q2r_O (a0 : List (T484d)) (a1 : List (B8)) (u : Int × Int) : List AObj := []
theorem q2r_ok (a0 : List (T484d)) (a1 : List (B8)) (u : Int × Int) (h : q2r a0 a1 = some u) : CallC prog 94 [(.v (.slice Y484d) a0), (.v (.slice .str) a1)] [] (q2r_R a0 a1 u) (q2r_O a0 a1 u) := by
 unfold q2r at h
 obtain ⟨o7, h8, h⟩ := andThen_some h
 obtain ⟨h9, h⟩ := need_some h
 obtain ⟨u10, h11, h⟩ := andThen_some h
 obtain ⟨h12, h⟩ := need_some h
 injection h with h; subst h
 exact env.fun func94 can94 (its := [.dive, .sel [0, 1, 5, 8, 9, 10] [], .part (q2r_1_ex o7) (q2r_1_st o7), .call [none] [] [] true (q2k_R o7.1 u10) (q2k_O o7.1 u10)]) (pos := [.sel []]) (.c (q2r_1_ok a0 a1 (0 : Int) a0 (List.length a0 : Int) (0 : Int) o7 h8) (.c h9 (.c (q2k_ok o7.1 u10 h11) (.c h12 .n)))) (by kernel_rfl)
theorem can78 : J01 prog 78 := ⟨_, func78, by kernel_rfl, by kernel_rfl⟩
def q2d_R (a0 : List (T484d)) (a1 : Tf0bc) (a2 : List (T8f72)) (u : Int × Int) : Slot := (.v .cplx u)
def q2d_O (a0 : List (T484d)) (a1 : Tf0bc) (a2 : List (T8f72)) (u : Int × Int) : List AObj := []
theorem q2d_ok (a0 : List (T484d)) (a1 : Tf0bc) (a2 : List (T8f72)) (u : Int × Int) (h : q2d a0 a1 a2 = some u) : CallC prog 78 [(.v (.slice Y484d) a0), (.v Yf0bc a1), (.v (.slice Y8f72) a2)] [] (q2d_R a0 a1 a2 u) (q2d_O a0 a1 a2 u) := by
 unfold q2d at h
 obtain ⟨u1, h2, h⟩ := andThen_some h
 obtain ⟨u3, h4, h⟩ := andThen_some h
 injection h with h; subst h
 exact env.fun func78 can78 (its := [.call [none, none, none] [] [] true (q2p_R a0 a1 a2 u1) (q2p_O a0 a1 a2 u1), .call [none, none] [] [1] true (q2r_R a0 u1 u3) (q2r_O a0 u1 u3)]) (pos := [.sel []]) (.c (q2p_ok a0 a1 a2 u1 h2) (.c (q2r_ok a0 u1 u3 h4) .n)) (by kernel_rfl)
theorem can77 : J01 prog 77 := ⟨_, func77, by kernel_rfl, by kernel_rfl⟩
def q36_R (a0 : Int × Int) (a1 : Int) (a2 : Int) (u : Bool) : Slot := (.v .bool u)
def q36_O (a0 : Int × Int) (a1 : Int) (a2 : Int) (u : Bool) : List AObj := []
theorem q36_ok (a0 : Int × Int) (a1 : Int) (a2 : Int) (u : Bool) (h : q36 a0 a1 a2 = some u) : CallC prog 77 [(.v .cplx a0), (.v (.int .i64) a1), (.v (.int .i64) a2)] [] (q36_R a0 a1 a2 u) (q36_O a0 a1 a2 u) := by
 unfold q36 at h
 injection h with h; subst h
 exact env.fun func77 can77 (its := []) (pos := [.sel []]) .n (by kernel_rfl)
theorem can45 : J01 prog 45 := ⟨_, func45, by kernel_rfl, by kernel_rfl⟩
def q2b_R (a0 : List (T484d)) (a1 : Tf0bc) (a2 : List (T8f72)) (u : Bool) : Slot := (.v .bool u)
def q2b_O (a0 : List (T484d)) (a1 : Tf0bc) (a2 : List (T8f72)) (u : Bool) : List AObj := []
theorem q2b_ok (a0 : List (T484d)) (a1 : Tf0bc) (a2 : List (T8f72)) (u : Bool) (h : q2b a0 a1 a2 = some u) : CallC prog 45 [(.v (.slice Y484d) a0), (.v Yf0bc a1), (.v (.slice Y8f72) a2)] [] (q2b_R a0 a1 a2 u) (q2b_O a0 a1 a2 u) := by
 unfold q2b at h
 obtain ⟨u1, h2, h⟩ := andThen_some h
 obtain ⟨u3, h4, h⟩ := andThen_some h
 injection h with h; subst h
 exact env.fun func45 can45 (its := [.call [none, none, none] [] [] true (q2d_R a0 a1 a2 u1) (q2d_O a0 a1 a2 u1), .call [none, none, none] [] [] true (q36_R u1 (2 : Int) (3 : Int) u3) (q36_O u1 (2 : Int) (3 : Int) u3)]) (pos := [.sel []]) (.c (q2d_ok a0 a1 a2 u1 h2) (.c (q36_ok u1 (2 : Int) (3 : Int) u3 h4) .n)) (by kernel_rfl)
theorem can46 : J01 prog 46 := ⟨_, func46, by kernel_rfl, by kernel_rfl⟩
def q31_R (a0 : List (T484d)) (a1 : Tf0bc) (a2 : List (T8f72)) (u : Bool) : Slot := (.v .bool u)
def q31_O (a0 : List (T484d)) (a1 : Tf0bc) (a2 : List (T8f72)) (u : Bool) : List AObj := []
theorem q31_ok (a0 : List (T484d)) (a1 : Tf0bc) (a2 : List (T8f72)) (u : Bool) (h : q31 a0 a1 a2 = some u) : CallC prog 46 [(.v (.slice Y484d) a0), (.v Yf0bc a1), (.v (.slice Y8f72) a2)] [] (q31_R a0 a1 a2 u) (q31_O a0 a1 a2 u) := by
 unfold q31 at h
 obtain ⟨u1, h2, h⟩ := andThen_some h
 obtain ⟨u3, h4, h⟩ := andThen_some h
 injection h with h; subst h
 exact env.fun func46 can46 (its := [.call [none, none, none] [] [] true (q2d_R a0 a1 a2 u1) (q2d_O a0 a1 a2 u1), .call [none, none, none] [] [] true (q36_R u1 (1 : Int) (3 : Int) u3) (q36_O u1 (1 : Int) (3 : Int) u3)]) (pos := [.sel []]) (.c (q2d_ok a0 a1 a2 u1 h2) (.c (q36_ok u1 (1 : Int) (3 : Int) u3 h4) .n)) (by kernel_rfl)
theorem can47 : J01 prog 47 := ⟨_, func47, by kernel_rfl, by kernel_rfl⟩
def qf_R (a0 : List (Tf0bc)) (u : List (Tf0bc)) : Slot := .own 0 []
def qf_O (a0 : List (Tf0bc)) (u : List (Tf0bc)) : List AObj := [.row Yf0bc u true]
theorem qf_ok (a0 : List (Tf0bc)) (u : List (Tf0bc)) (h : qf a0 = some u) : CallC prog 47 [.v (.slice Yf0bc) a0] [] (qf_R a0 u) (qf_O a0 u) := by
 unfold qf at h
 obtain ⟨h1, h⟩ := need_some h
 injection h with h; subst h
 rcases a0 with _ | ⟨x0, a0⟩
 ·exact env.funAny (r0 := J0w (bodyOf f47) [0]) (r1 := J0w (bodyOf f47) [1, 0, 0]) (x := J0w (bodyOf f47) [1, 0, 1, 0]) (z := J0w (bodyOf f47) [1, 1]) (t := 4) (r := (.own 0 [])) func47 can47 (i0 := [.sel [0] []]) (i1 := [.sel [0, 4] []]) (i2 := [.promote 2 Yf0bc, .sel [2] [0]]) (i3 := [.sel [2] [1]]) (pos := [.sel [0]]) (st1 := ⟨[(0, (.v (.slice Yf0bc) ([] : List (Tf0bc))))], [], 8, 0⟩) (st2 := ⟨[(0, (.v (.slice Yf0bc) ([] : List (Tf0bc)))), (4, .anyb)], [], 8, 0⟩) (st3 := ⟨[(2, (.own 0 []))], [.row Yf0bc ([] : List (Tf0bc)) true], 8, 0⟩) (by kernel_rfl) (by kernel_rfl) (by kernel_rfl) (by kernel_rfl) (by kernel_rfl) (by kernel_rfl) (.c (show List.length ([] : List (Tf0bc)) + List.length ([] : List (Tf0bc)) ≤ 2147483648 from by first | decide | (simp at h1 ⊢; try omega)) .n) (by kernel_rfl) (by kernel_rfl) (by kernel_rfl)
 ·exact env.fun func47 can47 (its := [b0]) (pos := [.sel [1]]) (.c r0 (.c (show List.length ([] : List (Tf0bc)) + List.length (x0 :: a0) ≤ 2147483648 from by first | decide | (simp at h1 ⊢; try omega)) .n)) (by kernel_rfl)
theorem can12 : J01 prog 12 := ⟨_, func12, by kernel_rfl, by kernel_rfl⟩
def qn_R (a0 : Tedcc) (a1 : Int) (a2 : T65da) (u : Int × T65da) : Slot := (.v (.int .i64) u.1)
def qn_O (a0 : Tedcc) (a1 : Int) (a2 : T65da) (u : Int × T65da) : List AObj := [.box Y65da (.v Y65da u.2) true]
theorem qn_ok (a0 : Tedcc) (a1 : Int) (a2 : T65da) (u : Int × T65da) (h : qn a0 a1 a2 = some u) : CallC prog 12 [(.ptr 0 []), (.v Yedcc a0), (.v (.int .i64) a1)] [.box Y65da (.v Y65da a2) true] (qn_R a0 a1 a2 u) (qn_O a0 a1 a2 u) := by
 unfold qn at h
 obtain ⟨u1, h2, h⟩ := andThen_some h
 rcases fork_some h with ⟨h3, h⟩ | ⟨h3, h⟩
 ·injection h with h; subst h
  exact env.fun func12 can12 (its := [.call [none] [0] [] false (qp_R a2 u1) (qp_O a2 u1), b1]) (pos := [.sel [0]]) (.c (qp_ok a2 u1 h2) (.c h3 .n)) (by kernel_rfl)
 ·obtain ⟨u4, h5, h⟩ := andThen_some h
  rcases fork_some h with ⟨h6, h⟩ | ⟨h6, h⟩
  ·injection h with h; subst h
   exact env.fun func12 can12 (its := [.call [none] [0] [] false (qp_R a2 u1) (qp_O a2 u1), b0, .call [none] [] [] true (q2a_R a0 u4) (q2a_O a0 u4), b1]) (pos := [.sel [0]]) (.c (qp_ok a2 u1 h2) (.c h3 (.c (q2a_ok a0 u4 h5) (.c h6 .n)))) (by kernel_rfl)
  ·rcases fork_some h with ⟨h7, h⟩ | ⟨h7, h⟩
   ·injection h with h; subst h
    exact env.fun func12 can12 (its := [.call [none] [0] [] false (qp_R a2 u1) (qp_O a2 u1), b0, .call [none] [] [] true (q2a_R a0 u4) (q2a_O a0 u4), b0, b1]) (pos := [.sel [0]]) (.c (qp_ok a2 u1 h2) (.c h3 (.c (q2a_ok a0 u4 h5) (.c h6 (.c h7 .n))))) (by kernel_rfl)
   ·rcases fork_some h with ⟨h8, h⟩ | ⟨h8, h⟩
    ·injection h with h; subst h
     exact env.fun func12 can12 (its := [.call [none] [0] [] false (qp_R a2 u1) (qp_O a2 u1), b0, .call [none] [] [] true (q2a_R a0 u4) (q2a_O a0 u4), b0, b0, b1]) (pos := [.sel [0]]) (.c (qp_ok a2 u1 h2) (.c h3 (.c (q2a_ok a0 u4 h5) (.c h6 (.c h7 (.c h8 .n)))))) (by kernel_rfl)
    ·obtain ⟨u9, h10, h⟩ := andThen_some h
     rcases fork_some h with ⟨h11, h⟩ | ⟨h11, h⟩
     ·injection h with h; subst h
      exact env.fun func12 can12 (its := [.call [none] [0] [] false (qp_R a2 u1) (qp_O a2 u1), b0, .call [none] [] [] true (q2a_R a0 u4) (q2a_O a0 u4), b0, b0, b0, .call [none, none] [0] [] false (ql_R a1 a2 u9) (ql_O a1 a2 u9), b1, b1, b1, b1, b1, b1, b1]) (pos := [.sel [0]]) (.c (qp_ok a2 u1 h2) (.c h3 (.c (q2a_ok a0 u4 h5) (.c h6 (.c h7 (.c h8 (.c (ql_ok a1 a2 u9 h10) (.c h11 (.c h11 (.c h11 (.c h11 (.c h11 (.c h11 (.c r1 .n)))))))))))))) (by kernel_rfl)
     ·rcases fork_some h with ⟨h12, h⟩ | ⟨h12, h⟩
      ·injection h with h; subst h
       exact env.fun func12 can12 (its := [.call [none] [0] [] false (qp_R a2 u1) (qp_O a2 u1), b0, .call [none] [] [] true (q2a_R a0 u4) (q2a_O a0 u4), b0, b0, b0, .call [none, none] [0] [] false (ql_R a1 a2 u9) (ql_O a1 a2 u9), b0, b0, b0, b0, b0, b0, b1]) (pos := [.sel [0]]) (.c (qp_ok a2 u1 h2) (.c h3 (.c (q2a_ok a0 u4 h5) (.c h6 (.c h7 (.c h8 (.c (ql_ok a1 a2 u9 h10) (.c h11 (.c h11 (.c h11 (.c h11 (.c h11 (.c h11 (.c h12 .n)))))))))))))) (by kernel_rfl)
      ·rcases fork_some h with ⟨h13, h⟩ | ⟨h13, h⟩
       ·rcases fork_some h with ⟨h14, h⟩ | ⟨h14, h⟩
        ·injection h with h; subst h
         exact env.fun func12 can12 (its := [.call [none] [0] [] false (qp_R a2 u1) (qp_O a2 u1), b0, .call [none] [] [] true (q2a_R a0 u4) (q2a_O a0 u4), b0, b0, b0, .call [none, none] [0] [] false (ql_R a1 a2 u9) (ql_O a1 a2 u9), b0, b0, b0, b0, b0, b0, b0, .pre p45, b1, b1, b1, b1, b1, b1, b1, b1, b1, b1, b1, b1, b1, b1, b1, b1, b1, b1, b1, b1, b1, b1]) (pos := [.sel [0]]) (.c (qp_ok a2 u1 h2) (.c h3 (.c (q2a_ok a0 u4 h5) (.c h6 (.c h7 (.c h8 (.c (ql_ok a1 a2 u9 h10) (.c h11 (.c h11 (.c h11 (.c h11 (.c h11 (.c h11 (.c h12 (.c h13 (.c h13 (.c h13 (.c h13 (.c h13 (.c h13 (.c h13 (.c h14 (.c h14 (.c h14 (.c h14 (.c h14 (.c h14 (.c h14 (.c h14 (.c h14 (.c r1 (.c r1 (.c r1 (.c r1 (.c r1 (.c r1 .n)))))))))))))))))))))))))))))))))))) (by kernel_rfl)
        ·obtain ⟨u15, h16, h⟩ := andThen_some h
         rcases fork_some h with ⟨h17, h⟩ | ⟨h17, h⟩
         ·injection h with h; subst h
          exact env.fun func12 can12 (its := [.call [none] [0] [] false (qp_R a2 u1) (qp_O a2 u1), b0, .call [none] [] [] true (q2a_R a0 u4) (q2a_O a0 u4), b0, b0, b0, .call [none, none] [0] [] false (ql_R a1 a2 u9) (ql_O a1 a2 u9), b0, b0, b0, b0, b0, b0, b0, .pre p45, b1, b1, b1, b1, b1, b1, b1, b0, b0, b0, b0, b0, b0, b0, .asis, .call [none, none, none] [] [] true (q2b_R a0.2.2.1 a0.1 a0.2.1 u15) (q2b_O a0.2.2.1 a0.1 a0.2.1 u15), b0, b0, b1, b1, b1, b1, b1, b1]) (pos := [.sel [0]]) (.c (qp_ok a2 u1 h2) (.c h3 (.c (q2a_ok a0 u4 h5) (.c h6 (.c h7 (.c h8 (.c (ql_ok a1 a2 u9 h10) (.c h11 (.c h11 (.c h11 (.c h11 (.c h11 (.c h11 (.c h12 (.c h13 (.c h13 (.c h13 (.c h13 (.c h13 (.c h13 (.c h13 (.c h14 (.c h14 (.c h14 (.c h14 (.c h14 (.c h14 (.c h14 (.c rn (.c (q2b_ok a0.2.2.1 a0.1 a0.2.1 u15 h16) (.c h14 (.c h14 (.c h17 (.c h17 (.c h17 (.c h17 (.c h17 (.c r1 .n)))))))))))))))))))))))))))))))))))))) (by kernel_rfl)
         ·rcases fork_some h with ⟨h18, h⟩ | ⟨h18, h⟩
          ·obtain ⟨u19, h20, h⟩ := andThen_some h
           rcases fork_some h with ⟨h21, h⟩ | ⟨h21, h⟩
           ·injection h with h; subst h
            exact env.fun func12 can12 (its := [.call [none] [0] [] false (qp_R a2 u1) (qp_O a2 u1), b0, .call [none] [] [] true (q2a_R a0 u4) (q2a_O a0 u4), b0, b0, b0, .call [none, none] [0] [] false (ql_R a1 a2 u9) (ql_O a1 a2 u9), b0, b0, b0, b0, b0, b0, b0, .pre p45, b1, b1, b1, b1, b1, b1, b1, b0, b0, b0, b0, b0, b0, b0, .asis, .call [none, none, none] [] [] true (q2b_R a0.2.2.1 a0.1 a0.2.1 u15) (q2b_O a0.2.2.1 a0.1 a0.2.1 u15), b0, b0, b0, b0, b0, b1, b1, b1, b1, b1, b1, b1, b1, b1, .asis, .call [none, none, none] [] [] true (q31_R a2.2.1 a0.1 a0.2.1 u19) (q31_O a2.2.1 a0.1 a0.2.1 u19), b1, b0, b1, b0, b1]) (pos := [.sel [0]]) (.c (qp_ok a2 u1 h2) (.c h3 (.c (q2a_ok a0 u4 h5) (.c h6 (.c h7 (.c h8 (.c (ql_ok a1 a2 u9 h10) (.c h11 (.c h11 (.c h11 (.c h11 (.c h11 (.c h11 (.c h12 (.c h13 (.c h13 (.c h13 (.c h13 (.c h13 (.c h13 (.c h13 (.c h14 (.c h14 (.c h14 (.c h14 (.c h14 (.c h14 (.c h14 (.c rn (.c (q2b_ok a0.2.2.1 a0.1 a0.2.1 u15 h16) (.c h14 (.c h14 (.c h17 (.c h17 (.c h17 (.c h18 (.c h18 (.c h18 (.c h18 (.c h18 (.c h18 (.c h18 (.c h18 (.c h18 (.c rn (.c (q31_ok a2.2.1 a0.1 a0.2.1 u19 h20) (.c h18 (.c h17 (.c h18 (.c h17 (.c h21 .n))))))))))))))))))))))))))))))))))))))))))))))))))) (by kernel_rfl)
           ·obtain ⟨u22, h23, h⟩ := andThen_some h
            obtain ⟨h24, h⟩ := need_some h
            rcases fork_some h with ⟨h25, h⟩ | ⟨h25, h⟩
            ·obtain ⟨h26, h⟩ := need_some h
             obtain ⟨u27, h28, h⟩ := andThen_some h
             injection h with h; subst h
             exact env.fun func12 can12 (its := [.call [none] [0] [] false (qp_R a2 u1) (qp_O a2 u1), b0, .call [none] [] [] true (q2a_R a0 u4) (q2a_O a0 u4), b0, b0, b0, .call [none, none] [0] [] false (ql_R a1 a2 u9) (ql_O a1 a2 u9), b0, b0, b0, b0, b0, b0, b0, .pre p45, b1, b1, b1, b1, b1, b1, b1, b0, b0, b0, b0, b0, b0, b0, .asis, .call [none, none, none] [] [] true (q2b_R a0.2.2.1 a0.1 a0.2.1 u15) (q2b_O a0.2.2.1 a0.1 a0.2.1 u15), b0, b0, b0, b0, b0, b1, b1, b1, b1, b1, b1, b1, b1, b1, .asis, .call [none, none, none] [] [] true (q31_R a2.2.1 a0.1 a0.2.1 u19) (q31_O a2.2.1 a0.1 a0.2.1 u19), b1, b0, b1, b0, b0, .pre p46, .call [none] [] [] true (qf_R a2.1 u22) (qf_O a2.1 u22), b1, b0, .call [none] [] [] true (qy_R a0.2.2.2.1 u27) (qy_O a0.2.2.2.1 u27)]) (pos := [.J67 0 [], .sel [0]]) (.c (qp_ok a2 u1 h2) (.c h3 (.c (q2a_ok a0 u4 h5) (.c h6 (.c h7 (.c h8 (.c (ql_ok a1 a2 u9 h10) (.c h11 (.c h11 (.c h11 (.c h11 (.c h11 (.c h11 (.c h12 (.c h13 (.c h13 (.c h13 (.c h13 (.c h13 (.c h13 (.c h13 (.c h14 (.c h14 (.c h14 (.c h14 (.c h14 (.c h14 (.c h14 (.c rn (.c (q2b_ok a0.2.2.1 a0.1 a0.2.1 u15 h16) (.c h14 (.c h14 (.c h17 (.c h17 (.c h17 (.c h18 (.c h18 (.c h18 (.c h18 (.c h18 (.c h18 (.c h18 (.c h18 (.c h18 (.c rn (.c (q31_ok a2.2.1 a0.1 a0.2.1 u19 h20) (.c h18 (.c h17 (.c h18 (.c h17 (.c h21 (.c (qf_ok a2.1 u22 h23) (.c h24 (.c h25 (.c h26 (.c (qy_ok a0.2.2.2.1 u27 h28) .n)))))))))))))))))))))))))))))))))))))))))))))))))))))))) (by kernel_rfl)
            ·obtain ⟨u29, h30, h⟩ := andThen_some h
             injection h with h; subst h
             exact env.fun func12 can12 (its := [.call [none] [0] [] false (qp_R a2 u1) (qp_O a2 u1), b0, .call [none] [] [] true (q2a_R a0 u4) (q2a_O a0 u4), b0, b0, b0, .call [none, none] [0] [] false (ql_R a1 a2 u9) (ql_O a1 a2 u9), b0, b0, b0, b0, b0, b0, b0, .pre p45, b1, b1, b1, b1, b1, b1, b1, b0, b0, b0, b0, b0, b0, b0, .asis, .call [none, none, none] [] [] true (q2b_R a0.2.2.1 a0.1 a0.2.1 u15) (q2b_O a0.2.2.1 a0.1 a0.2.1 u15), b0, b0, b0, b0, b0, b1, b1, b1, b1, b1, b1, b1, b1, b1, .asis, .call [none, none, none] [] [] true (q31_R a2.2.1 a0.1 a0.2.1 u19) (q31_O a2.2.1 a0.1 a0.2.1 u19), b1, b0, b1, b0, b0, .pre p46, .call [none] [] [] true (qf_R a2.1 u22) (qf_O a2.1 u22), b0, .call [none] [] [] true (qy_R a0.2.2.2.1 u29) (qy_O a0.2.2.2.1 u29)]) (pos := [.J67 0 [], .sel [0]]) (.c (qp_ok a2 u1 h2) (.c h3 (.c (q2a_ok a0 u4 h5) (.c h6 (.c h7 (.c h8 (.c (ql_ok a1 a2 u9 h10) (.c h11 (.c h11 (.c h11 (.c h11 (.c h11 (.c h11 (.c h12 (.c h13 (.c h13 (.c h13 (.c h13 (.c h13 (.c h13 (.c h13 (.c h14 (.c h14 (.c h14 (.c h14 (.c h14 (.c h14 (.c h14 (.c rn (.c (q2b_ok a0.2.2.1 a0.1 a0.2.1 u15 h16) (.c h14 (.c h14 (.c h17 (.c h17 (.c h17 (.c h18 (.c h18 (.c h18 (.c h18 (.c h18 (.c h18 (.c h18 (.c h18 (.c h18 (.c rn (.c (q31_ok a2.2.1 a0.1 a0.2.1 u19 h20) (.c h18 (.c h17 (.c h18 (.c h17 (.c h21 (.c (qf_ok a2.1 u22 h23) (.c h24 (.c h25 (.c (qy_ok a0.2.2.2.1 u29 h30) .n))))))))))))))))))))))))))))))))))))))))))))))))))))))) (by kernel_rfl)
          ·obtain ⟨u31, h32, h⟩ := andThen_some h
           obtain ⟨h33, h⟩ := need_some h
           rcases fork_some h with ⟨h34, h⟩ | ⟨h34, h⟩
           ·obtain ⟨h35, h⟩ := need_some h
            obtain ⟨u36, h37, h⟩ := andThen_some h
            injection h with h; subst h
            exact env.fun func12 can12 (its := [.call [none] [0] [] false (qp_R a2 u1) (qp_O a2 u1), b0, .call [none] [] [] true (q2a_R a0 u4) (q2a_O a0 u4), b0, b0, b0, .call [none, none] [0] [] false (ql_R a1 a2 u9) (ql_O a1 a2 u9), b0, b0, b0, b0, b0, b0, b0, .pre p45, b1, b1, b1, b1, b1, b1, b1, b0, b0, b0, b0, b0, b0, b0, .asis, .call [none, none, none] [] [] true (q2b_R a0.2.2.1 a0.1 a0.2.1 u15) (q2b_O a0.2.2.1 a0.1 a0.2.1 u15), b0, b0, b0, b0, b0, b0, b0, b0, b0, b0, b0, b0, b0, b0, b0, b0, b0, b0, b0, .pre p46, .call [none] [] [] true (qf_R a2.1 u31) (qf_O a2.1 u31), b1, b0, .call [none] [] [] true (qy_R a0.2.2.2.1 u36) (qy_O a0.2.2.2.1 u36)]) (pos := [.J67 0 [], .sel [0]]) (.c (qp_ok a2 u1 h2) (.c h3 (.c (q2a_ok a0 u4 h5) (.c h6 (.c h7 (.c h8 (.c (ql_ok a1 a2 u9 h10) (.c h11 (.c h11 (.c h11 (.c h11 (.c h11 (.c h11 (.c h12 (.c h13 (.c h13 (.c h13 (.c h13 (.c h13 (.c h13 (.c h13 (.c h14 (.c h14 (.c h14 (.c h14 (.c h14 (.c h14 (.c h14 (.c rn (.c (q2b_ok a0.2.2.1 a0.1 a0.2.1 u15 h16) (.c h14 (.c h14 (.c h17 (.c h17 (.c h17 (.c h18 (.c h18 (.c h18 (.c h18 (.c h18 (.c h18 (.c h18 (.c h18 (.c h18 (.c h18 (.c h17 (.c h18 (.c h17 (.c r0 (.c (qf_ok a2.1 u31 h32) (.c h33 (.c h34 (.c h35 (.c (qy_ok a0.2.2.2.1 u36 h37) .n)))))))))))))))))))))))))))))))))))))))))))))))))))))) (by kernel_rfl)
           ·obtain ⟨u38, h39, h⟩ := andThen_some h
            injection h with h; subst h
            exact env.fun func12 can12 (its := [.call [none] [0] [] false (qp_R a2 u1) (qp_O a2 u1), b0, .call [none] [] [] true (q2a_R a0 u4) (q2a_O a0 u4), b0, b0, b0, .call [none, none] [0] [] false (ql_R a1 a2 u9) (ql_O a1 a2 u9), b0, b0, b0, b0, b0, b0, b0, .pre p45, b1, b1, b1, b1, b1, b1, b1, b0, b0, b0, b0, b0, b0, b0, .asis, .call [none, none, none] [] [] true (q2b_R a0.2.2.1 a0.1 a0.2.1 u15) (q2b_O a0.2.2.1 a0.1 a0.2.1 u15), b0, b0, b0, b0, b0, b0, b0, b0, b0, b0, b0, b0, b0, b0, b0, b0, b0, b0, b0, .pre p46, .call [none] [] [] true (qf_R a2.1 u31) (qf_O a2.1 u31), b0, .call [none] [] [] true (qy_R a0.2.2.2.1 u38) (qy_O a0.2.2.2.1 u38)]) (pos := [.J67 0 [], .sel [0]]) (.c (qp_ok a2 u1 h2) (.c h3 (.c (q2a_ok a0 u4 h5) (.c h6 (.c h7 (.c h8 (.c (ql_ok a1 a2 u9 h10) (.c h11 (.c h11 (.c h11 (.c h11 (.c h11 (.c h11 (.c h12 (.c h13 (.c h13 (.c h13 (.c h13 (.c h13 (.c h13 (.c h13 (.c h14 (.c h14 (.c h14 (.c h14 (.c h14 (.c h14 (.c h14 (.c rn (.c (q2b_ok a0.2.2.1 a0.1 a0.2.1 u15 h16) (.c h14 (.c h14 (.c h17 (.c h17 (.c h17 (.c h18 (.c h18 (.c h18 (.c h18 (.c h18 (.c h18 (.c h18 (.c h18 (.c h18 (.c h18 (.c h17 (.c h18 (.c h17 (.c r0 (.c (qf_ok a2.1 u31 h32) (.c h33 (.c h34 (.c (qy_ok a0.2.2.2.1 u38 h39) .n))))))))))))))))))))))))))))))))))))))))))))))))))))) (by kernel_rfl)
       ·obtain ⟨u40, h41, h⟩ := andThen_some h
        rcases fork_some h with ⟨h42, h⟩ | ⟨h42, h⟩
        ·injection h with h; subst h
         exact env.fun func12 can12 (its := [.call [none] [0] [] false (qp_R a2 u1) (qp_O a2 u1), b0, .call [none] [] [] true (q2a_R a0 u4) (q2a_O a0 u4), b0, b0, b0, .call [none, none] [0] [] false (ql_R a1 a2 u9) (ql_O a1 a2 u9), b0, b0, b0, b0, b0, b0, b0, .pre p45, b0, b0, b0, b0, b0, b0, b0, b0, b0, b0, b0, b0, b0, b0, .asis, .call [none, none, none] [] [] true (q2b_R a0.2.2.1 a0.1 a0.2.1 u40) (q2b_O a0.2.2.1 a0.1 a0.2.1 u40), b0, b0, b1, b1, b1, b1, b1, b1]) (pos := [.sel [0]]) (.c (qp_ok a2 u1 h2) (.c h3 (.c (q2a_ok a0 u4 h5) (.c h6 (.c h7 (.c h8 (.c (ql_ok a1 a2 u9 h10) (.c h11 (.c h11 (.c h11 (.c h11 (.c h11 (.c h11 (.c h12 (.c h13 (.c h13 (.c h13 (.c h13 (.c h13 (.c h13 (.c h13 (.c r0 (.c r0 (.c r0 (.c r0 (.c r0 (.c r0 (.c r0 (.c rn (.c (q2b_ok a0.2.2.1 a0.1 a0.2.1 u40 h41) (.c r0 (.c r0 (.c h42 (.c h42 (.c h42 (.c h42 (.c h42 (.c r1 .n)))))))))))))))))))))))))))))))))))))) (by kernel_rfl)
        ·rcases fork_some h with ⟨h43, h⟩ | ⟨h43, h⟩
         ·obtain ⟨u44, h45, h⟩ := andThen_some h
          rcases fork_some h with ⟨h46, h⟩ | ⟨h46, h⟩
          ·injection h with h; subst h
           exact env.fun func12 can12 (its := [.call [none] [0] [] false (qp_R a2 u1) (qp_O a2 u1), b0, .call [none] [] [] true (q2a_R a0 u4) (q2a_O a0 u4), b0, b0, b0, .call [none, none] [0] [] false (ql_R a1 a2 u9) (ql_O a1 a2 u9), b0, b0, b0, b0, b0, b0, b0, .pre p45, b0, b0, b0, b0, b0, b0, b0, b0, b0, b0, b0, b0, b0, b0, .asis, .call [none, none, none] [] [] true (q2b_R a0.2.2.1 a0.1 a0.2.1 u40) (q2b_O a0.2.2.1 a0.1 a0.2.1 u40), b0, b0, b0, b0, b0, b1, b1, b1, b1, b1, b1, b1, b1, b1, .asis, .call [none, none, none] [] [] true (q31_R a2.2.1 a0.1 a0.2.1 u44) (q31_O a2.2.1 a0.1 a0.2.1 u44), b1, b0, b1, b0, b1]) (pos := [.sel [0]]) (.c (qp_ok a2 u1 h2) (.c h3 (.c (q2a_ok a0 u4 h5) (.c h6 (.c h7 (.c h8 (.c (ql_ok a1 a2 u9 h10) (.c h11 (.c h11 (.c h11 (.c h11 (.c h11 (.c h11 (.c h12 (.c h13 (.c h13 (.c h13 (.c h13 (.c h13 (.c h13 (.c h13 (.c r0 (.c r0 (.c r0 (.c r0 (.c r0 (.c r0 (.c r0 (.c rn (.c (q2b_ok a0.2.2.1 a0.1 a0.2.1 u40 h41) (.c r0 (.c r0 (.c h42 (.c h42 (.c h42 (.c h43 (.c h43 (.c h43 (.c h43 (.c h43 (.c h43 (.c h43 (.c h43 (.c h43 (.c rn (.c (q31_ok a2.2.1 a0.1 a0.2.1 u44 h45) (.c h43 (.c h42 (.c h43 (.c h42 (.c h46 .n))))))))))))))))))))))))))))))))))))))))))))))))))) (by kernel_rfl)
          ·obtain ⟨u47, h48, h⟩ := andThen_some h
           obtain ⟨h49, h⟩ := need_some h
           rcases fork_some h with ⟨h50, h⟩ | ⟨h50, h⟩
           ·obtain ⟨h51, h⟩ := need_some h
            obtain ⟨u52, h53, h⟩ := andThen_some h
            injection h with h; subst h
            exact env.fun func12 can12 (its := [.call [none] [0] [] false (qp_R a2 u1) (qp_O a2 u1), b0, .call [none] [] [] true (q2a_R a0 u4) (q2a_O a0 u4), b0, b0, b0, .call [none, none] [0] [] false (ql_R a1 a2 u9) (ql_O a1 a2 u9), b0, b0, b0, b0, b0, b0, b0, .pre p45, b0, b0, b0, b0, b0, b0, b0, b0, b0, b0, b0, b0, b0, b0, .asis, .call [none, none, none] [] [] true (q2b_R a0.2.2.1 a0.1 a0.2.1 u40) (q2b_O a0.2.2.1 a0.1 a0.2.1 u40), b0, b0, b0, b0, b0, b1, b1, b1, b1, b1, b1, b1, b1, b1, .asis, .call [none, none, none] [] [] true (q31_R a2.2.1 a0.1 a0.2.1 u44) (q31_O a2.2.1 a0.1 a0.2.1 u44), b1, b0, b1, b0, b0, .pre p46, .call [none] [] [] true (qf_R a2.1 u47) (qf_O a2.1 u47), b1, b0, .call [none] [] [] true (qy_R a0.2.2.2.1 u52) (qy_O a0.2.2.2.1 u52)]) (pos := [.J67 0 [], .sel [0]]) (.c (qp_ok a2 u1 h2) (.c h3 (.c (q2a_ok a0 u4 h5) (.c h6 (.c h7 (.c h8 (.c (ql_ok a1 a2 u9 h10) (.c h11 (.c h11 (.c h11 (.c h11 (.c h11 (.c h11 (.c h12 (.c h13 (.c h13 (.c h13 (.c h13 (.c h13 (.c h13 (.c h13 (.c r0 (.c r0 (.c r0 (.c r0 (.c r0 (.c r0 (.c r0 (.c rn (.c (q2b_ok a0.2.2.1 a0.1 a0.2.1 u40 h41) (.c r0 (.c r0 (.c h42 (.c h42 (.c h42 (.c h43 (.c h43 (.c h43 (.c h43 (.c h43 (.c h43 (.c h43 (.c h43 (.c h43 (.c rn (.c (q31_ok a2.2.1 a0.1 a0.2.1 u44 h45) (.c h43 (.c h42 (.c h43 (.c h42 (.c h46 (.c (qf_ok a2.1 u47 h48) (.c h49 (.c h50 (.c h51 (.c (qy_ok a0.2.2.2.1 u52 h53) .n)))))))))))))))))))))))))))))))))))))))))))))))))))))))) (by kernel_rfl)
           ·obtain ⟨u54, h55, h⟩ := andThen_some h
            injection h with h; subst h
            exact env.fun func12 can12 (its := [.call [none] [0] [] false (qp_R a2 u1) (qp_O a2 u1), b0, .call [none] [] [] true (q2a_R a0 u4) (q2a_O a0 u4), b0, b0, b0, .call [none, none] [0] [] false (ql_R a1 a2 u9) (ql_O a1 a2 u9), b0, b0, b0, b0, b0, b0, b0, .pre p45, b0, b0, b0, b0, b0, b0, b0, b0, b0, b0, b0, b0, b0, b0, .asis, .call [none, none, none] [] [] true (q2b_R a0.2.2.1 a0.1 a0.2.1 u40) (q2b_O a0.2.2.1 a0.1 a0.2.1 u40), b0, b0, b0, b0, b0, b1, b1, b1, b1, b1, b1, b1, b1, b1, .asis, .call [none, none, none] [] [] true (q31_R a2.2.1 a0.1 a0.2.1 u44) (q31_O a2.2.1 a0.1 a0.2.1 u44), b1, b0, b1, b0, b0, .pre p46, .call [none] [] [] true (qf_R a2.1 u47) (qf_O a2.1 u47), b0, .call [none] [] [] true (qy_R a0.2.2.2.1 u54) (qy_O a0.2.2.2.1 u54)]) (pos := [.J67 0 [], .sel [0]]) (.c (qp_ok a2 u1 h2) (.c h3 (.c (q2a_ok a0 u4 h5) (.c h6 (.c h7 (.c h8 (.c (ql_ok a1 a2 u9 h10) (.c h11 (.c h11 (.c h11 (.c h11 (.c h11 (.c h11 (.c h12 (.c h13 (.c h13 (.c h13 (.c h13 (.c h13 (.c h13 (.c h13 (.c r0 (.c r0 (.c r0 (.c r0 (.c r0 (.c r0 (.c r0 (.c rn (.c (q2b_ok a0.2.2.1 a0.1 a0.2.1 u40 h41) (.c r0 (.c r0 (.c h42 (.c h42 (.c h42 (.c h43 (.c h43 (.c h43 (.c h43 (.c h43 (.c h43 (.c h43 (.c h43 (.c h43 (.c rn (.c (q31_ok a2.2.1 a0.1 a0.2.1 u44 h45) (.c h43 (.c h42 (.c h43 (.c h42 (.c h46 (.c (qf_ok a2.1 u47 h48) (.c h49 (.c h50 (.c (qy_ok a0.2.2.2.1 u54 h55) .n))))))))))))))))))))))))))))))))))))))))))))))))))))))) (by kernel_rfl)
         ·obtain ⟨u56, h57, h⟩ := andThen_some h
          obtain ⟨h58, h⟩ := need_some h
          rcases fork_some h with ⟨h59, h⟩ | ⟨h59, h⟩
          ·obtain ⟨h60, h⟩ := need_some h
           obtain ⟨u61, h62, h⟩ := andThen_some h
           injection h with h; subst h
           exact env.fun func12 can12 (its := [.call [none] [0] [] false (qp_R a2 u1) (qp_O a2 u1), b0, .call [none] [] [] true (q2a_R a0 u4) (q2a_O a0 u4), b0, b0, b0, .call [none, none] [0] [] false (ql_R a1 a2 u9) (ql_O a1 a2 u9), b0, b0, b0, b0, b0, b0, b0, .pre p45, b0, b0, b0, b0, b0, b0, b0, b0, b0, b0, b0, b0, b0, b0, .asis, .call [none, none, none] [] [] true (q2b_R a0.2.2.1 a0.1 a0.2.1 u40) (q2b_O a0.2.2.1 a0.1 a0.2.1 u40), b0, b0, b0, b0, b0, b0, b0, b0, b0, b0, b0, b0, b0, b0, b0, b0, b0, b0, b0, .pre p46, .call [none] [] [] true (qf_R a2.1 u56) (qf_O a2.1 u56), b1, b0, .call [none] [] [] true (qy_R a0.2.2.2.1 u61) (qy_O a0.2.2.2.1 u61)]) (pos := [.J67 0 [], .sel [0]]) (.c (qp_ok a2 u1 h2) (.c h3 (.c (q2a_ok a0 u4 h5) (.c h6 (.c h7 (.c h8 (.c (ql_ok a1 a2 u9 h10) (.c h11 (.c h11 (.c h11 (.c h11 (.c h11 (.c h11 (.c h12 (.c h13 (.c h13 (.c h13 (.c h13 (.c h13 (.c h13 (.c h13 (.c r0 (.c r0 (.c r0 (.c r0 (.c r0 (.c r0 (.c r0 (.c rn (.c (q2b_ok a0.2.2.1 a0.1 a0.2.1 u40 h41) (.c r0 (.c r0 (.c h42 (.c h42 (.c h42 (.c h43 (.c h43 (.c h43 (.c h43 (.c h43 (.c h43 (.c h43 (.c h43 (.c h43 (.c h43 (.c h42 (.c h43 (.c h42 (.c r0 (.c (qf_ok a2.1 u56 h57) (.c h58 (.c h59 (.c h60 (.c (qy_ok a0.2.2.2.1 u61 h62) .n)))))))))))))))))))))))))))))))))))))))))))))))))))))) (by kernel_rfl)
          ·obtain ⟨u63, h64, h⟩ := andThen_some h
           injection h with h; subst h
           exact env.fun func12 can12 (its := [.call [none] [0] [] false (qp_R a2 u1) (qp_O a2 u1), b0, .call [none] [] [] true (q2a_R a0 u4) (q2a_O a0 u4), b0, b0, b0, .call [none, none] [0] [] false (ql_R a1 a2 u9) (ql_O a1 a2 u9), b0, b0, b0, b0, b0, b0, b0, .pre p45, b0, b0, b0, b0, b0, b0, b0, b0, b0, b0, b0, b0, b0, b0, .asis, .call [none, none, none] [] [] true (q2b_R a0.2.2.1 a0.1 a0.2.1 u40) (q2b_O a0.2.2.1 a0.1 a0.2.1 u40), b0, b0, b0, b0, b0, b0, b0, b0, b0, b0, b0, b0, b0, b0, b0, b0, b0, b0, b0, .pre p46, .call [none] [] [] true (qf_R a2.1 u56) (qf_O a2.1 u56), b0, .call [none] [] [] true (qy_R a0.2.2.2.1 u63) (qy_O a0.2.2.2.1 u63)]) (pos := [.J67 0 [], .sel [0]]) (.c (qp_ok a2 u1 h2) (.c h3 (.c (q2a_ok a0 u4 h5) (.c h6 (.c h7 (.c h8 (.c (ql_ok a1 a2 u9 h10) (.c h11 (.c h11 (.c h11 (.c h11 (.c h11 (.c h11 (.c h12 (.c h13 (.c h13 (.c h13 (.c h13 (.c h13 (.c h13 (.c h13 (.c r0 (.c r0 (.c r0 (.c r0 (.c r0 (.c r0 (.c r0 (.c rn (.c (q2b_ok a0.2.2.1 a0.1 a0.2.1 u40 h41) (.c r0 (.c r0 (.c h42 (.c h42 (.c h42 (.c h43 (.c h43 (.c h43 (.c h43 (.c h43 (.c h43 (.c h43 (.c h43 (.c h43 (.c h43 (.c h42 (.c h43 (.c h42 (.c r0 (.c (qf_ok a2.1 u56 h57) (.c h58 (.c h59 (.c (qy_ok a0.2.2.2.1 u63 h64) .n))))))))))))))))))))))))))))))))))))))))))))))))))))) (by kernel_rfl)
def qd_1_in (x0 : Int) (x1 : Int) (x2 : Int) (x3 : List (Tedcc)) (x4 : List (List (T18c3))) (x5 : Unit) (x6 : List (B8)) (x7 : List (List (B8))) (x8 : List (B8)) (x9 : List (T484d)) (x10 : Tf0bc) (x11 : List (T484d)) (x12 : Unit) (x13 : List (T8f72)) (x14 : List (T484d)) (x15 : B8) : St := ⟨[(0, (.ptr 0 [])), (5, (.v (.int .i64) x0)), (6, (.ptr 5 [])), (7, (.ptr 8 [])), (103, (.own 1 [])), (104, (.v (.int .i64) x1)), (105, (.v (.int .i64) x2))], [.box Y6488 (.node (.own 1 []) (.node (.own 2 []) (.node (.own 3 []) (.node .nil (.node (.own 4 []) (.node (.v (.slice Yedcc) x3) (.node (.v (.slice (.slice Y18c3)) x4) (.v .unit x5)))))))) true, .row (.arr 32 (.int .u8)) x6 true, .row (.slice (.slice (.int .u8))) x7 true, .row .str x8 true, .row Y484d x9 true, .box Yedcc (.node (.v Yf0bc x10) (.node (.own 6 []) (.node (.v (.slice Y484d) x11) (.node (.own 7 []) (.v .unit x12))))) true, .row Y8f72 x13 true, .row Y484d x14 true, .box (.arr 32 (.int .u8)) (.v (.arr 32 (.int .u8)) x15) false], 165, 5⟩
def qd_1_ex (o : Int × (List (Tedcc)) × (List (List (T18c3))) × Unit × List (B8) × List (List (B8)) × List (B8) × (List (T484d)) × (Tf0bc) × (List (T484d)) × Unit × (List (T8f72)) × List (T484d)) : Exit := (.exit 0)
def qd_1_st (o : Int × (List (Tedcc)) × (List (List (T18c3))) × Unit × List (B8) × List (List (B8)) × List (B8) × (List (T484d)) × (Tf0bc) × (List (T484d)) × Unit × (List (T8f72)) × List (T484d)) : St := ⟨[(0, (.ptr 0 [])), (5, (.v (.int .i64) o.1)), (6, (.ptr 5 []))], [.box Y6488 (.node (.own 1 []) (.node (.own 2 []) (.node (.own 3 []) (.node .nil (.node (.own 4 []) (.node (.v (.slice Yedcc) o.2.1) (.node (.v (.slice (.slice Y18c3)) o.2.2.1) (.v .unit o.2.2.2.1)))))))) true, .row (.arr 32 (.int .u8)) o.2.2.2.2.1 true, .row (.slice (.slice (.int .u8))) o.2.2.2.2.2.1 true, .row .str o.2.2.2.2.2.2.1 true, .row Y484d o.2.2.2.2.2.2.2.1 true, .box Yedcc (.node (.v Yf0bc o.2.2.2.2.2.2.2.2.1) (.node (.own 6 []) (.node (.v (.slice Y484d) o.2.2.2.2.2.2.2.2.2.1) (.node (.own 7 []) (.v .unit o.2.2.2.2.2.2.2.2.2.2.1))))) true, .row Y8f72 o.2.2.2.2.2.2.2.2.2.2.2.1 true, .row Y484d o.2.2.2.2.2.2.2.2.2.2.2.2 true], 165, 5⟩
theorem qd_1_body (x0 : Int) (x1 : Int) (x2 : Int) (x3 : List (Tedcc)) (x4 : List (List (T18c3))) (x5 : Unit) (x6 : List (B8)) (x7 : List (List (B8))) (x8 : List (B8)) (x9 : List (T484d)) (x10 : Tf0bc) (x11 : List (T484d)) (x12 : Unit) (x13 : List (T8f72)) (x14 : List (T484d)) (x15 : B8) : ∀ r, qd_1_step x0 x1 x2 x3 x4 x5 x6 x7 x8 x9 x10 x11 x12 x13 x14 x15 = some r → (match r with | .inl s => J03 prog (J0w (bodyOf f6) [1, 1, 1, 1, 1, 1, 1, 1, 1, 0, 1, 0, 0]) (qd_1_in x0 x1 x2 x3 x4 x5 x6 x7 x8 x9 x10 x11 x12 x13 x14 x15) .normal (qd_1_in x0 x1 s.1 x3 x4 x5 x6 x7 x8 x9 x10 x11 x12 s.2 x14 x15) | .inr o => qd_1_ex o ≠ .normal ∧ J03 prog (J0w (bodyOf f6) [1, 1, 1, 1, 1, 1, 1, 1, 1, 0, 1, 0, 0]) (qd_1_in x0 x1 x2 x3 x4 x5 x6 x7 x8 x9 x10 x11 x12 x13 x14 x15) (qd_1_ex o) (qd_1_st o)) := by
 intro r h
 unfold qd_1_step at h
 rcases fork_some h with ⟨h19, h⟩ | ⟨h19, h⟩
 ·obtain ⟨h20, h⟩ := need_some h
  obtain ⟨h21, h⟩ := need_some h
  obtain ⟨h22, h⟩ := need_some h
  obtain ⟨u23, h24, h⟩ := andThen_some h
  obtain ⟨h25, h⟩ := need_some h
  injection h with h; subst h
  exact env.code (its := [b1, .pre p19, b0, .asis, .call [none, none, none, none] [] [] false (q26_R (List.getD x7 (Int.toNat x2) ([] : List (B8))) (List.getD x6 (Int.toNat x2) Z32) (w64 (x0 + (1 : Int))) x15 u23) (q26_O (List.getD x7 (Int.toNat x2) ([] : List (B8))) (List.getD x6 (Int.toNat x2) Z32) (w64 (x0 + (1 : Int))) x15 u23), .asis, .sel [0, 5, 6, 7, 103, 104, 105] [0, 1, 2, 3, 4, 5, 11, 7, 8]]) (.c h19 (.c h20 (.c h21 (.c h22 (.c rn (.c (q26_ok (List.getD x7 (Int.toNat x2) ([] : List (B8))) (List.getD x6 (Int.toNat x2) Z32) (w64 (x0 + (1 : Int))) x15 u23 h24) (.c h25 .n))))))) (by kernel_rfl)
 ·injection h with h; subst h
  exact ⟨by intro e; simp [qd_1_ex] at e, env.code (its := [b0, .sel [0, 5, 6] [0, 1, 2, 3, 4, 5, 6, 7]]) (.c h19 .n) (by kernel_rfl)⟩
theorem qd_1_ok (x0 : Int) (x1 : Int) (x2 : Int) (x3 : List (Tedcc)) (x4 : List (List (T18c3))) (x5 : Unit) (x6 : List (B8)) (x7 : List (List (B8))) (x8 : List (B8)) (x9 : List (T484d)) (x10 : Tf0bc) (x11 : List (T484d)) (x12 : Unit) (x13 : List (T8f72)) (x14 : List (T484d)) (x15 : B8) (o : Int × (List (Tedcc)) × (List (List (T18c3))) × Unit × List (B8) × List (List (B8)) × List (B8) × (List (T484d)) × (Tf0bc) × (List (T484d)) × Unit × (List (T8f72)) × List (T484d)) (h : qd_1 x0 x1 x2 x3 x4 x5 x6 x7 x8 x9 x10 x11 x12 x13 x14 x15 = some o) : J03 prog (J0w (bodyOf f6) [1, 1, 1, 1, 1, 1, 1, 1, 1, 0, 1, 0]) (qd_1_in x0 x1 x2 x3 x4 x5 x6 x7 x8 x9 x10 x11 x12 x13 x14 x15) (qd_1_ex o) (qd_1_st o) :=
 J06.of_step (st := fun s => qd_1_in x0 x1 s.1 x3 x4 x5 x6 x7 x8 x9 x10 x11 x12 s.2 x14 x15) (ex := qd_1_ex) (stO := qd_1_st) (fun s s2 hs => qd_1_body x0 x1 s.1 x3 x4 x5 x6 x7 x8 x9 x10 x11 x12 s.2 x14 x15 (.inl s2) hs) (fun s r hs => qd_1_body x0 x1 s.1 x3 x4 x5 x6 x7 x8 x9 x10 x11 x12 s.2 x14 x15 (.inr r) hs) _ o h
def qd_2_in (x0 : Int) (x1 : Int) (x2 : Int) (x3 : List (Tedcc)) (x4 : List (List (T18c3))) (x5 : Unit) (x6 : List (B8)) (x7 : List (List (B8))) (x8 : List (B8)) (x9 : List (T484d)) (x10 : Tf0bc) (x11 : Unit) (x12 : List (T8f72)) (x13 : List (T484d)) (x14 : B8) : St := ⟨[(0, (.ptr 0 [])), (5, (.v (.int .i64) x0)), (6, (.ptr 5 [])), (7, (.ptr 8 [])), (103, (.own 1 [])), (104, (.v (.int .i64) x1)), (105, (.v (.int .i64) x2))], [.box Y6488 (.node (.own 1 []) (.node (.own 2 []) (.node (.own 3 []) (.node .nil (.node (.own 4 []) (.node (.v (.slice Yedcc) x3) (.node (.v (.slice (.slice Y18c3)) x4) (.v .unit x5)))))))) true, .row (.arr 32 (.int .u8)) x6 true, .row (.slice (.slice (.int .u8))) x7 true, .row .str x8 true, .row Y484d x9 true, .box Yedcc (.node (.v Yf0bc x10) (.node (.own 6 []) (.node (.own 7 []) (.node (.own 7 []) (.v .unit x11))))) true, .row Y8f72 x12 true, .row Y484d x13 true, .box (.arr 32 (.int .u8)) (.v (.arr 32 (.int .u8)) x14) false], 165, 5⟩
def qd_2_ex (o : Int × (List (Tedcc)) × (List (List (T18c3))) × Unit × List (B8) × List (List (B8)) × List (B8) × (List (T484d)) × (Tf0bc) × Unit × (List (T8f72)) × List (T484d)) : Exit := (.exit 0)
def qd_2_st (o : Int × (List (Tedcc)) × (List (List (T18c3))) × Unit × List (B8) × List (List (B8)) × List (B8) × (List (T484d)) × (Tf0bc) × Unit × (List (T8f72)) × List (T484d)) : St := ⟨[(0, (.ptr 0 [])), (5, (.v (.int .i64) o.1)), (6, (.ptr 5 []))], [.box Y6488 (.node (.own 1 []) (.node (.own 2 []) (.node (.own 3 []) (.node .nil (.node (.own 4 []) (.node (.v (.slice Yedcc) o.2.1) (.node (.v (.slice (.slice Y18c3)) o.2.2.1) (.v .unit o.2.2.2.1)))))))) true, .row (.arr 32 (.int .u8)) o.2.2.2.2.1 true, .row (.slice (.slice (.int .u8))) o.2.2.2.2.2.1 true, .row .str o.2.2.2.2.2.2.1 true, .row Y484d o.2.2.2.2.2.2.2.1 true, .box Yedcc (.node (.v Yf0bc o.2.2.2.2.2.2.2.2.1) (.node (.own 6 []) (.node (.own 7 []) (.node (.own 7 []) (.v .unit o.2.2.2.2.2.2.2.2.2.1))))) true, .row Y8f72 o.2.2.2.2.2.2.2.2.2.2.1 true, .row Y484d o.2.2.2.2.2.2.2.2.2.2.2 true], 165, 5⟩
theorem qd_2_body (x0 : Int) (x1 : Int) (x2 : Int) (x3 : List (Tedcc)) (x4 : List (List (T18c3))) (x5 : Unit) (x6 : List (B8)) (x7 : List (List (B8))) (x8 : List (B8)) (x9 : List (T484d)) (x10 : Tf0bc) (x11 : Unit) (x12 : List (T8f72)) (x13 : List (T484d)) (x14 : B8) : ∀ r, qd_2_step x0 x1 x2 x3 x4 x5 x6 x7 x8 x9 x10 x11 x12 x13 x14 = some r → (match r with | .inl s => J03 prog (J0w (bodyOf f6) [1, 1, 1, 1, 1, 1, 1, 1, 1, 0, 1, 0, 0]) (qd_2_in x0 x1 x2 x3 x4 x5 x6 x7 x8 x9 x10 x11 x12 x13 x14) .normal (qd_2_in x0 x1 s.1 x3 x4 x5 x6 x7 x8 x9 x10 x11 s.2 x13 x14) | .inr o => qd_2_ex o ≠ .normal ∧ J03 prog (J0w (bodyOf f6) [1, 1, 1, 1, 1, 1, 1, 1, 1, 0, 1, 0, 0]) (qd_2_in x0 x1 x2 x3 x4 x5 x6 x7 x8 x9 x10 x11 x12 x13 x14) (qd_2_ex o) (qd_2_st o)) := by
 intro r h
 unfold qd_2_step at h
 rcases fork_some h with ⟨h42, h⟩ | ⟨h42, h⟩
 ·obtain ⟨h43, h⟩ := need_some h
  obtain ⟨h44, h⟩ := need_some h
  obtain ⟨h45, h⟩ := need_some h
  obtain ⟨u46, h47, h⟩ := andThen_some h
  obtain ⟨h48, h⟩ := need_some h
  injection h with h; subst h
  exact env.code (its := [b1, .pre p19, b0, .asis, .call [none, none, none, none] [] [] false (q26_R (List.getD x7 (Int.toNat x2) ([] : List (B8))) (List.getD x6 (Int.toNat x2) Z32) (w64 (x0 + (1 : Int))) x14 u46) (q26_O (List.getD x7 (Int.toNat x2) ([] : List (B8))) (List.getD x6 (Int.toNat x2) Z32) (w64 (x0 + (1 : Int))) x14 u46), .asis, .sel [0, 5, 6, 7, 103, 104, 105] [0, 1, 2, 3, 4, 5, 11, 7, 8]]) (.c h42 (.c h43 (.c h44 (.c h45 (.c rn (.c (q26_ok (List.getD x7 (Int.toNat x2) ([] : List (B8))) (List.getD x6 (Int.toNat x2) Z32) (w64 (x0 + (1 : Int))) x14 u46 h47) (.c h48 .n))))))) (by kernel_rfl)
 ·injection h with h; subst h
  exact ⟨by intro e; simp [qd_2_ex] at e, env.code (its := [b0, .sel [0, 5, 6] [0, 1, 2, 3, 4, 5, 6, 7]]) (.c h42 .n) (by kernel_rfl)⟩
theorem qd_2_ok (x0 : Int) (x1 : Int) (x2 : Int) (x3 : List (Tedcc)) (x4 : List (List (T18c3))) (x5 : Unit) (x6 : List (B8)) (x7 : List (List (B8))) (x8 : List (B8)) (x9 : List (T484d)) (x10 : Tf0bc) (x11 : Unit) (x12 : List (T8f72)) (x13 : List (T484d)) (x14 : B8) (o : Int × (List (Tedcc)) × (List (List (T18c3))) × Unit × List (B8) × List (List (B8)) × List (B8) × (List (T484d)) × (Tf0bc) × Unit × (List (T8f72)) × List (T484d)) (h : qd_2 x0 x1 x2 x3 x4 x5 x6 x7 x8 x9 x10 x11 x12 x13 x14 = some o) : J03 prog (J0w (bodyOf f6) [1, 1, 1, 1, 1, 1, 1, 1, 1, 0, 1, 0]) (qd_2_in x0 x1 x2 x3 x4 x5 x6 x7 x8 x9 x10 x11 x12 x13 x14) (qd_2_ex o) (qd_2_st o) :=
 J06.of_step (st := fun s => qd_2_in x0 x1 s.1 x3 x4 x5 x6 x7 x8 x9 x10 x11 s.2 x13 x14) (ex := qd_2_ex) (stO := qd_2_st) (fun s s2 hs => qd_2_body x0 x1 s.1 x3 x4 x5 x6 x7 x8 x9 x10 x11 s.2 x13 x14 (.inl s2) hs) (fun s r hs => qd_2_body x0 x1 s.1 x3 x4 x5 x6 x7 x8 x9 x10 x11 s.2 x13 x14 (.inr r) hs) _ o h
def qd_R (a0 : Int) (a1 : List (Tedcc)) (a2 : List (List (T18c3))) (a3 : Unit) (a4 : List (B8)) (a5 : List (List (B8))) (a6 : List (B8)) (a7 : List (T484d)) (u : Int × (List (Tedcc)) × (List (List (T18c3))) × Unit × List (B8) × List (List (B8)) × List (B8) × List (T484d)) : Slot := (.v (.int .i64) u.1)
def qd_O (a0 : Int) (a1 : List (Tedcc)) (a2 : List (List (T18c3))) (a3 : Unit) (a4 : List (B8)) (a5 : List (List (B8))) (a6 : List (B8)) (a7 : List (T484d)) (u : Int × (List (Tedcc)) × (List (List (T18c3))) × Unit × List (B8) × List (List (B8)) × List (B8) × List (T484d)) : List AObj := [.box Y6488 (.node (.own 1 []) (.node (.own 2 []) (.node (.own 3 []) (.node .nil (.node (.own 4 []) (.node (.v (.slice Yedcc) u.2.1) (.node (.v (.slice (.slice Y18c3)) u.2.2.1) (.v .unit u.2.2.2.1)))))))) true, .row (.arr 32 (.int .u8)) u.2.2.2.2.1 true, .row (.slice (.slice (.int .u8))) u.2.2.2.2.2.1 true, .row .str u.2.2.2.2.2.2.1 true, .row Y484d u.2.2.2.2.2.2.2 true]
theorem qd_ok (a0 : Int) (a1 : List (Tedcc)) (a2 : List (List (T18c3))) (a3 : Unit) (a4 : List (B8)) (a5 : List (List (B8))) (a6 : List (B8)) (a7 : List (T484d)) (u : Int × (List (Tedcc)) × (List (List (T18c3))) × Unit × List (B8) × List (List (B8)) × List (B8) × List (T484d)) (h : qd a0 a1 a2 a3 a4 a5 a6 a7 = some u) : CallC prog 6 [(.ptr 0 []), (.v (.int .i64) a0)] [.box Y6488 (.node (.own 1 []) (.node (.own 2 []) (.node (.own 3 []) (.node .nil (.node (.own 4 []) (.node (.v (.slice Yedcc) a1) (.node (.v (.slice (.slice Y18c3)) a2) (.v .unit a3)))))))) true, .row (.arr 32 (.int .u8)) a4 true, .row (.slice (.slice (.int .u8))) a5 true, .row .str a6 true, .row Y484d a7 true] (qd_R a0 a1 a2 a3 a4 a5 a6 a7 u) (qd_O a0 a1 a2 a3 a4 a5 a6 a7 u) := by
 unfold qd at h
 rcases fork_some h with ⟨h1, h⟩ | ⟨h1, h⟩
 ·injection h with h; subst h
  exact env.fun func6 can6 (its := [b1, b1, b1, b1, b1, b1, b1, b1, b1, b1, b1, b1]) (pos := [.sel [0, 1, 2, 3, 4]]) (.c h1 (.c h1 (.c h1 (.c r1 (.c r1 (.c r1 (.c r1 (.c r1 (.c r1 (.c r1 (.c r1 (.c r1 .n)))))))))))) (by kernel_rfl)
 ·rcases fork_some h with ⟨h2, h⟩ | ⟨h2, h⟩
  ·injection h with h; subst h
   exact env.fun func6 can6 (its := [b0, b0, b0, b1, b1, b1, b1, b1, b1, b1, b1, b1]) (pos := [.sel [0, 1, 2, 3, 4]]) (.c h1 (.c h1 (.c h1 (.c h2 (.c h2 (.c h2 (.c r1 (.c r1 (.c r1 (.c r1 (.c r1 (.c r1 .n)))))))))))) (by kernel_rfl)
  ·rcases fork_some h with ⟨h3, h⟩ | ⟨h3, h⟩
   ·injection h with h; subst h
    exact env.fun func6 can6 (its := [b0, b0, b0, b0, b0, b0, b1, b1, b1, b1, b1, b1]) (pos := [.sel [0, 1, 2, 3, 4]]) (.c h1 (.c h1 (.c h1 (.c h2 (.c h2 (.c h2 (.c h3 (.c h3 (.c h3 (.c h3 (.c h3 (.c r1 .n)))))))))))) (by kernel_rfl)
   ·rcases fork_some h with ⟨h4, h⟩ | ⟨h4, h⟩
    ·obtain ⟨h5, h⟩ := need_some h
     rcases fork_some h with ⟨h6, h⟩ | ⟨h6, h⟩
     ·injection h with h; subst h
      exact env.fun func6 can6 (its := [b0, b0, b0, b0, b0, b0, b0, b0, b0, b1, b1, b1, b1, b1, b1, b1, b1, b1, b1, b1, b1, b0, b1, b0, b1]) (pos := [.sel [0, 1, 2, 3, 4]]) (.c h1 (.c h1 (.c h1 (.c h2 (.c h2 (.c h2 (.c h3 (.c h3 (.c h3 (.c h4 (.c h4 (.c h4 (.c h4 (.c h4 (.c h4 (.c h4 (.c h4 (.c h5 (.c h4 (.c h4 (.c h4 (.c h4 (.c h3 (.c h4 (.c h3 (.c h6 .n)))))))))))))))))))))))))) (by kernel_rfl)
     ·obtain ⟨h7, h⟩ := need_some h
      obtain ⟨u8, h9, h⟩ := andThen_some h
      obtain ⟨u10, h11, h⟩ := andThen_some h
      obtain ⟨u12, h13, h⟩ := andThen_some h
      obtain ⟨u14, h15, h⟩ := andThen_some h
      obtain ⟨u16, h17, h⟩ := andThen_some h
      obtain ⟨o26, h27, h⟩ := andThen_some h
      obtain ⟨h28, h⟩ := need_some h
      obtain ⟨h29, h⟩ := need_some h
      obtain ⟨h30, h⟩ := need_some h
      obtain ⟨h31, h⟩ := need_some h
      injection h with h; subst h
      exact env.fun func6 can6 (its := [b0, b0, b0, b0, b0, b0, b0, b0, b0, b1, b1, b1, b1, b1, b1, b1, b1, b1, b1, b1, b1, b0, b1, b0, b0, .asis, .call [(some Y18c3)] [] [] true (qv_R ([] : List (T18c3)) u8) (qv_O ([] : List (T18c3)) u8), .asis, b1, .pre p29, .asis, .call [none] [] [] true (qt_R ((List.getD a1 (Int.toNat (w64 ((List.length a1 : Int) - (1 : Int)))) Zedcc).1) u10) (qt_O ((List.getD a1 (Int.toNat (w64 ((List.length a1 : Int) - (1 : Int)))) Zedcc).1) u10), .pre p20, .asis, .call [none] [] [] true (q12_R ((List.getD a1 (Int.toNat (w64 ((List.length a1 : Int) - (1 : Int)))) Zedcc).2.2.2.1) u12) (q12_O ((List.getD a1 (Int.toNat (w64 ((List.length a1 : Int) - (1 : Int)))) Zedcc).2.2.2.1) u12), .asis, .call [none] [] [0] true (q12_R (([] : List (T484d)) ++ a7) u14) (q12_O (([] : List (T484d)) ++ a7) u14), .call [none] [] [] true (qt_R ((w64 ((List.length a1 : Int) + (1 : Int))), a0, u8, u12, u14, u10, ()) u16) (qt_O ((w64 ((List.length a1 : Int) + (1 : Int))), a0, u8, u12, u14, u10, ()) u16), .dive, .J4w 7 [.fld 1], .freeze [8], .sel [0, 5, 6, 7, 103, 104, 105] [0, 1, 2, 3, 4, 7, 9, 6, 8], .part (qd_1_ex o26) (qd_1_st o26), .pre p21, .pre p22]) (pos := [.J67 0 [.fld 5], .J67 0 [.fld 6], .sel [0, 1, 2, 3, 4]]) (.c h1 (.c h1 (.c h1 (.c h2 (.c h2 (.c h2 (.c h3 (.c h3 (.c h3 (.c h4 (.c h4 (.c h4 (.c h4 (.c h4 (.c h4 (.c h4 (.c h4 (.c h5 (.c h4 (.c h4 (.c h4 (.c h4 (.c h3 (.c h4 (.c h3 (.c h6 (.c h7 (.c (qv_ok ([] : List (T18c3)) u8 h9) (.c h4 (.c h5 (.c h5 (.c rn (.c (qt_ok ((List.getD a1 (Int.toNat (w64 ((List.length a1 : Int) - (1 : Int)))) Zedcc).1) u10 h11) (.c rn (.c (q12_ok ((List.getD a1 (Int.toNat (w64 ((List.length a1 : Int) - (1 : Int)))) Zedcc).2.2.2.1) u12 h13) (.c (rfl : ([.row Y484d (([] : List (T484d)) ++ a7) true] : List AObj) = [.row Y484d (([] : List (T484d)) ++ a7) true]) (.c (q12_ok (([] : List (T484d)) ++ a7) u14 h15) (.c (qt_ok ((w64 ((List.length a1 : Int) + (1 : Int))), a0, u8, u12, u14, u10, ()) u16 h17) (.c (qd_1_ok (List.length a1 : Int) (List.length a4 : Int) (0 : Int) a1 a2 a3 a4 a5 a6 a7 ((w64 ((List.length a1 : Int) + (1 : Int))), a0, u8, u12, u14, u10, ()) (List.getD a1 (Int.toNat (w64 ((List.length a1 : Int) - (1 : Int)))) Zedcc).2.2.2.1 (()) ([] : List (T8f72)) (([] : List (T484d)) ++ a7) u16 o26 h27) (.c h28 (.c h29 (.c h30 (.c h31 .n))))))))))))))))))))))))))))))))))))))))))) (by kernel_rfl)
    ·obtain ⟨h32, h⟩ := need_some h
     obtain ⟨u33, h34, h⟩ := andThen_some h
     obtain ⟨u35, h36, h⟩ := andThen_some h
     obtain ⟨u37, h38, h⟩ := andThen_some h
     obtain ⟨u39, h40, h⟩ := andThen_some h
     obtain ⟨o49, h50, h⟩ := andThen_some h
     obtain ⟨h51, h⟩ := need_some h
     obtain ⟨h52, h⟩ := need_some h
     obtain ⟨h53, h⟩ := need_some h
     obtain ⟨h54, h⟩ := need_some h
     injection h with h; subst h
     exact env.fun func6 can6 (its := [b0, b0, b0, b0, b0, b0, b0, b0, b0, b0, b0, b0, b0, b0, b0, b0, b0, b0, b0, b0, b0, b0, b0, b0, b0, .asis, .call [(some Y18c3)] [] [] true (qv_R ([] : List (T18c3)) u33) (qv_O ([] : List (T18c3)) u33), .asis, b0, .pre p20, .asis, .call [none] [] [0] true (q12_R (([] : List (T484d)) ++ a7) u35) (q12_O (([] : List (T484d)) ++ a7) u35), .asis, .call [none] [] [0] true (q12_R (([] : List (T484d)) ++ a7) u37) (q12_O (([] : List (T484d)) ++ a7) u37), .call [none] [] [] true (qt_R ((w64 ((List.length a1 : Int) + (1 : Int))), a0, u33, u35, u37, Z32, ()) u39) (qt_O ((w64 ((List.length a1 : Int) + (1 : Int))), a0, u33, u35, u37, Z32, ()) u39), .dive, .J4w 7 [.fld 1], .freeze [8], .sel [0, 5, 6, 7, 103, 104, 105] [0, 1, 2, 3, 4, 7, 9, 6, 8], .part (qd_2_ex o49) (qd_2_st o49), .pre p21, .pre p22]) (pos := [.J67 0 [.fld 5], .J67 0 [.fld 6], .sel [0, 1, 2, 3, 4]]) (.c h1 (.c h1 (.c h1 (.c h2 (.c h2 (.c h2 (.c h3 (.c h3 (.c h3 (.c h4 (.c h4 (.c h4 (.c h4 (.c h4 (.c h4 (.c h4 (.c h4 (.c h4 (.c h4 (.c h4 (.c h4 (.c h3 (.c h4 (.c h3 (.c r0 (.c h32 (.c (qv_ok ([] : List (T18c3)) u33 h34) (.c h4 (.c (rfl : ([.row Y484d (([] : List (T484d)) ++ a7) true] : List AObj) = [.row Y484d (([] : List (T484d)) ++ a7) true]) (.c (q12_ok (([] : List (T484d)) ++ a7) u35 h36) (.c (rfl : ([.row Y484d (([] : List (T484d)) ++ a7) true] : List AObj) = [.row Y484d (([] : List (T484d)) ++ a7) true]) (.c (q12_ok (([] : List (T484d)) ++ a7) u37 h38) (.c (qt_ok ((w64 ((List.length a1 : Int) + (1 : Int))), a0, u33, u35, u37, Z32, ()) u39 h40) (.c (qd_2_ok (List.length a1 : Int) (List.length a4 : Int) (0 : Int) a1 a2 a3 a4 a5 a6 a7 ((w64 ((List.length a1 : Int) + (1 : Int))), a0, u33, u35, u37, Z32, ()) (()) ([] : List (T8f72)) (([] : List (T484d)) ++ a7) u39 o49 h50) (.c h51 (.c h52 (.c h53 (.c h54 .n)))))))))))))))))))))))))))))))))))))) (by kernel_rfl)
theorem can51 : J01 prog 51 := ⟨_, func51, by kernel_rfl, by kernel_rfl⟩
def q1d_R (a0 : B8) (a1 : Int) (a2 : B8) (u : T8266) : Slot := (.v Y8266 u)
def q1d_O (a0 : B8) (a1 : Int) (a2 : B8) (u : T8266) : List AObj := []
theorem q1d_ok (a0 : B8) (a1 : Int) (a2 : B8) (u : T8266) (h : q1d a0 a1 a2 = some u) : CallC prog 51 [(.v (.arr 32 (.int .u8)) a0), (.v (.int .i64) a1), (.v (.slice (.int .u8)) a2)] [] (q1d_R a0 a1 a2 u) (q1d_O a0 a1 a2 u) := by
 unfold q1d at h
 obtain ⟨u1, h2, h⟩ := andThen_some h
 obtain ⟨u3, h4, h⟩ := andThen_some h
 injection h with h; subst h
 exact env.fun func51 can51 (its := [.pre p47, .call [none] [] [] false (q1o_R a0 u1) (q1o_O a0 u1), .call [none, none, none, none] [] [0] false (q26_R u1 a0 a1 a2 u3) (q26_O u1 a0 a1 a2 u3)]) (pos := [.sel []]) (.c (q1o_ok a0 u1 h2) (.c (q26_ok u1 a0 a1 a2 u3 h4) .n)) (by kernel_rfl)
theorem can17 : J01 prog 17 := ⟨_, func17, by kernel_rfl, by kernel_rfl⟩
def q1a_1_in (x0 : List Int) (x1 : Int) (x2 : Int) (x3 : Int) (x4 : List Int) (x5 : Int) (x6 : Int) (x7 : Tf0bc) (x8 : Unit) (x9 : Tf0bc) (x10 : (List (T484d)) × (List (T484d)) × Unit) (x11 : List (T8f72)) (x12 : B8) : St := ⟨[(1, (.v (.slice (.int .i64)) x0)), (6, (.ptr 0 [])), (7, (.ptr 1 [])), (8, (.ptr 3 [])), (9, (.v (.int .i64) x1)), (33, (.v (.int .i64) x2)), (34, (.v (.int .i64) x3)), (37, (.v (.slice (.int .i64)) x4)), (38, (.v (.int .i64) x5)), (39, (.v (.int .i64) x6))], [.box Yedcc (.node (.v Yf0bc x7) (.node .nil (.node .nil (.node .nil (.v .unit x8))))) true, .box Yedcc (.node (.v Yf0bc x9) (.node (.own 2 []) (.v (.fld (.slice Y484d) (.fld (.slice Y484d) .unit)) x10))) true, .row Y8f72 x11 true, .box (.arr 32 (.int .u8)) (.v (.arr 32 (.int .u8)) x12) false], 62, 0⟩
def q1a_1_ex (o : List Int × Int × Int × (Tf0bc) × Unit × (Tf0bc) × ((List (T484d)) × (List (T484d)) × Unit) × (List (T8f72)) × B8) : Exit := (.exit 2)
def q1a_1_st (o : List Int × Int × Int × (Tf0bc) × Unit × (Tf0bc) × ((List (T484d)) × (List (T484d)) × Unit) × (List (T8f72)) × B8) : St := ⟨[(1, (.v (.slice (.int .i64)) o.1)), (6, (.ptr 0 [])), (7, (.ptr 1 [])), (8, (.ptr 3 [])), (33, (.v (.int .i64) o.2.1)), (34, (.v (.int .i64) o.2.2.1))], [.box Yedcc (.node (.v Yf0bc o.2.2.2.1) (.node .nil (.node .nil (.node .nil (.v .unit o.2.2.2.2.1))))) true, .box Yedcc (.node (.v Yf0bc o.2.2.2.2.2.1) (.node (.own 2 []) (.v (.fld (.slice Y484d) (.fld (.slice Y484d) .unit)) o.2.2.2.2.2.2.1))) true, .row Y8f72 o.2.2.2.2.2.2.2.1 true, .box (.arr 32 (.int .u8)) (.v (.arr 32 (.int .u8)) o.2.2.2.2.2.2.2.2) false], 62, 0⟩
theorem q1a_1_body (x0 : List Int) (x1 : Int) (x2 : Int) (x3 : Int) (x4 : List Int) (x5 : Int) (x6 : Int) (x7 : Tf0bc) (x8 : Unit) (x9 : Tf0bc) (x10 : (List (T484d)) × (List (T484d)) × Unit) (x11 : List (T8f72)) (x12 : B8) : ∀ r, q1a_1_step x0 x1 x2 x3 x4 x5 x6 x7 x8 x9 x10 x11 x12 = some r → (match r with | .inl s => J03 prog (J0w (bodyOf f17) [1, 1, 1, 1, 1, 0, 1, 0, 0, 1, 1, 0, 0, 1, 1, 0, 0]) (q1a_1_in x0 x1 x2 x3 x4 x5 x6 x7 x8 x9 x10 x11 x12) .normal (q1a_1_in x0 x1 x2 x3 x4 x5 s.1 x7 x8 x9 x10 s.2 x12) | .inr o => q1a_1_ex o ≠ .normal ∧ J03 prog (J0w (bodyOf f17) [1, 1, 1, 1, 1, 0, 1, 0, 0, 1, 1, 0, 0, 1, 1, 0, 0]) (q1a_1_in x0 x1 x2 x3 x4 x5 x6 x7 x8 x9 x10 x11 x12) (q1a_1_ex o) (q1a_1_st o)) := by
 intro r h
 unfold q1a_1_step at h
 rcases fork_some h with ⟨h10, h⟩ | ⟨h10, h⟩
 ·obtain ⟨h11, h⟩ := need_some h
  obtain ⟨u12, h13, h⟩ := andThen_some h
  rcases fork_some h with ⟨h14, h⟩ | ⟨h14, h⟩
  ·obtain ⟨u15, h16, h⟩ := andThen_some h
   obtain ⟨u17, h18, h⟩ := andThen_some h
   obtain ⟨h19, h⟩ := need_some h
   injection h with h; subst h
   exact env.code (its := [b1, .call [none, none, none] [] [] true (q17_R (List.getD x4 (Int.toNat x6) (0 : Int)) (0 : Int) (4 : Int) u12) (q17_O (List.getD x4 (Int.toNat x6) (0 : Int)) (0 : Int) (4 : Int) u12), b1, .pre p48, .asis, .call [none] [] [] true (q1v_R x1 u15) (q1v_O x1 u15), b0, .asis, .call [none, none, none] [] [] false (q1d_R u15 x9.1 x12 u17) (q1d_O u15 x9.1 x12 u17), .sel [1, 6, 7, 8, 9, 33, 34, 37, 38, 39] [0, 1, 2, 3]]) (.c h10 (.c h11 (.c (q17_ok (List.getD x4 (Int.toNat x6) (0 : Int)) (0 : Int) (4 : Int) u12 h13) (.c h14 (.c rn (.c (q1v_ok x1 u15 h16) (.c rn (.c (q1d_ok u15 x9.1 x12 u17 h18) (.c h19 .n))))))))) (by kernel_rfl)
  ·injection h with h; subst h
   exact env.code (its := [b1, .call [none, none, none] [] [] true (q17_R (List.getD x4 (Int.toNat x6) (0 : Int)) (0 : Int) (4 : Int) u12) (q17_O (List.getD x4 (Int.toNat x6) (0 : Int)) (0 : Int) (4 : Int) u12), b0, .sel [1, 6, 7, 8, 9, 33, 34, 37, 38, 39] [0, 1, 2, 3]]) (.c h10 (.c h11 (.c (q17_ok (List.getD x4 (Int.toNat x6) (0 : Int)) (0 : Int) (4 : Int) u12 h13) (.c h14 .n)))) (by kernel_rfl)
 ·injection h with h; subst h
  exact ⟨by intro e; simp [q1a_1_ex] at e, env.code (its := [b0, .sel [1, 6, 7, 8, 33, 34] [0, 1, 2, 3]]) (.c h10 .n) (by kernel_rfl)⟩
theorem q1a_1_ok (x0 : List Int) (x1 : Int) (x2 : Int) (x3 : Int) (x4 : List Int) (x5 : Int) (x6 : Int) (x7 : Tf0bc) (x8 : Unit) (x9 : Tf0bc) (x10 : (List (T484d)) × (List (T484d)) × Unit) (x11 : List (T8f72)) (x12 : B8) (o : List Int × Int × Int × (Tf0bc) × Unit × (Tf0bc) × ((List (T484d)) × (List (T484d)) × Unit) × (List (T8f72)) × B8) (h : q1a_1 x0 x1 x2 x3 x4 x5 x6 x7 x8 x9 x10 x11 x12 = some o) : J03 prog (J0w (bodyOf f17) [1, 1, 1, 1, 1, 0, 1, 0, 0, 1, 1, 0, 0, 1, 1, 0]) (q1a_1_in x0 x1 x2 x3 x4 x5 x6 x7 x8 x9 x10 x11 x12) (q1a_1_ex o) (q1a_1_st o) :=
 J06.of_step (st := fun s => q1a_1_in x0 x1 x2 x3 x4 x5 s.1 x7 x8 x9 x10 s.2 x12) (ex := q1a_1_ex) (stO := q1a_1_st) (fun s s2 hs => q1a_1_body x0 x1 x2 x3 x4 x5 s.1 x7 x8 x9 x10 s.2 x12 (.inl s2) hs) (fun s r hs => q1a_1_body x0 x1 x2 x3 x4 x5 s.1 x7 x8 x9 x10 s.2 x12 (.inr r) hs) _ o h
def q1a_2_in (x0 : List Int) (x1 : Int) (x2 : Int) (x3 : Tf0bc) (x4 : Unit) (x5 : Tf0bc) (x6 : (List (T484d)) × (List (T484d)) × Unit) (x7 : List (T8f72)) (x8 : B8) : St := ⟨[(1, (.v (.slice (.int .i64)) x0)), (6, (.ptr 0 [])), (7, (.ptr 1 [])), (8, (.ptr 3 [])), (33, (.v (.int .i64) x1)), (34, (.v (.int .i64) x2))], [.box Yedcc (.node (.v Yf0bc x3) (.node .nil (.node .nil (.node .nil (.v .unit x4))))) true, .box Yedcc (.node (.v Yf0bc x5) (.node (.own 2 []) (.v (.fld (.slice Y484d) (.fld (.slice Y484d) .unit)) x6))) true, .row Y8f72 x7 true, .box (.arr 32 (.int .u8)) (.v (.arr 32 (.int .u8)) x8) false], 62, 0⟩
def q1a_2_ex (o : (Tf0bc) × Unit × (Tf0bc) × ((List (T484d)) × (List (T484d)) × Unit) × List (T8f72)) : Exit := (.exit 0)
def q1a_2_st (o : (Tf0bc) × Unit × (Tf0bc) × ((List (T484d)) × (List (T484d)) × Unit) × List (T8f72)) : St := ⟨[(6, (.ptr 0 [])), (7, (.ptr 1 []))], [.box Yedcc (.node (.v Yf0bc o.1) (.node .nil (.node .nil (.node .nil (.v .unit o.2.1))))) true, .box Yedcc (.node (.v Yf0bc o.2.2.1) (.node (.own 2 []) (.v (.fld (.slice Y484d) (.fld (.slice Y484d) .unit)) o.2.2.2.1))) true, .row Y8f72 o.2.2.2.2 true], 62, 0⟩
theorem q1a_2_body (x0 : List Int) (x1 : Int) (x2 : Int) (x3 : Tf0bc) (x4 : Unit) (x5 : Tf0bc) (x6 : (List (T484d)) × (List (T484d)) × Unit) (x7 : List (T8f72)) (x8 : B8) : ∀ r, q1a_2_step x0 x1 x2 x3 x4 x5 x6 x7 x8 = some r → (match r with | .inl s => J03 prog (J0w (bodyOf f17) [1, 1, 1, 1, 1, 0, 1, 0, 0]) (q1a_2_in x0 x1 x2 x3 x4 x5 x6 x7 x8) .normal (q1a_2_in s.1 s.2.1 s.2.2.1 s.2.2.2.1 s.2.2.2.2.1 s.2.2.2.2.2.1 s.2.2.2.2.2.2.1 s.2.2.2.2.2.2.2.1 s.2.2.2.2.2.2.2.2) | .inr o => q1a_2_ex o ≠ .normal ∧ J03 prog (J0w (bodyOf f17) [1, 1, 1, 1, 1, 0, 1, 0, 0]) (q1a_2_in x0 x1 x2 x3 x4 x5 x6 x7 x8) (q1a_2_ex o) (q1a_2_st o)) := by
 intro r h
 unfold q1a_2_step at h
 rcases fork_some h with ⟨h8, h⟩ | ⟨h8, h⟩
 ·obtain ⟨o20, h21, h⟩ := andThen_some h
  injection h with h; subst h
  exact env.code (its := [b1, .dive, .dive, .sel [1, 6, 7, 8, 9, 33, 34, 37, 38, 39] [0, 1, 2, 3], .part (q1a_1_ex o20) (q1a_1_st o20), .sel [1, 6, 7, 8, 33, 34] [0, 1, 2, 3]]) (.c h8 (.c (q1a_1_ok x0 x2 x1 x2 x0 (List.length x0 : Int) (0 : Int) x3 x4 x5 x6 x7 x8 o20 h21) .n)) (by kernel_rfl)
 ·injection h with h; subst h
  exact ⟨by intro e; simp [q1a_2_ex] at e, env.code (its := [b0, .sel [6, 7] [0, 1, 2]]) (.c h8 .n) (by kernel_rfl)⟩
theorem q1a_2_ok (x0 : List Int) (x1 : Int) (x2 : Int) (x3 : Tf0bc) (x4 : Unit) (x5 : Tf0bc) (x6 : (List (T484d)) × (List (T484d)) × Unit) (x7 : List (T8f72)) (x8 : B8) (o : (Tf0bc) × Unit × (Tf0bc) × ((List (T484d)) × (List (T484d)) × Unit) × List (T8f72)) (h : q1a_2 x0 x1 x2 x3 x4 x5 x6 x7 x8 = some o) : J03 prog (J0w (bodyOf f17) [1, 1, 1, 1, 1, 0, 1, 0]) (q1a_2_in x0 x1 x2 x3 x4 x5 x6 x7 x8) (q1a_2_ex o) (q1a_2_st o) :=
 J06.of_step (st := fun s => q1a_2_in s.1 s.2.1 s.2.2.1 s.2.2.2.1 s.2.2.2.2.1 s.2.2.2.2.2.1 s.2.2.2.2.2.2.1 s.2.2.2.2.2.2.2.1 s.2.2.2.2.2.2.2.2) (ex := q1a_2_ex) (stO := q1a_2_st) (fun s s2 hs => q1a_2_body s.1 s.2.1 s.2.2.1 s.2.2.2.1 s.2.2.2.2.1 s.2.2.2.2.2.1 s.2.2.2.2.2.2.1 s.2.2.2.2.2.2.2.1 s.2.2.2.2.2.2.2.2 (.inl s2) hs) (fun s r hs => q1a_2_body s.1 s.2.1 s.2.2.1 s.2.2.2.1 s.2.2.2.2.1 s.2.2.2.2.2.1 s.2.2.2.2.2.2.1 s.2.2.2.2.2.2.2.1 s.2.2.2.2.2.2.2.2 (.inr r) hs) _ o h
def q1a_R (a0 : Tedcc) (a1 : List Int) (a2 : Int) (u : Tedcc) : Slot := (.v Yedcc u)
def q1a_O (a0 : Tedcc) (a1 : List Int) (a2 : Int) (u : Tedcc) : List AObj := []
theorem q1a_ok (a0 : Tedcc) (a1 : List Int) (a2 : Int) (u : Tedcc) (h : q1a a0 a1 a2 = some u) : CallC prog 17 [(.v Yedcc a0), (.v (.slice (.int .i64)) a1), (.v (.int .i64) a2)] [] (q1a_R a0 a1 a2 u) (q1a_O a0 a1 a2 u) := by
 unfold q1a at h
 obtain ⟨u1, h2, h⟩ := andThen_some h
 obtain ⟨h3, h⟩ := need_some h
 obtain ⟨u4, h5, h⟩ := andThen_some h
 obtain ⟨h6, h⟩ := need_some h
 obtain ⟨o22, h23, h⟩ := andThen_some h
 injection h with h; subst h
 exact env.fun func17 can17 (its := [.call [none, none, none] [] [] true (q17_R a2 (0 : Int) (31 : Int) u1) (q17_O a2 (0 : Int) (31 : Int) u1), .call [none] [] [] true (qt_R (a0.1.1, a0.1.2.1, (List.set a0.1.2.2.1 (Int.toNat u1) ((List.getD a0.1.2.2.1 (Int.toNat u1) (0 : UInt8)) ^^^ (1 : UInt8))), a0.1.2.2.2.1, a0.1.2.2.2.2.1, a0.1.2.2.2.2.2.1, ()) u4) (qt_O (a0.1.1, a0.1.2.1, (List.set a0.1.2.2.1 (Int.toNat u1) ((List.getD a0.1.2.2.1 (Int.toNat u1) (0 : UInt8)) ^^^ (1 : UInt8))), a0.1.2.2.2.1, a0.1.2.2.2.2.1, a0.1.2.2.2.2.2.1, ()) u4), .dive, .freeze [3], .sel [1, 6, 7, 8, 33, 34] [1, 2, 5, 3], .part (q1a_2_ex o22) (q1a_2_st o22)]) (pos := [.sel []]) (.c (q17_ok a2 (0 : Int) (31 : Int) u1 h2) (.c h3 (.c h3 (.c (qt_ok (a0.1.1, a0.1.2.1, (List.set a0.1.2.2.1 (Int.toNat u1) ((List.getD a0.1.2.2.1 (Int.toNat u1) (0 : UInt8)) ^^^ (1 : UInt8))), a0.1.2.2.2.1, a0.1.2.2.2.2.1, a0.1.2.2.2.2.2.1, ()) u4 h5) (.c h6 (.c (q1a_2_ok a1 (List.length (([] : List (T8f72)) ++ a0.2.1) : Int) (0 : Int) Zf0bc (()) (a0.1.1, a0.1.2.1, (List.set a0.1.2.2.1 (Int.toNat u1) ((List.getD a0.1.2.2.1 (Int.toNat u1) (0 : UInt8)) ^^^ (1 : UInt8))), a0.1.2.2.2.1, a0.1.2.2.2.2.1, a0.1.2.2.2.2.2.1, ()) (a0.2.2.1, a0.2.2.2.1, ()) (([] : List (T8f72)) ++ a0.2.1) u4 o22 h23) .n)))))) (by kernel_rfl)
theorem can18 : J01 prog 18 := ⟨_, func18, by kernel_rfl, by kernel_rfl⟩
def qh_1_in (x0 : Int) (x1 : Int) (x2 : T65da) (x3 : List (Tedcc)) : St := ⟨[(0, (.ptr 0 [])), (39, (.own 1 [])), (40, (.v (.int .i64) x0)), (41, (.v (.int .i64) x1))], [.box Y65da (.v Y65da x2) true, .row Yedcc x3 true], 69, 1⟩
def qh_1_ex (o : (Int × T65da) ⊕ (T65da)) : Exit := match o with | (.inl o) => .ret | (.inr o) => (.exit 0)
def qh_1_st (o : (Int × T65da) ⊕ (T65da)) : St := match o with | (.inl o) => ⟨[(6, (.v (.int .i64) o.1))], [.box Y65da (.v Y65da o.2) true], 69, 1⟩ | (.inr o) => ⟨[(0, (.ptr 0 []))], [.box Y65da (.v Y65da o) true], 69, 1⟩
theorem qh_1_body (x0 : Int) (x1 : Int) (x2 : T65da) (x3 : List (Tedcc)) : ∀ r, qh_1_step x0 x1 x2 x3 = some r → (match r with | .inl s => J03 prog (J0w (bodyOf f18) [1, 1, 1, 0, 1, 0, 0]) (qh_1_in x0 x1 x2 x3) .normal (qh_1_in x0 s x2 x3) | .inr o => qh_1_ex o ≠ .normal ∧ J03 prog (J0w (bodyOf f18) [1, 1, 1, 0, 1, 0, 0]) (qh_1_in x0 x1 x2 x3) (qh_1_ex o) (qh_1_st o)) := by
 intro r h
 unfold qh_1_step at h
 rcases fork_some h with ⟨h11, h⟩ | ⟨h11, h⟩
 ·obtain ⟨h12, h⟩ := need_some h
  obtain ⟨u13, h14, h⟩ := andThen_some h
  rcases fork_some h with ⟨h15, h⟩ | ⟨h15, h⟩
  ·injection h with h; subst h
   exact ⟨by intro e; simp [qh_1_ex] at e, env.code (its := [b1, .pre p49, .asis, .call [none, none, none] [] [] true (q2b_R ((List.getD x3 (Int.toNat x1) Zedcc).2.2.1) ((List.getD x3 (Int.toNat x1) Zedcc).1) ((List.getD x3 (Int.toNat x1) Zedcc).2.1) u13) (q2b_O ((List.getD x3 (Int.toNat x1) Zedcc).2.2.1) ((List.getD x3 (Int.toNat x1) Zedcc).1) ((List.getD x3 (Int.toNat x1) Zedcc).2.1) u13), b1, b1, b1, b1, b1, b1, b1, b1, b1, b1, b1, b1, .sel [6] [0]]) (.c h11 (.c h12 (.c rn (.c (q2b_ok ((List.getD x3 (Int.toNat x1) Zedcc).2.2.1) ((List.getD x3 (Int.toNat x1) Zedcc).1) ((List.getD x3 (Int.toNat x1) Zedcc).2.1) u13 h14) (.c h15 (.c h15 (.c h15 (.c h15 (.c h15 (.c h15 (.c h15 (.c h15 (.c h15 (.c h15 (.c h15 (.c r1 .n)))))))))))))))) (by kernel_rfl)⟩
  ·obtain ⟨u16, h17, h⟩ := andThen_some h
   rcases fork_some h with ⟨h18, h⟩ | ⟨h18, h⟩
   ·injection h with h; subst h
    exact ⟨by intro e; simp [qh_1_ex] at e, env.code (its := [b1, .pre p49, .asis, .call [none, none, none] [] [] true (q2b_R ((List.getD x3 (Int.toNat x1) Zedcc).2.2.1) ((List.getD x3 (Int.toNat x1) Zedcc).1) ((List.getD x3 (Int.toNat x1) Zedcc).2.1) u13) (q2b_O ((List.getD x3 (Int.toNat x1) Zedcc).2.2.1) ((List.getD x3 (Int.toNat x1) Zedcc).1) ((List.getD x3 (Int.toNat x1) Zedcc).2.1) u13), b0, b0, b0, b0, b0, b0, b0, b0, b0, .asis, .call [none, none, none] [] [] true (q31_R x2.2.1 ((List.getD x3 (Int.toNat x1) Zedcc).1) ((List.getD x3 (Int.toNat x1) Zedcc).2.1) u16) (q31_O x2.2.1 ((List.getD x3 (Int.toNat x1) Zedcc).1) ((List.getD x3 (Int.toNat x1) Zedcc).2.1) u16), b0, b0, b1, .sel [6] [0]]) (.c h11 (.c h12 (.c rn (.c (q2b_ok ((List.getD x3 (Int.toNat x1) Zedcc).2.2.1) ((List.getD x3 (Int.toNat x1) Zedcc).1) ((List.getD x3 (Int.toNat x1) Zedcc).2.1) u13 h14) (.c h15 (.c h15 (.c h15 (.c h15 (.c h15 (.c h15 (.c h15 (.c h15 (.c h15 (.c rn (.c (q31_ok x2.2.1 ((List.getD x3 (Int.toNat x1) Zedcc).1) ((List.getD x3 (Int.toNat x1) Zedcc).2.1) u16 h17) (.c h15 (.c h15 (.c h18 .n)))))))))))))))))) (by kernel_rfl)⟩
   ·injection h with h; subst h
    exact env.code (its := [b1, .pre p49, .asis, .call [none, none, none] [] [] true (q2b_R ((List.getD x3 (Int.toNat x1) Zedcc).2.2.1) ((List.getD x3 (Int.toNat x1) Zedcc).1) ((List.getD x3 (Int.toNat x1) Zedcc).2.1) u13) (q2b_O ((List.getD x3 (Int.toNat x1) Zedcc).2.2.1) ((List.getD x3 (Int.toNat x1) Zedcc).1) ((List.getD x3 (Int.toNat x1) Zedcc).2.1) u13), b0, b0, b0, b0, b0, b0, b0, b0, b0, .asis, .call [none, none, none] [] [] true (q31_R x2.2.1 ((List.getD x3 (Int.toNat x1) Zedcc).1) ((List.getD x3 (Int.toNat x1) Zedcc).2.1) u16) (q31_O x2.2.1 ((List.getD x3 (Int.toNat x1) Zedcc).1) ((List.getD x3 (Int.toNat x1) Zedcc).2.1) u16), b0, b0, b0, .sel [0, 39, 40, 41] [0, 1]]) (.c h11 (.c h12 (.c rn (.c (q2b_ok ((List.getD x3 (Int.toNat x1) Zedcc).2.2.1) ((List.getD x3 (Int.toNat x1) Zedcc).1) ((List.getD x3 (Int.toNat x1) Zedcc).2.1) u13 h14) (.c h15 (.c h15 (.c h15 (.c h15 (.c h15 (.c h15 (.c h15 (.c h15 (.c h15 (.c rn (.c (q31_ok x2.2.1 ((List.getD x3 (Int.toNat x1) Zedcc).1) ((List.getD x3 (Int.toNat x1) Zedcc).2.1) u16 h17) (.c h15 (.c h15 (.c h18 .n)))))))))))))))))) (by kernel_rfl)
 ·injection h with h; subst h
  exact ⟨by intro e; simp [qh_1_ex] at e, env.code (its := [b0, .sel [0] [0]]) (.c h11 .n) (by kernel_rfl)⟩
theorem qh_1_ok (x0 : Int) (x1 : Int) (x2 : T65da) (x3 : List (Tedcc)) (o : (Int × T65da) ⊕ (T65da)) (h : qh_1 x0 x1 x2 x3 = some o) : J03 prog (J0w (bodyOf f18) [1, 1, 1, 0, 1, 0]) (qh_1_in x0 x1 x2 x3) (qh_1_ex o) (qh_1_st o) :=
 J06.of_step (st := fun s => qh_1_in x0 s x2 x3) (ex := qh_1_ex) (stO := qh_1_st) (fun s s2 hs => qh_1_body x0 s x2 x3 (.inl s2) hs) (fun s r hs => qh_1_body x0 s x2 x3 (.inr r) hs) _ o h
def qh_R (a0 : Tedcc) (a1 : Tedcc) (a2 : T65da) (u : Int × T65da) : Slot := (.v (.int .i64) u.1)
def qh_O (a0 : Tedcc) (a1 : Tedcc) (a2 : T65da) (u : Int × T65da) : List AObj := [.box Y65da (.v Y65da u.2) true]
theorem qh_ok (a0 : Tedcc) (a1 : Tedcc) (a2 : T65da) (u : Int × T65da) (h : qh a0 a1 a2 = some u) : CallC prog 18 [(.ptr 0 []), (.v Yedcc a0), (.v Yedcc a1)] [.box Y65da (.v Y65da a2) true] (qh_R a0 a1 a2 u) (qh_O a0 a1 a2 u) := by
 unfold qh at h
 rcases fork_some h with ⟨h1, h⟩ | ⟨h1, h⟩
 ·injection h with h; subst h
  exact env.fun func18 can18 (its := [b1]) (pos := [.sel [0]]) (.c h1 .n) (by kernel_rfl)
 ·obtain ⟨u2, h3, h⟩ := andThen_some h
  rcases fork_some h with ⟨h4, h⟩ | ⟨h4, h⟩
  ·injection h with h; subst h
   exact env.fun func18 can18 (its := [b0, .call [none] [] [] true (q2a_R a0 u2) (q2a_O a0 u2), b1, b1, b1, b1, b1, b1, b1, b1, b1, b1, b1, b1, b1, b1, b1, b1, b1, b1, b1]) (pos := [.sel [0]]) (.c h1 (.c (q2a_ok a0 u2 h3) (.c h4 (.c h4 (.c h4 (.c h4 (.c r1 (.c r1 (.c r1 (.c r1 (.c r1 (.c r1 (.c r1 (.c r1 (.c r1 (.c r1 (.c r1 (.c r1 (.c r1 (.c r1 (.c r1 .n))))))))))))))))))))) (by kernel_rfl)
  ·obtain ⟨u5, h6, h⟩ := andThen_some h
   rcases fork_some h with ⟨h7, h⟩ | ⟨h7, h⟩
   ·injection h with h; subst h
    exact env.fun func18 can18 (its := [b0, .call [none] [] [] true (q2a_R a0 u2) (q2a_O a0 u2), b0, b0, .call [none] [] [] true (q2a_R a1 u5) (q2a_O a1 u5), b0, b0, b1, b1, b1, b1, b1, b1, b1, b1, b1, b1, b1, b1, b1, b1, b1]) (pos := [.sel [0]]) (.c h1 (.c (q2a_ok a0 u2 h3) (.c h4 (.c h4 (.c (q2a_ok a1 u5 h6) (.c h4 (.c h4 (.c h7 (.c h7 (.c h7 (.c h7 (.c h7 (.c h7 (.c h7 (.c h7 (.c r1 (.c r1 (.c r1 (.c r1 (.c r1 (.c r1 (.c r1 .n)))))))))))))))))))))) (by kernel_rfl)
   ·rcases fork_some h with ⟨h8, h⟩ | ⟨h8, h⟩
    ·injection h with h; subst h
     exact env.fun func18 can18 (its := [b0, .call [none] [] [] true (q2a_R a0 u2) (q2a_O a0 u2), b0, b0, .call [none] [] [] true (q2a_R a1 u5) (q2a_O a1 u5), b0, b0, b0, b0, b0, b0, b0, b0, b0, b0, b1, b1, b1, b1, b1, b1, b1]) (pos := [.sel [0]]) (.c h1 (.c (q2a_ok a0 u2 h3) (.c h4 (.c h4 (.c (q2a_ok a1 u5 h6) (.c h4 (.c h4 (.c h7 (.c h7 (.c h7 (.c h7 (.c h7 (.c h7 (.c h7 (.c h7 (.c h8 (.c h8 (.c h8 (.c h8 (.c h8 (.c h8 (.c r1 .n)))))))))))))))))))))) (by kernel_rfl)
    ·rcases fork_some h with ⟨h9, h⟩ | ⟨h9, h⟩
     ·injection h with h; subst h
      exact env.fun func18 can18 (its := [b0, .call [none] [] [] true (q2a_R a0 u2) (q2a_O a0 u2), b0, b0, .call [none] [] [] true (q2a_R a1 u5) (q2a_O a1 u5), b0, b0, b0, b0, b0, b0, b0, b0, b0, b0, b0, b0, b0, b0, b0, b0, b1]) (pos := [.sel [0]]) (.c h1 (.c (q2a_ok a0 u2 h3) (.c h4 (.c h4 (.c (q2a_ok a1 u5 h6) (.c h4 (.c h4 (.c h7 (.c h7 (.c h7 (.c h7 (.c h7 (.c h7 (.c h7 (.c h7 (.c h8 (.c h8 (.c h8 (.c h8 (.c h8 (.c h8 (.c h9 .n)))))))))))))))))))))) (by kernel_rfl)
     ·obtain ⟨o19, h20, h⟩ := andThen_some h
      rcases o19 with o21 | o22
      ·injection h with h; subst h
       exact env.fun func18 can18 (its := [b0, .call [none] [] [] true (q2a_R a0 u2) (q2a_O a0 u2), b0, b0, .call [none] [] [] true (q2a_R a1 u5) (q2a_O a1 u5), b0, b0, b0, b0, b0, b0, b0, b0, b0, b0, b0, b0, b0, b0, b0, b0, b0, .dive, .sel [0, 39, 40, 41] [0, 3], .part (qh_1_ex (.inl o21)) (qh_1_st (.inl o21))]) (pos := [.sel [0]]) (.c h1 (.c (q2a_ok a0 u2 h3) (.c h4 (.c h4 (.c (q2a_ok a1 u5 h6) (.c h4 (.c h4 (.c h7 (.c h7 (.c h7 (.c h7 (.c h7 (.c h7 (.c h7 (.c h7 (.c h8 (.c h8 (.c h8 (.c h8 (.c h8 (.c h8 (.c h9 (.c (qh_1_ok (List.length ([a0, a1] : List (Tedcc)) : Int) (0 : Int) a2 ([a0, a1] : List (Tedcc)) (.inl o21) h20) .n))))))))))))))))))))))) (by kernel_rfl)
      ·injection h with h; subst h
       exact env.fun func18 can18 (its := [b0, .call [none] [] [] true (q2a_R a0 u2) (q2a_O a0 u2), b0, b0, .call [none] [] [] true (q2a_R a1 u5) (q2a_O a1 u5), b0, b0, b0, b0, b0, b0, b0, b0, b0, b0, b0, b0, b0, b0, b0, b0, b0, .dive, .sel [0, 39, 40, 41] [0, 3], .part (qh_1_ex (.inr o22)) (qh_1_st (.inr o22))]) (pos := [.sel [0]]) (.c h1 (.c (q2a_ok a0 u2 h3) (.c h4 (.c h4 (.c (q2a_ok a1 u5 h6) (.c h4 (.c h4 (.c h7 (.c h7 (.c h7 (.c h7 (.c h7 (.c h7 (.c h7 (.c h7 (.c h8 (.c h8 (.c h8 (.c h8 (.c h8 (.c h8 (.c h9 (.c (qh_1_ok (List.length ([a0, a1] : List (Tedcc)) : Int) (0 : Int) a2 ([a0, a1] : List (Tedcc)) (.inr o22) h20) .n))))))))))))))))))))))) (by kernel_rfl)
theorem can23 : J01 prog 23 := ⟨_, func23, by kernel_rfl, by kernel_rfl⟩
def qq_R (a0 : T65da) (u : Bool) : Slot := (.v .bool u)
def qq_O (a0 : T65da) (u : Bool) : List AObj := [.box Y65da (.v Y65da a0) true]
theorem qq_ok (a0 : T65da) (u : Bool) (h : qq a0 = some u) : CallC prog 23 [(.ptr 0 [])] [.box Y65da (.v Y65da a0) true] (qq_R a0 u) (qq_O a0 u) := by
 unfold qq at h
 injection h with h; subst h
 exact env.fun func23 can23 (its := []) (pos := [.sel [0]]) .n (by kernel_rfl)
theorem can14 : J01 prog 14 := ⟨_, func14, by kernel_rfl, by kernel_rfl⟩
def qu_1_in (x0 : Int) (x1 : List (Tedcc)) (x2 : List (List (T18c3))) (x3 : Unit) (x4 : List (B8)) (x5 : List (List (B8))) (x6 : List (B8)) (x7 : List (T484d)) : St := ⟨[(1, (.ptr 0 [])), (12, (.v (.int .i64) x0))], [.box Y6488 (.node (.own 1 []) (.node (.own 2 []) (.node (.own 3 []) (.node .nil (.node (.own 4 []) (.node (.v (.slice Yedcc) x1) (.node (.v (.slice (.slice Y18c3)) x2) (.v .unit x3)))))))) true, .row (.arr 32 (.int .u8)) x4 true, .row (.slice (.slice (.int .u8))) x5 true, .row .str x6 true, .row Y484d x7 true], 86, 0⟩
def qu_1_ex (o : (List (Tedcc)) × (List (List (T18c3))) × Unit × List (B8) × List (List (B8)) × List (B8) × List (T484d)) : Exit := (.exit 0)
def qu_1_st (o : (List (Tedcc)) × (List (List (T18c3))) × Unit × List (B8) × List (List (B8)) × List (B8) × List (T484d)) : St := ⟨[(1, (.ptr 0 []))], [.box Y6488 (.node (.own 1 []) (.node (.own 2 []) (.node (.own 3 []) (.node .nil (.node (.own 4 []) (.node (.v (.slice Yedcc) o.1) (.node (.v (.slice (.slice Y18c3)) o.2.1) (.v .unit o.2.2.1)))))))) true, .row (.arr 32 (.int .u8)) o.2.2.2.1 true, .row (.slice (.slice (.int .u8))) o.2.2.2.2.1 true, .row .str o.2.2.2.2.2.1 true, .row Y484d o.2.2.2.2.2.2 true], 86, 0⟩
theorem qu_1_body (x0 : Int) (x1 : List (Tedcc)) (x2 : List (List (T18c3))) (x3 : Unit) (x4 : List (B8)) (x5 : List (List (B8))) (x6 : List (B8)) (x7 : List (T484d)) : ∀ r, qu_1_step x0 x1 x2 x3 x4 x5 x6 x7 = some r → (match r with | .inl s => J03 prog (J0w (bodyOf f14) [1, 1, 0, 1, 0, 0]) (qu_1_in x0 x1 x2 x3 x4 x5 x6 x7) .normal (qu_1_in s.1 s.2.1 s.2.2.1 s.2.2.2.1 s.2.2.2.2.1 s.2.2.2.2.2.1 s.2.2.2.2.2.2.1 s.2.2.2.2.2.2.2) | .inr o => qu_1_ex o ≠ .normal ∧ J03 prog (J0w (bodyOf f14) [1, 1, 0, 1, 0, 0]) (qu_1_in x0 x1 x2 x3 x4 x5 x6 x7) (qu_1_ex o) (qu_1_st o)) := by
 intro r h
 unfold qu_1_step at h
 rcases fork_some h with ⟨h4, h⟩ | ⟨h4, h⟩
 ·obtain ⟨u5, h6, h⟩ := andThen_some h
  injection h with h; subst h
  exact env.code (its := [b1, .call [none, none] [0, 1, 2, 3, 4] [] false (qd_R (w64 ((10 : Int) * (w64 (x0 + (1 : Int))))) x1 x2 x3 x4 x5 x6 x7 u5) (qd_O (w64 ((10 : Int) * (w64 (x0 + (1 : Int))))) x1 x2 x3 x4 x5 x6 x7 u5), .sel [1, 12] [0, 1, 2, 3, 4]]) (.c h4 (.c (qd_ok (w64 ((10 : Int) * (w64 (x0 + (1 : Int))))) x1 x2 x3 x4 x5 x6 x7 u5 h6) .n)) (by kernel_rfl)
 ·injection h with h; subst h
  exact ⟨by intro e; simp [qu_1_ex] at e, env.code (its := [b0, .sel [1] [0, 1, 2, 3, 4]]) (.c h4 .n) (by kernel_rfl)⟩
theorem qu_1_ok (x0 : Int) (x1 : List (Tedcc)) (x2 : List (List (T18c3))) (x3 : Unit) (x4 : List (B8)) (x5 : List (List (B8))) (x6 : List (B8)) (x7 : List (T484d)) (o : (List (Tedcc)) × (List (List (T18c3))) × Unit × List (B8) × List (List (B8)) × List (B8) × List (T484d)) (h : qu_1 x0 x1 x2 x3 x4 x5 x6 x7 = some o) : J03 prog (J0w (bodyOf f14) [1, 1, 0, 1, 0]) (qu_1_in x0 x1 x2 x3 x4 x5 x6 x7) (qu_1_ex o) (qu_1_st o) :=
 J06.of_step (st := fun s => qu_1_in s.1 s.2.1 s.2.2.1 s.2.2.2.1 s.2.2.2.2.1 s.2.2.2.2.2.1 s.2.2.2.2.2.2.1 s.2.2.2.2.2.2.2) (ex := qu_1_ex) (stO := qu_1_st) (fun s s2 hs => qu_1_body s.1 s.2.1 s.2.2.1 s.2.2.2.1 s.2.2.2.2.1 s.2.2.2.2.2.1 s.2.2.2.2.2.2.1 s.2.2.2.2.2.2.2 (.inl s2) hs) (fun s r hs => qu_1_body s.1 s.2.1 s.2.2.1 s.2.2.2.1 s.2.2.2.2.1 s.2.2.2.2.2.1 s.2.2.2.2.2.2.1 s.2.2.2.2.2.2.2 (.inr r) hs) _ o h
def qu_R  (u : Bool) : Slot := (.v .bool u)
def qu_O  (u : Bool) : List AObj := []
theorem qu_ok  (u : Bool) (h : qu  = some u) : CallC prog 14 [] [] (qu_R u) (qu_O u) := by
 unfold qu at h
 obtain ⟨u1, h2, h⟩ := andThen_some h
 obtain ⟨o7, h8, h⟩ := andThen_some h
 obtain ⟨h9, h⟩ := need_some h
 obtain ⟨u10, h11, h⟩ := andThen_some h
 rcases u10 with u12 | u13
 ·cases h
 ·rcases fork_some h with ⟨h14, h⟩ | ⟨h14, h⟩
  ·cases h
  ·obtain ⟨h15, h⟩ := need_some h
   obtain ⟨u16, h17, h⟩ := andThen_some h
   obtain ⟨u18, h19, h⟩ := andThen_some h
   obtain ⟨h20, h⟩ := need_some h
   obtain ⟨u21, h22, h⟩ := andThen_some h
   obtain ⟨u23, h24, h⟩ := andThen_some h
   rcases fork_some h with ⟨h25, h⟩ | ⟨h25, h⟩
   ·rcases fork_some h with ⟨h26, h⟩ | ⟨h26, h⟩
    ·rcases fork_some h with ⟨h27, h⟩ | ⟨h27, h⟩
     ·obtain ⟨u28, h29, h⟩ := andThen_some h
      rcases fork_some h with ⟨h30, h⟩ | ⟨h30, h⟩
      ·obtain ⟨u31, h32, h⟩ := andThen_some h
       injection h with h; subst h
       exact env.fun func14 can14 (its := [.call [none] [] [0] false (q1n_R ([(1 : Int)] : List (Int)) u1) (q1n_O ([(1 : Int)] : List (Int)) u1), .dive, .J67 1 [.fld 5], .J67 1 [.fld 6], .sel [1, 12] [1, 2, 3, 4, 5], .part (qu_1_ex o7) (qu_1_st o7), .pre p50, .call [none, none, none] [] [] false (q2v_R ((List.getD o7.1 (Int.toNat (0 : Int)) Zedcc).1) ((List.getD o7.1 (Int.toNat (0 : Int)) Zedcc).2.2.2.1) (100 : Int) (.inr u13)) (q2v_O ((List.getD o7.1 (Int.toNat (0 : Int)) Zedcc).1) ((List.getD o7.1 (Int.toNat (0 : Int)) Zedcc).2.2.2.1) (100 : Int) (.inr u13)), b0, b0, b0, b0, .pre p51, .call [none, none, none] [0] [] false (qn_R (List.getD o7.1 (Int.toNat (1 : Int)) Zedcc) (25 : Int) u13.2 u16) (qn_O (List.getD o7.1 (Int.toNat (1 : Int)) Zedcc) (25 : Int) u13.2 u16), .call [none, none, none] [0] [] false (qn_R (List.getD o7.1 (Int.toNat (1 : Int)) Zedcc) (25 : Int) u16.2 u18) (qn_O (List.getD o7.1 (Int.toNat (1 : Int)) Zedcc) (25 : Int) u16.2 u18), .call [none, none, none] [] [6] false (q1a_R (List.getD o7.1 (Int.toNat (2 : Int)) Zedcc) ([(0 : Int)] : List (Int)) (5 : Int) u21) (q1a_O (List.getD o7.1 (Int.toNat (2 : Int)) Zedcc) ([(0 : Int)] : List (Int)) (5 : Int) u21), .pre p52, .call [none, none, none] [0] [] false (qh_R (List.getD o7.1 (Int.toNat (2 : Int)) Zedcc) u21 u18.2 u23) (qh_O (List.getD o7.1 (Int.toNat (2 : Int)) Zedcc) u21 u18.2 u23), b1, b1, b1, b1, b1, b1, b1, b1, .call [none] [5] [] false (qq_R u23.2 u28) (qq_O u23.2 u28), b1, b1, b1, b1, b1, b1, .call [none, none, none] [5] [] false (qn_R (List.getD o7.1 (Int.toNat (2 : Int)) Zedcc) (35 : Int) u23.2 u31) (qn_O (List.getD o7.1 (Int.toNat (2 : Int)) Zedcc) (35 : Int) u23.2 u31), b1, b1]) (pos := [.sel []]) (.c (q1n_ok ([(1 : Int)] : List (Int)) u1 h2) (.c (qu_1_ok (0 : Int) ([] : List (Tedcc)) ([] : List (List (T18c3))) u1.1 u1.2.1 u1.2.2.1 u1.2.2.2.1 u1.2.2.2.2 o7 h8) (.c h9 (.c h9 (.c (q2v_ok ((List.getD o7.1 (Int.toNat (0 : Int)) Zedcc).1) ((List.getD o7.1 (Int.toNat (0 : Int)) Zedcc).2.2.2.1) (100 : Int) (.inr u13) h11) (.c r0 (.c r0 (.c r0 (.c h14 (.c h15 (.c (qn_ok (List.getD o7.1 (Int.toNat (1 : Int)) Zedcc) (25 : Int) u13.2 u16 h17) (.c h15 (.c (qn_ok (List.getD o7.1 (Int.toNat (1 : Int)) Zedcc) (25 : Int) u16.2 u18 h19) (.c h20 (.c (q1a_ok (List.getD o7.1 (Int.toNat (2 : Int)) Zedcc) ([(0 : Int)] : List (Int)) (5 : Int) u21 h22) (.c h20 (.c (qh_ok (List.getD o7.1 (Int.toNat (2 : Int)) Zedcc) u21 u18.2 u23 h24) (.c h25 (.c h25 (.c h25 (.c h26 (.c h26 (.c h26 (.c h27 (.c h27 (.c (qq_ok u23.2 u28 h29) (.c h27 (.c h30 (.c h30 (.c h30 (.c h20 (.c h30 (.c h30 (.c (qn_ok (List.getD o7.1 (Int.toNat (2 : Int)) Zedcc) (35 : Int) u23.2 u31 h32) (.c h30 (.c h30 .n)))))))))))))))))))))))))))))))))))) (by kernel_rfl)
      ·cases h
     ·cases h
    ·cases h
   ·cases h
end
end Go.Proofs.YtcfaippbnmmelaaGreat.lightSkips
