/-
  The functions, walked through: each call comes to what the pure text says.
-/
import Derived.Test.YtnckmagemlajeaaGreatProg
import Derived.Test.YtnckmagemlajeaaGreatAxC
import Derived.Test.YtnckmagemlajeaaGreatCLightPlaysP
import Derived.Test.YtnckmagemlajeaaGreatCLightPlaysW0
namespace Go.Proofs.YtnckmagemlajeaaGreat.lightPlays
open Go.Ax Go.Ax.V Go.Proofs.Tryz
set_option maxRecDepth 100000
set_option maxHeartbeats 4000000
set_option linter.unusedVariables false
noncomputable section
theorem can116 : CanF prog 116 f116 := ⟨func116, _, func116, by kernel_rfl, by kernel_rfl⟩
theorem q3p_ok {a0 u} (h : q3p a0 = some u) : CallC prog 116 [(.v Yf0bc a0)] [] ((.v Yh u)) ([]) := by
 unfold q3p at h
 obtain ⟨u1, h2, h⟩ := andThen_ok h q33_ok
 obtain ⟨u3, h4, h⟩ := andThen_ok h q31_ok
 cases h
 exact env.fn can116 [cI h2 [] [] [] true, cI h4 [] [] [3] true] s0 (.c h2 (.c h4 .n))
theorem can108 : CanF prog 108 f108 := ⟨func108, _, func108, by kernel_rfl, by kernel_rfl⟩
theorem q3j_ok {a0 u} (h : q3j a0 = some u) : CallC prog 108 [(.v Yf0bc a0)] [] ((.own 0 [])) ([.box Yh (.v Yh u) true]) := by
 unfold q3j at h
 obtain ⟨u1, h2, h⟩ := andThen_ok h q3p_ok
 cases h
 exact env.fn can108 [cI h2 [] [] [] true, b1] [.sel [1]] (.c h2 .n)
theorem can109 : CanF prog 109 f109 := ⟨func109, _, func109, by kernel_rfl, by kernel_rfl⟩
def q3r_1_in (x0 : B8) (x1 : List (T484d)) (x2 : Int) (x3 : Int) (x4 : T484d) : St := ⟨[(1, (.v .str x0)), (4, (.ptr 0 [])), (8, (.v (.slice Y484d) x1)), (9, (.v (.int .i64) x2)), (10, (.v (.int .i64) x3))], [.box Y484d (.v Y484d x4) true], 21, 0⟩
def q3r_1_ex (o : (Bool × T484d) ⊕ (T484d)) : Exit := match (generalizing := false) o with | (.inl o) => .ret | (.inr o) => (.exit 0)
def q3r_1_st (o : (Bool × T484d) ⊕ (T484d)) : St := match (generalizing := false) o with | (.inl o) => ⟨[(4, (.ptr 0 [])), (5, (.v .bool o.1))], [.box Y484d (.v Y484d o.2) true], 21, 0⟩ | (.inr o) => ⟨[(4, (.ptr 0 []))], [.box Y484d (.v Y484d o) true], 21, 0⟩
theorem q3r_1_body {x0 x1 x2 x3 x4 r} (h : q3r_1_step x0 x1 x2 x3 x4 = some r) : J09 prog (J0z (J0q f109) [1, 0, 1, 0, 0]) x3 r (fun s => q3r_1_in x0 x1 x2 s x4) q3r_1_ex q3r_1_st := by
 unfold q3r_1_step at h
 rcases J2w h with ⟨h2, h⟩ | ⟨h2, h⟩
 ·obtain ⟨h3, h⟩ := J4b h
  rcases J2w h with ⟨h4, h⟩ | ⟨h4, h⟩
  ·cases h
   exact .out (by intro e; simp [q3r_1_ex] at e) (env.cd [b1, b1, .sel [4, 5] [0]] (.c h2 (.c h3 (.c h4 .n))))
  ·cases h
   exact .next (env.cd [b1, b0, .sel [1, 4, 8, 9, 10] [0]] (.c h2 (.c h3 (.c h4 .n))))
 ·cases h
  exact .out (by intro e; simp [q3r_1_ex] at e) (env.cd [b0, .sel [4] [0]] (.c h2 .n))
theorem q3r_1_ok {x0 x1 x2 x3 x4 o} (h : q3r_1 x0 x1 x2 x3 x4 = some o) : J03 prog (J0z (J0q f109) [1, 0, 1, 0]) (q3r_1_in x0 x1 x2 x3 x4) (q3r_1_ex o) (q3r_1_st o) := J06.of_stepR (fun _ _ h => q3r_1_body h) _ _ h
theorem q3r_ok {a0 a1 u} (h : q3r a0 a1 = some u) : CallC prog 109 [(.v (.slice Y484d) a0), (.v .str a1)] [] ((.tup (.v Y484d u.1) (.tup (.v .bool u.2) .tnil))) ([]) := by
 unfold q3r at h
 obtain ⟨o5, h6, h⟩ := andThen_ok h q3r_1_ok
 rcases o5 with o7 | o8
 ·cases h
  exact env.fn can109 [.dive, .sel [1, 4, 8, 9, 10] [0], pI h6] s0 (.c h6 .n)
 ·cases h
  exact env.fn can109 [.dive, .sel [1, 4, 8, 9, 10] [0], pI h6] s0 (.c h6 .n)
theorem can117 : CanF prog 117 f117 := ⟨func117, _, func117, by kernel_rfl, by kernel_rfl⟩
theorem q3x_ok {a0 u} (h : q3x a0 = some u) : CallC prog 117 [(.v (.int .i64) a0)] [] ((.v .bool u)) ([]) := by
 unfold q3x at h
 rcases J2w h with ⟨h1, h⟩ | ⟨h1, h⟩
 ·cases h
  exact env.fn can117 [b1, b1, b1] s0 (.c h1 (.c h1 (.c h1 .n)))
 ·cases h
  exact env.fn can117 [b0, b0, b0] s0 (.c h1 (.c h1 (.c h1 .n)))
theorem can122 : CanF prog 122 f122 := ⟨func122, _, func122, by kernel_rfl, by kernel_rfl⟩
theorem q41_ok {a0 a1 u} (h : q41 a0 a1 = some u) : CallC prog 122 [(.v Yh a0), (.v (.int .i64) a1)] [] ((.v (.int .i64) u)) ([]) := by
 unfold q41 at h
 obtain ⟨h1, h⟩ := J4b h
 obtain ⟨h2, h⟩ := J4b h
 cases h
 exact env.fn can122 [] s0 (.c (of_decide_eq_true (p := ((8 : Int) ≠ 0)) (by kernel_rfl)) (.c h1 (.c (of_decide_eq_true (p := ((8 : Int) ≠ 0)) (by kernel_rfl)) (.c h2 .n))))
theorem can123 : CanF prog 123 f123 := ⟨func123, _, func123, by kernel_rfl, by kernel_rfl⟩
theorem q3e_ok {a0 u} (h : q3e a0 = some u) : CallC prog 123 [(.v Yh a0)] [] ((.v Yh u)) ([]) := by
 unfold q3e at h
 obtain ⟨u1, h2, h⟩ := andThen_ok h q31_ok
 cases h
 exact env.fn can123 [b1, cI h2 [] [] [2] true] s0 (.c h2 .n)
theorem can124 : CanF prog 124 f124 := ⟨func124, _, func124, by kernel_rfl, by kernel_rfl⟩
def q3w_1_in (x0 : List (B8)) (x1 : Int) (x2 : Int) (x3 : B8) (x4 : B8) : St := ⟨[(2, (.ptr 0 [])), (3, (.own 1 [])), (6, (.v (.slice Yh) x0)), (7, (.v (.int .i64) x1)), (8, (.v (.int .i64) x2))], [.box Yh (.v Yh x3) true, .row (.int .u8) x4 true], 19, 0⟩
def q3w_1_ex (o : B8 × B8) : Exit := (.exit 0)
def q3w_1_st (o : B8 × B8) : St := ⟨[(2, (.ptr 0 [])), (3, (.own 1 []))], [.box Yh (.v Yh o.1) true, .row (.int .u8) o.2 true], 19, 0⟩
theorem q3w_1_body {x0 x1 x2 x3 x4 r} (h : q3w_1_step x0 x1 x2 x3 x4 = some r) : J09 prog (J0z (J0q f124) [1, 1, 0, 1, 0, 0]) (x2, x4) r (fun s => q3w_1_in x0 x1 s.1 x3 s.2) q3w_1_ex q3w_1_st := by
 unfold q3w_1_step at h
 rcases J2w h with ⟨h2, h⟩ | ⟨h2, h⟩
 ·obtain ⟨h3, h⟩ := J4b h
  obtain ⟨h4, h⟩ := J4b h
  cases h
  exact .next (env.cd [b1, b1, .sel [2, 3, 6, 7, 8] [0, 3]] (.c h2 (.c h3 (.c h4 .n))))
 ·cases h
  exact .out (by intro e; simp [q3w_1_ex] at e) (env.cd [b0, .sel [2, 3] [0, 1]] (.c h2 .n))
theorem q3w_1_ok {x0 x1 x2 x3 x4 o} (h : q3w_1 x0 x1 x2 x3 x4 = some o) : J03 prog (J0z (J0q f124) [1, 1, 0, 1, 0]) (q3w_1_in x0 x1 x2 x3 x4) (q3w_1_ex o) (q3w_1_st o) := J06.of_stepR (fun _ _ h => q3w_1_body h) _ _ h
theorem q3w_ok {a0 u} (h : q3w a0 = some u) : CallC prog 124 [(.v (.slice Yh) a0)] [] ((.v Yh u)) ([]) := by
 unfold q3w at h
 obtain ⟨o5, h6, h⟩ := andThen_ok h q3w_1_ok
 obtain ⟨u7, h8, h⟩ := andThen_ok h q31_ok
 cases h
 exact env.fn can124 [.dive, .promote 3 (.int .u8), .sel [2, 3, 6, 7, 8] [0, 1], pI h6, cI h8 [] [] [2] true] s0 (.c h6 (.c h8 .n))
theorem can118 : CanF prog 118 f118 := ⟨func118, _, func118, by kernel_rfl, by kernel_rfl⟩
def q3y_1_in (x0 : Int) (x1 : T9c6e) (x2 : B8) (x3 : B8) (x4 : List (B8)) : St := ⟨[(3, (.ptr 0 [])), (4, (.ptr 1 [])), (6, (.ptr 2 [])), (7, (.own 3 [])), (25, (.v (.int .i64) x0))], [.box Y9c6e (.v Y9c6e x1) true, .box Yh (.v Yh x2) true, .box Yh (.v Yh x3) true, .row Yh x4 true], 58, 0⟩
def q3y_1_ex (o : B8 × List (B8)) : Exit := (.exit 0)
def q3y_1_st (o : B8 × List (B8)) : St := ⟨[(4, (.ptr 0 [])), (7, (.own 1 []))], [.box Yh (.v Yh o.1) true, .row Yh o.2 true], 58, 0⟩
theorem q3y_1_body {x0 x1 x2 x3 x4 r} (h : q3y_1_step x0 x1 x2 x3 x4 = some r) : J09 prog (J0z (J0q f118) [1, 1, 1, 1, 0, 1, 0, 0]) (x0, x4) r (fun s => q3y_1_in s.1 x1 x2 x3 s.2) q3y_1_ex q3y_1_st := by
 unfold q3y_1_step at h
 rcases J2w h with ⟨h7, h⟩ | ⟨h7, h⟩
 ·obtain ⟨u8, h9, h⟩ := andThen_ok h q41_ok
  obtain ⟨h10, h⟩ := J4b h
  obtain ⟨u11, h12, h⟩ := andThen_ok h q3e_ok
  obtain ⟨h13, h⟩ := J4b h
  obtain ⟨h14, h⟩ := J4b h
  obtain ⟨h15, h⟩ := J4b h
  cases h
  exact .next (env.cd [b1, cI h9 [] [] [] true, .pre p46, .asis, cI h12 [] [] [] true, .sel [3, 4, 6, 7, 25] [0, 1, 2, 3]] (.c h7 (.c h9 (.c h10 (.c rn (.c h12 (.c h13 (.c h14 (.c h15 .n)))))))))
 ·cases h
  exact .out (by intro e; simp [q3y_1_ex] at e) (env.cd [b0, .sel [4, 7] [1, 3]] (.c h7 .n))
theorem q3y_1_ok {x0 x1 x2 x3 x4 o} (h : q3y_1 x0 x1 x2 x3 x4 = some o) : J03 prog (J0z (J0q f118) [1, 1, 1, 1, 0, 1, 0]) (q3y_1_in x0 x1 x2 x3 x4) (q3y_1_ex o) (q3y_1_st o) := J06.of_stepR (fun _ _ h => q3y_1_body h) _ _ h
theorem q3y_ok {a0 a1 u} (h : q3y a0 a1 = some u) : CallC prog 118 [(.v Yb a0), (.v Y9c6e a1)] [] ((.tup (.v Yh u.1) (.tup (.v .bool u.2) .tnil))) ([]) := by
 unfold q3y at h
 rcases J2w h with ⟨h1, h⟩ | ⟨h1, h⟩
 ·cases h
  exact env.fn can118 [b1, b1, b1, b1, b1, b1] s0 (.c h1 (.c h1 (.c h1 (.c h1 (.c h1 (.c r1 .n))))))
 ·rcases J2w h with ⟨h2, h⟩ | ⟨h2, h⟩
  ·cases h
   exact env.fn can118 [b0, b0, b0, b0, b0, b1] s0 (.c h1 (.c h1 (.c h1 (.c h1 (.c h1 (.c h2 .n))))))
  ·obtain ⟨u3, h4, h⟩ := andThen_ok h q31_ok
   obtain ⟨h5, h⟩ := J4b h
   obtain ⟨o16, h17, h⟩ := andThen_ok h q3y_1_ok
   obtain ⟨u18, h19, h⟩ := andThen_ok h q3w_ok
   cases h
   exact env.fn can118 [b0, b0, b0, b0, b0, b0, cI h4 [] [] [2] true, .dive, .sel [3, 4, 6, 7, 25] [0, 1, 3, 4], pI h17, cI h19 [] [] [1] true] s0 (.c h1 (.c h1 (.c h1 (.c h1 (.c h1 (.c h2 (.c h4 (.c h5 (.c h17 (.c h19 .n))))))))))
theorem can125 : CanF prog 125 f125 := ⟨func125, _, func125, by kernel_rfl, by kernel_rfl⟩
theorem q42_ok {a0 a1 u} (h : q42 a0 a1 = some u) : CallC prog 125 [(.v (.int .i64) a0), (.v (.int .i64) a1)] [] ((.v .bool u)) ([]) := by
 unfold q42 at h
 rcases J2w h with ⟨h1, h⟩ | ⟨h1, h⟩
 ·rcases J2w h with ⟨h2, h⟩ | ⟨h2, h⟩
  ·cases h
   exact env.fn can125 [b1, b1, b1, b1, b1, b1, b1] s0 (.c h1 (.c h1 (.c h1 (.c h1 (.c h2 (.c h2 (.c h2 .n)))))))
  ·cases h
   exact env.fn can125 [b1, b1, b1, b1, b0, b0, b0] s0 (.c h1 (.c h1 (.c h1 (.c h1 (.c h2 (.c h2 (.c h2 .n)))))))
 ·cases h
  exact env.fn can125 [b0, b0, b0, b0, b0, b0, b0] s0 (.c h1 (.c h1 (.c h1 (.c h1 (.c r0 (.c r0 (.c r0 .n)))))))
theorem can130 : CanF prog 130 f130 := ⟨func130, _, func130, by kernel_rfl, by kernel_rfl⟩
def q3m_1_in (x0 : Int) (x1 : Int) : St := ⟨[(0, (.v (.int .i64) x0)), (3, (.v (.int .i64) x1))], [], 11, 0⟩
def q3m_1_ex (o : Int) : Exit := (.exit 0)
def q3m_1_st (o : Int) : St := ⟨[(3, (.v (.int .i64) o))], [], 11, 0⟩
theorem q3m_1_body {x0 x1 r} (h : q3m_1_step x0 x1 = some r) : J09 prog (J0z (J0q f130) [1, 1, 0, 0, 0]) x1 r (fun s => q3m_1_in x0 s) q3m_1_ex q3m_1_st := by
 unfold q3m_1_step at h
 rcases J2w h with ⟨h2, h⟩ | ⟨h2, h⟩
 ·cases h
  exact .next (env.cd [b1, .dive, .sel [0, 3] []] (.c h2 .n))
 ·cases h
  exact .out (by intro e; simp [q3m_1_ex] at e) (env.cd [b0, .sel [3] []] (.c h2 .n))
theorem q3m_1_ok {x0 x1 o} (h : q3m_1 x0 x1 = some o) : J03 prog (J0z (J0q f130) [1, 1, 0, 0]) (q3m_1_in x0 x1) (q3m_1_ex o) (q3m_1_st o) := J06.of_stepR (fun _ _ h => q3m_1_body h) _ _ h
theorem q3m_ok {a0 u} (h : q3m a0 = some u) : CallC prog 130 [(.v (.int .i64) a0)] [] ((.v (.int .i64) u)) ([]) := by
 unfold q3m at h
 obtain ⟨o3, h4, h⟩ := andThen_ok h q3m_1_ok
 cases h
 exact env.fn can130 [.dive, .sel [0, 3] [], pI h4] s0 (.c h4 .n)
theorem can128 : CanF prog 128 f128 := ⟨func128, _, func128, by kernel_rfl, by kernel_rfl⟩
def q38_1_in (x0 : Int) (x1 : Int) (x2 : List Bool) : St := ⟨[(0, (.v (.int .i64) x0)), (1, (.v (.int .i64) x1)), (5, (.own 0 []))], [.row .bool x2 true], 28, 0⟩
def q38_1_ex (o : List Bool) : Exit := (.exit 0)
def q38_1_st (o : List Bool) : St := ⟨[(5, (.own 0 []))], [.row .bool o true], 28, 0⟩
theorem q38_1_body {x0 x1 x2 r} (h : q38_1_step x0 x1 x2 = some r) : J09 prog (J0z (J0q f128) [1, 1, 0, 0, 0]) (x0, x1, x2) r (fun s => q38_1_in s.1 s.2.1 s.2.2) q38_1_ex q38_1_st := by
 unfold q38_1_step at h
 rcases J2w h with ⟨h2, h⟩ | ⟨h2, h⟩
 ·obtain ⟨u3, h4, h⟩ := andThen_ok h q3m_ok
  obtain ⟨h5, h⟩ := J4b h
  rcases J2w h with ⟨h6, h⟩ | ⟨h6, h⟩
  ·cases h
   exact .next (env.cd [b1, cI h4 [] [] [] true, b1, .sel [0, 1, 5] [2]] (.c h2 (.c h4 (.c h5 (.c h6 .n)))))
  ·cases h
   exact .next (env.cd [b1, cI h4 [] [] [] true, b0, .sel [0, 1, 5] [2]] (.c h2 (.c h4 (.c h5 (.c h6 .n)))))
 ·cases h
  exact .out (by intro e; simp [q38_1_ex] at e) (env.cd [b0, .sel [5] [0]] (.c h2 .n))
theorem q38_1_ok {x0 x1 x2 o} (h : q38_1 x0 x1 x2 = some o) : J03 prog (J0z (J0q f128) [1, 1, 0, 0]) (q38_1_in x0 x1 x2) (q38_1_ex o) (q38_1_st o) := J06.of_stepR (fun _ _ h => q38_1_body h) _ _ h
theorem q38_ok {a0 a1 u} (h : q38 a0 a1 = some u) : CallC prog 128 [(.v (.int .i64) a0), (.v (.int .i64) a1)] [] ((.own 0 [])) ([.row .bool u true]) := by
 unfold q38 at h
 obtain ⟨o7, h8, h⟩ := andThen_ok h q38_1_ok
 cases h
 exact env.fn can128 [.dive, .promote 5 .bool, .sel [0, 1, 5] [0], pI h8] s1 (.c h8 .n)
theorem can126 : CanF prog 126 f126 := ⟨func126, _, func126, by kernel_rfl, by kernel_rfl⟩
theorem q36_ok {a0 a1 u} (h : q36 a0 a1 = some u) : CallC prog 126 [(.v (.int .i64) a0), (.v (.int .i64) a1)] [] ((.v (.int .i64) u)) ([]) := by
 unfold q36 at h
 obtain ⟨u1, h2, h⟩ := andThen_ok h q42_ok
 rcases J2w h with ⟨h3, h⟩ | ⟨h3, h⟩
 ·cases h
  exact env.fn can126 [cI h2 [] [] [] true, b1] s0 (.c h2 (.c h3 .n))
 ·obtain ⟨u4, h5, h⟩ := andThen_ok h q38_ok
  cases h
  exact env.fn can126 [cI h2 [] [] [] true, b0, cI h5 [] [] [] true] s0 (.c h2 (.c h3 (.c h5 .n)))
theorem can129 : CanF prog 129 f129 := ⟨func129, _, func129, by kernel_rfl, by kernel_rfl⟩
theorem q3a_ok {a0 a1 u} (h : q3a a0 a1 = some u) : CallC prog 129 [(.v Yh a0), (.v Yh a1)] [] ((.v Yh u)) ([]) := by
 unfold q3a at h
 obtain ⟨u1, h2, h⟩ := andThen_ok h q31_ok
 cases h
 exact env.fn can129 [.pre p9, b1, b1, .asis, cI h2 [] [] [0] true] s0 (.c (rfl : ([.row Yb ([a0, a1] : List (B8)) true] : List AObj) = [.row Yb ([a0, a1] : List (B8)) true]) (.c h2 .n))
theorem can127 : CanF prog 127 f127 := ⟨func127, _, func127, by kernel_rfl, by kernel_rfl⟩
theorem q2v_ok : ∀ k a0 u, q2v k a0 = some u → CallC prog 127 [(.v Ybb a0)] [] ((.v Yh u)) ([])
 | 0, a0, u, h => by cases h
 | k + 1, a0, u, h => by
  unfold q2v at h
  rcases J2w h with ⟨h1, h⟩ | ⟨h1, h⟩
  ·obtain ⟨u2, h3, h⟩ := andThen_ok h q31_ok
   cases h
   exact env.fn can127 [b1, cI h3 [none, (some Yb)] [] [] true] s0 (.c h1 (.c h3 .n))
  ·rcases J2w h with ⟨h4, h⟩ | ⟨h4, h⟩
   ·obtain ⟨h5, h⟩ := J4b h
    obtain ⟨u6, h7, h⟩ := andThen_ok h q31_ok
    cases h
    exact env.fn can127 [b0, b1, cI h7 [] [] [1] true] s0 (.c h1 (.c h4 (.c h5 (.c h7 .n))))
   ·obtain ⟨u8, h9, h⟩ := andThen_ok h q3m_ok
    obtain ⟨h10, h⟩ := J4b h
    obtain ⟨u11, h12, h⟩ := andThen_ok h (q2v_ok k _ _)
    obtain ⟨h13, h⟩ := J4b h
    obtain ⟨u14, h15, h⟩ := andThen_ok h (q2v_ok k _ _)
    obtain ⟨u16, h17, h⟩ := andThen_ok h q3a_ok
    cases h
    exact env.fn can127 [b0, b0, cI h9 [] [] [] true, .pre p47, b0, .asis, cI h12 [] [] [] true, b0, .asis, cI h15 [] [] [] true, .asis, cI h17 [] [] [] true] s0 (.c h1 (.c h4 (.c h9 (.c h10 (.c rn (.c h12 (.c h13 (.c rn (.c h15 (.c rn (.c h17 .n)))))))))))
theorem q3i_ok {a0 u} (h : q3i a0 = some u) : CallC prog 127 [(.v Ybb a0)] [] ((.v Yh u)) ([]) := q2v_ok 64 _ _ h
theorem can119 : CanF prog 119 f119 := ⟨func119, _, func119, by kernel_rfl, by kernel_rfl⟩
def q40_1_in (x0 : List (B8)) (x1 : Int) (x2 : Int) (x3 : B8) (x4 : B8) (x5 : List Bool) : St := ⟨[(8, (.ptr 0 [])), (10, (.ptr 1 [])), (11, (.own 2 [])), (33, (.v (.slice Yh) x0)), (34, (.v (.int .i64) x1)), (35, (.v (.int .i64) x2))], [.box Yh (.v Yh x3) true, .box Yh (.v Yh x4) true, .row .bool x5 true], 56, 0⟩
def q40_1_ex (o : B8 × B8) : Exit := (.exit 0)
def q40_1_st (o : B8 × B8) : St := ⟨[(8, (.ptr 0 [])), (10, (.ptr 1 []))], [.box Yh (.v Yh o.1) true, .box Yh (.v Yh o.2) true], 56, 0⟩
theorem q40_1_body {x0 x1 x2 x3 x4 x5 r} (h : q40_1_step x0 x1 x2 x3 x4 x5 = some r) : J09 prog (J0z (J0q f119) [1, 1, 1, 1, 0, 1, 0, 0]) (x2, x4) r (fun s => q40_1_in x0 x1 s.1 x3 s.2 x5) q40_1_ex q40_1_st := by
 unfold q40_1_step at h
 rcases J2w h with ⟨h12, h⟩ | ⟨h12, h⟩
 ·obtain ⟨h13, h⟩ := J4b h
  obtain ⟨h14, h⟩ := J4b h
  rcases J2w h with ⟨h15, h⟩ | ⟨h15, h⟩
  ·obtain ⟨u16, h17, h⟩ := andThen_ok h q3a_ok
   cases h
   exact .next (env.cd [b1, b1, cI h17 [] [] [] true, .sel [8, 10, 11, 33, 34, 35] [0, 1, 2]] (.c h12 (.c h13 (.c h14 (.c h15 (.c h17 .n))))))
  ·obtain ⟨u18, h19, h⟩ := andThen_ok h q3a_ok
   cases h
   exact .next (env.cd [b1, b0, cI h19 [] [] [] true, .sel [8, 10, 11, 33, 34, 35] [0, 1, 2]] (.c h12 (.c h13 (.c h14 (.c h15 (.c h19 .n))))))
 ·cases h
  exact .out (by intro e; simp [q40_1_ex] at e) (env.cd [b0, .sel [8, 10] [0, 1]] (.c h12 .n))
theorem q40_1_ok {x0 x1 x2 x3 x4 x5 o} (h : q40_1 x0 x1 x2 x3 x4 x5 = some o) : J03 prog (J0z (J0q f119) [1, 1, 1, 1, 0, 1, 0]) (q40_1_in x0 x1 x2 x3 x4 x5) (q40_1_ex o) (q40_1_st o) := J06.of_stepR (fun _ _ h => q40_1_body h) _ _ h
theorem q40_ok {a0 a1 a2 a3 u} (h : q40 a0 a1 a2 a3 = some u) : CallC prog 119 [(.v Yb a0), (.v (.int .i64) a1), (.v (.int .i64) a2), (.v (.slice Yh) a3)] [] ((.tup (.v Yh u.1) (.tup (.v .bool u.2) .tnil))) ([]) := by
 unfold q40 at h
 obtain ⟨u1, h2, h⟩ := andThen_ok h q42_ok
 rcases J2w h with ⟨h3, h⟩ | ⟨h3, h⟩
 ·cases h
  exact env.fn can119 [cI h2 [] [] [] true, b1, b1, b1, b1, b1, b1, b1, b1] s0 (.c h2 (.c h3 (.c h3 (.c h3 (.c h3 (.c h3 (.c h3 (.c h3 (.c r1 .n)))))))))
 ·obtain ⟨u4, h5, h⟩ := andThen_ok h q36_ok
  let i1 : List It := [cI h2 [] [] [] true, b0, b0, b0, b0, b0, cI h5 [] [] [] true, b0, b0]
  have e2 := (AllP.c h2 (AllP.c h3 (AllP.c h3 (AllP.c h3 (AllP.c h3 (AllP.c h3 (AllP.c h5 (AllP.c h3 (AllP.c h3 AllP.n)))))))))
  rcases J2w h with ⟨h6, h⟩ | ⟨h6, h⟩
  ·cases h
   exact env.fn can119 (i1 ++ [b1]) s0 (e2.app (.c h6 .n))
  ·obtain ⟨u7, h8, h⟩ := andThen_ok h q3i_ok
   obtain ⟨u9, h10, h⟩ := andThen_ok h q38_ok
   obtain ⟨o20, h21, h⟩ := andThen_ok h q40_1_ok
   cases h
   exact env.fn can119 (i1 ++ [b0, cI h8 [] [] [1] true, cI h10 [] [] [] true, .dive, .sel [8, 10, 11, 33, 34, 35] [0, 2, 3], pI h21]) s0 (e2.app (.c h6 (.c h8 (.c h10 (.c h21 .n)))))
theorem can110 : CanF prog 110 f110 := ⟨func110, _, func110, by kernel_rfl, by kernel_rfl⟩
theorem q2y_ok {a0 a1 a2 a3 u} (h : q2y a0 a1 a2 a3 = some u) : CallC prog 110 [(.v Yh a0), (.v (.int .i64) a1), (.v Yb a2), (.v Y8266 a3)] [] ((.v .bool u)) ([]) := by
 unfold q2y at h
 obtain ⟨u1, h2, h⟩ := andThen_ok h q3x_ok
 let i1 : List It := [cI h2 [] [] [] true]
 rcases J2w h with ⟨h3, h⟩ | ⟨h3, h⟩
 ·cases h
  exact env.fn can110 (i1 ++ [b1, b1, b1, b1, b1, b1]) s0 (.c h2 (.c h3 (.c h3 (.c h3 (.c h3 (.c h3 (.c r1 .n)))))))
 ·let i2 : List It := i1 ++ [b0, b0, b0, b0, b0]
  have e3 := (AllP.c h2 (AllP.c h3 (AllP.c h3 (AllP.c h3 (AllP.c h3 (AllP.c h3 AllP.n))))))
  rcases J2w h with ⟨h4, h⟩ | ⟨h4, h⟩
  ·cases h
   exact env.fn can110 (i2 ++ [b1]) s0 (e3.app (.c h4 .n))
  ·obtain ⟨u5, h6, h⟩ := andThen_ok h q3y_ok
   let i4 : List It := i2 ++ [b0, cI h6 [] [] [] true]
   rcases J2w h with ⟨h7, h⟩ | ⟨h7, h⟩
   ·cases h
    exact env.fn can110 (i4 ++ [b1]) s0 (e3.app (.c h4 (.c h6 (.c h7 .n))))
   ·obtain ⟨u8, h9, h⟩ := andThen_ok h q40_ok
    let i5 : List It := i4 ++ [b0, .pre p48, b1, .asis, cI h9 [] [] [0] true]
    have e6 := e3.app (.c h4 (.c h6 (.c h7 (.c (rfl : ([.box Yh (.v Yh u5.1) true] : List AObj) = [.box Yh (.v Yh u5.1) true]) (.c h9 .n)))))
    rcases J2w h with ⟨h10, h⟩ | ⟨h10, h⟩
    ·cases h
     exact env.fn can110 (i5 ++ [b1, b1, b1, b1]) s0 (e6.app (.c h10 (.c h10 (.c h10 (.c h10 .n)))))
    ·cases h
     exact env.fn can110 (i5 ++ [b0, b0, b0, b0]) s0 (e6.app (.c h10 (.c h10 (.c h10 (.c h10 .n)))))
theorem can95 : CanF prog 95 f95 := ⟨func95, _, func95, by kernel_rfl, by kernel_rfl⟩
def q2z_1_in (x0 : List (T484d)) (x1 : List (T8f72)) (x2 : Int) (x3 : Int) (x4 : Tf0bc) (x5 : List (B8)) (x6 : B8) : St := ⟨[(0, (.v (.slice Y484d) x0)), (4, (.ptr 0 [])), (7, (.own 1 [])), (8, (.own 2 [])), (18, (.v (.slice Y8f72) x1)), (19, (.v (.int .i64) x2)), (20, (.v (.int .i64) x3))], [.box Yf0bc (.v Yf0bc x4) true, .row .str x5 true, .box Yh (.v Yh x6) true], 49, 0⟩
def q2z_1_ex (o : List (B8)) : Exit := (.exit 0)
def q2z_1_st (o : List (B8)) : St := ⟨[(7, (.own 0 []))], [.row .str o true], 49, 0⟩
theorem q2z_1_body {x0 x1 x2 x3 x4 x5 x6 r} (h : q2z_1_step x0 x1 x2 x3 x4 x5 x6 = some r) : J09 prog (J0z (J0q f95) [1, 1, 1, 1, 0, 1, 0, 0]) (x3, x5) r (fun s => q2z_1_in x0 x1 x2 s.1 x4 s.2 x6) q2z_1_ex q2z_1_st := by
 unfold q2z_1_step at h
 rcases J2w h with ⟨h7, h⟩ | ⟨h7, h⟩
 ·obtain ⟨h8, h⟩ := J4b h
  obtain ⟨u9, h10, h⟩ := andThen_ok h q3r_ok
  let i1 : List It := [b1, cI h10 [] [] [] true]
  rcases J2w h with ⟨h11, h⟩ | ⟨h11, h⟩
  ·obtain ⟨u12, h13, h⟩ := andThen_ok h q2y_ok
   let i2 : List It := i1 ++ [b1, b1, b1, b1, b1, b1, b1, b1, cI h13 [] [] [2] true, b1]
   have e3 := (AllP.c h7 (AllP.c h8 (AllP.c h10 (AllP.c h11 (AllP.c h11 (AllP.c h11 (AllP.c h11 (AllP.c h11 (AllP.c h11 (AllP.c h11 (AllP.c h11 (AllP.c h13 (AllP.c h11 AllP.n)))))))))))))
   rcases J2w h with ⟨h14, h⟩ | ⟨h14, h⟩
   ·obtain ⟨h15, h⟩ := J4b h
    cases h
    exact .next (env.cd (i2 ++ [b1, .sel [0, 4, 7, 8, 18, 19, 20] [0, 6, 2]]) (e3.app (.c h14 (.c h15 .n))))
   ·cases h
    exact .next (env.cd (i2 ++ [b0, .sel [0, 4, 7, 8, 18, 19, 20] [0, 1, 2]]) (e3.app (.c h14 .n)))
  ·cases h
   exact .next (env.cd (i1 ++ [b0, b0, b0, b0, b0, b0, b0, b0, b0, b0, .sel [0, 4, 7, 8, 18, 19, 20] [0, 1, 2]]) (.c h7 (.c h8 (.c h10 (.c h11 (.c h11 (.c h11 (.c h11 (.c h11 (.c h11 (.c h11 (.c h11 (.c h11 (.c r0 .n))))))))))))))
 ·cases h
  exact .out (by intro e; simp [q2z_1_ex] at e) (env.cd [b0, .sel [7] [1]] (.c h7 .n))
theorem q2z_1_ok {x0 x1 x2 x3 x4 x5 x6 o} (h : q2z_1 x0 x1 x2 x3 x4 x5 x6 = some o) : J03 prog (J0z (J0q f95) [1, 1, 1, 1, 0, 1, 0]) (q2z_1_in x0 x1 x2 x3 x4 x5 x6) (q2z_1_ex o) (q2z_1_st o) := J06.of_stepR (fun _ _ h => q2z_1_body h) _ _ h
theorem q2z_ok {a0 a1 a2 u} (h : q2z a0 a1 a2 = some u) : CallC prog 95 [(.v (.slice Y484d) a0), (.v Yf0bc a1), (.v (.slice Y8f72) a2)] [] ((.own 0 [])) ([.row .str u true]) := by
 unfold q2z at h
 obtain ⟨u1, h2, h⟩ := andThen_ok h q37_ok
 rcases J2w h with ⟨h3, h⟩ | ⟨h3, h⟩
 ·cases h
  exact env.fn can95 [cI h2 [] [] [] true, b1] [.promote .str, .sel [1]] (.c h2 (.c h3 .n))
 ·obtain ⟨u4, h5, h⟩ := andThen_ok h q3j_ok
  obtain ⟨o16, h17, h⟩ := andThen_ok h q2z_1_ok
  cases h
  exact env.fn can95 [cI h2 [] [] [] true, b0, cI h5 [] [] [] true, .dive, .promote 7 .str, .sel [0, 4, 7, 8, 18, 19, 20] [0, 2, 1], pI h17] s1 (.c h2 (.c h3 (.c h5 (.c h17 .n))))
theorem can115 : CanF prog 115 f115 := ⟨func115, _, func115, by kernel_rfl, by kernel_rfl⟩
def qh_1_in (x0 : List (B8)) (x1 : B8) (x2 : Int) (x3 : Int) : St := ⟨[(0, (.v (.slice .str) x0)), (1, (.v .str x1)), (7, (.v (.int .i64) x2)), (8, (.v (.int .i64) x3))], [], 19, 0⟩
def qh_1_ex (o : (Int) ⊕ (Unit)) : Exit := match (generalizing := false) o with | (.inl o) => .ret | (.inr o) => (.exit 0)
def qh_1_st (o : (Int) ⊕ (Unit)) : St := match (generalizing := false) o with | (.inl o) => ⟨[(4, (.v (.int .i64) o))], [], 19, 0⟩ | (.inr o) => ⟨[], [], 19, 0⟩
theorem qh_1_body {x0 x1 x2 x3 r} (h : qh_1_step x0 x1 x2 x3 = some r) : J09 prog (J0z (J0q f115) [1, 0, 1, 0, 0]) x3 r (fun s => qh_1_in x0 x1 x2 s) qh_1_ex qh_1_st := by
 unfold qh_1_step at h
 rcases J2w h with ⟨h2, h⟩ | ⟨h2, h⟩
 ·obtain ⟨h3, h⟩ := J4b h
  rcases J2w h with ⟨h4, h⟩ | ⟨h4, h⟩
  ·cases h
   exact .out (by intro e; simp [qh_1_ex] at e) (env.cd [b1, b1, .sel [4] []] (.c h2 (.c h3 (.c h4 .n))))
  ·cases h
   exact .next (env.cd [b1, b0, .sel [0, 1, 7, 8] []] (.c h2 (.c h3 (.c h4 .n))))
 ·cases h
  exact .out (by intro e; simp [qh_1_ex] at e) (env.cd [b0, .sel [] []] (.c h2 .n))
theorem qh_1_ok {x0 x1 x2 x3 o} (h : qh_1 x0 x1 x2 x3 = some o) : J03 prog (J0z (J0q f115) [1, 0, 1, 0]) (qh_1_in x0 x1 x2 x3) (qh_1_ex o) (qh_1_st o) := J06.of_stepR (fun _ _ h => qh_1_body h) _ _ h
theorem qh_ok {a0 a1 u} (h : qh a0 a1 = some u) : CallC prog 115 [(.v (.slice .str) a0), (.v .str a1)] [] ((.v (.int .i64) u)) ([]) := by
 unfold qh at h
 obtain ⟨o5, h6, h⟩ := andThen_ok h qh_1_ok
 rcases o5 with o7 | o8
 ·cases h
  exact env.fn can115 [.dive, .sel [0, 1, 7, 8] [], pI h6] s0 (.c h6 .n)
 ·cases h
  exact env.fn can115 [.dive, .sel [0, 1, 7, 8] [], pI h6] s0 (.c h6 .n)
theorem can105 : CanF prog 105 f105 := ⟨func105, _, func105, by kernel_rfl, by kernel_rfl⟩
theorem qe_ok {a0 a1 u} (h : qe a0 a1 = some u) : CallC prog 105 [(.v (.slice .str) a0), (.v .str a1)] [] ((.v .bool u)) ([]) := by
 unfold qe at h
 obtain ⟨u1, h2, h⟩ := andThen_ok h qh_ok
 cases h
 exact env.fn can105 [cI h2 [] [] [] true] s0 (.c h2 .n)
theorem can106 : CanF prog 106 f106 := ⟨func106, _, func106, by kernel_rfl, by kernel_rfl⟩
def q3d_1_in (x0 : Int) (x1 : List (T484d)) (x2 : Int) (x3 : Int) : St := ⟨[(3, (.v (.int .i64) x0)), (6, (.v (.slice Y484d) x1)), (7, (.v (.int .i64) x2)), (8, (.v (.int .i64) x3))], [], 18, 0⟩
def q3d_1_ex (o : Int) : Exit := (.exit 0)
def q3d_1_st (o : Int) : St := ⟨[(3, (.v (.int .i64) o))], [], 18, 0⟩
theorem q3d_1_body {x0 x1 x2 x3 r} (h : q3d_1_step x0 x1 x2 x3 = some r) : J09 prog (J0z (J0q f106) [1, 1, 0, 1, 0, 0]) (x0, x3) r (fun s => q3d_1_in s.1 x1 x2 s.2) q3d_1_ex q3d_1_st := by
 unfold q3d_1_step at h
 rcases J2w h with ⟨h2, h⟩ | ⟨h2, h⟩
 ·obtain ⟨h3, h⟩ := J4b h
  cases h
  exact .next (env.cd [b1, .dive, .sel [3, 6, 7, 8] []] (.c h2 (.c h3 .n)))
 ·cases h
  exact .out (by intro e; simp [q3d_1_ex] at e) (env.cd [b0, .sel [3] []] (.c h2 .n))
theorem q3d_1_ok {x0 x1 x2 x3 o} (h : q3d_1 x0 x1 x2 x3 = some o) : J03 prog (J0z (J0q f106) [1, 1, 0, 1, 0]) (q3d_1_in x0 x1 x2 x3) (q3d_1_ex o) (q3d_1_st o) := J06.of_stepR (fun _ _ h => q3d_1_body h) _ _ h
theorem q3d_ok {a0 u} (h : q3d a0 = some u) : CallC prog 106 [(.v (.slice Y484d) a0)] [] ((.v (.int .i64) u)) ([]) := by
 unfold q3d at h
 obtain ⟨o4, h5, h⟩ := andThen_ok h q3d_1_ok
 cases h
 exact env.fn can106 [.dive, .sel [3, 6, 7, 8] [], pI h5] s0 (.c h5 .n)
theorem can94 : CanF prog 94 f94 := ⟨func94, _, func94, by kernel_rfl, by kernel_rfl⟩
def q39_1_in (x0 : List (T484d)) (x1 : List (B8)) (x2 : Int) (x3 : List (T484d)) (x4 : Int) (x5 : Int) : St := ⟨[(0, (.v (.slice Y484d) x0)), (1, (.v (.slice .str) x1)), (5, (.v (.int .i64) x2)), (8, (.v (.slice Y484d) x3)), (9, (.v (.int .i64) x4)), (10, (.v (.int .i64) x5))], [], 29, 0⟩
def q39_1_ex (o : (List (T484d)) × Int) : Exit := (.exit 0)
def q39_1_st (o : (List (T484d)) × Int) : St := ⟨[(0, (.v (.slice Y484d) o.1)), (5, (.v (.int .i64) o.2))], [], 29, 0⟩
theorem q39_1_body {x0 x1 x2 x3 x4 x5 r} (h : q39_1_step x0 x1 x2 x3 x4 x5 = some r) : J09 prog (J0z (J0q f94) [1, 1, 0, 1, 0, 0]) (x2, x5) r (fun s => q39_1_in x0 x1 s.1 x3 x4 s.2) q39_1_ex q39_1_st := by
 unfold q39_1_step at h
 rcases J2w h with ⟨h2, h⟩ | ⟨h2, h⟩
 ·obtain ⟨h3, h⟩ := J4b h
  obtain ⟨u4, h5, h⟩ := andThen_ok h qe_ok
  rcases J2w h with ⟨h6, h⟩ | ⟨h6, h⟩
  ·cases h
   exact .next (env.cd [b1, cI h5 [] [] [] true, b1, .sel [0, 1, 5, 8, 9, 10] []] (.c h2 (.c h3 (.c h5 (.c h6 .n)))))
  ·cases h
   exact .next (env.cd [b1, cI h5 [] [] [] true, b0, .sel [0, 1, 5, 8, 9, 10] []] (.c h2 (.c h3 (.c h5 (.c h6 .n)))))
 ·cases h
  exact .out (by intro e; simp [q39_1_ex] at e) (env.cd [b0, .sel [0, 5] []] (.c h2 .n))
theorem q39_1_ok {x0 x1 x2 x3 x4 x5 o} (h : q39_1 x0 x1 x2 x3 x4 x5 = some o) : J03 prog (J0z (J0q f94) [1, 1, 0, 1, 0]) (q39_1_in x0 x1 x2 x3 x4 x5) (q39_1_ex o) (q39_1_st o) := J06.of_stepR (fun _ _ h => q39_1_body h) _ _ h
theorem q39_ok {a0 a1 u} (h : q39 a0 a1 = some u) : CallC prog 94 [(.v (.slice Y484d) a0), (.v (.slice .str) a1)] [] ((.v .cplx u)) ([]) := by
 unfold q39 at h
 obtain ⟨o7, h8, h⟩ := andThen_ok h q39_1_ok
 obtain ⟨h9, h⟩ := J4b h
 obtain ⟨u10, h11, h⟩ := andThen_ok h q3d_ok
 obtain ⟨h12, h⟩ := J4b h
 cases h
 exact env.fn can94 [.dive, .sel [0, 1, 5, 8, 9, 10] [], pI h8, cI h11 [] [] [] true] s0 (.c h8 (.c h9 (.c h11 (.c h12 .n))))
theorem can79 : CanF prog 79 f79 := ⟨func79, _, func79, by kernel_rfl, by kernel_rfl⟩
theorem q30_ok {a0 a1 a2 u} (h : q30 a0 a1 a2 = some u) : CallC prog 79 [(.v (.slice Y484d) a0), (.v Yf0bc a1), (.v (.slice Y8f72) a2)] [] ((.v .cplx u)) ([]) := by
 unfold q30 at h
 obtain ⟨u1, h2, h⟩ := andThen_ok h q2z_ok
 obtain ⟨u3, h4, h⟩ := andThen_ok h q39_ok
 cases h
 exact env.fn can79 [cI h2 [] [] [] true, cI h4 [] [] [1] true] s0 (.c h2 (.c h4 .n))
theorem can78 : CanF prog 78 f78 := ⟨func78, _, func78, by kernel_rfl, by kernel_rfl⟩
theorem q3o_ok {a0 a1 a2 u} (h : q3o a0 a1 a2 = some u) : CallC prog 78 [(.v .cplx a0), (.v (.int .i64) a1), (.v (.int .i64) a2)] [] ((.v .bool u)) ([]) := by
 unfold q3o at h
 cases h
 exact env.fn can78 [] s0 .n
theorem can47 : CanF prog 47 f47 := ⟨func47, _, func47, by kernel_rfl, by kernel_rfl⟩
theorem q2w_ok {a0 a1 a2 u} (h : q2w a0 a1 a2 = some u) : CallC prog 47 [(.v (.slice Y484d) a0), (.v Yf0bc a1), (.v (.slice Y8f72) a2)] [] ((.v .bool u)) ([]) := by
 unfold q2w at h
 obtain ⟨u1, h2, h⟩ := andThen_ok h q30_ok
 obtain ⟨u3, h4, h⟩ := andThen_ok h q3o_ok
 cases h
 exact env.fn can47 [cI h2 [] [] [] true, cI h4 [] [] [] true] s0 (.c h2 (.c h4 .n))
theorem can48 : CanF prog 48 f48 := ⟨func48, _, func48, by kernel_rfl, by kernel_rfl⟩
theorem q3k_ok {a0 a1 a2 u} (h : q3k a0 a1 a2 = some u) : CallC prog 48 [(.v (.slice Y484d) a0), (.v Yf0bc a1), (.v (.slice Y8f72) a2)] [] ((.v .bool u)) ([]) := by
 unfold q3k at h
 obtain ⟨u1, h2, h⟩ := andThen_ok h q30_ok
 obtain ⟨u3, h4, h⟩ := andThen_ok h q3o_ok
 cases h
 exact env.fn can48 [cI h2 [] [] [] true, cI h4 [] [] [] true] s0 (.c h2 (.c h4 .n))
theorem can13 : CanF prog 13 f13 := ⟨func13, _, func13, by kernel_rfl, by kernel_rfl⟩
def qf_1_in (x0 : Int) (x1 : Int) (x2 : T65da) (x3 : List (Tedcc)) : St := ⟨[(0, (.ptr 0 [])), (39, (.own 1 [])), (40, (.v (.int .i64) x0)), (41, (.v (.int .i64) x1))], [.box Y65da (.v Y65da x2) true, .row Yedcc x3 true], 69, 1⟩
def qf_1_ex (o : (Int × T65da) ⊕ (T65da)) : Exit := match (generalizing := false) o with | (.inl o) => .ret | (.inr o) => (.exit 0)
def qf_1_st (o : (Int × T65da) ⊕ (T65da)) : St := match (generalizing := false) o with | (.inl o) => ⟨[(6, (.v (.int .i64) o.1))], [.box Y65da (.v Y65da o.2) true], 69, 1⟩ | (.inr o) => ⟨[(0, (.ptr 0 []))], [.box Y65da (.v Y65da o) true], 69, 1⟩
theorem qf_1_body {x0 x1 x2 x3 r} (h : qf_1_step x0 x1 x2 x3 = some r) : J09 prog (J0z (J0q f13) [1, 1, 1, 0, 1, 0, 0]) x1 r (fun s => qf_1_in x0 s x2 x3) qf_1_ex qf_1_st := by
 unfold qf_1_step at h
 rcases J2w h with ⟨h11, h⟩ | ⟨h11, h⟩
 ·obtain ⟨h12, h⟩ := J4b h
  obtain ⟨u13, h14, h⟩ := andThen_ok h q2w_ok
  let i1 : List It := [b1, .pre p49, .asis, cI h14 [] [] [] true]
  have e2 := (AllP.c h11 (AllP.c h12 (AllP.c rn (AllP.c h14 AllP.n))))
  rcases J2w h with ⟨h15, h⟩ | ⟨h15, h⟩
  ·cases h
   exact .out (by intro e; simp [qf_1_ex] at e) (env.cd (i1 ++ [b1, b1, b1, b1, b1, b1, b1, b1, b1, b1, b1, b1, .sel [6] [0]]) (e2.app (.c h15 (.c h15 (.c h15 (.c h15 (.c h15 (.c h15 (.c h15 (.c h15 (.c h15 (.c h15 (.c h15 (.c r1 .n))))))))))))))
  ·obtain ⟨u16, h17, h⟩ := andThen_ok h q3k_ok
   let i3 : List It := i1 ++ [b0, b0, b0, b0, b0, b0, b0, b0, b0, .asis, cI h17 [] [] [] true, b0, b0]
   have e4 := e2.app (.c h15 (.c h15 (.c h15 (.c h15 (.c h15 (.c h15 (.c h15 (.c h15 (.c h15 (.c rn (.c h17 (.c h15 (.c h15 .n)))))))))))))
   rcases J2w h with ⟨h18, h⟩ | ⟨h18, h⟩
   ·cases h
    exact .out (by intro e; simp [qf_1_ex] at e) (env.cd (i3 ++ [b1, .sel [6] [0]]) (e4.app (.c h18 .n)))
   ·cases h
    exact .next (env.cd (i3 ++ [b0, .sel [0, 39, 40, 41] [0, 1]]) (e4.app (.c h18 .n)))
 ·cases h
  exact .out (by intro e; simp [qf_1_ex] at e) (env.cd [b0, .sel [0] [0]] (.c h11 .n))
theorem qf_1_ok {x0 x1 x2 x3 o} (h : qf_1 x0 x1 x2 x3 = some o) : J03 prog (J0z (J0q f13) [1, 1, 1, 0, 1, 0]) (qf_1_in x0 x1 x2 x3) (qf_1_ex o) (qf_1_st o) := J06.of_stepR (fun _ _ h => qf_1_body h) _ _ h
theorem qf_ok {a0 a1 a2 u} (h : qf a0 a1 a2 = some u) : CallC prog 13 [(.ptr 0 []), (.v Yedcc a0), (.v Yedcc a1)] [.box Y65da (.v Y65da a2) true] ((.v (.int .i64) u.1)) ([.box Y65da (.v Y65da u.2) true]) := by
 unfold qf at h
 rcases J2w h with ⟨h1, h⟩ | ⟨h1, h⟩
 ·cases h
  exact env.fn can13 [b1] s1 (.c h1 .n)
 ·obtain ⟨u2, h3, h⟩ := andThen_ok h q2x_ok
  let i1 : List It := [b0, cI h3 [] [] [] true]
  have e2 := (AllP.c h1 (AllP.c h3 AllP.n))
  rcases J2w h with ⟨h4, h⟩ | ⟨h4, h⟩
  ·cases h
   exact env.fn can13 (i1 ++ [b1, b1, b1, b1, b1, b1, b1, b1, b1, b1, b1, b1, b1, b1, b1, b1, b1, b1, b1]) s1 (e2.app (.c h4 (.c h4 (.c h4 (.c h4 (.c r1 (.c r1 (.c r1 (.c r1 (.c r1 (.c r1 (.c r1 (.c r1 (.c r1 (.c r1 (.c r1 (.c r1 (.c r1 (.c r1 (.c r1 .n))))))))))))))))))))
  ·obtain ⟨u5, h6, h⟩ := andThen_ok h q2x_ok
   let i3 : List It := i1 ++ [b0, b0, cI h6 [] [] [] true, b0, b0]
   have e4 := e2.app (.c h4 (.c h4 (.c h6 (.c h4 (.c h4 .n)))))
   rcases J2w h with ⟨h7, h⟩ | ⟨h7, h⟩
   ·cases h
    exact env.fn can13 (i3 ++ [b1, b1, b1, b1, b1, b1, b1, b1, b1, b1, b1, b1, b1, b1, b1]) s1 (e4.app (.c h7 (.c h7 (.c h7 (.c h7 (.c h7 (.c h7 (.c h7 (.c h7 (.c r1 (.c r1 (.c r1 (.c r1 (.c r1 (.c r1 (.c r1 .n))))))))))))))))
   ·let i5 : List It := i3 ++ [b0, b0, b0, b0, b0, b0, b0, b0]
    have e6 := e4.app (.c h7 (.c h7 (.c h7 (.c h7 (.c h7 (.c h7 (.c h7 (.c h7 .n))))))))
    rcases J2w h with ⟨h8, h⟩ | ⟨h8, h⟩
    ·cases h
     exact env.fn can13 (i5 ++ [b1, b1, b1, b1, b1, b1, b1]) s1 (e6.app (.c h8 (.c h8 (.c h8 (.c h8 (.c h8 (.c h8 (.c r1 .n))))))))
    ·let i7 : List It := i5 ++ [b0, b0, b0, b0, b0, b0]
     have e8 := e6.app (.c h8 (.c h8 (.c h8 (.c h8 (.c h8 (.c h8 .n))))))
     rcases J2w h with ⟨h9, h⟩ | ⟨h9, h⟩
     ·cases h
      exact env.fn can13 (i7 ++ [b1]) s1 (e8.app (.c h9 .n))
     ·obtain ⟨o19, h20, h⟩ := andThen_ok h qf_1_ok
      rcases o19 with o21 | o22
      ·cases h
       exact env.fn can13 (i7 ++ [b0, .dive, .sel [0, 39, 40, 41] [0, 3], pI h20]) s1 (e8.app (.c h9 (.c h20 .n)))
      ·cases h
       exact env.fn can13 (i7 ++ [b0, .dive, .sel [0, 39, 40, 41] [0, 3], pI h20]) s1 (e8.app (.c h9 (.c h20 .n)))
theorem can80 : CanF prog 80 f80 := ⟨func80, _, func80, by kernel_rfl, by kernel_rfl⟩
theorem qr_ok {a0 u} (h : qr a0 = some u) : CallC prog 80 [(.v Yf0bc a0)] [] ((.v .bool u)) ([]) := by
 unfold qr at h
 rcases J2w h with ⟨h1, h⟩ | ⟨h1, h⟩
 ·have e1 := (AllP.c h1 (AllP.c h1 (AllP.c h1 (AllP.c h1 AllP.n))))
  rcases J2w h with ⟨h2, h⟩ | ⟨h2, h⟩
  ·rcases J2w h with ⟨h3, h⟩ | ⟨h3, h⟩
   ·cases h
    exact env.fn can80 [b1, b1, b1, b1, b1, b1, b1, b1, b1, b1, b1, b1] s0 (e1.app (.c h2 (.c h2 (.c h2 (.c h2 (.c h3 (.c h3 (.c h3 (.c h3 .n)))))))))
   ·cases h
    exact env.fn can80 [b1, b1, b1, b1, b1, b1, b1, b1, b0, b0, b0, b0] s0 (e1.app (.c h2 (.c h2 (.c h2 (.c h2 (.c h3 (.c h3 (.c h3 (.c h3 .n)))))))))
  ·cases h
   exact env.fn can80 [b1, b1, b1, b1, b0, b0, b0, b0, b0, b0, b0, b0] s0 (e1.app (.c h2 (.c h2 (.c h2 (.c h2 (.c r0 (.c r0 (.c r0 (.c r0 .n)))))))))
 ·cases h
  exact env.fn can80 [b0, b0, b0, b0, b0, b0, b0, b0, b0, b0, b0, b0] s0 (.c h1 (.c h1 (.c h1 (.c h1 (.c r0 (.c r0 (.c r0 (.c r0 (.c r0 (.c r0 (.c r0 (.c r0 .n))))))))))))
theorem can81 : CanF prog 81 f81 := ⟨func81, _, func81, by kernel_rfl, by kernel_rfl⟩
def q16_1_in (x0 : List (T484d)) (x1 : List (T484d)) (x2 : Int) (x3 : Int) : St := ⟨[(0, (.v (.slice Y484d) x0)), (5, (.v (.slice Y484d) x1)), (6, (.v (.int .i64) x2)), (7, (.v (.int .i64) x3))], [], 56, 0⟩
def q16_1_ex (o : (Bool) ⊕ (List (T484d))) : Exit := match (generalizing := false) o with | (.inl o) => .ret | (.inr o) => (.exit 0)
def q16_1_st (o : (Bool) ⊕ (List (T484d))) : St := match (generalizing := false) o with | (.inl o) => ⟨[(2, (.v .bool o))], [], 56, 0⟩ | (.inr o) => ⟨[(0, (.v (.slice Y484d) o))], [], 56, 0⟩
theorem q16_1_body {x0 x1 x2 x3 r} (h : q16_1_step x0 x1 x2 x3 = some r) : J09 prog (J0z (J0q f81) [1, 0, 1, 0, 0]) x3 r (fun s => q16_1_in x0 x1 x2 s) q16_1_ex q16_1_st := by
 unfold q16_1_step at h
 rcases J2w h with ⟨h2, h⟩ | ⟨h2, h⟩
 ·obtain ⟨h3, h⟩ := J4b h
  let i1 : List It := [b1, .pre p50]
  have e2 := (AllP.c h2 (AllP.c h3 AllP.n))
  rcases J2w h with ⟨h4, h⟩ | ⟨h4, h⟩
  ·cases h
   exact .out (by intro e; simp [q16_1_ex] at e) (env.cd (i1 ++ [b1, b1, b1, b1, b1, b1, b1, b1, b1, b1, b1, b1, b1, b1, b1, b1, b1, b1, b1, .sel [2] []]) (e2.app (.c h4 (.c h4 (.c h4 (.c h4 (.c h4 (.c r1 (.c r1 (.c r1 (.c r1 (.c r1 (.c r1 (.c r1 (.c r1 (.c r1 (.c r1 (.c r1 (.c r1 (.c r1 (.c r1 .n)))))))))))))))))))))
  ·let i3 : List It := i1 ++ [b0, b0, b0, b0, b0]
   have e4 := e2.app (.c h4 (.c h4 (.c h4 (.c h4 (.c h4 .n)))))
   rcases J2w h with ⟨h5, h⟩ | ⟨h5, h⟩
   ·cases h
    exact .out (by intro e; simp [q16_1_ex] at e) (env.cd (i3 ++ [b1, b1, b1, b1, b1, b1, b1, b1, b1, b1, b1, b1, b1, b1, .sel [2] []]) (e4.app (.c h5 (.c h5 (.c h5 (.c h5 (.c r1 (.c r1 (.c r1 (.c r1 (.c r1 (.c r1 (.c r1 (.c r1 (.c r1 (.c r1 .n))))))))))))))))
   ·let i5 : List It := i3 ++ [b0, b0, b0, b0]
    have e6 := e4.app (.c h5 (.c h5 (.c h5 (.c h5 .n))))
    rcases J2w h with ⟨h6, h⟩ | ⟨h6, h⟩
    ·cases h
     exact .out (by intro e; simp [q16_1_ex] at e) (env.cd (i5 ++ [b1, b1, b1, b1, b1, b1, b1, b1, b1, b1, .sel [2] []]) (e6.app (.c h6 (.c h6 (.c h6 (.c h6 (.c r1 (.c r1 (.c r1 (.c r1 (.c r1 (.c r1 .n))))))))))))
    ·let i7 : List It := i5 ++ [b0, b0, b0, b0]
     have e8 := e6.app (.c h6 (.c h6 (.c h6 (.c h6 .n))))
     rcases J2w h with ⟨h7, h⟩ | ⟨h7, h⟩
     ·cases h
      exact .out (by intro e; simp [q16_1_ex] at e) (env.cd (i7 ++ [b1, b1, b1, b1, b1, b1, .sel [2] []]) (e8.app (.c h7 (.c h7 (.c h7 (.c h7 (.c h7 (.c r1 .n))))))))
     ·rcases J2w h with ⟨h8, h⟩ | ⟨h8, h⟩
      ·obtain ⟨h9, h⟩ := J4b h
       let i9 : List It := i7 ++ [b0, b0, b0, b1, b1, b1, b1, b1, b1, b1, b1, b1, b0, b1, b0]
       have e10 := e8.app (.c h7 (.c h7 (.c h7 (.c h8 (.c h8 (.c h8 (.c h8 (.c h9 (.c h8 (.c h8 (.c h8 (.c h8 (.c h8 (.c h7 (.c h8 (.c h7 .n))))))))))))))))
       rcases J2w h with ⟨h10, h⟩ | ⟨h10, h⟩
       ·cases h
        exact .out (by intro e; simp [q16_1_ex] at e) (env.cd (i9 ++ [b1, .sel [2] []]) (e10.app (.c h10 .n)))
       ·cases h
        exact .next (env.cd (i9 ++ [b0, .sel [0, 5, 6, 7] []]) (e10.app (.c h10 .n)))
      ·cases h
       exact .next (env.cd (i7 ++ [b0, b0, b0, b0, b0, b0, b0, b0, b0, b0, b0, b0, b0, b0, b0, b0, .sel [0, 5, 6, 7] []]) (e8.app (.c h7 (.c h7 (.c h7 (.c h8 (.c h8 (.c h8 (.c h8 (.c h8 (.c h8 (.c h8 (.c h8 (.c h8 (.c h7 (.c h8 (.c h7 (.c r0 .n))))))))))))))))))
 ·cases h
  exact .out (by intro e; simp [q16_1_ex] at e) (env.cd [b0, .sel [0] []] (.c h2 .n))
theorem q16_1_ok {x0 x1 x2 x3 o} (h : q16_1 x0 x1 x2 x3 = some o) : J03 prog (J0z (J0q f81) [1, 0, 1, 0]) (q16_1_in x0 x1 x2 x3) (q16_1_ex o) (q16_1_st o) := J06.of_stepR (fun _ _ h => q16_1_body h) _ _ h
theorem q16_ok {a0 u} (h : q16 a0 = some u) : CallC prog 81 [(.v (.slice Y484d) a0)] [] ((.v .bool u)) ([]) := by
 unfold q16 at h
 obtain ⟨o11, h12, h⟩ := andThen_ok h q16_1_ok
 let i1 : List It := [.dive, .sel [0, 5, 6, 7] []]
 rcases o11 with o13 | o14
 ·cases h
  exact env.fn can81 (i1 ++ [pI h12]) s0 (.c h12 .n)
 ·rcases J2w h with ⟨h15, h⟩ | ⟨h15, h⟩
  ·cases h
   exact env.fn can81 (i1 ++ [pI h12, b1, b1, b1, b1]) s0 (.c h12 (.c h15 (.c h15 (.c h15 (.c h15 .n)))))
  ·cases h
   exact env.fn can81 (i1 ++ [pI h12, b0, b0, b0, b0]) s0 (.c h12 (.c h15 (.c h15 (.c h15 (.c h15 .n)))))
theorem can49 : CanF prog 49 f49 := ⟨func49, _, func49, by kernel_rfl, by kernel_rfl⟩
theorem q1d_ok {a0 u} (h : q1d a0 = some u) : CallC prog 49 [(.v Yedcc a0)] [] ((.v .bool u)) ([]) := by
 unfold q1d at h
 obtain ⟨u1, h2, h⟩ := andThen_ok h qr_ok
 let i1 : List It := [.pre p43, .asis, cI h2 [] [] [] true]
 have e2 := (AllP.c rn (AllP.c h2 AllP.n))
 rcases J2w h with ⟨h3, h⟩ | ⟨h3, h⟩
 ·obtain ⟨u4, h5, h⟩ := andThen_ok h q16_ok
  let i3 : List It := i1 ++ [b1, b1, b1, .asis, cI h5 [] [] [] true, b1]
  have e4 := e2.app (.c h3 (.c h3 (.c h3 (.c rn (.c h5 (.c h3 .n))))))
  rcases J2w h with ⟨h6, h⟩ | ⟨h6, h⟩
  ·obtain ⟨u7, h8, h⟩ := andThen_ok h q16_ok
   let i5 : List It := i3 ++ [b1, b1, b1, .asis, cI h8 [] [] [] true, b1]
   have e6 := e4.app (.c h6 (.c h6 (.c h6 (.c rn (.c h8 (.c h6 .n))))))
   rcases J2w h with ⟨h9, h⟩ | ⟨h9, h⟩
   ·have e7 := e6.app (.c h9 (.c h9 (.c h9 (.c h9 (.c h9 .n)))))
    rcases J2w h with ⟨h10, h⟩ | ⟨h10, h⟩
    ·obtain ⟨u11, h12, h⟩ := andThen_ok h q17_ok
     let i8 : List It := i5 ++ [b1, b1, b1, b1, b1, b1, b1, b1, .asis, cI h12 [] [] [] true, b1, b1, b1, b1, b1]
     have e9 := e7.app (.c h10 (.c h10 (.c h10 (.c rn (.c h12 (.c h10 (.c h10 (.c h10 (.c h10 (.c h10 .n))))))))))
     rcases J2w h with ⟨h13, h⟩ | ⟨h13, h⟩
     ·obtain ⟨u14, h15, h⟩ := andThen_ok h q17_ok
      cases h
      exact env.fn can49 (i8 ++ [b1, b1, b1, .asis, cI h15 [] [] [] true, b1, b1, b1, b1, b1]) s0 (e9.app (.c h13 (.c h13 (.c h13 (.c rn (.c h15 (.c h13 (.c h13 (.c h13 (.c h13 (.c h13 .n)))))))))))
     ·cases h
      exact env.fn can49 (i8 ++ [b0, b0, b0, b0, b0, b0, b0, b0]) s0 (e9.app (.c h13 (.c h13 (.c h13 (.c h13 (.c h13 (.c h13 (.c h13 (.c h13 .n)))))))))
    ·cases h
     exact env.fn can49 (i5 ++ [b1, b1, b1, b1, b1, b0, b0, b0, b0, b0, b0, b0, b0, b0, b0, b0, b0, b0, b0, b0, b0]) s0 (e7.app (.c h10 (.c h10 (.c h10 (.c h10 (.c h10 (.c h10 (.c h10 (.c h10 (.c r0 (.c r0 (.c r0 (.c r0 (.c r0 (.c r0 (.c r0 (.c r0 .n)))))))))))))))))
   ·cases h
    exact env.fn can49 (i5 ++ [b0, b0, b0, b0, b0, b0, b0, b0, b0, b0, b0, b0, b0, b0, b0, b0, b0, b0, b0, b0, b0]) s0 (e6.app (.c h9 (.c h9 (.c h9 (.c h9 (.c h9 (.c r0 (.c r0 (.c r0 (.c r0 (.c r0 (.c r0 (.c r0 (.c r0 (.c r0 (.c r0 (.c r0 (.c r0 (.c r0 (.c r0 (.c r0 (.c r0 .n))))))))))))))))))))))
  ·cases h
   exact env.fn can49 (i3 ++ [b0, b0, b0, b0, b0, b0, b0, b0, b0, b0, b0, b0, b0, b0, b0, b0, b0, b0, b0, b0, b0, b0, b0, b0, b0]) s0 (e4.app (.c h6 (.c h6 (.c h6 (.c h6 (.c r0 (.c r0 (.c r0 (.c r0 (.c r0 (.c r0 (.c r0 (.c r0 (.c r0 (.c r0 (.c r0 (.c r0 (.c r0 (.c r0 (.c r0 (.c r0 (.c r0 (.c r0 (.c r0 (.c r0 (.c r0 .n))))))))))))))))))))))))))
 ·cases h
  exact env.fn can49 (i1 ++ [b0, b0, b0, b0, b0, b0, b0, b0, b0, b0, b0, b0, b0, b0, b0, b0, b0, b0, b0, b0, b0, b0, b0, b0, b0, b0, b0, b0, b0]) s0 (e2.app (.c h3 (.c h3 (.c h3 (.c h3 (.c r0 (.c r0 (.c r0 (.c r0 (.c r0 (.c r0 (.c r0 (.c r0 (.c r0 (.c r0 (.c r0 (.c r0 (.c r0 (.c r0 (.c r0 (.c r0 (.c r0 (.c r0 (.c r0 (.c r0 (.c r0 (.c r0 (.c r0 (.c r0 (.c r0 .n))))))))))))))))))))))))))))))
theorem can96 : CanF prog 96 f96 := ⟨func96, _, func96, by kernel_rfl, by kernel_rfl⟩
def q2p_1_in (x0 : B8) (x1 : Int) (x2 : T9c6e) (x3 : B8) (x4 : List (B8)) : St := ⟨[(0, (.v Yb x0)), (3, (.ptr 0 [])), (4, (.ptr 1 [])), (6, (.own 2 [])), (21, (.v (.int .i64) x1))], [.box Y9c6e (.v Y9c6e x2) true, .box Yh (.v Yh x3) true, .row Yh x4 true], 49, 0⟩
def q2p_1_ex (o : B8 × List (B8)) : Exit := (.exit 0)
def q2p_1_st (o : B8 × List (B8)) : St := ⟨[(4, (.ptr 0 [])), (6, (.own 1 []))], [.box Yh (.v Yh o.1) true, .row Yh o.2 true], 49, 0⟩
theorem q2p_1_body {x0 x1 x2 x3 x4 r} (h : q2p_1_step x0 x1 x2 x3 x4 = some r) : J09 prog (J0z (J0q f96) [1, 1, 1, 0, 1, 0, 0]) (x1, x4) r (fun s => q2p_1_in x0 s.1 x2 x3 s.2) q2p_1_ex q2p_1_st := by
 unfold q2p_1_step at h
 rcases J2w h with ⟨h4, h⟩ | ⟨h4, h⟩
 ·obtain ⟨h5, h⟩ := J4b h
  obtain ⟨u6, h7, h⟩ := andThen_ok h q1i_ok
  obtain ⟨h8, h⟩ := J4b h
  obtain ⟨u9, h10, h⟩ := andThen_ok h q2q_ok
  let i1 : List It := [b1, .pre p51, .asis, cI h7 [] [] [] true, cI h10 [] [] [] true]
  have e2 := (AllP.c h4 (AllP.c h5 (AllP.c rn (AllP.c h7 (AllP.c h8 (AllP.c h10 AllP.n))))))
  rcases J2w h with ⟨h11, h⟩ | ⟨h11, h⟩
  ·obtain ⟨h12, h⟩ := J4b h
   cases h
   exact .next (env.cd (i1 ++ [b1, .sel [0, 3, 4, 6, 21] [0, 1, 6]]) (e2.app (.c h11 (.c h12 .n))))
  ·obtain ⟨h13, h⟩ := J4b h
   cases h
   exact .next (env.cd (i1 ++ [b0, .sel [0, 3, 4, 6, 21] [0, 1, 6]]) (e2.app (.c h11 (.c h13 .n))))
 ·cases h
  exact .out (by intro e; simp [q2p_1_ex] at e) (env.cd [b0, .sel [4, 6] [1, 2]] (.c h4 .n))
theorem q2p_1_ok {x0 x1 x2 x3 x4 o} (h : q2p_1 x0 x1 x2 x3 x4 = some o) : J03 prog (J0z (J0q f96) [1, 1, 1, 0, 1, 0]) (q2p_1_in x0 x1 x2 x3 x4) (q2p_1_ex o) (q2p_1_st o) := J06.of_stepR (fun _ _ h => q2p_1_body h) _ _ h
theorem q2p_ok {a0 a1 u} (h : q2p a0 a1 = some u) : CallC prog 96 [(.v Yb a0), (.v Y9c6e a1)] [] ((.tup (.v Yh u.1) (.tup (.v .bool u.2) .tnil))) ([]) := by
 unfold q2p at h
 rcases J2w h with ⟨h1, h⟩ | ⟨h1, h⟩
 ·cases h
  exact env.fn can96 [b1, b1, b1, b1, b1, b1] s0 (.c h1 (.c h1 (.c h1 (.c h1 (.c h1 (.c r1 .n))))))
 ·rcases J2w h with ⟨h2, h⟩ | ⟨h2, h⟩
  ·cases h
   exact env.fn can96 [b0, b0, b0, b0, b0, b1] s0 (.c h1 (.c h1 (.c h1 (.c h1 (.c h1 (.c h2 .n))))))
  ·obtain ⟨o14, h15, h⟩ := andThen_ok h q2p_1_ok
   obtain ⟨u16, h17, h⟩ := andThen_ok h q2o_ok
   cases h
   exact env.fn can96 [b0, b0, b0, b0, b0, b0, .dive, .promote 6 Yh, .sel [0, 3, 4, 6, 21] [0, 1, 2], pI h15, cI h17 [] [] [1] true] s0 (.c h1 (.c h1 (.c h1 (.c h1 (.c h1 (.c h2 (.c h15 (.c h17 .n))))))))
theorem can97 : CanF prog 97 f97 := ⟨func97, _, func97, by kernel_rfl, by kernel_rfl⟩
theorem q28_ok : ∀ k a0 a1 a2 a3 u, q28 k a0 a1 a2 a3 = some u → CallC prog 97 [(.v Yb a0), (.v (.int .i64) a1), (.v (.int .i64) a2), (.v (.slice Yh) a3)] [] ((.tup (.v Yh u.1) (.tup (.v .bool u.2) .tnil))) ([])
 | 0, a0, a1, a2, a3, u, h => by cases h
 | k + 1, a0, a1, a2, a3, u, h => by
  unfold q28 at h
  rcases J2w h with ⟨h1, h⟩ | ⟨h1, h⟩
  ·cases h
   exact env.fn can97 [b1, b1, b1, b1, b1, b1, b1, b1] s0 (.c h1 (.c h1 (.c h1 (.c h1 (.c r1 (.c r1 (.c r1 (.c r1 .n))))))))
  ·let i1 : List It := [b0, b0, b0, b0]
   have e2 := (AllP.c h1 (AllP.c h1 (AllP.c h1 (AllP.c h1 AllP.n))))
   rcases J2w h with ⟨h2, h⟩ | ⟨h2, h⟩
   ·cases h
    exact env.fn can97 (i1 ++ [b1, b1, b1, b1]) s0 (e2.app (.c h2 (.c h2 (.c h2 (.c r1 .n)))))
   ·let i3 : List It := i1 ++ [b0, b0, b0]
    have e4 := e2.app (.c h2 (.c h2 (.c h2 .n)))
    rcases J2w h with ⟨h3, h⟩ | ⟨h3, h⟩
    ·cases h
     exact env.fn can97 (i3 ++ [b1]) s0 (e4.app (.c h3 .n))
    ·rcases J2w h with ⟨h4, h⟩ | ⟨h4, h⟩
     ·obtain ⟨u5, h6, h⟩ := andThen_ok h q1k_ok
      cases h
      exact env.fn can97 (i3 ++ [b0, b1, cI h6 [] [] [1] true]) s0 (e4.app (.c h3 (.c h4 (.c h6 .n))))
     ·rcases J2w h with ⟨h7, h⟩ | ⟨h7, h⟩
      ·cases h
       exact env.fn can97 (i3 ++ [b0, b0, b1]) s0 (e4.app (.c h3 (.c h4 (.c h7 .n))))
      ·obtain ⟨u8, h9, h⟩ := andThen_ok h q2g_ok
       obtain ⟨h10, h⟩ := J4b h
       let i5 : List It := i3 ++ [b0, b0, b0, .pre p52, .asis, cI h9 [] [] [] true]
       have e6 := e4.app (.c h3 (.c h4 (.c h7 (.c rn (.c h9 (.c h10 .n))))))
       rcases J2w h with ⟨h11, h⟩ | ⟨h11, h⟩
       ·obtain ⟨h12, h⟩ := J4b h
        obtain ⟨u13, h14, h⟩ := andThen_ok h (q28_ok k _ _ _ _ _)
        obtain ⟨u15, h16, h⟩ := andThen_ok h q1k_ok
        cases h
        exact env.fn can97 (i5 ++ [b1, b0, cI h14 [] [] [] true, .pre p53, b1, b1, .asis, cI h16 [] [] [0] true]) s0 (e6.app (.c h11 (.c h12 (.c h14 (.c (rfl : ([.row Yb ([u13.1, (List.getD a3 (Int.toNat (w64 ((List.length a3 : Int) - (1 : Int)))) Z32)] : List (B8)) true] : List AObj) = [.row Yb ([u13.1, (List.getD a3 (Int.toNat (w64 ((List.length a3 : Int) - (1 : Int)))) Z32)] : List (B8)) true]) (.c h16 .n))))))
       ·obtain ⟨h17, h⟩ := J4b h
        obtain ⟨u18, h19, h⟩ := andThen_ok h (q28_ok k _ _ _ _ _)
        obtain ⟨u20, h21, h⟩ := andThen_ok h q1k_ok
        cases h
        exact env.fn can97 (i5 ++ [b0, b0, cI h19 [] [] [] true, .pre p53, b1, b1, .asis, cI h21 [] [] [0] true]) s0 (e6.app (.c h11 (.c h17 (.c h19 (.c (rfl : ([.row Yb ([(List.getD a3 (Int.toNat (w64 ((List.length a3 : Int) - (1 : Int)))) Z32), u18.1] : List (B8)) true] : List AObj) = [.row Yb ([(List.getD a3 (Int.toNat (w64 ((List.length a3 : Int) - (1 : Int)))) Z32), u18.1] : List (B8)) true]) (.c h21 .n))))))
theorem q2s_ok {a0 a1 a2 a3 u} (h : q2s a0 a1 a2 a3 = some u) : CallC prog 97 [(.v Yb a0), (.v (.int .i64) a1), (.v (.int .i64) a2), (.v (.slice Yh) a3)] [] ((.tup (.v Yh u.1) (.tup (.v .bool u.2) .tnil))) ([]) := q28_ok 64 _ _ _ _ _ h
theorem can82 : CanF prog 82 f82 := ⟨func82, _, func82, by kernel_rfl, by kernel_rfl⟩
theorem q1g_ok {a0 a1 a2 a3 u} (h : q1g a0 a1 a2 a3 = some u) : CallC prog 82 [(.v Yh a0), (.v (.int .i64) a1), (.v Yb a2), (.v Y8266 a3)] [] ((.v .bool u)) ([]) := by
 unfold q1g at h
 obtain ⟨u1, h2, h⟩ := andThen_ok h q2p_ok
 let i1 : List It := [cI h2 [] [] [] true]
 rcases J2w h with ⟨h3, h⟩ | ⟨h3, h⟩
 ·cases h
  exact env.fn can82 (i1 ++ [b1, b1, b1, b1, b1, b1, b1, b1, b1, b1, b1, b1]) s0 (.c h2 (.c h3 (.c h3 (.c h3 (.c h3 (.c h3 (.c r1 (.c r1 (.c r1 (.c r1 (.c r1 (.c r1 (.c r1 .n)))))))))))))
 ·let i2 : List It := i1 ++ [b0, b0, b0, b0, b0]
  have e3 := (AllP.c h2 (AllP.c h3 (AllP.c h3 (AllP.c h3 (AllP.c h3 (AllP.c h3 AllP.n))))))
  rcases J2w h with ⟨h4, h⟩ | ⟨h4, h⟩
  ·cases h
   exact env.fn can82 (i2 ++ [b1, b1, b1, b1, b1, b1, b1]) s0 (e3.app (.c h4 (.c h4 (.c h4 (.c r1 (.c r1 (.c r1 (.c r1 .n))))))))
  ·have e4 := e3.app (.c h4 (.c h4 (.c h4 .n)))
   rcases J2w h with ⟨h5, h⟩ | ⟨h5, h⟩
   ·cases h
    exact env.fn can82 (i2 ++ [b0, b0, b0, b1, b1, b1, b1]) s0 (e4.app (.c h5 (.c h5 (.c h5 (.c r1 .n)))))
   ·let i5 : List It := i2 ++ [b0, b0, b0, b0, b0, b0]
    rcases J2w h with ⟨h6, h⟩ | ⟨h6, h⟩
    ·cases h
     exact env.fn can82 (i5 ++ [b1]) s0 (e4.app (.c h5 (.c h5 (.c h5 (.c h6 .n)))))
    ·obtain ⟨u7, h8, h⟩ := andThen_ok h q2s_ok
     let i6 : List It := i5 ++ [b0, .pre p48, b1, .asis, cI h8 [] [] [0] true]
     have e7 := e4.app (.c h5 (.c h5 (.c h5 (.c h6 (.c (rfl : ([.box Yh (.v Yh u1.1) true] : List AObj) = [.box Yh (.v Yh u1.1) true]) (.c h8 .n))))))
     rcases J2w h with ⟨h9, h⟩ | ⟨h9, h⟩
     ·cases h
      exact env.fn can82 (i6 ++ [b1, b1, b1, b1]) s0 (e7.app (.c h9 (.c h9 (.c h9 (.c h9 .n)))))
     ·cases h
      exact env.fn can82 (i6 ++ [b0, b0, b0, b0]) s0 (e7.app (.c h9 (.c h9 (.c h9 (.c h9 .n)))))
theorem can51 : CanF prog 51 f51 := ⟨func51, _, func51, by kernel_rfl, by kernel_rfl⟩
def q19_1_in (x0 : List (T484d)) (x1 : List (T8f72)) (x2 : Int) (x3 : List (T8f72)) (x4 : Int) (x5 : Int) (x6 : Tf0bc) (x7 : B8) : St := ⟨[(0, (.v (.slice Y484d) x0)), (2, (.v (.slice Y8f72) x1)), (4, (.ptr 0 [])), (7, (.v (.int .i64) x2)), (8, (.ptr 1 [])), (17, (.v (.slice Y8f72) x3)), (18, (.v (.int .i64) x4)), (19, (.v (.int .i64) x5))], [.box Yf0bc (.v Yf0bc x6) true, .box Yh (.v Yh x7) true], 72, 0⟩
def q19_1_ex (o : (Int) ⊕ ((List (T484d)) × (List (T8f72)) × Int × (Tf0bc) × B8)) : Exit := match (generalizing := false) o with | (.inl o) => .ret | (.inr o) => (.exit 0)
def q19_1_st (o : (Int) ⊕ ((List (T484d)) × (List (T8f72)) × Int × (Tf0bc) × B8)) : St := match (generalizing := false) o with | (.inl o) => ⟨[(6, (.v (.int .i64) o))], [], 72, 0⟩ | (.inr o) => ⟨[(0, (.v (.slice Y484d) o.1)), (2, (.v (.slice Y8f72) o.2.1)), (4, (.ptr 0 [])), (7, (.v (.int .i64) o.2.2.1)), (8, (.ptr 1 []))], [.box Yf0bc (.v Yf0bc o.2.2.2.1) true, .box Yh (.v Yh o.2.2.2.2) true], 72, 0⟩
theorem q19_1_body {x0 x1 x2 x3 x4 x5 x6 x7 r} (h : q19_1_step x0 x1 x2 x3 x4 x5 x6 x7 = some r) : J09 prog (J0z (J0q f51) [1, 1, 1, 0, 1, 0, 0]) x5 r (fun s => q19_1_in x0 x1 x2 x3 x4 s x6 x7) q19_1_ex q19_1_st := by
 unfold q19_1_step at h
 rcases J2w h with ⟨h4, h⟩ | ⟨h4, h⟩
 ·obtain ⟨h5, h⟩ := J4b h
  let i1 : List It := [b1, .pre p54]
  rcases J2w h with ⟨h6, h⟩ | ⟨h6, h⟩
  ·obtain ⟨h7, h⟩ := J4b h
   have e2 := (AllP.c h4 (AllP.c h5 (AllP.c h6 (AllP.c h6 (AllP.c h6 (AllP.c h6 (AllP.c h7 (AllP.c h6 (AllP.c h6 (AllP.c h6 (AllP.c h6 (AllP.c h6 (AllP.c h6 AllP.n)))))))))))))
   rcases J2w h with ⟨h8, h⟩ | ⟨h8, h⟩
   ·cases h
    exact .out (by intro e; simp [q19_1_ex] at e) (env.cd (i1 ++ [b1, b1, b1, b1, b1, b1, b1, b1, b1, b1, b1, .sel [6] []]) (e2.app (.c h8 .n)))
   ·cases h
    exact .next (env.cd (i1 ++ [b1, b1, b1, b1, b1, b1, b1, b1, b1, b1, b0, .sel [0, 2, 4, 7, 8, 17, 18, 19] [0, 1]]) (e2.app (.c h8 .n)))
  ·cases h
   exact .next (env.cd (i1 ++ [b0, b0, b0, b0, b0, b0, b0, b0, b0, b0, b0, .sel [0, 2, 4, 7, 8, 17, 18, 19] [0, 1]]) (.c h4 (.c h5 (.c h6 (.c h6 (.c h6 (.c h6 (.c h6 (.c h6 (.c h6 (.c h6 (.c h6 (.c h6 (.c r0 .n))))))))))))))
 ·cases h
  exact .out (by intro e; simp [q19_1_ex] at e) (env.cd [b0, .sel [0, 2, 4, 7, 8] [0, 1]] (.c h4 .n))
theorem q19_1_ok {x0 x1 x2 x3 x4 x5 x6 x7 o} (h : q19_1 x0 x1 x2 x3 x4 x5 x6 x7 = some o) : J03 prog (J0z (J0q f51) [1, 1, 1, 0, 1, 0]) (q19_1_in x0 x1 x2 x3 x4 x5 x6 x7) (q19_1_ex o) (q19_1_st o) := J06.of_stepR (fun _ _ h => q19_1_body h) _ _ h
def q19_2_in (x0 : List (T484d)) (x1 : Int) (x2 : List (T8f72)) (x3 : Int) (x4 : Int) (x5 : List (T484d)) (x6 : Int) (x7 : Int) (x8 : Tf0bc) (x9 : B8) (x10 : T8f72) : St := ⟨[(0, (.v (.slice Y484d) x0)), (4, (.ptr 0 [])), (7, (.v (.int .i64) x1)), (8, (.ptr 1 [])), (12, (.ptr 2 [])), (38, (.v (.slice Y8f72) x2)), (39, (.v (.int .i64) x3)), (40, (.v (.int .i64) x4)), (44, (.v (.slice Y484d) x5)), (45, (.v (.int .i64) x6)), (46, (.v (.int .i64) x7))], [.box Yf0bc (.v Yf0bc x8) true, .box Yh (.v Yh x9) true, .box Y8f72 (.v Y8f72 x10) true], 72, 0⟩
def q19_2_ex (o : (List (T484d)) × Int × (List (T8f72)) × Int × Int × (Tf0bc) × B8) : Exit := (.exit 4)
def q19_2_st (o : (List (T484d)) × Int × (List (T8f72)) × Int × Int × (Tf0bc) × B8) : St := ⟨[(0, (.v (.slice Y484d) o.1)), (4, (.ptr 0 [])), (7, (.v (.int .i64) o.2.1)), (8, (.ptr 1 [])), (38, (.v (.slice Y8f72) o.2.2.1)), (39, (.v (.int .i64) o.2.2.2.1)), (40, (.v (.int .i64) o.2.2.2.2.1))], [.box Yf0bc (.v Yf0bc o.2.2.2.2.2.1) true, .box Yh (.v Yh o.2.2.2.2.2.2) true], 72, 0⟩
theorem q19_2_body {x0 x1 x2 x3 x4 x5 x6 x7 x8 x9 x10 r} (h : q19_2_step x0 x1 x2 x3 x4 x5 x6 x7 x8 x9 x10 = some r) : J09 prog (J0z (J0q f51) [1, 1, 1, 1, 0, 1, 0, 0, 1, 1, 0, 0, 1, 1, 0, 0]) (x1, x7) r (fun s => q19_2_in x0 s.1 x2 x3 x4 x5 x6 s.2 x8 x9 x10) q19_2_ex q19_2_st := by
 unfold q19_2_step at h
 rcases J2w h with ⟨h17, h⟩ | ⟨h17, h⟩
 ·obtain ⟨h18, h⟩ := J4b h
  let i1 : List It := [b1, .pre p55]
  rcases J2w h with ⟨h19, h⟩ | ⟨h19, h⟩
  ·obtain ⟨u20, h21, h⟩ := andThen_ok h q1g_ok
   let i2 : List It := i1 ++ [b1, b1, b1, b1, b1, b1, b1, b1, b1, .asis, cI h21 [] [] [0] true, b1]
   have e3 := (AllP.c h17 (AllP.c h18 (AllP.c h19 (AllP.c h19 (AllP.c h19 (AllP.c h19 (AllP.c h19 (AllP.c h19 (AllP.c h19 (AllP.c h19 (AllP.c (rfl : ([.box Yh (.v Yh x9) true] : List AObj) = [.box Yh (.v Yh x9) true]) (AllP.c h21 (AllP.c h19 AllP.n)))))))))))))
   rcases J2w h with ⟨h22, h⟩ | ⟨h22, h⟩
   ·cases h
    exact .next (env.cd (i2 ++ [b1, .sel [0, 4, 7, 8, 12, 38, 39, 40, 44, 45, 46] [0, 1, 2]]) (e3.app (.c h22 .n)))
   ·cases h
    exact .next (env.cd (i2 ++ [b0, .sel [0, 4, 7, 8, 12, 38, 39, 40, 44, 45, 46] [0, 1, 2]]) (e3.app (.c h22 .n)))
  ·cases h
   exact .next (env.cd (i1 ++ [b0, b0, b0, b0, b0, b0, b0, b0, b0, b0, .sel [0, 4, 7, 8, 12, 38, 39, 40, 44, 45, 46] [0, 1, 2]]) (.c h17 (.c h18 (.c h19 (.c h19 (.c h19 (.c h19 (.c h19 (.c h19 (.c h19 (.c h19 (.c h19 (.c r0 .n)))))))))))))
 ·cases h
  exact .out (by intro e; simp [q19_2_ex] at e) (env.cd [b0, .sel [0, 4, 7, 8, 38, 39, 40] [0, 1]] (.c h17 .n))
theorem q19_2_ok {x0 x1 x2 x3 x4 x5 x6 x7 x8 x9 x10 o} (h : q19_2 x0 x1 x2 x3 x4 x5 x6 x7 x8 x9 x10 = some o) : J03 prog (J0z (J0q f51) [1, 1, 1, 1, 0, 1, 0, 0, 1, 1, 0, 0, 1, 1, 0]) (q19_2_in x0 x1 x2 x3 x4 x5 x6 x7 x8 x9 x10) (q19_2_ex o) (q19_2_st o) := J06.of_stepR (fun _ _ h => q19_2_body h) _ _ h
def q19_3_in (x0 : List (T484d)) (x1 : Int) (x2 : List (T8f72)) (x3 : Int) (x4 : Int) (x5 : Tf0bc) (x6 : B8) : St := ⟨[(0, (.v (.slice Y484d) x0)), (4, (.ptr 0 [])), (7, (.v (.int .i64) x1)), (8, (.ptr 1 [])), (38, (.v (.slice Y8f72) x2)), (39, (.v (.int .i64) x3)), (40, (.v (.int .i64) x4))], [.box Yf0bc (.v Yf0bc x5) true, .box Yh (.v Yh x6) true], 72, 0⟩
def q19_3_ex (o : Int) : Exit := (.exit 2)
def q19_3_st (o : Int) : St := ⟨[(7, (.v (.int .i64) o))], [], 72, 0⟩
theorem q19_3_body {x0 x1 x2 x3 x4 x5 x6 r} (h : q19_3_step x0 x1 x2 x3 x4 x5 x6 = some r) : J09 prog (J0z (J0q f51) [1, 1, 1, 1, 0, 1, 0, 0]) (x0, x1, x2, x3, x4, x5, x6) r (fun s => q19_3_in s.1 s.2.1 s.2.2.1 s.2.2.2.1 s.2.2.2.2.1 s.2.2.2.2.2.1 s.2.2.2.2.2.2) q19_3_ex q19_3_st := by
 unfold q19_3_step at h
 rcases J2w h with ⟨h14, h⟩ | ⟨h14, h⟩
 ·obtain ⟨h15, h⟩ := J4b h
  obtain ⟨o23, h24, h⟩ := andThen_ok h q19_2_ok
  cases h
  exact .next (env.cd [b1, .dive, .dive, .sel [0, 4, 7, 8, 12, 38, 39, 40, 44, 45, 46] [0, 1, 2], pI h24, .sel [0, 4, 7, 8, 38, 39, 40] [0, 1]] (.c h14 (.c h15 (.c h24 .n))))
 ·cases h
  exact .out (by intro e; simp [q19_3_ex] at e) (env.cd [b0, .sel [7] []] (.c h14 .n))
theorem q19_3_ok {x0 x1 x2 x3 x4 x5 x6 o} (h : q19_3 x0 x1 x2 x3 x4 x5 x6 = some o) : J03 prog (J0z (J0q f51) [1, 1, 1, 1, 0, 1, 0]) (q19_3_in x0 x1 x2 x3 x4 x5 x6) (q19_3_ex o) (q19_3_st o) := J06.of_stepR (fun _ _ h => q19_3_body h) _ _ h
theorem q19_ok {a0 a1 a2 u} (h : q19 a0 a1 a2 = some u) : CallC prog 51 [(.v (.slice Y484d) a0), (.v Yf0bc a1), (.v (.slice Y8f72) a2)] [] ((.v (.int .i64) u)) ([]) := by
 unfold q19 at h
 obtain ⟨u1, h2, h⟩ := andThen_ok h qx_ok
 obtain ⟨o9, h10, h⟩ := andThen_ok h q19_1_ok
 let i1 : List It := [cI h2 [] [] [] true, .dive, .sel [0, 2, 4, 7, 8, 17, 18, 19] [0, 1]]
 rcases o9 with o11 | o12
 ·cases h
  exact env.fn can51 (i1 ++ [pI h10]) s0 (.c h2 (.c h10 .n))
 ·obtain ⟨o25, h26, h⟩ := andThen_ok h q19_3_ok
  cases h
  exact env.fn can51 (i1 ++ [pI h10, .dive, .sel [0, 4, 7, 8, 38, 39, 40] [0, 1], pI h26]) s0 (.c h2 (.c h10 (.c h26 .n)))
theorem can52 : CanF prog 52 f52 := ⟨func52, _, func52, by kernel_rfl, by kernel_rfl⟩
def q1e_1_in (x0 : Int) (x1 : List (T484d)) (x2 : Int) (x3 : Int) : St := ⟨[(3, (.v (.int .i64) x0)), (6, (.v (.slice Y484d) x1)), (7, (.v (.int .i64) x2)), (8, (.v (.int .i64) x3))], [], 18, 0⟩
def q1e_1_ex (o : Int) : Exit := (.exit 0)
def q1e_1_st (o : Int) : St := ⟨[(3, (.v (.int .i64) o))], [], 18, 0⟩
theorem q1e_1_body {x0 x1 x2 x3 r} (h : q1e_1_step x0 x1 x2 x3 = some r) : J09 prog (J0z (J0q f52) [1, 1, 0, 1, 0, 0]) (x0, x3) r (fun s => q1e_1_in s.1 x1 x2 s.2) q1e_1_ex q1e_1_st := by
 unfold q1e_1_step at h
 rcases J2w h with ⟨h2, h⟩ | ⟨h2, h⟩
 ·obtain ⟨h3, h⟩ := J4b h
  cases h
  exact .next (env.cd [b1, .dive, .sel [3, 6, 7, 8] []] (.c h2 (.c h3 .n)))
 ·cases h
  exact .out (by intro e; simp [q1e_1_ex] at e) (env.cd [b0, .sel [3] []] (.c h2 .n))
theorem q1e_1_ok {x0 x1 x2 x3 o} (h : q1e_1 x0 x1 x2 x3 = some o) : J03 prog (J0z (J0q f52) [1, 1, 0, 1, 0]) (q1e_1_in x0 x1 x2 x3) (q1e_1_ex o) (q1e_1_st o) := J06.of_stepR (fun _ _ h => q1e_1_body h) _ _ h
theorem q1e_ok {a0 u} (h : q1e a0 = some u) : CallC prog 52 [(.v (.slice Y484d) a0)] [] ((.v (.int .i64) u)) ([]) := by
 unfold q1e at h
 obtain ⟨o4, h5, h⟩ := andThen_ok h q1e_1_ok
 cases h
 exact env.fn can52 [.dive, .sel [3, 6, 7, 8] [], pI h5] s0 (.c h5 .n)
theorem can50 : CanF prog 50 f50 := ⟨func50, _, func50, by kernel_rfl, by kernel_rfl⟩
theorem q21_ok {a0 a1 a2 a3 u} (h : q21 a0 a1 a2 a3 = some u) : CallC prog 50 [(.v (.int .i64) a0), (.v (.int .i64) a1), (.v (.int .i64) a2), (.v (.int .i64) a3)] [] ((.v .bool u)) ([]) := by
 unfold q21 at h
 cases h
 exact env.fn can50 [] s0 .n
theorem can14 : CanF prog 14 f14 := ⟨func14, _, func14, by kernel_rfl, by kernel_rfl⟩
def qa_1_in (x0 : Int) (x1 : Int) (x2 : T65da) (x3 : List (Tedcc)) : St := ⟨[(0, (.ptr 0 [])), (39, (.own 1 [])), (40, (.v (.int .i64) x0)), (41, (.v (.int .i64) x1))], [.box Y65da (.v Y65da x2) true, .row Yedcc x3 true], 79, 1⟩
def qa_1_ex (o : (Int × T65da) ⊕ (T65da)) : Exit := match (generalizing := false) o with | (.inl o) => .ret | (.inr o) => (.exit 0)
def qa_1_st (o : (Int × T65da) ⊕ (T65da)) : St := match (generalizing := false) o with | (.inl o) => ⟨[(6, (.v (.int .i64) o.1))], [.box Y65da (.v Y65da o.2) true], 79, 1⟩ | (.inr o) => ⟨[(0, (.ptr 0 []))], [.box Y65da (.v Y65da o) true], 79, 1⟩
theorem qa_1_body {x0 x1 x2 x3 r} (h : qa_1_step x0 x1 x2 x3 = some r) : J09 prog (J0z (J0q f14) [1, 1, 1, 0, 1, 0, 0]) x1 r (fun s => qa_1_in x0 s x2 x3) qa_1_ex qa_1_st := by
 unfold qa_1_step at h
 rcases J2w h with ⟨h11, h⟩ | ⟨h11, h⟩
 ·obtain ⟨h12, h⟩ := J4b h
  obtain ⟨u13, h14, h⟩ := andThen_ok h q19_ok
  obtain ⟨u15, h16, h⟩ := andThen_ok h q1e_ok
  obtain ⟨u17, h18, h⟩ := andThen_ok h q21_ok
  let i1 : List It := [b1, .pre p56, .asis, cI h14 [] [] [] true, .asis, cI h16 [] [] [] true, .asis, cI h18 [] [] [] true]
  have e2 := (AllP.c h11 (AllP.c h12 (AllP.c rn (AllP.c h14 (AllP.c rn (AllP.c h16 (AllP.c rn (AllP.c h18 AllP.n))))))))
  rcases J2w h with ⟨h19, h⟩ | ⟨h19, h⟩
  ·cases h
   exact .out (by intro e; simp [qa_1_ex] at e) (env.cd (i1 ++ [b1, b1, b1, b1, b1, b1, b1, b1, b1, b1, b1, b1, b1, b1, b1, b1, b1, b1, .sel [6] [0]]) (e2.app (.c h19 (.c h19 (.c h19 (.c h19 (.c h19 (.c h19 (.c h19 (.c h19 (.c h19 (.c h19 (.c h19 (.c h19 (.c h19 (.c h19 (.c h19 (.c h19 (.c h19 (.c r1 .n))))))))))))))))))))
  ·obtain ⟨u20, h21, h⟩ := andThen_ok h q19_ok
   obtain ⟨u22, h23, h⟩ := andThen_ok h q1e_ok
   obtain ⟨u24, h25, h⟩ := andThen_ok h q21_ok
   let i3 : List It := i1 ++ [b0, b0, b0, b0, b0, b0, b0, b0, b0, .asis, cI h21 [] [] [] true, b0, b0, b0, b0, b0, .asis, cI h23 [] [] [] true, b0, .asis, cI h25 [] [] [] true, b0, b0]
   have e4 := e2.app (.c h19 (.c h19 (.c h19 (.c h19 (.c h19 (.c h19 (.c h19 (.c h19 (.c h19 (.c rn (.c h21 (.c h19 (.c h19 (.c h19 (.c h19 (.c h19 (.c rn (.c h23 (.c h19 (.c rn (.c h25 (.c h19 (.c h19 .n)))))))))))))))))))))))
   rcases J2w h with ⟨h26, h⟩ | ⟨h26, h⟩
   ·cases h
    exact .out (by intro e; simp [qa_1_ex] at e) (env.cd (i3 ++ [b1, .sel [6] [0]]) (e4.app (.c h26 .n)))
   ·cases h
    exact .next (env.cd (i3 ++ [b0, .sel [0, 39, 40, 41] [0, 1]]) (e4.app (.c h26 .n)))
 ·cases h
  exact .out (by intro e; simp [qa_1_ex] at e) (env.cd [b0, .sel [0] [0]] (.c h11 .n))
theorem qa_1_ok {x0 x1 x2 x3 o} (h : qa_1 x0 x1 x2 x3 = some o) : J03 prog (J0z (J0q f14) [1, 1, 1, 0, 1, 0]) (qa_1_in x0 x1 x2 x3) (qa_1_ex o) (qa_1_st o) := J06.of_stepR (fun _ _ h => qa_1_body h) _ _ h
theorem qa_ok {a0 a1 a2 u} (h : qa a0 a1 a2 = some u) : CallC prog 14 [(.ptr 0 []), (.v Yedcc a0), (.v Yedcc a1)] [.box Y65da (.v Y65da a2) true] ((.v (.int .i64) u.1)) ([.box Y65da (.v Y65da u.2) true]) := by
 unfold qa at h
 rcases J2w h with ⟨h1, h⟩ | ⟨h1, h⟩
 ·cases h
  exact env.fn can14 [b1] s1 (.c h1 .n)
 ·obtain ⟨u2, h3, h⟩ := andThen_ok h q1d_ok
  let i1 : List It := [b0, cI h3 [] [] [] true]
  have e2 := (AllP.c h1 (AllP.c h3 AllP.n))
  rcases J2w h with ⟨h4, h⟩ | ⟨h4, h⟩
  ·cases h
   exact env.fn can14 (i1 ++ [b1, b1, b1, b1, b1, b1, b1, b1, b1, b1, b1, b1, b1, b1, b1, b1, b1, b1, b1]) s1 (e2.app (.c h4 (.c h4 (.c h4 (.c h4 (.c r1 (.c r1 (.c r1 (.c r1 (.c r1 (.c r1 (.c r1 (.c r1 (.c r1 (.c r1 (.c r1 (.c r1 (.c r1 (.c r1 (.c r1 .n))))))))))))))))))))
  ·obtain ⟨u5, h6, h⟩ := andThen_ok h q1d_ok
   let i3 : List It := i1 ++ [b0, b0, cI h6 [] [] [] true, b0, b0]
   have e4 := e2.app (.c h4 (.c h4 (.c h6 (.c h4 (.c h4 .n)))))
   rcases J2w h with ⟨h7, h⟩ | ⟨h7, h⟩
   ·cases h
    exact env.fn can14 (i3 ++ [b1, b1, b1, b1, b1, b1, b1, b1, b1, b1, b1, b1, b1, b1, b1]) s1 (e4.app (.c h7 (.c h7 (.c h7 (.c h7 (.c h7 (.c h7 (.c h7 (.c h7 (.c r1 (.c r1 (.c r1 (.c r1 (.c r1 (.c r1 (.c r1 .n))))))))))))))))
   ·let i5 : List It := i3 ++ [b0, b0, b0, b0, b0, b0, b0, b0]
    have e6 := e4.app (.c h7 (.c h7 (.c h7 (.c h7 (.c h7 (.c h7 (.c h7 (.c h7 .n))))))))
    rcases J2w h with ⟨h8, h⟩ | ⟨h8, h⟩
    ·cases h
     exact env.fn can14 (i5 ++ [b1, b1, b1, b1, b1, b1, b1]) s1 (e6.app (.c h8 (.c h8 (.c h8 (.c h8 (.c h8 (.c h8 (.c r1 .n))))))))
    ·let i7 : List It := i5 ++ [b0, b0, b0, b0, b0, b0]
     have e8 := e6.app (.c h8 (.c h8 (.c h8 (.c h8 (.c h8 (.c h8 .n))))))
     rcases J2w h with ⟨h9, h⟩ | ⟨h9, h⟩
     ·cases h
      exact env.fn can14 (i7 ++ [b1]) s1 (e8.app (.c h9 .n))
     ·obtain ⟨o27, h28, h⟩ := andThen_ok h qa_1_ok
      rcases o27 with o29 | o30
      ·cases h
       exact env.fn can14 (i7 ++ [b0, .dive, .sel [0, 39, 40, 41] [0, 3], pI h28]) s1 (e8.app (.c h9 (.c h28 .n)))
      ·cases h
       exact env.fn can14 (i7 ++ [b0, .dive, .sel [0, 39, 40, 41] [0, 3], pI h28]) s1 (e8.app (.c h9 (.c h28 .n)))
theorem can20 : CanF prog 20 f20 := ⟨func20, _, func20, by kernel_rfl, by kernel_rfl⟩
theorem qo_ok {a0 u} (h : qo a0 = some u) : CallC prog 20 [(.ptr 0 [])] [.box Y65da (.v Y65da a0) true] ((.v Yf0bc u)) ([.box Y65da (.v Y65da a0) true]) := by
 unfold qo at h
 obtain ⟨h1, h⟩ := J4b h
 cases h
 exact env.fn can20 [.pre p57] s1 (.c h1 .n)
theorem can53 : CanF prog 53 f53 := ⟨func53, _, func53, by kernel_rfl, by kernel_rfl⟩
theorem ql_ok {a0 a1 u} (h : ql a0 a1 = some u) : CallC prog 53 [(.ptr 0 []), (.v (.int .i64) a0)] [.box Y65da (.v Y65da a1) true] ((.v .bool u)) ([.box Y65da (.v Y65da a1) true]) := by
 unfold ql at h
 obtain ⟨u1, h2, h⟩ := andThen_ok h qo_ok
 cases h
 exact env.fn can53 [.pre p58, .asis, cI h2 [] [0] [] false] s1 (.c (rfl : ([.box Y65da (.v Y65da a1) true] : List AObj) = [.box Y65da (.v Y65da a1) true]) (.c h2 .n))
theorem can54 : CanF prog 54 f54 := ⟨func54, _, func54, by kernel_rfl, by kernel_rfl⟩
theorem qi_ok {a0 u} (h : qi a0 = some u) : CallC prog 54 [.v (.slice Yf0bc) a0] [] (.own 0 []) [.row Yf0bc u true] := by
 unfold qi at h
 obtain ⟨h1, h⟩ := J4b h
 injection h with h; subst h
 rcases a0 with _ | ⟨x0, a0⟩
 ·exact env.funAny (r0 := J0z (J0q f54) [0]) (r1 := J0z (J0q f54) [1, 0, 0]) (x := J0z (J0q f54) [1, 0, 1, 0]) (z := J0z (J0q f54) [1, 1]) (t := 4) (r := (.own 0 [])) can54.1 can54.2 (i0 := [.sel [0] []]) (i1 := [.sel [0, 4] []]) (i2 := [.promote 2 Yf0bc, .sel [2] [0]]) (i3 := [.sel [2] [1]]) (pos := [.sel [0]]) (st1 := ⟨[(0, (.v (.slice Yf0bc) ([] : List (Tf0bc))))], [], 8, 0⟩) (st2 := ⟨[(0, (.v (.slice Yf0bc) ([] : List (Tf0bc)))), (4, .anyb)], [], 8, 0⟩) (st3 := ⟨[(2, (.own 0 []))], [.row Yf0bc ([] : List (Tf0bc)) true], 8, 0⟩) (by kernel_rfl) (by kernel_rfl) (by kernel_rfl) (by kernel_rfl) (by kernel_rfl) (by kernel_rfl) (.c (show List.length ([] : List (Tf0bc)) + List.length ([] : List (Tf0bc)) ≤ 2147483648 from by first | decide | (simp at h1 ⊢; try omega)) .n) (by kernel_rfl) (by kernel_rfl) (by kernel_rfl)
 ·exact env.fn can54 [b0] [.sel [1]] (.c r0 (.c (show List.length ([] : List (Tf0bc)) + List.length (x0 :: a0) ≤ 2147483648 from by first | decide | (simp at h1 ⊢; try omega)) .n))
theorem can15 : CanF prog 15 f15 := ⟨func15, _, func15, by kernel_rfl, by kernel_rfl⟩
theorem qq_ok {a0 a1 a2 u} (h : qq a0 a1 a2 = some u) : CallC prog 15 [(.ptr 0 []), (.v Yedcc a0), (.v (.int .i64) a1)] [.box Y65da (.v Y65da a2) true] ((.v (.int .i64) u.1)) ([.box Y65da (.v Y65da u.2) true]) := by
 unfold qq at h
 obtain ⟨u1, h2, h⟩ := andThen_ok h qo_ok
 let i1 : List It := [cI h2 [] [0] [] false]
 have e2 := (AllP.c h2 AllP.n)
 rcases J2w h with ⟨h3, h⟩ | ⟨h3, h⟩
 ·cases h
  exact env.fn can15 (i1 ++ [b1]) s1 (e2.app (.c h3 .n))
 ·obtain ⟨u4, h5, h⟩ := andThen_ok h q2x_ok
  let i3 : List It := i1 ++ [b0, cI h5 [] [] [] true]
  have e4 := e2.app (.c h3 (.c h5 .n))
  rcases J2w h with ⟨h6, h⟩ | ⟨h6, h⟩
  ·cases h
   exact env.fn can15 (i3 ++ [b1]) s1 (e4.app (.c h6 .n))
  ·let i5 : List It := i3 ++ [b0]
   have e6 := e4.app (.c h6 .n)
   rcases J2w h with ⟨h7, h⟩ | ⟨h7, h⟩
   ·cases h
    exact env.fn can15 (i5 ++ [b1]) s1 (e6.app (.c h7 .n))
   ·let i7 : List It := i5 ++ [b0]
    have e8 := e6.app (.c h7 .n)
    rcases J2w h with ⟨h8, h⟩ | ⟨h8, h⟩
    ·cases h
     exact env.fn can15 (i7 ++ [b1]) s1 (e8.app (.c h8 .n))
    ·obtain ⟨u9, h10, h⟩ := andThen_ok h ql_ok
     let i9 : List It := i7 ++ [b0, cI h10 [] [0] [] false]
     have e10 := e8.app (.c h8 (.c h10 .n))
     rcases J2w h with ⟨h11, h⟩ | ⟨h11, h⟩
     ·cases h
      exact env.fn can15 (i9 ++ [b1, b1, b1, b1, b1, b1, b1]) s1 (e10.app (.c h11 (.c h11 (.c h11 (.c h11 (.c h11 (.c h11 (.c r1 .n))))))))
     ·let i11 : List It := i9 ++ [b0, b0, b0, b0, b0, b0]
      have e12 := e10.app (.c h11 (.c h11 (.c h11 (.c h11 (.c h11 (.c h11 .n))))))
      rcases J2w h with ⟨h12, h⟩ | ⟨h12, h⟩
      ·cases h
       exact env.fn can15 (i11 ++ [b1]) s1 (e12.app (.c h12 .n))
      ·let i13 : List It := i11 ++ [b0, .pre p59]
       have e14 := e12.app (.c h12 .n)
       rcases J2w h with ⟨h13, h⟩ | ⟨h13, h⟩
       ·let i15 : List It := i13 ++ [b1, b1, b1, b1, b1, b1, b1]
        have e16 := e14.app (.c h13 (.c h13 (.c h13 (.c h13 (.c h13 (.c h13 (.c h13 .n)))))))
        rcases J2w h with ⟨h14, h⟩ | ⟨h14, h⟩
        ·cases h
         exact env.fn can15 (i15 ++ [b1, b1, b1, b1, b1, b1, b1, b1, b1, b1, b1, b1, b1, b1, b1]) s1 (e16.app (.c h14 (.c h14 (.c h14 (.c h14 (.c h14 (.c h14 (.c h14 (.c h14 (.c h14 (.c r1 (.c r1 (.c r1 (.c r1 (.c r1 (.c r1 .n))))))))))))))))
        ·obtain ⟨u15, h16, h⟩ := andThen_ok h q2w_ok
         let i17 : List It := i15 ++ [b0, b0, b0, b0, b0, b0, b0, .asis, cI h16 [] [] [] true, b0, b0]
         have e18 := e16.app (.c h14 (.c h14 (.c h14 (.c h14 (.c h14 (.c h14 (.c h14 (.c rn (.c h16 (.c h14 (.c h14 .n)))))))))))
         rcases J2w h with ⟨h17, h⟩ | ⟨h17, h⟩
         ·cases h
          exact env.fn can15 (i17 ++ [b1, b1, b1, b1, b1, b1]) s1 (e18.app (.c h17 (.c h17 (.c h17 (.c h17 (.c h17 (.c r1 .n)))))))
         ·let i19 : List It := i17 ++ [b0, b0, b0]
          have e20 := e18.app (.c h17 (.c h17 (.c h17 .n)))
          rcases J2w h with ⟨h18, h⟩ | ⟨h18, h⟩
          ·obtain ⟨u19, h20, h⟩ := andThen_ok h q3k_ok
           let i21 : List It := i19 ++ [b1, b1, b1, b1, b1, b1, b1, b1, b1, .asis, cI h20 [] [] [] true, b1, b0, b1, b0]
           have e22 := e20.app (.c h18 (.c h18 (.c h18 (.c h18 (.c h18 (.c h18 (.c h18 (.c h18 (.c h18 (.c rn (.c h20 (.c h18 (.c h17 (.c h18 (.c h17 .n)))))))))))))))
           rcases J2w h with ⟨h21, h⟩ | ⟨h21, h⟩
           ·cases h
            exact env.fn can15 (i21 ++ [b1]) s1 (e22.app (.c h21 .n))
           ·obtain ⟨u22, h23, h⟩ := andThen_ok h qi_ok
            obtain ⟨h24, h⟩ := J4b h
            let i23 : List It := i21 ++ [b0, .pre p60, cI h23 [] [] [] true]
            rcases J2w h with ⟨h25, h⟩ | ⟨h25, h⟩
            ·obtain ⟨h26, h⟩ := J4b h
             obtain ⟨u27, h28, h⟩ := andThen_ok h q15_ok
             cases h
             exact env.fn can15 (i23 ++ [b1, b0, cI h28 [] [] [] true]) [.J6w 0 [], .sel [0]] (e22.app (.c h21 (.c h23 (.c h24 (.c h25 (.c h26 (.c h28 .n)))))))
            ·obtain ⟨u29, h30, h⟩ := andThen_ok h q15_ok
             cases h
             exact env.fn can15 (i23 ++ [b0, cI h30 [] [] [] true]) [.J6w 0 [], .sel [0]] (e22.app (.c h21 (.c h23 (.c h24 (.c h25 (.c h30 .n))))))
          ·obtain ⟨u31, h32, h⟩ := andThen_ok h qi_ok
           obtain ⟨h33, h⟩ := J4b h
           let i21 : List It := i19 ++ [b0, b0, b0, b0, b0, b0, b0, b0, b0, b0, b0, b0, b0, b0, .pre p60, cI h32 [] [] [] true]
           have e22 := e20.app (.c h18 (.c h18 (.c h18 (.c h18 (.c h18 (.c h18 (.c h18 (.c h18 (.c h18 (.c h18 (.c h17 (.c h18 (.c h17 (.c r0 (.c h32 (.c h33 .n))))))))))))))))
           rcases J2w h with ⟨h34, h⟩ | ⟨h34, h⟩
           ·obtain ⟨h35, h⟩ := J4b h
            obtain ⟨u36, h37, h⟩ := andThen_ok h q15_ok
            cases h
            exact env.fn can15 (i21 ++ [b1, b0, cI h37 [] [] [] true]) [.J6w 0 [], .sel [0]] (e22.app (.c h34 (.c h35 (.c h37 .n))))
           ·obtain ⟨u38, h39, h⟩ := andThen_ok h q15_ok
            cases h
            exact env.fn can15 (i21 ++ [b0, cI h39 [] [] [] true]) [.J6w 0 [], .sel [0]] (e22.app (.c h34 (.c h39 .n)))
       ·obtain ⟨u40, h41, h⟩ := andThen_ok h q2w_ok
        let i15 : List It := i13 ++ [b0, b0, b0, b0, b0, b0, b0, b0, b0, b0, b0, b0, b0, b0, .asis, cI h41 [] [] [] true, b0, b0]
        have e16 := e14.app (.c h13 (.c h13 (.c h13 (.c h13 (.c h13 (.c h13 (.c h13 (.c r0 (.c r0 (.c r0 (.c r0 (.c r0 (.c r0 (.c r0 (.c rn (.c h41 (.c r0 (.c r0 .n))))))))))))))))))
        rcases J2w h with ⟨h42, h⟩ | ⟨h42, h⟩
        ·cases h
         exact env.fn can15 (i15 ++ [b1, b1, b1, b1, b1, b1]) s1 (e16.app (.c h42 (.c h42 (.c h42 (.c h42 (.c h42 (.c r1 .n)))))))
        ·let i17 : List It := i15 ++ [b0, b0, b0]
         have e18 := e16.app (.c h42 (.c h42 (.c h42 .n)))
         rcases J2w h with ⟨h43, h⟩ | ⟨h43, h⟩
         ·obtain ⟨u44, h45, h⟩ := andThen_ok h q3k_ok
          let i19 : List It := i17 ++ [b1, b1, b1, b1, b1, b1, b1, b1, b1, .asis, cI h45 [] [] [] true, b1, b0, b1, b0]
          have e20 := e18.app (.c h43 (.c h43 (.c h43 (.c h43 (.c h43 (.c h43 (.c h43 (.c h43 (.c h43 (.c rn (.c h45 (.c h43 (.c h42 (.c h43 (.c h42 .n)))))))))))))))
          rcases J2w h with ⟨h46, h⟩ | ⟨h46, h⟩
          ·cases h
           exact env.fn can15 (i19 ++ [b1]) s1 (e20.app (.c h46 .n))
          ·obtain ⟨u47, h48, h⟩ := andThen_ok h qi_ok
           obtain ⟨h49, h⟩ := J4b h
           let i21 : List It := i19 ++ [b0, .pre p60, cI h48 [] [] [] true]
           rcases J2w h with ⟨h50, h⟩ | ⟨h50, h⟩
           ·obtain ⟨h51, h⟩ := J4b h
            obtain ⟨u52, h53, h⟩ := andThen_ok h q15_ok
            cases h
            exact env.fn can15 (i21 ++ [b1, b0, cI h53 [] [] [] true]) [.J6w 0 [], .sel [0]] (e20.app (.c h46 (.c h48 (.c h49 (.c h50 (.c h51 (.c h53 .n)))))))
           ·obtain ⟨u54, h55, h⟩ := andThen_ok h q15_ok
            cases h
            exact env.fn can15 (i21 ++ [b0, cI h55 [] [] [] true]) [.J6w 0 [], .sel [0]] (e20.app (.c h46 (.c h48 (.c h49 (.c h50 (.c h55 .n))))))
         ·obtain ⟨u56, h57, h⟩ := andThen_ok h qi_ok
          obtain ⟨h58, h⟩ := J4b h
          let i19 : List It := i17 ++ [b0, b0, b0, b0, b0, b0, b0, b0, b0, b0, b0, b0, b0, b0, .pre p60, cI h57 [] [] [] true]
          have e20 := e18.app (.c h43 (.c h43 (.c h43 (.c h43 (.c h43 (.c h43 (.c h43 (.c h43 (.c h43 (.c h43 (.c h42 (.c h43 (.c h42 (.c r0 (.c h57 (.c h58 .n))))))))))))))))
          rcases J2w h with ⟨h59, h⟩ | ⟨h59, h⟩
          ·obtain ⟨h60, h⟩ := J4b h
           obtain ⟨u61, h62, h⟩ := andThen_ok h q15_ok
           cases h
           exact env.fn can15 (i19 ++ [b1, b0, cI h62 [] [] [] true]) [.J6w 0 [], .sel [0]] (e20.app (.c h59 (.c h60 (.c h62 .n))))
          ·obtain ⟨u63, h64, h⟩ := andThen_ok h q15_ok
           cases h
           exact env.fn can15 (i19 ++ [b0, cI h64 [] [] [] true]) [.J6w 0 [], .sel [0]] (e20.app (.c h59 (.c h64 .n)))
theorem can16 : CanF prog 16 f16 := ⟨func16, _, func16, by kernel_rfl, by kernel_rfl⟩
theorem qb_ok {a0 a1 a2 u} (h : qb a0 a1 a2 = some u) : CallC prog 16 [(.ptr 0 []), (.v Yedcc a0), (.v (.int .i64) a1)] [.box Y65da (.v Y65da a2) true] ((.v (.int .i64) u.1)) ([.box Y65da (.v Y65da u.2) true]) := by
 unfold qb at h
 rcases J2w h with ⟨h1, h⟩ | ⟨h1, h⟩
 ·cases h
  exact env.fn can16 [b1] s1 (.c h1 .n)
 ·obtain ⟨u2, h3, h⟩ := andThen_ok h q1d_ok
  let i1 : List It := [b0, cI h3 [] [] [] true]
  have e2 := (AllP.c h1 (AllP.c h3 AllP.n))
  rcases J2w h with ⟨h4, h⟩ | ⟨h4, h⟩
  ·cases h
   exact env.fn can16 (i1 ++ [b1]) s1 (e2.app (.c h4 .n))
  ·obtain ⟨h5, h⟩ := J4b h
   let i3 : List It := i1 ++ [b0, .pre p61]
   have e4 := e2.app (.c h4 (.c h5 .n))
   rcases J2w h with ⟨h6, h⟩ | ⟨h6, h⟩
   ·cases h
    exact env.fn can16 (i3 ++ [b1]) s1 (e4.app (.c h6 .n))
   ·let i5 : List It := i3 ++ [b0]
    have e6 := e4.app (.c h6 .n)
    rcases J2w h with ⟨h7, h⟩ | ⟨h7, h⟩
    ·cases h
     exact env.fn can16 (i5 ++ [b1]) s1 (e6.app (.c h7 .n))
    ·let i7 : List It := i5 ++ [b0, .pre p62]
     have e8 := e6.app (.c h7 .n)
     rcases J2w h with ⟨h8, h⟩ | ⟨h8, h⟩
     ·cases h
      exact env.fn can16 (i7 ++ [b1, b1, b1, b1, b1, b1, b1]) s1 (e8.app (.c h8 (.c h8 (.c h8 (.c h8 (.c h8 (.c h8 (.c r1 .n))))))))
     ·let i9 : List It := i7 ++ [b0, b0, b0, b0, b0, b0]
      have e10 := e8.app (.c h8 (.c h8 (.c h8 (.c h8 (.c h8 (.c h8 .n))))))
      rcases J2w h with ⟨h9, h⟩ | ⟨h9, h⟩
      ·cases h
       exact env.fn can16 (i9 ++ [b1]) s1 (e10.app (.c h9 .n))
      ·obtain ⟨u10, h11, h⟩ := andThen_ok h q19_ok
       obtain ⟨u12, h13, h⟩ := andThen_ok h q1e_ok
       obtain ⟨u14, h15, h⟩ := andThen_ok h q21_ok
       let i11 : List It := i9 ++ [b0, .pre p63, .asis, cI h11 [] [] [] true, .asis, cI h13 [] [] [] true, .asis, cI h15 [] [] [] true]
       have e12 := e10.app (.c h9 (.c rn (.c h11 (.c rn (.c h13 (.c rn (.c h15 .n)))))))
       rcases J2w h with ⟨h16, h⟩ | ⟨h16, h⟩
       ·let i13 : List It := i11 ++ [b1, b1, b1, b1, b1, b1, b1]
        have e14 := e12.app (.c h16 (.c h16 (.c h16 (.c h16 (.c h16 (.c h16 (.c h16 .n)))))))
        rcases J2w h with ⟨h17, h⟩ | ⟨h17, h⟩
        ·cases h
         exact env.fn can16 (i13 ++ [b1, b1, b1, b1]) s1 (e14.app (.c h17 (.c h17 (.c h17 (.c r1 .n)))))
        ·let i15 : List It := i13 ++ [b0, b0, b0]
         have e16 := e14.app (.c h17 (.c h17 (.c h17 .n)))
         rcases J2w h with ⟨h18, h⟩ | ⟨h18, h⟩
         ·cases h
          exact env.fn can16 (i15 ++ [b1]) s1 (e16.app (.c h18 .n))
         ·let i17 : List It := i15 ++ [b0, .pre p64]
          rcases J2w h with ⟨h19, h⟩ | ⟨h19, h⟩
          ·obtain ⟨u20, h21, h⟩ := andThen_ok h q19_ok
           obtain ⟨u22, h23, h⟩ := andThen_ok h q1e_ok
           obtain ⟨u24, h25, h⟩ := andThen_ok h q21_ok
           let i18 : List It := i17 ++ [b1, b1, b1, b1, b1, b1, b1, b1, b1, .asis, cI h21 [] [] [] true, b1, b1, b1, b1, b1, .asis, cI h23 [] [] [] true, b1, .asis, cI h25 [] [] [] true, b1, b1]
           have e19 := e16.app (.c h18 (.c h19 (.c h19 (.c h19 (.c h19 (.c h19 (.c h19 (.c h19 (.c h19 (.c h19 (.c rn (.c h21 (.c h19 (.c h19 (.c h19 (.c h19 (.c h19 (.c rn (.c h23 (.c h19 (.c rn (.c h25 (.c h19 (.c h19 .n))))))))))))))))))))))))
           rcases J2w h with ⟨h26, h⟩ | ⟨h26, h⟩
           ·cases h
            exact env.fn can16 (i18 ++ [b1]) s1 (e19.app (.c h26 .n))
           ·obtain ⟨h27, h⟩ := J4b h
            obtain ⟨h28, h⟩ := J4b h
            let i20 : List It := i18 ++ [b0, .pre p65]
            rcases J2w h with ⟨h29, h⟩ | ⟨h29, h⟩
            ·obtain ⟨h30, h⟩ := J4b h
             cases h
             exact env.fn can16 (i20 ++ [b1, b0]) [.J6w 0 [], .sel [0]] (e19.app (.c h26 (.c h27 (.c h28 (.c h29 (.c h30 .n))))))
            ·cases h
             exact env.fn can16 (i20 ++ [b0]) [.J6w 0 [], .sel [0]] (e19.app (.c h26 (.c h27 (.c h28 (.c h29 .n)))))
          ·obtain ⟨h31, h⟩ := J4b h
           obtain ⟨h32, h⟩ := J4b h
           let i18 : List It := i17 ++ [b0, b0, b0, b0, b0, b0, b0, b0, b0, b0, b0, b0, b0, b0, b0, b0, b0, b0, .pre p65]
           have e19 := e16.app (.c h18 (.c h19 (.c h19 (.c h19 (.c h19 (.c h19 (.c h19 (.c h19 (.c h19 (.c h19 (.c h19 (.c h19 (.c h19 (.c h19 (.c h19 (.c h19 (.c h19 (.c h19 (.c r0 (.c h31 (.c h32 .n)))))))))))))))))))))
           rcases J2w h with ⟨h33, h⟩ | ⟨h33, h⟩
           ·obtain ⟨h34, h⟩ := J4b h
            cases h
            exact env.fn can16 (i18 ++ [b1, b0]) [.J6w 0 [], .sel [0]] (e19.app (.c h33 (.c h34 .n)))
           ·cases h
            exact env.fn can16 (i18 ++ [b0]) [.J6w 0 [], .sel [0]] (e19.app (.c h33 .n))
       ·let i13 : List It := i11 ++ [b0, b0, b0, b0, b0, b0, b0, b0, b0, b0]
        have e14 := e12.app (.c h16 (.c h16 (.c h16 (.c h16 (.c h16 (.c h16 (.c h16 (.c r0 (.c r0 (.c r0 .n))))))))))
        rcases J2w h with ⟨h35, h⟩ | ⟨h35, h⟩
        ·cases h
         exact env.fn can16 (i13 ++ [b1]) s1 (e14.app (.c h35 .n))
        ·let i15 : List It := i13 ++ [b0, .pre p64]
         rcases J2w h with ⟨h36, h⟩ | ⟨h36, h⟩
         ·obtain ⟨u37, h38, h⟩ := andThen_ok h q19_ok
          obtain ⟨u39, h40, h⟩ := andThen_ok h q1e_ok
          obtain ⟨u41, h42, h⟩ := andThen_ok h q21_ok
          let i16 : List It := i15 ++ [b1, b1, b1, b1, b1, b1, b1, b1, b1, .asis, cI h38 [] [] [] true, b1, b1, b1, b1, b1, .asis, cI h40 [] [] [] true, b1, .asis, cI h42 [] [] [] true, b1, b1]
          have e17 := e14.app (.c h35 (.c h36 (.c h36 (.c h36 (.c h36 (.c h36 (.c h36 (.c h36 (.c h36 (.c h36 (.c rn (.c h38 (.c h36 (.c h36 (.c h36 (.c h36 (.c h36 (.c rn (.c h40 (.c h36 (.c rn (.c h42 (.c h36 (.c h36 .n))))))))))))))))))))))))
          rcases J2w h with ⟨h43, h⟩ | ⟨h43, h⟩
          ·cases h
           exact env.fn can16 (i16 ++ [b1]) s1 (e17.app (.c h43 .n))
          ·obtain ⟨h44, h⟩ := J4b h
           obtain ⟨h45, h⟩ := J4b h
           let i18 : List It := i16 ++ [b0, .pre p65]
           rcases J2w h with ⟨h46, h⟩ | ⟨h46, h⟩
           ·obtain ⟨h47, h⟩ := J4b h
            cases h
            exact env.fn can16 (i18 ++ [b1, b0]) [.J6w 0 [], .sel [0]] (e17.app (.c h43 (.c h44 (.c h45 (.c h46 (.c h47 .n))))))
           ·cases h
            exact env.fn can16 (i18 ++ [b0]) [.J6w 0 [], .sel [0]] (e17.app (.c h43 (.c h44 (.c h45 (.c h46 .n)))))
         ·obtain ⟨h48, h⟩ := J4b h
          obtain ⟨h49, h⟩ := J4b h
          let i16 : List It := i15 ++ [b0, b0, b0, b0, b0, b0, b0, b0, b0, b0, b0, b0, b0, b0, b0, b0, b0, b0, .pre p65]
          have e17 := e14.app (.c h35 (.c h36 (.c h36 (.c h36 (.c h36 (.c h36 (.c h36 (.c h36 (.c h36 (.c h36 (.c h36 (.c h36 (.c h36 (.c h36 (.c h36 (.c h36 (.c h36 (.c h36 (.c r0 (.c h48 (.c h49 .n)))))))))))))))))))))
          rcases J2w h with ⟨h50, h⟩ | ⟨h50, h⟩
          ·obtain ⟨h51, h⟩ := J4b h
           cases h
           exact env.fn can16 (i16 ++ [b1, b0]) [.J6w 0 [], .sel [0]] (e17.app (.c h50 (.c h51 .n)))
          ·cases h
           exact env.fn can16 (i16 ++ [b0]) [.J6w 0 [], .sel [0]] (e17.app (.c h50 .n))
theorem can17 : CanF prog 17 f17 := ⟨func17, _, func17, by kernel_rfl, by kernel_rfl⟩
theorem qu_ok {a0 u} (h : qu a0 = some u) : CallC prog 17 [(.ptr 0 [])] [.box Y65da (.v Y65da a0) true] ((.own 1 [])) ([.box Y65da (.v Y65da a0) true, .row Yf0bc u true]) := by
 unfold qu at h
 obtain ⟨u1, h2, h⟩ := andThen_ok h qi_ok
 cases h
 exact env.fn can17 [cI h2 [] [] [] true] [.sel [0, 1]] (.c h2 .n)
theorem can18 : CanF prog 18 f18 := ⟨func18, _, func18, by kernel_rfl, by kernel_rfl⟩
def qv_1_in (x0 : List (Tf0bc)) (x1 : List (Tf0bc)) (x2 : Int) : St := ⟨[(0, (.v (.slice Yf0bc) x0)), (1, (.v (.slice Yf0bc) x1)), (5, (.v (.int .i64) x2))], [], 26, 0⟩
def qv_1_ex (o : (Bool) ⊕ (Unit)) : Exit := match (generalizing := false) o with | (.inl o) => .ret | (.inr o) => (.exit 0)
def qv_1_st (o : (Bool) ⊕ (Unit)) : St := match (generalizing := false) o with | (.inl o) => ⟨[(4, (.v .bool o))], [], 26, 0⟩ | (.inr o) => ⟨[], [], 26, 0⟩
theorem qv_1_body {x0 x1 x2 r} (h : qv_1_step x0 x1 x2 = some r) : J09 prog (J0z (J0q f18) [1, 1, 0, 1, 0, 0]) x2 r (fun s => qv_1_in x0 x1 s) qv_1_ex qv_1_st := by
 unfold qv_1_step at h
 rcases J2w h with ⟨h3, h⟩ | ⟨h3, h⟩
 ·obtain ⟨h4, h⟩ := J4b h
  obtain ⟨h5, h⟩ := J4b h
  let i1 : List It := [b1, .pre p66]
  rcases J2w h with ⟨h6, h⟩ | ⟨h6, h⟩
  ·cases h
   exact .out (by intro e; simp [qv_1_ex] at e) (env.cd (i1 ++ [b1, .sel [4] []]) (.c h3 (.c h4 (.c h5 (.c h6 .n)))))
  ·cases h
   exact .next (env.cd (i1 ++ [b0, .sel [0, 1, 5] []]) (.c h3 (.c h4 (.c h5 (.c h6 .n)))))
 ·cases h
  exact .out (by intro e; simp [qv_1_ex] at e) (env.cd [b0, .sel [] []] (.c h3 .n))
theorem qv_1_ok {x0 x1 x2 o} (h : qv_1 x0 x1 x2 = some o) : J03 prog (J0z (J0q f18) [1, 1, 0, 1, 0]) (qv_1_in x0 x1 x2) (qv_1_ex o) (qv_1_st o) := J06.of_stepR (fun _ _ h => qv_1_body h) _ _ h
theorem qv_ok {a0 a1 u} (h : qv a0 a1 = some u) : CallC prog 18 [(.v (.slice Yf0bc) a0), (.v (.slice Yf0bc) a1)] [] ((.v .bool u)) ([]) := by
 unfold qv at h
 rcases J2w h with ⟨h1, h⟩ | ⟨h1, h⟩
 ·cases h
  exact env.fn can18 [b1] s0 (.c h1 .n)
 ·obtain ⟨o7, h8, h⟩ := andThen_ok h qv_1_ok
  rcases o7 with o9 | o10
  ·cases h
   exact env.fn can18 [b0, .dive, .sel [0, 1, 5] [], pI h8] s0 (.c h1 (.c h8 .n))
  ·cases h
   exact env.fn can18 [b0, .dive, .sel [0, 1, 5] [], pI h8] s0 (.c h1 (.c h8 .n))
theorem can19 : CanF prog 19 f19 := ⟨func19, _, func19, by kernel_rfl, by kernel_rfl⟩
theorem qp_ok {a0 u} (h : qp a0 = some u) : CallC prog 19 [(.ptr 0 [])] [.box Y65da (.v Y65da a0) true] ((.v .bool u)) ([.box Y65da (.v Y65da a0) true]) := by
 unfold qp at h
 cases h
 exact env.fn can19 [] s1 .n
theorem can21 : CanF prog 21 f21 := ⟨func21, _, func21, by kernel_rfl, by kernel_rfl⟩
def qy_1_in (x0 : Int) (x1 : List (Tf0bc)) (x2 : Int) (x3 : Int) (x4 : T65da) (x5 : B8) : St := ⟨[(1, (.v (.int .i64) x0)), (4, (.ptr 1 [])), (11, (.v (.slice Yf0bc) x1)), (12, (.v (.int .i64) x2)), (13, (.v (.int .i64) x3))], [.box Y65da (.v Y65da x4) true, .box Yh (.v Yh x5) true], 25, 1⟩
def qy_1_ex (o : (Bool × (T65da) × B8) ⊕ ((T65da) × B8)) : Exit := match (generalizing := false) o with | (.inl o) => .ret | (.inr o) => (.exit 0)
def qy_1_st (o : (Bool × (T65da) × B8) ⊕ ((T65da) × B8)) : St := match (generalizing := false) o with | (.inl o) => ⟨[(4, (.ptr 1 [])), (5, (.v .bool o.1))], [.box Y65da (.v Y65da o.2.1) true, .box Yh (.v Yh o.2.2) true], 25, 1⟩ | (.inr o) => ⟨[(4, (.ptr 1 []))], [.box Y65da (.v Y65da o.1) true, .box Yh (.v Yh o.2) true], 25, 1⟩
theorem qy_1_body {x0 x1 x2 x3 x4 x5 r} (h : qy_1_step x0 x1 x2 x3 x4 x5 = some r) : J09 prog (J0z (J0q f21) [1, 0, 1, 0, 0]) x3 r (fun s => qy_1_in x0 x1 x2 s x4 x5) qy_1_ex qy_1_st := by
 unfold qy_1_step at h
 rcases J2w h with ⟨h2, h⟩ | ⟨h2, h⟩
 ·obtain ⟨h3, h⟩ := J4b h
  rcases J2w h with ⟨h4, h⟩ | ⟨h4, h⟩
  ·cases h
   exact .out (by intro e; simp [qy_1_ex] at e) (env.cd [b1, b1, .sel [4, 5] [0, 1]] (.c h2 (.c h3 (.c h4 .n))))
  ·cases h
   exact .next (env.cd [b1, b0, .sel [1, 4, 11, 12, 13] [0, 1]] (.c h2 (.c h3 (.c h4 .n))))
 ·cases h
  exact .out (by intro e; simp [qy_1_ex] at e) (env.cd [b0, .sel [4] [0, 1]] (.c h2 .n))
theorem qy_1_ok {x0 x1 x2 x3 x4 x5 o} (h : qy_1 x0 x1 x2 x3 x4 x5 = some o) : J03 prog (J0z (J0q f21) [1, 0, 1, 0]) (qy_1_in x0 x1 x2 x3 x4 x5) (qy_1_ex o) (qy_1_st o) := J06.of_stepR (fun _ _ h => qy_1_body h) _ _ h
theorem qy_ok {a0 a1 u} (h : qy a0 a1 = some u) : CallC prog 21 [(.ptr 0 []), (.v (.int .i64) a0)] [.box Y65da (.v Y65da a1) true] ((.tup (.v Yh u.1) (.tup (.v .bool u.2.1) .tnil))) ([.box Y65da (.v Y65da u.2.2) true]) := by
 unfold qy at h
 obtain ⟨o5, h6, h⟩ := andThen_ok h qy_1_ok
 rcases o5 with o7 | o8
 ·cases h
  exact env.fn can21 [.dive, .sel [1, 4, 11, 12, 13] [0, 1], pI h6] s1 (.c h6 .n)
 ·cases h
  exact env.fn can21 [.dive, .sel [1, 4, 11, 12, 13] [0, 1], pI h6] s1 (.c h6 .n)
def qc_1_in (x0 : Int) (x1 : Int) (x2 : Int) (x3 : List (Tedcc)) (x4 : List (List (T18c3))) (x5 : Unit) (x6 : List (B8)) (x7 : List (List (B8))) (x8 : List (B8)) (x9 : List (T484d)) (x10 : Tf0bc) (x11 : List (T484d)) (x12 : Unit) (x13 : List (T8f72)) (x14 : List (T484d)) (x15 : B8) : St := ⟨[(0, (.ptr 0 [])), (5, (.v (.int .i64) x0)), (6, (.ptr 5 [])), (7, (.ptr 8 [])), (103, (.own 1 [])), (104, (.v (.int .i64) x1)), (105, (.v (.int .i64) x2))], [.box Y6488 (.node (.own 1 []) (.node (.own 2 []) (.node (.own 3 []) (.node .nil (.node (.own 4 []) (.node (.v (.slice Yedcc) x3) (.node (.v (.slice (.slice Y18c3)) x4) (.v .unit x5)))))))) true, .row Yh x6 true, .row Ybb x7 true, .row .str x8 true, .row Y484d x9 true, .box Yedcc (.node (.v Yf0bc x10) (.node (.own 6 []) (.node (.v (.slice Y484d) x11) (.node (.own 7 []) (.v .unit x12))))) true, .row Y8f72 x13 true, .row Y484d x14 true, .box Yh (.v Yh x15) false], 165, 5⟩
def qc_1_ex (o : Int × (List (Tedcc)) × (List (List (T18c3))) × Unit × List (B8) × List (List (B8)) × List (B8) × (List (T484d)) × (Tf0bc) × (List (T484d)) × Unit × (List (T8f72)) × List (T484d)) : Exit := (.exit 0)
def qc_1_st (o : Int × (List (Tedcc)) × (List (List (T18c3))) × Unit × List (B8) × List (List (B8)) × List (B8) × (List (T484d)) × (Tf0bc) × (List (T484d)) × Unit × (List (T8f72)) × List (T484d)) : St := ⟨[(0, (.ptr 0 [])), (5, (.v (.int .i64) o.1)), (6, (.ptr 5 []))], [.box Y6488 (.node (.own 1 []) (.node (.own 2 []) (.node (.own 3 []) (.node .nil (.node (.own 4 []) (.node (.v (.slice Yedcc) o.2.1) (.node (.v (.slice (.slice Y18c3)) o.2.2.1) (.v .unit o.2.2.2.1)))))))) true, .row Yh o.2.2.2.2.1 true, .row Ybb o.2.2.2.2.2.1 true, .row .str o.2.2.2.2.2.2.1 true, .row Y484d o.2.2.2.2.2.2.2.1 true, .box Yedcc (.node (.v Yf0bc o.2.2.2.2.2.2.2.2.1) (.node (.own 6 []) (.node (.v (.slice Y484d) o.2.2.2.2.2.2.2.2.2.1) (.node (.own 7 []) (.v .unit o.2.2.2.2.2.2.2.2.2.2.1))))) true, .row Y8f72 o.2.2.2.2.2.2.2.2.2.2.2.1 true, .row Y484d o.2.2.2.2.2.2.2.2.2.2.2.2 true], 165, 5⟩
theorem qc_1_body {x0 x1 x2 x3 x4 x5 x6 x7 x8 x9 x10 x11 x12 x13 x14 x15 r} (h : qc_1_step x0 x1 x2 x3 x4 x5 x6 x7 x8 x9 x10 x11 x12 x13 x14 x15 = some r) : J09 prog (J0z (J0q f8) [1, 1, 1, 1, 1, 1, 1, 1, 1, 0, 1, 0, 0]) (x2, x13) r (fun s => qc_1_in x0 x1 s.1 x3 x4 x5 x6 x7 x8 x9 x10 x11 x12 s.2 x14 x15) qc_1_ex qc_1_st := by
 unfold qc_1_step at h
 rcases J2w h with ⟨h19, h⟩ | ⟨h19, h⟩
 ·obtain ⟨h20, h⟩ := J4b h
  obtain ⟨h21, h⟩ := J4b h
  obtain ⟨h22, h⟩ := J4b h
  obtain ⟨u23, h24, h⟩ := andThen_ok h q2r_ok
  obtain ⟨h25, h⟩ := J4b h
  cases h
  exact .next (env.cd [b1, .pre p28, b0, .asis, cI h24 [] [] [] false, .asis, .sel [0, 5, 6, 7, 103, 104, 105] [0, 1, 2, 3, 4, 5, 11, 7, 8]] (.c h19 (.c h20 (.c h21 (.c h22 (.c rn (.c h24 (.c h25 .n))))))))
 ·cases h
  exact .out (by intro e; simp [qc_1_ex] at e) (env.cd [b0, .sel [0, 5, 6] [0, 1, 2, 3, 4, 5, 6, 7]] (.c h19 .n))
theorem qc_1_ok {x0 x1 x2 x3 x4 x5 x6 x7 x8 x9 x10 x11 x12 x13 x14 x15 o} (h : qc_1 x0 x1 x2 x3 x4 x5 x6 x7 x8 x9 x10 x11 x12 x13 x14 x15 = some o) : J03 prog (J0z (J0q f8) [1, 1, 1, 1, 1, 1, 1, 1, 1, 0, 1, 0]) (qc_1_in x0 x1 x2 x3 x4 x5 x6 x7 x8 x9 x10 x11 x12 x13 x14 x15) (qc_1_ex o) (qc_1_st o) := J06.of_stepR (fun _ _ h => qc_1_body h) _ _ h
def qc_2_in (x0 : Int) (x1 : Int) (x2 : Int) (x3 : List (Tedcc)) (x4 : List (List (T18c3))) (x5 : Unit) (x6 : List (B8)) (x7 : List (List (B8))) (x8 : List (B8)) (x9 : List (T484d)) (x10 : Tf0bc) (x11 : Unit) (x12 : List (T8f72)) (x13 : List (T484d)) (x14 : B8) : St := ⟨[(0, (.ptr 0 [])), (5, (.v (.int .i64) x0)), (6, (.ptr 5 [])), (7, (.ptr 8 [])), (103, (.own 1 [])), (104, (.v (.int .i64) x1)), (105, (.v (.int .i64) x2))], [.box Y6488 (.node (.own 1 []) (.node (.own 2 []) (.node (.own 3 []) (.node .nil (.node (.own 4 []) (.node (.v (.slice Yedcc) x3) (.node (.v (.slice (.slice Y18c3)) x4) (.v .unit x5)))))))) true, .row Yh x6 true, .row Ybb x7 true, .row .str x8 true, .row Y484d x9 true, .box Yedcc (.node (.v Yf0bc x10) (.node (.own 6 []) (.node (.own 7 []) (.node (.own 7 []) (.v .unit x11))))) true, .row Y8f72 x12 true, .row Y484d x13 true, .box Yh (.v Yh x14) false], 165, 5⟩
def qc_2_ex (o : Int × (List (Tedcc)) × (List (List (T18c3))) × Unit × List (B8) × List (List (B8)) × List (B8) × (List (T484d)) × (Tf0bc) × Unit × (List (T8f72)) × List (T484d)) : Exit := (.exit 0)
def qc_2_st (o : Int × (List (Tedcc)) × (List (List (T18c3))) × Unit × List (B8) × List (List (B8)) × List (B8) × (List (T484d)) × (Tf0bc) × Unit × (List (T8f72)) × List (T484d)) : St := ⟨[(0, (.ptr 0 [])), (5, (.v (.int .i64) o.1)), (6, (.ptr 5 []))], [.box Y6488 (.node (.own 1 []) (.node (.own 2 []) (.node (.own 3 []) (.node .nil (.node (.own 4 []) (.node (.v (.slice Yedcc) o.2.1) (.node (.v (.slice (.slice Y18c3)) o.2.2.1) (.v .unit o.2.2.2.1)))))))) true, .row Yh o.2.2.2.2.1 true, .row Ybb o.2.2.2.2.2.1 true, .row .str o.2.2.2.2.2.2.1 true, .row Y484d o.2.2.2.2.2.2.2.1 true, .box Yedcc (.node (.v Yf0bc o.2.2.2.2.2.2.2.2.1) (.node (.own 6 []) (.node (.own 7 []) (.node (.own 7 []) (.v .unit o.2.2.2.2.2.2.2.2.2.1))))) true, .row Y8f72 o.2.2.2.2.2.2.2.2.2.2.1 true, .row Y484d o.2.2.2.2.2.2.2.2.2.2.2 true], 165, 5⟩
theorem qc_2_body {x0 x1 x2 x3 x4 x5 x6 x7 x8 x9 x10 x11 x12 x13 x14 r} (h : qc_2_step x0 x1 x2 x3 x4 x5 x6 x7 x8 x9 x10 x11 x12 x13 x14 = some r) : J09 prog (J0z (J0q f8) [1, 1, 1, 1, 1, 1, 1, 1, 1, 0, 1, 0, 0]) (x2, x12) r (fun s => qc_2_in x0 x1 s.1 x3 x4 x5 x6 x7 x8 x9 x10 x11 s.2 x13 x14) qc_2_ex qc_2_st := by
 unfold qc_2_step at h
 rcases J2w h with ⟨h42, h⟩ | ⟨h42, h⟩
 ·obtain ⟨h43, h⟩ := J4b h
  obtain ⟨h44, h⟩ := J4b h
  obtain ⟨h45, h⟩ := J4b h
  obtain ⟨u46, h47, h⟩ := andThen_ok h q2r_ok
  obtain ⟨h48, h⟩ := J4b h
  cases h
  exact .next (env.cd [b1, .pre p28, b0, .asis, cI h47 [] [] [] false, .asis, .sel [0, 5, 6, 7, 103, 104, 105] [0, 1, 2, 3, 4, 5, 11, 7, 8]] (.c h42 (.c h43 (.c h44 (.c h45 (.c rn (.c h47 (.c h48 .n))))))))
 ·cases h
  exact .out (by intro e; simp [qc_2_ex] at e) (env.cd [b0, .sel [0, 5, 6] [0, 1, 2, 3, 4, 5, 6, 7]] (.c h42 .n))
theorem qc_2_ok {x0 x1 x2 x3 x4 x5 x6 x7 x8 x9 x10 x11 x12 x13 x14 o} (h : qc_2 x0 x1 x2 x3 x4 x5 x6 x7 x8 x9 x10 x11 x12 x13 x14 = some o) : J03 prog (J0z (J0q f8) [1, 1, 1, 1, 1, 1, 1, 1, 1, 0, 1, 0]) (qc_2_in x0 x1 x2 x3 x4 x5 x6 x7 x8 x9 x10 x11 x12 x13 x14) (qc_2_ex o) (qc_2_st o) := J06.of_stepR (fun _ _ h => qc_2_body h) _ _ h
theorem qc_ok {a0 a1 a2 a3 a4 a5 a6 a7 u} (h : qc a0 a1 a2 a3 a4 a5 a6 a7 = some u) : CallC prog 8 [(.ptr 0 []), (.v (.int .i64) a0)] [.box Y6488 (.node (.own 1 []) (.node (.own 2 []) (.node (.own 3 []) (.node .nil (.node (.own 4 []) (.node (.v (.slice Yedcc) a1) (.node (.v (.slice (.slice Y18c3)) a2) (.v .unit a3)))))))) true, .row Yh a4 true, .row Ybb a5 true, .row .str a6 true, .row Y484d a7 true] ((.v (.int .i64) u.1)) ([.box Y6488 (.node (.own 1 []) (.node (.own 2 []) (.node (.own 3 []) (.node .nil (.node (.own 4 []) (.node (.v (.slice Yedcc) u.2.1) (.node (.v (.slice (.slice Y18c3)) u.2.2.1) (.v .unit u.2.2.2.1)))))))) true, .row Yh u.2.2.2.2.1 true, .row Ybb u.2.2.2.2.2.1 true, .row .str u.2.2.2.2.2.2.1 true, .row Y484d u.2.2.2.2.2.2.2 true]) := by
 unfold qc at h
 rcases J2w h with ⟨h1, h⟩ | ⟨h1, h⟩
 ·cases h
  exact env.fn can8 [b1, b1, b1, b1, b1, b1, b1, b1, b1, b1, b1, b1] [.sel [0, 1, 2, 3, 4]] (.c h1 (.c h1 (.c h1 (.c r1 (.c r1 (.c r1 (.c r1 (.c r1 (.c r1 (.c r1 (.c r1 (.c r1 .n))))))))))))
 ·let i1 : List It := [b0, b0, b0]
  have e2 := (AllP.c h1 (AllP.c h1 (AllP.c h1 AllP.n)))
  rcases J2w h with ⟨h2, h⟩ | ⟨h2, h⟩
  ·cases h
   exact env.fn can8 (i1 ++ [b1, b1, b1, b1, b1, b1, b1, b1, b1]) [.sel [0, 1, 2, 3, 4]] (e2.app (.c h2 (.c h2 (.c h2 (.c r1 (.c r1 (.c r1 (.c r1 (.c r1 (.c r1 .n))))))))))
  ·have e3 := e2.app (.c h2 (.c h2 (.c h2 .n)))
   rcases J2w h with ⟨h3, h⟩ | ⟨h3, h⟩
   ·cases h
    exact env.fn can8 (i1 ++ [b0, b0, b0, b1, b1, b1, b1, b1, b1]) [.sel [0, 1, 2, 3, 4]] (e3.app (.c h3 (.c h3 (.c h3 (.c h3 (.c h3 (.c r1 .n)))))))
   ·let i4 : List It := i1 ++ [b0, b0, b0, b0, b0, b0]
    rcases J2w h with ⟨h4, h⟩ | ⟨h4, h⟩
    ·obtain ⟨h5, h⟩ := J4b h
     let i5 : List It := i4 ++ [b1, b1, b1, b1, b1, b1, b1, b1, b1, b1, b1, b1, b0, b1, b0]
     have e6 := e3.app (.c h3 (.c h3 (.c h3 (.c h4 (.c h4 (.c h4 (.c h4 (.c h4 (.c h4 (.c h4 (.c h4 (.c h5 (.c h4 (.c h4 (.c h4 (.c h4 (.c h3 (.c h4 (.c h3 .n)))))))))))))))))))
     rcases J2w h with ⟨h6, h⟩ | ⟨h6, h⟩
     ·cases h
      exact env.fn can8 (i5 ++ [b1]) [.sel [0, 1, 2, 3, 4]] (e6.app (.c h6 .n))
     ·obtain ⟨h7, h⟩ := J4b h
      obtain ⟨u8, h9, h⟩ := andThen_ok h q13_ok
      obtain ⟨u10, h11, h⟩ := andThen_ok h qx_ok
      obtain ⟨u12, h13, h⟩ := andThen_ok h q17_ok
      obtain ⟨u14, h15, h⟩ := andThen_ok h q17_ok
      obtain ⟨u16, h17, h⟩ := andThen_ok h qx_ok
      obtain ⟨o26, h27, h⟩ := andThen_ok h qc_1_ok
      obtain ⟨h28, h⟩ := J4b h
      obtain ⟨h29, h⟩ := J4b h
      obtain ⟨h30, h⟩ := J4b h
      obtain ⟨h31, h⟩ := J4b h
      cases h
      exact env.fn can8 (i5 ++ [b0, .asis, cI h9 [(some Y18c3)] [] [] true, .asis, b1, .pre p29, .asis, cI h11 [] [] [] true, .pre p30, .asis, cI h13 [] [] [] true, .asis, cI h15 [] [] [0] true, cI h17 [] [] [] true, .dive, .J5j 7 [.fld 1], .freeze [8], .sel [0, 5, 6, 7, 103, 104, 105] [0, 1, 2, 3, 4, 7, 9, 6, 8], pI h27, .pre p31, .pre p32]) [.J6w 0 [.fld 5], .J6w 0 [.fld 6], .sel [0, 1, 2, 3, 4]] (e6.app (.c h6 (.c h7 (.c h9 (.c h4 (.c h5 (.c h5 (.c rn (.c h11 (.c rn (.c h13 (.c (rfl : ([.row Y484d (([] : List (T484d)) ++ a7) true] : List AObj) = [.row Y484d (([] : List (T484d)) ++ a7) true]) (.c h15 (.c h17 (.c h27 (.c h28 (.c h29 (.c h30 (.c h31 .n)))))))))))))))))))
    ·obtain ⟨h32, h⟩ := J4b h
     obtain ⟨u33, h34, h⟩ := andThen_ok h q13_ok
     obtain ⟨u35, h36, h⟩ := andThen_ok h q17_ok
     obtain ⟨u37, h38, h⟩ := andThen_ok h q17_ok
     obtain ⟨u39, h40, h⟩ := andThen_ok h qx_ok
     obtain ⟨o49, h50, h⟩ := andThen_ok h qc_2_ok
     obtain ⟨h51, h⟩ := J4b h
     obtain ⟨h52, h⟩ := J4b h
     obtain ⟨h53, h⟩ := J4b h
     obtain ⟨h54, h⟩ := J4b h
     cases h
     exact env.fn can8 (i4 ++ [b0, b0, b0, b0, b0, b0, b0, b0, b0, b0, b0, b0, b0, b0, b0, b0, .asis, cI h34 [(some Y18c3)] [] [] true, .asis, b0, .pre p30, .asis, cI h36 [] [] [0] true, .asis, cI h38 [] [] [0] true, cI h40 [] [] [] true, .dive, .J5j 7 [.fld 1], .freeze [8], .sel [0, 5, 6, 7, 103, 104, 105] [0, 1, 2, 3, 4, 7, 9, 6, 8], pI h50, .pre p31, .pre p32]) [.J6w 0 [.fld 5], .J6w 0 [.fld 6], .sel [0, 1, 2, 3, 4]] (e3.app (.c h3 (.c h3 (.c h3 (.c h4 (.c h4 (.c h4 (.c h4 (.c h4 (.c h4 (.c h4 (.c h4 (.c h4 (.c h4 (.c h4 (.c h4 (.c h3 (.c h4 (.c h3 (.c r0 (.c h32 (.c h34 (.c h4 (.c (rfl : ([.row Y484d (([] : List (T484d)) ++ a7) true] : List AObj) = [.row Y484d (([] : List (T484d)) ++ a7) true]) (.c h36 (.c (rfl : ([.row Y484d (([] : List (T484d)) ++ a7) true] : List AObj) = [.row Y484d (([] : List (T484d)) ++ a7) true]) (.c h38 (.c h40 (.c h50 (.c h51 (.c h52 (.c h53 (.c h54 .n)))))))))))))))))))))))))))))))))
theorem can22 : CanF prog 22 f22 := ⟨func22, _, func22, by kernel_rfl, by kernel_rfl⟩
def qz_1_in (x0 : Int) (x1 : List (Tedcc)) (x2 : List (List (T18c3))) (x3 : Unit) (x4 : List (B8)) (x5 : List (List (B8))) (x6 : List (B8)) (x7 : List (T484d)) : St := ⟨[(1, (.ptr 0 [])), (12, (.v (.int .i64) x0))], [.box Y6488 (.node (.own 1 []) (.node (.own 2 []) (.node (.own 3 []) (.node .nil (.node (.own 4 []) (.node (.v (.slice Yedcc) x1) (.node (.v (.slice (.slice Y18c3)) x2) (.v .unit x3)))))))) true, .row Yh x4 true, .row Ybb x5 true, .row .str x6 true, .row Y484d x7 true], 86, 0⟩
def qz_1_ex (o : (List (Tedcc)) × (List (List (T18c3))) × Unit × List (B8) × List (List (B8)) × List (B8) × List (T484d)) : Exit := (.exit 0)
def qz_1_st (o : (List (Tedcc)) × (List (List (T18c3))) × Unit × List (B8) × List (List (B8)) × List (B8) × List (T484d)) : St := ⟨[(1, (.ptr 0 []))], [.box Y6488 (.node (.own 1 []) (.node (.own 2 []) (.node (.own 3 []) (.node .nil (.node (.own 4 []) (.node (.v (.slice Yedcc) o.1) (.node (.v (.slice (.slice Y18c3)) o.2.1) (.v .unit o.2.2.1)))))))) true, .row Yh o.2.2.2.1 true, .row Ybb o.2.2.2.2.1 true, .row .str o.2.2.2.2.2.1 true, .row Y484d o.2.2.2.2.2.2 true], 86, 0⟩
theorem qz_1_body {x0 x1 x2 x3 x4 x5 x6 x7 r} (h : qz_1_step x0 x1 x2 x3 x4 x5 x6 x7 = some r) : J09 prog (J0z (J0q f22) [1, 1, 0, 1, 0, 0]) (x0, x1, x2, x3, x4, x5, x6, x7) r (fun s => qz_1_in s.1 s.2.1 s.2.2.1 s.2.2.2.1 s.2.2.2.2.1 s.2.2.2.2.2.1 s.2.2.2.2.2.2.1 s.2.2.2.2.2.2.2) qz_1_ex qz_1_st := by
 unfold qz_1_step at h
 rcases J2w h with ⟨h4, h⟩ | ⟨h4, h⟩
 ·obtain ⟨u5, h6, h⟩ := andThen_ok h qc_ok
  cases h
  exact .next (env.cd [b1, cI h6 [] [0, 1, 2, 3, 4] [] false, .sel [1, 12] [0, 1, 2, 3, 4]] (.c h4 (.c h6 .n)))
 ·cases h
  exact .out (by intro e; simp [qz_1_ex] at e) (env.cd [b0, .sel [1] [0, 1, 2, 3, 4]] (.c h4 .n))
theorem qz_1_ok {x0 x1 x2 x3 x4 x5 x6 x7 o} (h : qz_1 x0 x1 x2 x3 x4 x5 x6 x7 = some o) : J03 prog (J0z (J0q f22) [1, 1, 0, 1, 0]) (qz_1_in x0 x1 x2 x3 x4 x5 x6 x7) (qz_1_ex o) (qz_1_st o) := J06.of_stepR (fun _ _ h => qz_1_body h) _ _ h
theorem qz_ok {u} (h : qz  = some u) : CallC prog 22 [] [] ((.v .bool u)) ([]) := by
 unfold qz at h
 obtain ⟨u1, h2, h⟩ := andThen_ok h q1v_ok
 obtain ⟨o7, h8, h⟩ := andThen_ok h qz_1_ok
 obtain ⟨h9, h⟩ := J4b h
 obtain ⟨u10, h11, h⟩ := andThen_ok h q3s_ok
 rcases u10 with u12 | u13
 ·cases h
 ·rcases J2w h with ⟨h14, h⟩ | ⟨h14, h⟩
  ·cases h
  ·obtain ⟨h15, h⟩ := J4b h
   obtain ⟨u16, h17, h⟩ := andThen_ok h qq_ok
   obtain ⟨u18, h19, h⟩ := andThen_ok h qq_ok
   obtain ⟨h20, h⟩ := J4b h
   obtain ⟨u21, h22, h⟩ := andThen_ok h q1m_ok
   obtain ⟨u23, h24, h⟩ := andThen_ok h qf_ok
   rcases J2w h with ⟨h25, h⟩ | ⟨h25, h⟩
   ·rcases J2w h with ⟨h26, h⟩ | ⟨h26, h⟩
    ·rcases J2w h with ⟨h27, h⟩ | ⟨h27, h⟩
     ·obtain ⟨u28, h29, h⟩ := andThen_ok h qp_ok
      rcases J2w h with ⟨h30, h⟩ | ⟨h30, h⟩
      ·obtain ⟨u31, h32, h⟩ := andThen_ok h qq_ok
       cases h
       exact env.fn can22 [cI h2 [] [] [0] false, .dive, .J6w 1 [.fld 5], .J6w 1 [.fld 6], .sel [1, 12] [1, 2, 3, 4, 5], pI h8, .pre p67, cI h11 [] [] [] false, b0, b0, b0, b0, .pre p68, cI h17 [] [0] [] false, cI h19 [] [0] [] false, cI h22 [] [] [6] false, .pre p69, cI h24 [] [0] [] false, b1, b1, b1, b1, b1, b1, b1, b1, cI h29 [] [5] [] false, b1, b1, b1, b1, b1, b1, cI h32 [] [5] [] false, b1, b1] s0 (.c h2 (.c h8 (.c h9 (.c h9 (.c h11 (.c r0 (.c r0 (.c r0 (.c h14 (.c h15 (.c h17 (.c h15 (.c h19 (.c h20 (.c h22 (.c h20 (.c h24 (.c h25 (.c h25 (.c h25 (.c h26 (.c h26 (.c h26 (.c h27 (.c h27 (.c h29 (.c h27 (.c h30 (.c h30 (.c h30 (.c h20 (.c h30 (.c h30 (.c h32 (.c h30 (.c h30 .n))))))))))))))))))))))))))))))))))))
      ·cases h
     ·cases h
    ·cases h
   ·cases h
end
end Go.Proofs.YtnckmagemlajeaaGreat.lightPlays
