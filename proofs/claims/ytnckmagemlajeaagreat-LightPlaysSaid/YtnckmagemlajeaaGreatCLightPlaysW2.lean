/-
  The functions, walked through: each call comes to what the pure text says.
-/
import Derived.Test.YtnckmagemlajeaaGreatProg
import Derived.Test.YtnckmagemlajeaaGreatAxC
import Derived.Test.YtnckmagemlajeaaGreatCLightPlaysP
import Derived.Test.YtnckmagemlajeaaGreatCLightPlaysW1
namespace Go.Proofs.YtnckmagemlajeaaGreat.lightPlays
open Go.Ax Go.Ax.V Go.Proofs.Tryz
set_option maxRecDepth 100000
set_option maxHeartbeats 4000000
set_option linter.unusedVariables false
noncomputable section
theorem can3 : CanF prog 3 f3 := ⟨func3, _, func3, by kernel_rfl, by kernel_rfl⟩
def qt_1_in (x0 : List Int) (x1 : List (T1a67)) (x2 : Int) (x3 : List (Tf321)) (x4 : Int) (x5 : Int) (x6 : List (T18c3)) (x7 : List (T484d)) (x8 : List (Tedcc)) (x9 : List (List (T18c3))) (x10 : Unit) (x11 : List (B8)) (x12 : List (List (B8))) (x13 : List (B8)) : St := ⟨[(1, (.v (.slice (.int .i64)) x0)), (2, (.v (.slice Y1a67) x1)), (3, (.v (.int .i64) x2)), (4, (.v (.slice Yf321) x3)), (11, (.ptr 0 [])), (12, (.v (.int .i64) x4)), (37, (.v (.int .i64) x5))], [.box Y6488 (.node (.own 1 []) (.node (.own 2 []) (.node (.own 3 []) (.node (.v (.slice Y18c3) x6) (.node (.v (.slice Y484d) x7) (.node (.v (.slice Yedcc) x8) (.node (.v (.slice (.slice Y18c3)) x9) (.v .unit x10)))))))) true, .row Yh x11 true, .row Ybb x12 true, .row .str x13 true], 265, 0⟩
def qt_1_ex (o : Int × (List (Tf321)) × Int × (List (T18c3)) × (List (T484d)) × (List (Tedcc)) × (List (List (T18c3))) × Unit × List (B8) × List (List (B8)) × List (B8)) : Exit := (.exit 0)
def qt_1_st (o : Int × (List (Tf321)) × Int × (List (T18c3)) × (List (T484d)) × (List (Tedcc)) × (List (List (T18c3))) × Unit × List (B8) × List (List (B8)) × List (B8)) : St := ⟨[(3, (.v (.int .i64) o.1)), (4, (.v (.slice Yf321) o.2.1)), (11, (.ptr 0 [])), (12, (.v (.int .i64) o.2.2.1))], [.box Y6488 (.node (.own 1 []) (.node (.own 2 []) (.node (.own 3 []) (.node (.v (.slice Y18c3) o.2.2.2.1) (.node (.v (.slice Y484d) o.2.2.2.2.1) (.node (.v (.slice Yedcc) o.2.2.2.2.2.1) (.node (.v (.slice (.slice Y18c3)) o.2.2.2.2.2.2.1) (.v .unit o.2.2.2.2.2.2.2.1)))))))) true, .row Yh o.2.2.2.2.2.2.2.2.1 true, .row Ybb o.2.2.2.2.2.2.2.2.2.1 true, .row .str o.2.2.2.2.2.2.2.2.2.2 true], 265, 0⟩
theorem qt_1_body {x0 x1 x2 x3 x4 x5 x6 x7 x8 x9 x10 x11 x12 x13 r} (h : qt_1_step x0 x1 x2 x3 x4 x5 x6 x7 x8 x9 x10 x11 x12 x13 = some r) : J09 prog (J0z (J0q f3) [1, 1, 1, 0, 1, 0, 0]) (x4, x5, x6, x7, x8, x9, x10, x11, x12, x13) r (fun s => qt_1_in x0 x1 x2 x3 s.1 s.2.1 s.2.2.1 s.2.2.2.1 s.2.2.2.2.1 s.2.2.2.2.2.1 s.2.2.2.2.2.2.1 s.2.2.2.2.2.2.2.1 s.2.2.2.2.2.2.2.2.1 s.2.2.2.2.2.2.2.2.2) qt_1_ex qt_1_st := by
 unfold qt_1_step at h
 rcases J2w h with ⟨h4, h⟩ | ⟨h4, h⟩
 ·rcases J2w h with ⟨h5, h⟩ | ⟨h5, h⟩
  ·obtain ⟨h6, h⟩ := J4b h
   obtain ⟨u7, h8, h⟩ := andThen_ok h q22_ok
   obtain ⟨u9, h10, h⟩ := andThen_ok h qk_ok
   obtain ⟨u11, h12, h⟩ := andThen_ok h q2b_ok
   obtain ⟨u13, h14, h⟩ := andThen_ok h qd_ok
   cases h
   exact .next (env.cd [b1, b1, cI h8 [] [] [] true, cI h10 [] [0, 1, 2, 3] [] false, cI h12 [] [] [] true, cI h14 [] [0, 1, 2, 3] [] false, .sel [1, 2, 3, 4, 11, 12, 37] [0, 1, 2, 3]] (.c h4 (.c h5 (.c h6 (.c h8 (.c h10 (.c h12 (.c (of_decide_eq_true (p := ((20 : Int) ≠ 0)) (by kernel_rfl)) (.c h14 .n)))))))))
  ·obtain ⟨u15, h16, h⟩ := andThen_ok h q2b_ok
   obtain ⟨u17, h18, h⟩ := andThen_ok h qd_ok
   cases h
   exact .next (env.cd [b1, b0, cI h16 [] [] [] true, cI h18 [] [0, 1, 2, 3] [] false, .sel [1, 2, 3, 4, 11, 12, 37] [0, 1, 2, 3]] (.c h4 (.c h5 (.c h16 (.c (of_decide_eq_true (p := ((20 : Int) ≠ 0)) (by kernel_rfl)) (.c h18 .n))))))
 ·cases h
  exact .out (by intro e; simp [qt_1_ex] at e) (env.cd [b0, .sel [3, 4, 11, 12] [0, 1, 2, 3]] (.c h4 .n))
theorem qt_1_ok {x0 x1 x2 x3 x4 x5 x6 x7 x8 x9 x10 x11 x12 x13 o} (h : qt_1 x0 x1 x2 x3 x4 x5 x6 x7 x8 x9 x10 x11 x12 x13 = some o) : J03 prog (J0z (J0q f3) [1, 1, 1, 0, 1, 0]) (qt_1_in x0 x1 x2 x3 x4 x5 x6 x7 x8 x9 x10 x11 x12 x13) (qt_1_ex o) (qt_1_st o) := J06.of_stepR (fun _ _ h => qt_1_body h) _ _ h
theorem qt_2_ok {x0 x1 x2 x3 x4 x5 x6 x7 x8 x9 x10 x11 x12 x13 x14 x15 x16 o} (h : qt_2 x0 x1 x2 x3 x4 x5 x6 x7 x8 x9 x10 x11 x12 x13 x14 x15 x16 = some o) : J03 prog (J0z (J0q f3) [1, 1, 1, 1, 1, 1, 1, 1, 1, 0, 1, 0, 0, 1, 0, 0, 1, 1, 1, 1, 0, 1]) (⟨[(4, (.v (.slice Yf321) x0)), (11, (.ptr 0 [])), (12, (.v (.int .i64) x1)), (16, (.ptr 4 [])), (18, (.ptr 5 [])), (19, (.v (.int .i64) x2)), (20, (.ptr 6 [])), (21, (.ptr 7 [])), (22, (.v (.int .i64) x3)), (129, (.v .bool x4))], [.box Y6488 (.node (.own 1 []) (.node (.own 2 []) (.node (.own 3 []) (.node (.v (.slice Y18c3) x5) (.node (.v (.slice Y484d) x6) (.node (.v (.slice Yedcc) x7) (.node (.v (.slice (.slice Y18c3)) x8) (.v .unit x9)))))))) true, .row Yh x10 true, .row Ybb x11 true, .row .str x12 true, .box Y65da (.v Y65da x13) true, .box Y65da (.v Y65da x14) true, .box Yf321 (.v Yf321 x15) true, .box Yedcc (.v Yedcc x16) true], 265, 0⟩) (.normal) (⟨[(4, (.v (.slice Yf321) o.1)), (11, (.ptr 0 [])), (12, (.v (.int .i64) o.2.1)), (16, (.ptr 4 [])), (18, (.ptr 5 [])), (19, (.v (.int .i64) o.2.2.1)), (23, (.v (.int .i64) o.2.2.2.1)), (24, (.v (.int .i64) o.2.2.2.2.1))], [.box Y6488 (.node (.own 1 []) (.node (.own 2 []) (.node (.own 3 []) (.node (.v (.slice Y18c3) o.2.2.2.2.2.1) (.node (.v (.slice Y484d) o.2.2.2.2.2.2.1) (.node (.v (.slice Yedcc) o.2.2.2.2.2.2.2.1) (.node (.v (.slice (.slice Y18c3)) o.2.2.2.2.2.2.2.2.1) (.v .unit o.2.2.2.2.2.2.2.2.2.1)))))))) true, .row Yh o.2.2.2.2.2.2.2.2.2.2.1 true, .row Ybb o.2.2.2.2.2.2.2.2.2.2.2.1 true, .row .str o.2.2.2.2.2.2.2.2.2.2.2.2.1 true, .box Y65da (.v Y65da o.2.2.2.2.2.2.2.2.2.2.2.2.2.1) true, .box Y65da (.v Y65da o.2.2.2.2.2.2.2.2.2.2.2.2.2.2) true], 265, 0⟩) := by
 unfold qt_2 at h
 rcases J2w h with ⟨h41, h⟩ | ⟨h41, h⟩
 ·obtain ⟨u42, h43, h⟩ := andThen_ok h q1m_ok
  obtain ⟨u44, h45, h⟩ := andThen_ok h qf_ok
  obtain ⟨u46, h47, h⟩ := andThen_ok h qa_ok
  cases h
  exact env.cd [b1, cI h43 [] [] [] false, .pre p70, cI h45 [] [0] [] false, cI h47 [] [0] [] false, .sel [4, 11, 12, 16, 18, 19, 23, 24] [0, 1, 2, 3, 4, 5]] (.c h41 (.c h43 (.c h45 (.c h47 .n))))
 ·obtain ⟨u48, h49, h⟩ := andThen_ok h qq_ok
  obtain ⟨u50, h51, h⟩ := andThen_ok h qb_ok
  cases h
  exact env.cd [b0, .pre p70, cI h49 [] [0] [] false, cI h51 [] [0] [] false, .sel [4, 11, 12, 16, 18, 19, 23, 24] [0, 1, 2, 3, 4, 5]] (.c h41 (.c h49 (.c h51 .n)))
def qt_3_in (x0 : List (Tf321)) (x1 : Int) (x2 : Int) (x3 : Int) (x4 : List (T18c3)) (x5 : List (T484d)) (x6 : List (Tedcc)) (x7 : List (List (T18c3))) (x8 : Unit) (x9 : List (B8)) (x10 : List (List (B8))) (x11 : List (B8)) (x12 : T65da) (x13 : T65da) (x14 : List (Tf0bc)) : St := ⟨[(4, (.v (.slice Yf321) x0)), (11, (.ptr 0 [])), (12, (.v (.int .i64) x1)), (16, (.ptr 4 [])), (18, (.ptr 5 [])), (19, (.v (.int .i64) x2)), (26, (.own 6 [])), (27, (.v (.int .i64) x3))], [.box Y6488 (.node (.own 1 []) (.node (.own 2 []) (.node (.own 3 []) (.node (.v (.slice Y18c3) x4) (.node (.v (.slice Y484d) x5) (.node (.v (.slice Yedcc) x6) (.node (.v (.slice (.slice Y18c3)) x7) (.v .unit x8)))))))) true, .row Yh x9 true, .row Ybb x10 true, .row .str x11 true, .box Y65da (.v Y65da x12) true, .box Y65da (.v Y65da x13) true, .row Yf0bc x14 true], 265, 0⟩
def qt_3_ex (o : (Bool) ⊕ ((List (Tf321)) × Int × Int × (List (T18c3)) × (List (T484d)) × (List (Tedcc)) × (List (List (T18c3))) × Unit × List (B8) × List (List (B8)) × List (B8) × (T65da) × T65da)) : Exit := match (generalizing := false) o with | (.inl o) => .ret | (.inr o) => (.exit 4)
def qt_3_st (o : (Bool) ⊕ ((List (Tf321)) × Int × Int × (List (T18c3)) × (List (T484d)) × (List (Tedcc)) × (List (List (T18c3))) × Unit × List (B8) × List (List (B8)) × List (B8) × (T65da) × T65da)) : St := match (generalizing := false) o with | (.inl o) => ⟨[(10, (.v .bool o))], [], 265, 0⟩ | (.inr o) => ⟨[(4, (.v (.slice Yf321) o.1)), (11, (.ptr 0 [])), (12, (.v (.int .i64) o.2.1)), (16, (.ptr 4 [])), (18, (.ptr 5 [])), (19, (.v (.int .i64) o.2.2.1))], [.box Y6488 (.node (.own 1 []) (.node (.own 2 []) (.node (.own 3 []) (.node (.v (.slice Y18c3) o.2.2.2.1) (.node (.v (.slice Y484d) o.2.2.2.2.1) (.node (.v (.slice Yedcc) o.2.2.2.2.2.1) (.node (.v (.slice (.slice Y18c3)) o.2.2.2.2.2.2.1) (.v .unit o.2.2.2.2.2.2.2.1)))))))) true, .row Yh o.2.2.2.2.2.2.2.2.1 true, .row Ybb o.2.2.2.2.2.2.2.2.2.1 true, .row .str o.2.2.2.2.2.2.2.2.2.2.1 true, .box Y65da (.v Y65da o.2.2.2.2.2.2.2.2.2.2.2.1) true, .box Y65da (.v Y65da o.2.2.2.2.2.2.2.2.2.2.2.2) true], 265, 0⟩
theorem qt_3_body {x0 x1 x2 x3 x4 x5 x6 x7 x8 x9 x10 x11 x12 x13 x14 r} (h : qt_3_step x0 x1 x2 x3 x4 x5 x6 x7 x8 x9 x10 x11 x12 x13 x14 = some r) : J09 prog (J0z (J0q f3) [1, 1, 1, 1, 1, 1, 1, 1, 1, 0, 1, 0, 0, 1, 0, 0, 1, 1, 1, 1, 1, 1, 1, 0, 1, 0, 0]) x3 r (fun s => qt_3_in x0 x1 x2 s x4 x5 x6 x7 x8 x9 x10 x11 x12 x13 x14) qt_3_ex qt_3_st := by
 unfold qt_3_step at h
 rcases J2w h with ⟨h69, h⟩ | ⟨h69, h⟩
 ·obtain ⟨h70, h⟩ := J4b h
  obtain ⟨h71, h⟩ := J4b h
  let i1 : List It := [b1, .pre p71]
  rcases J2w h with ⟨h72, h⟩ | ⟨h72, h⟩
  ·cases h
   exact .out (by intro e; simp [qt_3_ex] at e) (env.cd (i1 ++ [b1, b1, b1, b1, b1, b1, b1, b1, b1, b1, b1, b1, b1, b1, .sel [10] []]) (.c h69 (.c h70 (.c h71 (.c h72 (.c h72 (.c h72 (.c h72 (.c h72 (.c h72 (.c h72 (.c h72 (.c h72 (.c h72 (.c h72 (.c h72 (.c h72 (.c r1 .n))))))))))))))))))
  ·let i2 : List It := i1 ++ [b0, b0, b0, b0, b0, b0, b0, b0, b0, b0, b0, b0, b0]
   have e3 := (AllP.c h69 (AllP.c h70 (AllP.c h71 (AllP.c h72 (AllP.c h72 (AllP.c h72 (AllP.c h72 (AllP.c h70 (AllP.c h72 (AllP.c h72 (AllP.c h72 (AllP.c h72 (AllP.c h72 (AllP.c h71 (AllP.c h72 (AllP.c h72 (AllP.c h72 (AllP.c h72 AllP.n))))))))))))))))))
   rcases J2w h with ⟨h73, h⟩ | ⟨h73, h⟩
   ·cases h
    exact .out (by intro e; simp [qt_3_ex] at e) (env.cd (i2 ++ [b1, .sel [10] []]) (e3.app (.c h73 .n)))
   ·cases h
    exact .next (env.cd (i2 ++ [b0, .sel [4, 11, 12, 16, 18, 19, 26, 27] [0, 1, 2, 3, 4, 5, 6]]) (e3.app (.c h73 .n)))
 ·cases h
  exact .out (by intro e; simp [qt_3_ex] at e) (env.cd [b0, .sel [4, 11, 12, 16, 18, 19] [0, 1, 2, 3, 4, 5]] (.c h69 .n))
theorem qt_3_ok {x0 x1 x2 x3 x4 x5 x6 x7 x8 x9 x10 x11 x12 x13 x14 o} (h : qt_3 x0 x1 x2 x3 x4 x5 x6 x7 x8 x9 x10 x11 x12 x13 x14 = some o) : J03 prog (J0z (J0q f3) [1, 1, 1, 1, 1, 1, 1, 1, 1, 0, 1, 0, 0, 1, 0, 0, 1, 1, 1, 1, 1, 1, 1, 0, 1, 0]) (qt_3_in x0 x1 x2 x3 x4 x5 x6 x7 x8 x9 x10 x11 x12 x13 x14) (qt_3_ex o) (qt_3_st o) := J06.of_stepR (fun _ _ h => qt_3_body h) _ _ h
def qt_4_in (x0 : List (Tf321)) (x1 : Int) (x2 : Int) (x3 : Int) (x4 : Bool) (x5 : Bool) (x6 : List (Tf0bc)) (x7 : Int) (x8 : Int) (x9 : List (T18c3)) (x10 : List (T484d)) (x11 : List (Tedcc)) (x12 : List (List (T18c3))) (x13 : Unit) (x14 : List (B8)) (x15 : List (List (B8))) (x16 : List (B8)) (x17 : T65da) (x18 : T65da) (x19 : B8) (x20 : B8) : St := ⟨[(4, (.v (.slice Yf321) x0)), (11, (.ptr 0 [])), (12, (.v (.int .i64) x1)), (16, (.ptr 4 [])), (18, (.ptr 5 [])), (19, (.v (.int .i64) x2)), (28, (.v (.int .i64) x3)), (29, (.ptr 6 [])), (30, (.v .bool x4)), (31, (.ptr 7 [])), (32, (.v .bool x5)), (243, (.v (.slice Yf0bc) x6)), (244, (.v (.int .i64) x7)), (245, (.v (.int .i64) x8))], [.box Y6488 (.node (.own 1 []) (.node (.own 2 []) (.node (.own 3 []) (.node (.v (.slice Y18c3) x9) (.node (.v (.slice Y484d) x10) (.node (.v (.slice Yedcc) x11) (.node (.v (.slice (.slice Y18c3)) x12) (.v .unit x13)))))))) true, .row Yh x14 true, .row Ybb x15 true, .row .str x16 true, .box Y65da (.v Y65da x17) true, .box Y65da (.v Y65da x18) true, .box Yh (.v Yh x19) true, .box Yh (.v Yh x20) true], 265, 0⟩
def qt_4_ex (o : (List (Tf321)) × Int × Int × Int × Bool × Bool × (List (T18c3)) × (List (T484d)) × (List (Tedcc)) × (List (List (T18c3))) × Unit × List (B8) × List (List (B8)) × List (B8) × (T65da) × (T65da) × B8 × B8) : Exit := (.exit 8)
def qt_4_st (o : (List (Tf321)) × Int × Int × Int × Bool × Bool × (List (T18c3)) × (List (T484d)) × (List (Tedcc)) × (List (List (T18c3))) × Unit × List (B8) × List (List (B8)) × List (B8) × (T65da) × (T65da) × B8 × B8) : St := ⟨[(4, (.v (.slice Yf321) o.1)), (11, (.ptr 0 [])), (12, (.v (.int .i64) o.2.1)), (16, (.ptr 4 [])), (18, (.ptr 5 [])), (19, (.v (.int .i64) o.2.2.1)), (28, (.v (.int .i64) o.2.2.2.1)), (29, (.ptr 6 [])), (30, (.v .bool o.2.2.2.2.1)), (31, (.ptr 7 [])), (32, (.v .bool o.2.2.2.2.2.1))], [.box Y6488 (.node (.own 1 []) (.node (.own 2 []) (.node (.own 3 []) (.node (.v (.slice Y18c3) o.2.2.2.2.2.2.1) (.node (.v (.slice Y484d) o.2.2.2.2.2.2.2.1) (.node (.v (.slice Yedcc) o.2.2.2.2.2.2.2.2.1) (.node (.v (.slice (.slice Y18c3)) o.2.2.2.2.2.2.2.2.2.1) (.v .unit o.2.2.2.2.2.2.2.2.2.2.1)))))))) true, .row Yh o.2.2.2.2.2.2.2.2.2.2.2.1 true, .row Ybb o.2.2.2.2.2.2.2.2.2.2.2.2.1 true, .row .str o.2.2.2.2.2.2.2.2.2.2.2.2.2.1 true, .box Y65da (.v Y65da o.2.2.2.2.2.2.2.2.2.2.2.2.2.2.1) true, .box Y65da (.v Y65da o.2.2.2.2.2.2.2.2.2.2.2.2.2.2.2.1) true, .box Yh (.v Yh o.2.2.2.2.2.2.2.2.2.2.2.2.2.2.2.2.1) true, .box Yh (.v Yh o.2.2.2.2.2.2.2.2.2.2.2.2.2.2.2.2.2) true], 265, 0⟩
theorem qt_4_body {x0 x1 x2 x3 x4 x5 x6 x7 x8 x9 x10 x11 x12 x13 x14 x15 x16 x17 x18 x19 x20 r} (h : qt_4_step x0 x1 x2 x3 x4 x5 x6 x7 x8 x9 x10 x11 x12 x13 x14 x15 x16 x17 x18 x19 x20 = some r) : J09 prog (J0z (J0q f3) [1, 1, 1, 1, 1, 1, 1, 1, 1, 0, 1, 0, 0, 1, 0, 0, 1, 1, 1, 1, 1, 1, 1, 1, 1, 0, 0, 1, 0, 0, 1, 1, 0, 1, 0, 0]) (x5, x8, x20) r (fun s => qt_4_in x0 x1 x2 x3 x4 s.1 x6 x7 s.2.1 x9 x10 x11 x12 x13 x14 x15 x16 x17 x18 x19 s.2.2) qt_4_ex qt_4_st := by
 unfold qt_4_step at h
 rcases J2w h with ⟨h83, h⟩ | ⟨h83, h⟩
 ·obtain ⟨h84, h⟩ := J4b h
  rcases J2w h with ⟨h85, h⟩ | ⟨h85, h⟩
  ·cases h
   exact .next (env.cd [b1, b1, .sel [4, 11, 12, 16, 18, 19, 28, 29, 30, 31, 32, 243, 244, 245] [0, 1, 2, 3, 4, 5, 6, 7]] (.c h83 (.c h84 (.c h85 .n))))
  ·cases h
   exact .next (env.cd [b1, b0, .sel [4, 11, 12, 16, 18, 19, 28, 29, 30, 31, 32, 243, 244, 245] [0, 1, 2, 3, 4, 5, 6, 7]] (.c h83 (.c h84 (.c h85 .n))))
 ·cases h
  exact .out (by intro e; simp [qt_4_ex] at e) (env.cd [b0, .sel [4, 11, 12, 16, 18, 19, 28, 29, 30, 31, 32] [0, 1, 2, 3, 4, 5, 6, 7]] (.c h83 .n))
theorem qt_4_ok {x0 x1 x2 x3 x4 x5 x6 x7 x8 x9 x10 x11 x12 x13 x14 x15 x16 x17 x18 x19 x20 o} (h : qt_4 x0 x1 x2 x3 x4 x5 x6 x7 x8 x9 x10 x11 x12 x13 x14 x15 x16 x17 x18 x19 x20 = some o) : J03 prog (J0z (J0q f3) [1, 1, 1, 1, 1, 1, 1, 1, 1, 0, 1, 0, 0, 1, 0, 0, 1, 1, 1, 1, 1, 1, 1, 1, 1, 0, 0, 1, 0, 0, 1, 1, 0, 1, 0]) (qt_4_in x0 x1 x2 x3 x4 x5 x6 x7 x8 x9 x10 x11 x12 x13 x14 x15 x16 x17 x18 x19 x20) (qt_4_ex o) (qt_4_st o) := J06.of_stepR (fun _ _ h => qt_4_body h) _ _ h
def qt_5_in (x0 : List (Tf321)) (x1 : Int) (x2 : Int) (x3 : Int) (x4 : List (T18c3)) (x5 : List (T484d)) (x6 : List (Tedcc)) (x7 : List (List (T18c3))) (x8 : Unit) (x9 : List (B8)) (x10 : List (List (B8))) (x11 : List (B8)) (x12 : T65da) (x13 : T65da) : St := ⟨[(4, (.v (.slice Yf321) x0)), (11, (.ptr 0 [])), (12, (.v (.int .i64) x1)), (16, (.ptr 4 [])), (18, (.ptr 5 [])), (19, (.v (.int .i64) x2)), (28, (.v (.int .i64) x3))], [.box Y6488 (.node (.own 1 []) (.node (.own 2 []) (.node (.own 3 []) (.node (.v (.slice Y18c3) x4) (.node (.v (.slice Y484d) x5) (.node (.v (.slice Yedcc) x6) (.node (.v (.slice (.slice Y18c3)) x7) (.v .unit x8)))))))) true, .row Yh x9 true, .row Ybb x10 true, .row .str x11 true, .box Y65da (.v Y65da x12) true, .box Y65da (.v Y65da x13) true], 265, 0⟩
def qt_5_ex (o : (Bool) ⊕ ((List (Tf321)) × Int × Int × (List (T18c3)) × (List (T484d)) × (List (Tedcc)) × (List (List (T18c3))) × Unit × List (B8) × List (List (B8)) × List (B8) × (T65da) × T65da)) : Exit := match (generalizing := false) o with | (.inl o) => .ret | (.inr o) => (.exit 6)
def qt_5_st (o : (Bool) ⊕ ((List (Tf321)) × Int × Int × (List (T18c3)) × (List (T484d)) × (List (Tedcc)) × (List (List (T18c3))) × Unit × List (B8) × List (List (B8)) × List (B8) × (T65da) × T65da)) : St := match (generalizing := false) o with | (.inl o) => ⟨[(10, (.v .bool o))], [], 265, 0⟩ | (.inr o) => ⟨[(4, (.v (.slice Yf321) o.1)), (11, (.ptr 0 [])), (12, (.v (.int .i64) o.2.1)), (16, (.ptr 4 [])), (18, (.ptr 5 [])), (19, (.v (.int .i64) o.2.2.1))], [.box Y6488 (.node (.own 1 []) (.node (.own 2 []) (.node (.own 3 []) (.node (.v (.slice Y18c3) o.2.2.2.1) (.node (.v (.slice Y484d) o.2.2.2.2.1) (.node (.v (.slice Yedcc) o.2.2.2.2.2.1) (.node (.v (.slice (.slice Y18c3)) o.2.2.2.2.2.2.1) (.v .unit o.2.2.2.2.2.2.2.1)))))))) true, .row Yh o.2.2.2.2.2.2.2.2.1 true, .row Ybb o.2.2.2.2.2.2.2.2.2.1 true, .row .str o.2.2.2.2.2.2.2.2.2.2.1 true, .box Y65da (.v Y65da o.2.2.2.2.2.2.2.2.2.2.2.1) true, .box Y65da (.v Y65da o.2.2.2.2.2.2.2.2.2.2.2.2) true], 265, 0⟩
theorem qt_5_body {x0 x1 x2 x3 x4 x5 x6 x7 x8 x9 x10 x11 x12 x13 r} (h : qt_5_step x0 x1 x2 x3 x4 x5 x6 x7 x8 x9 x10 x11 x12 x13 = some r) : J09 prog (J0z (J0q f3) [1, 1, 1, 1, 1, 1, 1, 1, 1, 0, 1, 0, 0, 1, 0, 0, 1, 1, 1, 1, 1, 1, 1, 1, 1, 0, 0]) (x0, x1, x2, x3, x4, x5, x6, x7, x8, x9, x10, x11, x12, x13) r (fun s => qt_5_in s.1 s.2.1 s.2.2.1 s.2.2.2.1 s.2.2.2.2.1 s.2.2.2.2.2.1 s.2.2.2.2.2.2.1 s.2.2.2.2.2.2.2.1 s.2.2.2.2.2.2.2.2.1 s.2.2.2.2.2.2.2.2.2.1 s.2.2.2.2.2.2.2.2.2.2.1 s.2.2.2.2.2.2.2.2.2.2.2.1 s.2.2.2.2.2.2.2.2.2.2.2.2.1 s.2.2.2.2.2.2.2.2.2.2.2.2.2) qt_5_ex qt_5_st := by
 unfold qt_5_step at h
 rcases J2w h with ⟨h79, h⟩ | ⟨h79, h⟩
 ·obtain ⟨u80, h81, h⟩ := andThen_ok h qy_ok
  obtain ⟨o86, h87, h⟩ := andThen_ok h qt_4_ok
  let i1 : List It := [b1, cI h81 [] [4] [] false, .dive, .sel [4, 11, 12, 16, 18, 19, 28, 29, 30, 31, 32, 243, 244, 245] [0, 1, 2, 3, 4, 5, 6, 7], pI h87]
  rcases J2w h with ⟨h88, h⟩ | ⟨h88, h⟩
  ·cases h
   exact .out (by intro e; simp [qt_5_ex] at e) (env.cd (i1 ++ [b1, b1, b1, b1, b1, .sel [10] []]) (.c h79 (.c h81 (.c h87 (.c h88 (.c h88 (.c h88 (.c h88 (.c r1 .n)))))))))
  ·have e2 := (AllP.c h79 (AllP.c h81 (AllP.c h87 (AllP.c h88 (AllP.c h88 (AllP.c h88 (AllP.c h88 AllP.n)))))))
   rcases J2w h with ⟨h89, h⟩ | ⟨h89, h⟩
   ·cases h
    exact .out (by intro e; simp [qt_5_ex] at e) (env.cd (i1 ++ [b0, b0, b0, b0, b1, .sel [10] []]) (e2.app (.c h89 .n)))
   ·cases h
    exact .next (env.cd (i1 ++ [b0, b0, b0, b0, b0, .sel [4, 11, 12, 16, 18, 19, 28] [0, 1, 2, 3, 4, 5]]) (e2.app (.c h89 .n)))
 ·cases h
  exact .out (by intro e; simp [qt_5_ex] at e) (env.cd [b0, .sel [4, 11, 12, 16, 18, 19] [0, 1, 2, 3, 4, 5]] (.c h79 .n))
theorem qt_5_ok {x0 x1 x2 x3 x4 x5 x6 x7 x8 x9 x10 x11 x12 x13 o} (h : qt_5 x0 x1 x2 x3 x4 x5 x6 x7 x8 x9 x10 x11 x12 x13 = some o) : J03 prog (J0z (J0q f3) [1, 1, 1, 1, 1, 1, 1, 1, 1, 0, 1, 0, 0, 1, 0, 0, 1, 1, 1, 1, 1, 1, 1, 1, 1, 0]) (qt_5_in x0 x1 x2 x3 x4 x5 x6 x7 x8 x9 x10 x11 x12 x13) (qt_5_ex o) (qt_5_st o) := J06.of_stepR (fun _ _ h => qt_5_body h) _ _ h
def qt_6_in (x0 : List (Tf321)) (x1 : Int) (x2 : Int) (x3 : List (T18c3)) (x4 : List (T484d)) (x5 : List (Tedcc)) (x6 : List (List (T18c3))) (x7 : Unit) (x8 : List (B8)) (x9 : List (List (B8))) (x10 : List (B8)) (x11 : T65da) (x12 : T65da) : St := ⟨[(4, (.v (.slice Yf321) x0)), (11, (.ptr 0 [])), (12, (.v (.int .i64) x1)), (16, (.ptr 4 [])), (18, (.ptr 5 [])), (19, (.v (.int .i64) x2))], [.box Y6488 (.node (.own 1 []) (.node (.own 2 []) (.node (.own 3 []) (.node (.v (.slice Y18c3) x3) (.node (.v (.slice Y484d) x4) (.node (.v (.slice Yedcc) x5) (.node (.v (.slice (.slice Y18c3)) x6) (.v .unit x7)))))))) true, .row Yh x8 true, .row Ybb x9 true, .row .str x10 true, .box Y65da (.v Y65da x11) true, .box Y65da (.v Y65da x12) true], 265, 0⟩
def qt_6_ex (o : (Bool) ⊕ (Unit)) : Exit := match (generalizing := false) o with | (.inl o) => .ret | (.inr o) => (.exit 2)
def qt_6_st (o : (Bool) ⊕ (Unit)) : St := match (generalizing := false) o with | (.inl o) => ⟨[(10, (.v .bool o))], [], 265, 0⟩ | (.inr o) => ⟨[], [], 265, 0⟩
theorem qt_6_body {x0 x1 x2 x3 x4 x5 x6 x7 x8 x9 x10 x11 x12 r} (h : qt_6_step x0 x1 x2 x3 x4 x5 x6 x7 x8 x9 x10 x11 x12 = some r) : J09 prog (J0z (J0q f3) [1, 1, 1, 1, 1, 1, 1, 1, 1, 0, 1, 0, 0]) (x0, x1, x2, x3, x4, x5, x6, x7, x8, x9, x10, x11, x12) r (fun s => qt_6_in s.1 s.2.1 s.2.2.1 s.2.2.2.1 s.2.2.2.2.1 s.2.2.2.2.2.1 s.2.2.2.2.2.2.1 s.2.2.2.2.2.2.2.1 s.2.2.2.2.2.2.2.2.1 s.2.2.2.2.2.2.2.2.2.1 s.2.2.2.2.2.2.2.2.2.2.1 s.2.2.2.2.2.2.2.2.2.2.2.1 s.2.2.2.2.2.2.2.2.2.2.2.2) qt_6_ex qt_6_st := by
 unfold qt_6_step at h
 rcases J2w h with ⟨h30, h⟩ | ⟨h30, h⟩
 ·let i1 : List It := [b1, b1, b1]
  have e2 := (AllP.c h30 (AllP.c h30 (AllP.c h30 AllP.n)))
  rcases J2w h with ⟨h31, h⟩ | ⟨h31, h⟩
  ·obtain ⟨h32, h⟩ := J4b h
   obtain ⟨u33, h34, h⟩ := andThen_ok h q1s_ok
   obtain ⟨h35, h⟩ := J4b h
   obtain ⟨u36, h37, h⟩ := andThen_ok h q1f_ok
   obtain ⟨u38, h39, h⟩ := andThen_ok h q1s_ok
   obtain ⟨o52, h53, h⟩ := andThen_ok h qt_2_ok
   obtain ⟨u54, h55, h⟩ := andThen_ok h qu_ok
   let i3 : List It := i1 ++ [b1, .pre p72, .asis, cI h34 [] [] [] true, .asis, cI h37 [] [] [] false, cI h39 [] [] [] true, .sel [4, 11, 12, 16, 18, 19, 20, 21, 22, 129] [0, 1, 2, 3, 4, 5, 6, 7], pI h53, cI h55 [] [4] [] false, .pre p73]
   have e4 := e2.app (.c h31 (.c h32 (.c rn (.c h34 (.c h35 (.c rn (.c h37 (.c h39 (.c (of_decide_eq_true (p := ((6 : Int) ≠ 0)) (by kernel_rfl)) (.c h53 (.c h55 .n)))))))))))
   rcases J2w h with ⟨h56, h⟩ | ⟨h56, h⟩
   ·cases h
    exact .out (by intro e; simp [qt_6_ex] at e) (env.cd (i3 ++ [b1, b1, b1, b1, b1, b1, b1, b1, b1, b1, b1, b1, b1, b1, b1, b1, b1, b1, b1, b1, b1, b1, b1, b1, b1, b1, b1, b1, b1, b1, b1, b1, b1, b1, b1, b1, b1, .sel [10] []]) (e4.app (.c h56 (.c h56 (.c h56 (.c h56 (.c h56 (.c h56 (.c h56 (.c h56 (.c r1 (.c r1 (.c r1 (.c r1 (.c r1 (.c r1 (.c r1 (.c r1 (.c r1 (.c r1 (.c r1 (.c r1 (.c r1 (.c r1 (.c r1 (.c r1 (.c r1 (.c r1 (.c r1 (.c r1 (.c r1 (.c r1 (.c r1 (.c r1 (.c r1 (.c r1 (.c r1 (.c r1 (.c r1 .n)))))))))))))))))))))))))))))))))))))))
   ·obtain ⟨u57, h58, h⟩ := andThen_ok h qv_ok
    let i5 : List It := i3 ++ [b0, b0, b0, b0, b0, b0, .asis, cI h58 [] [] [0] true, b0, b0]
    have e6 := e4.app (.c h56 (.c h56 (.c h56 (.c h56 (.c h56 (.c h56 (.c (rfl : ([.row Yf0bc u54 true] : List AObj) = [.row Yf0bc u54 true]) (.c h58 (.c h56 (.c h56 .n))))))))))
    rcases J2w h with ⟨h59, h⟩ | ⟨h59, h⟩
    ·cases h
     exact .out (by intro e; simp [qt_6_ex] at e) (env.cd (i5 ++ [b1, b1, b1, b1, b1, b1, b1, b1, b1, b1, b1, b1, b1, b1, b1, b1, b1, b1, b1, b1, b1, b1, b1, b1, b1, b1, b1, b1, b1, .sel [10] []]) (e6.app (.c h59 (.c h59 (.c h59 (.c h59 (.c h59 (.c h59 (.c h59 (.c h59 (.c r1 (.c r1 (.c r1 (.c r1 (.c r1 (.c r1 (.c r1 (.c r1 (.c r1 (.c r1 (.c r1 (.c r1 (.c r1 (.c r1 (.c r1 (.c r1 (.c r1 (.c r1 (.c r1 (.c r1 (.c r1 .n)))))))))))))))))))))))))))))))
    ·obtain ⟨u60, h61, h⟩ := andThen_ok h qp_ok
     let i7 : List It := i5 ++ [b0, b0, .asis, cI h61 [] [0] [] false, b0, b0, b0, b0, b0, b0]
     have e8 := e6.app (.c h59 (.c h59 (.c (rfl : ([.box Y65da (.v Y65da o52.2.2.2.2.2.2.2.2.2.2.2.2.2.1) true] : List AObj) = [.box Y65da (.v Y65da o52.2.2.2.2.2.2.2.2.2.2.2.2.2.1) true]) (.c h61 (.c h59 (.c h59 (.c h59 (.c h59 (.c h59 (.c h59 .n))))))))))
     rcases J2w h with ⟨h62, h⟩ | ⟨h62, h⟩
     ·cases h
      exact .out (by intro e; simp [qt_6_ex] at e) (env.cd (i7 ++ [b1, b1, b1, b1, b1, b1, b1, b1, b1, b1, b1, b1, b1, b1, b1, b1, b1, b1, b1, b1, b1, .sel [10] []]) (e8.app (.c h62 (.c h62 (.c h62 (.c h62 (.c r1 (.c r1 (.c r1 (.c r1 (.c r1 (.c r1 (.c r1 (.c r1 (.c r1 (.c r1 (.c r1 (.c r1 (.c r1 (.c r1 (.c r1 (.c r1 (.c r1 .n)))))))))))))))))))))))
     ·let i9 : List It := i7 ++ [b0, b0, b0, b0]
      have e10 := e8.app (.c h62 (.c h62 (.c h62 (.c h62 .n))))
      rcases J2w h with ⟨h63, h⟩ | ⟨h63, h⟩
      ·cases h
       exact .out (by intro e; simp [qt_6_ex] at e) (env.cd (i9 ++ [b1, b1, b1, b1, b1, b1, b1, b1, b1, b1, b1, b1, b1, b1, b1, b1, b1, .sel [10] []]) (e10.app (.c h63 (.c h63 (.c h63 (.c h63 (.c h63 (.c h63 (.c h63 (.c h63 (.c h63 (.c h63 (.c h63 (.c h63 (.c h63 (.c h63 (.c h63 (.c h63 (.c r1 .n)))))))))))))))))))
      ·obtain ⟨u64, h65, h⟩ := andThen_ok h qo_ok
       obtain ⟨h66, h⟩ := J4b h
       let i11 : List It := i9 ++ [b0, b0, .asis, cI h65 [] [0] [] false, b0, b0, b0, b0, b0, b0, b0, b0, b0, b0, b0, b0, b0, b0]
       have e12 := e10.app (.c h63 (.c h63 (.c (rfl : ([.box Y65da (.v Y65da o52.2.2.2.2.2.2.2.2.2.2.2.2.2.1) true] : List AObj) = [.box Y65da (.v Y65da o52.2.2.2.2.2.2.2.2.2.2.2.2.2.1) true]) (.c h65 (.c h63 (.c h63 (.c h63 (.c h63 (.c h63 (.c h63 (.c h63 (.c h63 (.c h63 (.c h63 (.c h63 (.c h66 (.c h63 (.c h63 (.c h63 .n)))))))))))))))))))
       rcases J2w h with ⟨h67, h⟩ | ⟨h67, h⟩
       ·cases h
        exact .out (by intro e; simp [qt_6_ex] at e) (env.cd (i11 ++ [b1, .sel [10] []]) (e12.app (.c h67 .n)))
       ·obtain ⟨o74, h75, h⟩ := andThen_ok h qt_3_ok
        let i13 : List It := i11 ++ [b0, .dive, .sel [4, 11, 12, 16, 18, 19, 26, 27] [0, 1, 2, 3, 4, 5, 6]]
        rcases o74 with o76 | o77
        ·cases h
         exact .out (by intro e; simp [qt_6_ex] at e) (env.cd (i13 ++ [pI h75, .sel [10] []]) (e12.app (.c h67 (.c h75 .n))))
        ·obtain ⟨o90, h91, h⟩ := andThen_ok h qt_5_ok
         let i14 : List It := i13 ++ [pI h75, .dive, .sel [4, 11, 12, 16, 18, 19, 28] [0, 1, 2, 3, 4, 5]]
         rcases o90 with o92 | o93
         ·cases h
          exact .out (by intro e; simp [qt_6_ex] at e) (env.cd (i14 ++ [pI h91, .sel [10] []]) (e12.app (.c h67 (.c h75 (.c h91 .n)))))
         ·cases h
          exact .next (env.cd (i14 ++ [pI h91, .sel [4, 11, 12, 16, 18, 19] [0, 1, 2, 3, 4, 5]]) (e12.app (.c h67 (.c h75 (.c h91 .n)))))
  ·cases h
   exact .out (by intro e; simp [qt_6_ex] at e) (env.cd (i1 ++ [b0, .sel [] []]) (e2.app (.c h31 .n)))
 ·cases h
  exact .out (by intro e; simp [qt_6_ex] at e) (env.cd [b0, b0, b0, b0, .sel [] []] (.c h30 (.c h30 (.c h30 (.c r0 .n)))))
theorem qt_6_ok {x0 x1 x2 x3 x4 x5 x6 x7 x8 x9 x10 x11 x12 o} (h : qt_6 x0 x1 x2 x3 x4 x5 x6 x7 x8 x9 x10 x11 x12 = some o) : J03 prog (J0z (J0q f3) [1, 1, 1, 1, 1, 1, 1, 1, 1, 0, 1, 0]) (qt_6_in x0 x1 x2 x3 x4 x5 x6 x7 x8 x9 x10 x11 x12) (qt_6_ex o) (qt_6_st o) := J06.of_stepR (fun _ _ h => qt_6_body h) _ _ h
theorem qt_ok {a0 a1 a2 a3 a4 u} (h : qt a0 a1 a2 a3 a4 = some u) : CallC prog 3 [(.v (.slice (.int .i64)) a0), (.v (.slice (.int .i64)) a1), (.v (.slice Y1a67) a2), (.v (.int .i64) a3), (.v (.slice Yf321) a4)] [] ((.v .bool u)) ([]) := by
 unfold qt at h
 obtain ⟨u1, h2, h⟩ := andThen_ok h q1v_ok
 obtain ⟨o19, h20, h⟩ := andThen_ok h qt_1_ok
 obtain ⟨u21, h22, h⟩ := andThen_ok h q1s_ok
 obtain ⟨h23, h⟩ := J4b h
 obtain ⟨u24, h25, h⟩ := andThen_ok h q3s_ok
 rcases u24 with u26 | u27
 ·cases h
 ·rcases J2w h with ⟨h28, h⟩ | ⟨h28, h⟩
  ·cases h
  ·obtain ⟨o94, h95, h⟩ := andThen_ok h qt_6_ok
   let i1 : List It := [cI h2 [] [] [] false, .dive, .J6w 0 [.fld 3], .J6w 0 [.fld 4], .J6w 0 [.fld 5], .J6w 0 [.fld 6], .sel [1, 2, 3, 4, 11, 12, 37] [0, 1, 2, 3], pI h20, cI h22 [] [] [] true, cI h25 [] [] [] false, b0, b0, b0, b0, .dive, .sel [4, 11, 12, 16, 18, 19] [0, 1, 2, 3, 5, 7]]
   have e2 := (AllP.c h2 (AllP.c h20 (AllP.c h22 (AllP.c h23 (AllP.c h25 (AllP.c r0 (AllP.c r0 (AllP.c r0 (AllP.c h28 AllP.n)))))))))
   rcases o94 with o96 | o97
   ·cases h
    exact env.fn can3 (i1 ++ [pI h95]) s0 (e2.app (.c h95 .n))
   ·obtain ⟨u98, h99, h⟩ := andThen_ok h qz_ok
    cases h
    exact env.fn can3 (i1 ++ [pI h95, cI h99 [] [] [] true]) s0 (e2.app (.c h95 (.c h99 .n)))
end
end Go.Proofs.YtnckmagemlajeaaGreat.lightPlays
