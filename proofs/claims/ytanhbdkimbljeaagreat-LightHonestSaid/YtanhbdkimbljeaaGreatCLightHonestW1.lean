/-
  The functions, walked through: each call comes to what the pure text says.
-/
import Derived.Test.YtanhbdkimbljeaaGreatProg
import Derived.Test.YtanhbdkimbljeaaGreatAxC
import Derived.Test.YtanhbdkimbljeaaGreatCLightHonestP
import Derived.Test.YtanhbdkimbljeaaGreatCLightHonestW0
namespace Go.Proofs.YtanhbdkimbljeaaGreat.lightHonest
open Go.Ax Go.Ax.V Go.Proofs.Tryz
set_option maxRecDepth 100000
set_option linter.unusedVariables false
noncomputable section
theorem can7 : J01 prog 7 := ⟨_, func7, by kernel_rfl, by kernel_rfl⟩
def qb_1_in (x0 : Int) (x1 : Int) (x2 : Int) (x3 : List (T18c3)) (x4 : List (T484d)) (x5 : List (Tedcc)) (x6 : List (List (T18c3))) (x7 : Unit) (x8 : List (B8)) (x9 : List (List (B8))) (x10 : List (B8)) (x11 : Tf0bc) (x12 : List (T484d)) (x13 : Unit) (x14 : List (T8f72)) (x15 : List (T484d)) (x16 : B8) : St := ⟨[(0, (.ptr 0 [])), (5, (.v (.int .i64) x0)), (6, (.ptr 4 [])), (7, (.ptr 7 [])), (103, (.own 1 [])), (104, (.v (.int .i64) x1)), (105, (.v (.int .i64) x2))], [.box Y6488 (.node (.own 1 []) (.node (.own 2 []) (.node (.own 3 []) (.node (.v (.slice Y18c3) x3) (.node (.v (.slice Y484d) x4) (.node (.v (.slice Yedcc) x5) (.node (.v (.slice (.slice Y18c3)) x6) (.v .unit x7)))))))) true, .row Yh x8 true, .row Ybb x9 true, .row .str x10 true, .box Yedcc (.node (.v Yf0bc x11) (.node (.own 5 []) (.node (.v (.slice Y484d) x12) (.node (.own 6 []) (.v .unit x13))))) true, .row Y8f72 x14 true, .row Y484d x15 true, .box Yh (.v Yh x16) false], 165, 4⟩
def qb_1_ex (o : Int × (List (T18c3)) × (List (T484d)) × (List (Tedcc)) × (List (List (T18c3))) × Unit × List (B8) × List (List (B8)) × List (B8) × (Tf0bc) × (List (T484d)) × Unit × (List (T8f72)) × List (T484d)) : Exit := (.exit 0)
def qb_1_st (o : Int × (List (T18c3)) × (List (T484d)) × (List (Tedcc)) × (List (List (T18c3))) × Unit × List (B8) × List (List (B8)) × List (B8) × (Tf0bc) × (List (T484d)) × Unit × (List (T8f72)) × List (T484d)) : St := ⟨[(0, (.ptr 0 [])), (5, (.v (.int .i64) o.1)), (6, (.ptr 4 []))], [.box Y6488 (.node (.own 1 []) (.node (.own 2 []) (.node (.own 3 []) (.node (.v (.slice Y18c3) o.2.1) (.node (.v (.slice Y484d) o.2.2.1) (.node (.v (.slice Yedcc) o.2.2.2.1) (.node (.v (.slice (.slice Y18c3)) o.2.2.2.2.1) (.v .unit o.2.2.2.2.2.1)))))))) true, .row Yh o.2.2.2.2.2.2.1 true, .row Ybb o.2.2.2.2.2.2.2.1 true, .row .str o.2.2.2.2.2.2.2.2.1 true, .box Yedcc (.node (.v Yf0bc o.2.2.2.2.2.2.2.2.2.1) (.node (.own 5 []) (.node (.v (.slice Y484d) o.2.2.2.2.2.2.2.2.2.2.1) (.node (.own 6 []) (.v .unit o.2.2.2.2.2.2.2.2.2.2.2.1))))) true, .row Y8f72 o.2.2.2.2.2.2.2.2.2.2.2.2.1 true, .row Y484d o.2.2.2.2.2.2.2.2.2.2.2.2.2 true], 165, 4⟩
theorem qb_1_body (x0 : Int) (x1 : Int) (x2 : Int) (x3 : List (T18c3)) (x4 : List (T484d)) (x5 : List (Tedcc)) (x6 : List (List (T18c3))) (x7 : Unit) (x8 : List (B8)) (x9 : List (List (B8))) (x10 : List (B8)) (x11 : Tf0bc) (x12 : List (T484d)) (x13 : Unit) (x14 : List (T8f72)) (x15 : List (T484d)) (x16 : B8) : ∀ r, qb_1_step x0 x1 x2 x3 x4 x5 x6 x7 x8 x9 x10 x11 x12 x13 x14 x15 x16 = some r → (match r with | .inl s => J03 prog (J0w (bodyOf f7) [1, 1, 1, 1, 1, 1, 1, 1, 1, 0, 1, 0, 0]) (qb_1_in x0 x1 x2 x3 x4 x5 x6 x7 x8 x9 x10 x11 x12 x13 x14 x15 x16) .normal (qb_1_in x0 x1 s.1 x3 x4 x5 x6 x7 x8 x9 x10 x11 x12 x13 s.2 x15 x16) | .inr o => qb_1_ex o ≠ .normal ∧ J03 prog (J0w (bodyOf f7) [1, 1, 1, 1, 1, 1, 1, 1, 1, 0, 1, 0, 0]) (qb_1_in x0 x1 x2 x3 x4 x5 x6 x7 x8 x9 x10 x11 x12 x13 x14 x15 x16) (qb_1_ex o) (qb_1_st o)) := by
 intro r h
 unfold qb_1_step at h
 rcases fork_some h with ⟨h19, h⟩ | ⟨h19, h⟩
 ·obtain ⟨h20, h⟩ := need_some h
  obtain ⟨h21, h⟩ := need_some h
  obtain ⟨h22, h⟩ := need_some h
  obtain ⟨u23, h24, h⟩ := andThen_some h
  obtain ⟨h25, h⟩ := need_some h
  injection h with h; subst h
  exact env.code (its := [b1, .pre p28, b0, .asis, .call [none, none, none, none] [] [] false (q2e_R (List.getD x9 (Int.toNat x2) ([] : List (B8))) (List.getD x8 (Int.toNat x2) Z32) (w64 (x0 + (1 : Int))) x16 u23) (q2e_O (List.getD x9 (Int.toNat x2) ([] : List (B8))) (List.getD x8 (Int.toNat x2) Z32) (w64 (x0 + (1 : Int))) x16 u23), .asis, .sel [0, 5, 6, 7, 103, 104, 105] [0, 1, 2, 3, 4, 10, 6, 7]]) (.c h19 (.c h20 (.c h21 (.c h22 (.c rn (.c (q2e_ok (List.getD x9 (Int.toNat x2) ([] : List (B8))) (List.getD x8 (Int.toNat x2) Z32) (w64 (x0 + (1 : Int))) x16 u23 h24) (.c h25 .n))))))) (by kernel_rfl)
 ·injection h with h; subst h
  exact ⟨by intro e; simp [qb_1_ex] at e, env.code (its := [b0, .sel [0, 5, 6] [0, 1, 2, 3, 4, 5, 6]]) (.c h19 .n) (by kernel_rfl)⟩
theorem qb_1_ok (x0 : Int) (x1 : Int) (x2 : Int) (x3 : List (T18c3)) (x4 : List (T484d)) (x5 : List (Tedcc)) (x6 : List (List (T18c3))) (x7 : Unit) (x8 : List (B8)) (x9 : List (List (B8))) (x10 : List (B8)) (x11 : Tf0bc) (x12 : List (T484d)) (x13 : Unit) (x14 : List (T8f72)) (x15 : List (T484d)) (x16 : B8) (o : Int × (List (T18c3)) × (List (T484d)) × (List (Tedcc)) × (List (List (T18c3))) × Unit × List (B8) × List (List (B8)) × List (B8) × (Tf0bc) × (List (T484d)) × Unit × (List (T8f72)) × List (T484d)) (h : qb_1 x0 x1 x2 x3 x4 x5 x6 x7 x8 x9 x10 x11 x12 x13 x14 x15 x16 = some o) : J03 prog (J0w (bodyOf f7) [1, 1, 1, 1, 1, 1, 1, 1, 1, 0, 1, 0]) (qb_1_in x0 x1 x2 x3 x4 x5 x6 x7 x8 x9 x10 x11 x12 x13 x14 x15 x16) (qb_1_ex o) (qb_1_st o) :=
 J06.of_step (st := fun s => qb_1_in x0 x1 s.1 x3 x4 x5 x6 x7 x8 x9 x10 x11 x12 x13 s.2 x15 x16) (ex := qb_1_ex) (stO := qb_1_st) (fun s s2 hs => qb_1_body x0 x1 s.1 x3 x4 x5 x6 x7 x8 x9 x10 x11 x12 x13 s.2 x15 x16 (.inl s2) hs) (fun s r hs => qb_1_body x0 x1 s.1 x3 x4 x5 x6 x7 x8 x9 x10 x11 x12 x13 s.2 x15 x16 (.inr r) hs) _ o h
def qb_2_in (x0 : Int) (x1 : Int) (x2 : Int) (x3 : List (T18c3)) (x4 : List (T484d)) (x5 : List (Tedcc)) (x6 : List (List (T18c3))) (x7 : Unit) (x8 : List (B8)) (x9 : List (List (B8))) (x10 : List (B8)) (x11 : Tf0bc) (x12 : Unit) (x13 : List (T8f72)) (x14 : List (T484d)) (x15 : B8) : St := ⟨[(0, (.ptr 0 [])), (5, (.v (.int .i64) x0)), (6, (.ptr 4 [])), (7, (.ptr 7 [])), (103, (.own 1 [])), (104, (.v (.int .i64) x1)), (105, (.v (.int .i64) x2))], [.box Y6488 (.node (.own 1 []) (.node (.own 2 []) (.node (.own 3 []) (.node (.v (.slice Y18c3) x3) (.node (.v (.slice Y484d) x4) (.node (.v (.slice Yedcc) x5) (.node (.v (.slice (.slice Y18c3)) x6) (.v .unit x7)))))))) true, .row Yh x8 true, .row Ybb x9 true, .row .str x10 true, .box Yedcc (.node (.v Yf0bc x11) (.node (.own 5 []) (.node (.own 6 []) (.node (.own 6 []) (.v .unit x12))))) true, .row Y8f72 x13 true, .row Y484d x14 true, .box Yh (.v Yh x15) false], 165, 4⟩
def qb_2_ex (o : Int × (List (T18c3)) × (List (T484d)) × (List (Tedcc)) × (List (List (T18c3))) × Unit × List (B8) × List (List (B8)) × List (B8) × (Tf0bc) × Unit × (List (T8f72)) × List (T484d)) : Exit := (.exit 0)
def qb_2_st (o : Int × (List (T18c3)) × (List (T484d)) × (List (Tedcc)) × (List (List (T18c3))) × Unit × List (B8) × List (List (B8)) × List (B8) × (Tf0bc) × Unit × (List (T8f72)) × List (T484d)) : St := ⟨[(0, (.ptr 0 [])), (5, (.v (.int .i64) o.1)), (6, (.ptr 4 []))], [.box Y6488 (.node (.own 1 []) (.node (.own 2 []) (.node (.own 3 []) (.node (.v (.slice Y18c3) o.2.1) (.node (.v (.slice Y484d) o.2.2.1) (.node (.v (.slice Yedcc) o.2.2.2.1) (.node (.v (.slice (.slice Y18c3)) o.2.2.2.2.1) (.v .unit o.2.2.2.2.2.1)))))))) true, .row Yh o.2.2.2.2.2.2.1 true, .row Ybb o.2.2.2.2.2.2.2.1 true, .row .str o.2.2.2.2.2.2.2.2.1 true, .box Yedcc (.node (.v Yf0bc o.2.2.2.2.2.2.2.2.2.1) (.node (.own 5 []) (.node (.own 6 []) (.node (.own 6 []) (.v .unit o.2.2.2.2.2.2.2.2.2.2.1))))) true, .row Y8f72 o.2.2.2.2.2.2.2.2.2.2.2.1 true, .row Y484d o.2.2.2.2.2.2.2.2.2.2.2.2 true], 165, 4⟩
theorem qb_2_body (x0 : Int) (x1 : Int) (x2 : Int) (x3 : List (T18c3)) (x4 : List (T484d)) (x5 : List (Tedcc)) (x6 : List (List (T18c3))) (x7 : Unit) (x8 : List (B8)) (x9 : List (List (B8))) (x10 : List (B8)) (x11 : Tf0bc) (x12 : Unit) (x13 : List (T8f72)) (x14 : List (T484d)) (x15 : B8) : ∀ r, qb_2_step x0 x1 x2 x3 x4 x5 x6 x7 x8 x9 x10 x11 x12 x13 x14 x15 = some r → (match r with | .inl s => J03 prog (J0w (bodyOf f7) [1, 1, 1, 1, 1, 1, 1, 1, 1, 0, 1, 0, 0]) (qb_2_in x0 x1 x2 x3 x4 x5 x6 x7 x8 x9 x10 x11 x12 x13 x14 x15) .normal (qb_2_in x0 x1 s.1 x3 x4 x5 x6 x7 x8 x9 x10 x11 x12 s.2 x14 x15) | .inr o => qb_2_ex o ≠ .normal ∧ J03 prog (J0w (bodyOf f7) [1, 1, 1, 1, 1, 1, 1, 1, 1, 0, 1, 0, 0]) (qb_2_in x0 x1 x2 x3 x4 x5 x6 x7 x8 x9 x10 x11 x12 x13 x14 x15) (qb_2_ex o) (qb_2_st o)) := by
 intro r h
 unfold qb_2_step at h
 rcases fork_some h with ⟨h42, h⟩ | ⟨h42, h⟩
 ·obtain ⟨h43, h⟩ := need_some h
  obtain ⟨h44, h⟩ := need_some h
  obtain ⟨h45, h⟩ := need_some h
  obtain ⟨u46, h47, h⟩ := andThen_some h
  obtain ⟨h48, h⟩ := need_some h
  injection h with h; subst h
  exact env.code (its := [b1, .pre p28, b0, .asis, .call [none, none, none, none] [] [] false (q2e_R (List.getD x9 (Int.toNat x2) ([] : List (B8))) (List.getD x8 (Int.toNat x2) Z32) (w64 (x0 + (1 : Int))) x15 u46) (q2e_O (List.getD x9 (Int.toNat x2) ([] : List (B8))) (List.getD x8 (Int.toNat x2) Z32) (w64 (x0 + (1 : Int))) x15 u46), .asis, .sel [0, 5, 6, 7, 103, 104, 105] [0, 1, 2, 3, 4, 10, 6, 7]]) (.c h42 (.c h43 (.c h44 (.c h45 (.c rn (.c (q2e_ok (List.getD x9 (Int.toNat x2) ([] : List (B8))) (List.getD x8 (Int.toNat x2) Z32) (w64 (x0 + (1 : Int))) x15 u46 h47) (.c h48 .n))))))) (by kernel_rfl)
 ·injection h with h; subst h
  exact ⟨by intro e; simp [qb_2_ex] at e, env.code (its := [b0, .sel [0, 5, 6] [0, 1, 2, 3, 4, 5, 6]]) (.c h42 .n) (by kernel_rfl)⟩
theorem qb_2_ok (x0 : Int) (x1 : Int) (x2 : Int) (x3 : List (T18c3)) (x4 : List (T484d)) (x5 : List (Tedcc)) (x6 : List (List (T18c3))) (x7 : Unit) (x8 : List (B8)) (x9 : List (List (B8))) (x10 : List (B8)) (x11 : Tf0bc) (x12 : Unit) (x13 : List (T8f72)) (x14 : List (T484d)) (x15 : B8) (o : Int × (List (T18c3)) × (List (T484d)) × (List (Tedcc)) × (List (List (T18c3))) × Unit × List (B8) × List (List (B8)) × List (B8) × (Tf0bc) × Unit × (List (T8f72)) × List (T484d)) (h : qb_2 x0 x1 x2 x3 x4 x5 x6 x7 x8 x9 x10 x11 x12 x13 x14 x15 = some o) : J03 prog (J0w (bodyOf f7) [1, 1, 1, 1, 1, 1, 1, 1, 1, 0, 1, 0]) (qb_2_in x0 x1 x2 x3 x4 x5 x6 x7 x8 x9 x10 x11 x12 x13 x14 x15) (qb_2_ex o) (qb_2_st o) :=
 J06.of_step (st := fun s => qb_2_in x0 x1 s.1 x3 x4 x5 x6 x7 x8 x9 x10 x11 x12 s.2 x14 x15) (ex := qb_2_ex) (stO := qb_2_st) (fun s s2 hs => qb_2_body x0 x1 s.1 x3 x4 x5 x6 x7 x8 x9 x10 x11 x12 s.2 x14 x15 (.inl s2) hs) (fun s r hs => qb_2_body x0 x1 s.1 x3 x4 x5 x6 x7 x8 x9 x10 x11 x12 s.2 x14 x15 (.inr r) hs) _ o h
def qb_R (a0 : Int) (a1 : List (T18c3)) (a2 : List (T484d)) (a3 : List (Tedcc)) (a4 : List (List (T18c3))) (a5 : Unit) (a6 : List (B8)) (a7 : List (List (B8))) (a8 : List (B8)) (u : Int × (List (T18c3)) × (List (T484d)) × (List (Tedcc)) × (List (List (T18c3))) × Unit × List (B8) × List (List (B8)) × List (B8)) : Slot := (.v (.int .i64) u.1)
def qb_O (a0 : Int) (a1 : List (T18c3)) (a2 : List (T484d)) (a3 : List (Tedcc)) (a4 : List (List (T18c3))) (a5 : Unit) (a6 : List (B8)) (a7 : List (List (B8))) (a8 : List (B8)) (u : Int × (List (T18c3)) × (List (T484d)) × (List (Tedcc)) × (List (List (T18c3))) × Unit × List (B8) × List (List (B8)) × List (B8)) : List AObj := [.box Y6488 (.node (.own 1 []) (.node (.own 2 []) (.node (.own 3 []) (.node (.v (.slice Y18c3) u.2.1) (.node (.v (.slice Y484d) u.2.2.1) (.node (.v (.slice Yedcc) u.2.2.2.1) (.node (.v (.slice (.slice Y18c3)) u.2.2.2.2.1) (.v .unit u.2.2.2.2.2.1)))))))) true, .row Yh u.2.2.2.2.2.2.1 true, .row Ybb u.2.2.2.2.2.2.2.1 true, .row .str u.2.2.2.2.2.2.2.2 true]
theorem qb_ok (a0 : Int) (a1 : List (T18c3)) (a2 : List (T484d)) (a3 : List (Tedcc)) (a4 : List (List (T18c3))) (a5 : Unit) (a6 : List (B8)) (a7 : List (List (B8))) (a8 : List (B8)) (u : Int × (List (T18c3)) × (List (T484d)) × (List (Tedcc)) × (List (List (T18c3))) × Unit × List (B8) × List (List (B8)) × List (B8)) (h : qb a0 a1 a2 a3 a4 a5 a6 a7 a8 = some u) : CallC prog 7 [(.ptr 0 []), (.v (.int .i64) a0)] [.box Y6488 (.node (.own 1 []) (.node (.own 2 []) (.node (.own 3 []) (.node (.v (.slice Y18c3) a1) (.node (.v (.slice Y484d) a2) (.node (.v (.slice Yedcc) a3) (.node (.v (.slice (.slice Y18c3)) a4) (.v .unit a5)))))))) true, .row Yh a6 true, .row Ybb a7 true, .row .str a8 true] (qb_R a0 a1 a2 a3 a4 a5 a6 a7 a8 u) (qb_O a0 a1 a2 a3 a4 a5 a6 a7 a8 u) := by
 unfold qb at h
 rcases fork_some h with ⟨h1, h⟩ | ⟨h1, h⟩
 ·injection h with h; subst h
  exact env.fun func7 can7 (its := [b1, b1, b1, b1, b1, b1, b1, b1, b1, b1, b1, b1]) (pos := [.sel [0, 1, 2, 3]]) (.c h1 (.c h1 (.c h1 (.c r1 (.c r1 (.c r1 (.c r1 (.c r1 (.c r1 (.c r1 (.c r1 (.c r1 .n)))))))))))) (by kernel_rfl)
 ·rcases fork_some h with ⟨h2, h⟩ | ⟨h2, h⟩
  ·injection h with h; subst h
   exact env.fun func7 can7 (its := [b0, b0, b0, b1, b1, b1, b1, b1, b1, b1, b1, b1]) (pos := [.sel [0, 1, 2, 3]]) (.c h1 (.c h1 (.c h1 (.c h2 (.c h2 (.c h2 (.c r1 (.c r1 (.c r1 (.c r1 (.c r1 (.c r1 .n)))))))))))) (by kernel_rfl)
  ·rcases fork_some h with ⟨h3, h⟩ | ⟨h3, h⟩
   ·injection h with h; subst h
    exact env.fun func7 can7 (its := [b0, b0, b0, b0, b0, b0, b1, b1, b1, b1, b1, b1]) (pos := [.sel [0, 1, 2, 3]]) (.c h1 (.c h1 (.c h1 (.c h2 (.c h2 (.c h2 (.c h3 (.c h3 (.c h3 (.c h3 (.c h3 (.c r1 .n)))))))))))) (by kernel_rfl)
   ·rcases fork_some h with ⟨h4, h⟩ | ⟨h4, h⟩
    ·obtain ⟨h5, h⟩ := need_some h
     rcases fork_some h with ⟨h6, h⟩ | ⟨h6, h⟩
     ·injection h with h; subst h
      exact env.fun func7 can7 (its := [b0, b0, b0, b0, b0, b0, b0, b0, b0, b1, b1, b1, b1, b1, b1, b1, b1, b1, b1, b1, b1, b0, b1, b0, b1]) (pos := [.sel [0, 1, 2, 3]]) (.c h1 (.c h1 (.c h1 (.c h2 (.c h2 (.c h2 (.c h3 (.c h3 (.c h3 (.c h4 (.c h4 (.c h4 (.c h4 (.c h4 (.c h4 (.c h4 (.c h4 (.c h5 (.c h4 (.c h4 (.c h4 (.c h4 (.c h3 (.c h4 (.c h3 (.c h6 .n)))))))))))))))))))))))))) (by kernel_rfl)
     ·obtain ⟨h7, h⟩ := need_some h
      obtain ⟨u8, h9, h⟩ := andThen_some h
      obtain ⟨u10, h11, h⟩ := andThen_some h
      obtain ⟨u12, h13, h⟩ := andThen_some h
      obtain ⟨u14, h15, h⟩ := andThen_some h
      obtain ⟨u16, h17, h⟩ := andThen_some h
      obtain ⟨o26, h27, h⟩ := andThen_some h
      obtain ⟨h28, h⟩ := need_some h
      obtain ⟨h29, h⟩ := need_some h
      obtain ⟨h30, h⟩ := need_some h
      obtain ⟨h31, h⟩ := need_some h
      injection h with h; subst h
      exact env.fun func7 can7 (its := [b0, b0, b0, b0, b0, b0, b0, b0, b0, b1, b1, b1, b1, b1, b1, b1, b1, b1, b1, b1, b1, b0, b1, b0, b0, .asis, .call [none] [] [] true (qz_R a1 u8) (qz_O a1 u8), .asis, b1, .pre p29, .asis, .call [none] [] [] true (qv_R ((List.getD a3 (Int.toNat (w64 ((List.length a3 : Int) - (1 : Int)))) Zedcc).1) u10) (qv_O ((List.getD a3 (Int.toNat (w64 ((List.length a3 : Int) - (1 : Int)))) Zedcc).1) u10), .pre p30, .asis, .call [none] [] [] true (q15_R ((List.getD a3 (Int.toNat (w64 ((List.length a3 : Int) - (1 : Int)))) Zedcc).2.2.2.1) u12) (q15_O ((List.getD a3 (Int.toNat (w64 ((List.length a3 : Int) - (1 : Int)))) Zedcc).2.2.2.1) u12), .asis, .call [none] [] [0] true (q15_R (([] : List (T484d)) ++ a2) u14) (q15_O (([] : List (T484d)) ++ a2) u14), .call [none] [] [] true (qv_R ((w64 ((List.length a3 : Int) + (1 : Int))), a0, u8, u12, u14, u10, ()) u16) (qv_O ((w64 ((List.length a3 : Int) + (1 : Int))), a0, u8, u12, u14, u10, ()) u16), .dive, .J4w 6 [.fld 1], .freeze [7], .sel [0, 5, 6, 7, 103, 104, 105] [0, 1, 2, 3, 6, 8, 5, 7], .part (qb_1_ex o26) (qb_1_st o26), .pre p31, .pre p32]) (pos := [.J67 0 [.fld 5], .J67 0 [.fld 6], .sel [0, 1, 2, 3]]) (.c h1 (.c h1 (.c h1 (.c h2 (.c h2 (.c h2 (.c h3 (.c h3 (.c h3 (.c h4 (.c h4 (.c h4 (.c h4 (.c h4 (.c h4 (.c h4 (.c h4 (.c h5 (.c h4 (.c h4 (.c h4 (.c h4 (.c h3 (.c h4 (.c h3 (.c h6 (.c h7 (.c (qz_ok a1 u8 h9) (.c h4 (.c h5 (.c h5 (.c rn (.c (qv_ok ((List.getD a3 (Int.toNat (w64 ((List.length a3 : Int) - (1 : Int)))) Zedcc).1) u10 h11) (.c rn (.c (q15_ok ((List.getD a3 (Int.toNat (w64 ((List.length a3 : Int) - (1 : Int)))) Zedcc).2.2.2.1) u12 h13) (.c (rfl : ([.row Y484d (([] : List (T484d)) ++ a2) true] : List AObj) = [.row Y484d (([] : List (T484d)) ++ a2) true]) (.c (q15_ok (([] : List (T484d)) ++ a2) u14 h15) (.c (qv_ok ((w64 ((List.length a3 : Int) + (1 : Int))), a0, u8, u12, u14, u10, ()) u16 h17) (.c (qb_1_ok (List.length a3 : Int) (List.length a6 : Int) (0 : Int) a1 a2 a3 a4 a5 a6 a7 a8 ((w64 ((List.length a3 : Int) + (1 : Int))), a0, u8, u12, u14, u10, ()) (List.getD a3 (Int.toNat (w64 ((List.length a3 : Int) - (1 : Int)))) Zedcc).2.2.2.1 (()) ([] : List (T8f72)) (([] : List (T484d)) ++ a2) u16 o26 h27) (.c h28 (.c h29 (.c h30 (.c h31 .n))))))))))))))))))))))))))))))))))))))))))) (by kernel_rfl)
    ·obtain ⟨h32, h⟩ := need_some h
     obtain ⟨u33, h34, h⟩ := andThen_some h
     obtain ⟨u35, h36, h⟩ := andThen_some h
     obtain ⟨u37, h38, h⟩ := andThen_some h
     obtain ⟨u39, h40, h⟩ := andThen_some h
     obtain ⟨o49, h50, h⟩ := andThen_some h
     obtain ⟨h51, h⟩ := need_some h
     obtain ⟨h52, h⟩ := need_some h
     obtain ⟨h53, h⟩ := need_some h
     obtain ⟨h54, h⟩ := need_some h
     injection h with h; subst h
     exact env.fun func7 can7 (its := [b0, b0, b0, b0, b0, b0, b0, b0, b0, b0, b0, b0, b0, b0, b0, b0, b0, b0, b0, b0, b0, b0, b0, b0, b0, .asis, .call [none] [] [] true (qz_R a1 u33) (qz_O a1 u33), .asis, b0, .pre p30, .asis, .call [none] [] [0] true (q15_R (([] : List (T484d)) ++ a2) u35) (q15_O (([] : List (T484d)) ++ a2) u35), .asis, .call [none] [] [0] true (q15_R (([] : List (T484d)) ++ a2) u37) (q15_O (([] : List (T484d)) ++ a2) u37), .call [none] [] [] true (qv_R ((w64 ((List.length a3 : Int) + (1 : Int))), a0, u33, u35, u37, Z32, ()) u39) (qv_O ((w64 ((List.length a3 : Int) + (1 : Int))), a0, u33, u35, u37, Z32, ()) u39), .dive, .J4w 6 [.fld 1], .freeze [7], .sel [0, 5, 6, 7, 103, 104, 105] [0, 1, 2, 3, 6, 8, 5, 7], .part (qb_2_ex o49) (qb_2_st o49), .pre p31, .pre p32]) (pos := [.J67 0 [.fld 5], .J67 0 [.fld 6], .sel [0, 1, 2, 3]]) (.c h1 (.c h1 (.c h1 (.c h2 (.c h2 (.c h2 (.c h3 (.c h3 (.c h3 (.c h4 (.c h4 (.c h4 (.c h4 (.c h4 (.c h4 (.c h4 (.c h4 (.c h4 (.c h4 (.c h4 (.c h4 (.c h3 (.c h4 (.c h3 (.c r0 (.c h32 (.c (qz_ok a1 u33 h34) (.c h4 (.c (rfl : ([.row Y484d (([] : List (T484d)) ++ a2) true] : List AObj) = [.row Y484d (([] : List (T484d)) ++ a2) true]) (.c (q15_ok (([] : List (T484d)) ++ a2) u35 h36) (.c (rfl : ([.row Y484d (([] : List (T484d)) ++ a2) true] : List AObj) = [.row Y484d (([] : List (T484d)) ++ a2) true]) (.c (q15_ok (([] : List (T484d)) ++ a2) u37 h38) (.c (qv_ok ((w64 ((List.length a3 : Int) + (1 : Int))), a0, u33, u35, u37, Z32, ()) u39 h40) (.c (qb_2_ok (List.length a3 : Int) (List.length a6 : Int) (0 : Int) a1 a2 a3 a4 a5 a6 a7 a8 ((w64 ((List.length a3 : Int) + (1 : Int))), a0, u33, u35, u37, Z32, ()) (()) ([] : List (T8f72)) (([] : List (T484d)) ++ a2) u39 o49 h50) (.c h51 (.c h52 (.c h53 (.c h54 .n)))))))))))))))))))))))))))))))))))))) (by kernel_rfl)
theorem can36 : J01 prog 36 := ⟨_, func36, by kernel_rfl, by kernel_rfl⟩
def q2o_R (a0 : Tf0bc) (u : Bool) : Slot := (.v .bool u)
def q2o_O (a0 : Tf0bc) (u : Bool) : List AObj := []
theorem q2o_ok (a0 : Tf0bc) (u : Bool) (h : q2o a0 = some u) : CallC prog 36 [(.v Yf0bc a0)] [] (q2o_R a0 u) (q2o_O a0 u) := by
 unfold q2o at h
 rcases fork_some h with ⟨h1, h⟩ | ⟨h1, h⟩
 ·rcases fork_some h with ⟨h2, h⟩ | ⟨h2, h⟩
  ·rcases fork_some h with ⟨h3, h⟩ | ⟨h3, h⟩
   ·injection h with h; subst h
    exact env.fun func36 can36 (its := [b1, b1, b1, b1, b1, b1, b1, b1, b1, b1, b1, b1]) (pos := s0) (.c h1 (.c h1 (.c h1 (.c h1 (.c h2 (.c h2 (.c h2 (.c h2 (.c h3 (.c h3 (.c h3 (.c h3 .n)))))))))))) (by kernel_rfl)
   ·injection h with h; subst h
    exact env.fun func36 can36 (its := [b1, b1, b1, b1, b1, b1, b1, b1, b0, b0, b0, b0]) (pos := s0) (.c h1 (.c h1 (.c h1 (.c h1 (.c h2 (.c h2 (.c h2 (.c h2 (.c h3 (.c h3 (.c h3 (.c h3 .n)))))))))))) (by kernel_rfl)
  ·injection h with h; subst h
   exact env.fun func36 can36 (its := [b1, b1, b1, b1, b0, b0, b0, b0, b0, b0, b0, b0]) (pos := s0) (.c h1 (.c h1 (.c h1 (.c h1 (.c h2 (.c h2 (.c h2 (.c h2 (.c r0 (.c r0 (.c r0 (.c r0 .n)))))))))))) (by kernel_rfl)
 ·injection h with h; subst h
  exact env.fun func36 can36 (its := [b0, b0, b0, b0, b0, b0, b0, b0, b0, b0, b0, b0]) (pos := s0) (.c h1 (.c h1 (.c h1 (.c h1 (.c r0 (.c r0 (.c r0 (.c r0 (.c r0 (.c r0 (.c r0 (.c r0 .n)))))))))))) (by kernel_rfl)
theorem can63 : J01 prog 63 := ⟨_, func63, by kernel_rfl, by kernel_rfl⟩
def q3h_R (a0 : T484d) (u : Bool) : Slot := (.v .bool u)
def q3h_O (a0 : T484d) (u : Bool) : List AObj := []
theorem q3h_ok (a0 : T484d) (u : Bool) (h : q3h a0 = some u) : CallC prog 63 [(.v Y484d a0)] [] (q3h_R a0 u) (q3h_O a0 u) := by
 unfold q3h at h
 rcases fork_some h with ⟨h1, h⟩ | ⟨h1, h⟩
 ·rcases fork_some h with ⟨h2, h⟩ | ⟨h2, h⟩
  ·rcases fork_some h with ⟨h3, h⟩ | ⟨h3, h⟩
   ·injection h with h; subst h
    exact env.fun func63 can63 (its := [b1, b1, b1, b1, b1, b1, b1, b1, b1, b1, b1, b1, b1]) (pos := s0) (.c h1 (.c h1 (.c h1 (.c h1 (.c h1 (.c h2 (.c h2 (.c h2 (.c h2 (.c h3 (.c h3 (.c h3 (.c h3 .n))))))))))))) (by kernel_rfl)
   ·injection h with h; subst h
    exact env.fun func63 can63 (its := [b1, b1, b1, b1, b1, b1, b1, b1, b1, b0, b0, b0, b0]) (pos := s0) (.c h1 (.c h1 (.c h1 (.c h1 (.c h1 (.c h2 (.c h2 (.c h2 (.c h2 (.c h3 (.c h3 (.c h3 (.c h3 .n))))))))))))) (by kernel_rfl)
  ·injection h with h; subst h
   exact env.fun func63 can63 (its := [b1, b1, b1, b1, b1, b0, b0, b0, b0, b0, b0, b0, b0]) (pos := s0) (.c h1 (.c h1 (.c h1 (.c h1 (.c h1 (.c h2 (.c h2 (.c h2 (.c h2 (.c r0 (.c r0 (.c r0 (.c r0 .n))))))))))))) (by kernel_rfl)
 ·injection h with h; subst h
  exact env.fun func63 can63 (its := [b0, b0, b0, b0, b0, b0, b0, b0, b0, b0, b0, b0, b0]) (pos := s0) (.c h1 (.c h1 (.c h1 (.c h1 (.c h1 (.c r0 (.c r0 (.c r0 (.c r0 (.c r0 (.c r0 (.c r0 (.c r0 .n))))))))))))) (by kernel_rfl)
theorem can37 : J01 prog 37 := ⟨_, func37, by kernel_rfl, by kernel_rfl⟩
def q2q_1_in (x0 : List (T484d)) (x1 : List (T484d)) (x2 : Int) (x3 : Int) : St := ⟨[(0, (.v (.slice Y484d) x0)), (5, (.v (.slice Y484d) x1)), (6, (.v (.int .i64) x2)), (7, (.v (.int .i64) x3))], [], 39, 0⟩
def q2q_1_ex (o : (Bool) ⊕ (List (T484d))) : Exit := match o with | (.inl o) => .ret | (.inr o) => (.exit 0)
def q2q_1_st (o : (Bool) ⊕ (List (T484d))) : St := match o with | (.inl o) => ⟨[(2, (.v .bool o))], [], 39, 0⟩ | (.inr o) => ⟨[(0, (.v (.slice Y484d) o))], [], 39, 0⟩
theorem q2q_1_body (x0 : List (T484d)) (x1 : List (T484d)) (x2 : Int) (x3 : Int) : ∀ r, q2q_1_step x0 x1 x2 x3 = some r → (match r with | .inl s => J03 prog (J0w (bodyOf f37) [1, 0, 1, 0, 0]) (q2q_1_in x0 x1 x2 x3) .normal (q2q_1_in x0 x1 x2 s) | .inr o => q2q_1_ex o ≠ .normal ∧ J03 prog (J0w (bodyOf f37) [1, 0, 1, 0, 0]) (q2q_1_in x0 x1 x2 x3) (q2q_1_ex o) (q2q_1_st o)) := by
 intro r h
 unfold q2q_1_step at h
 rcases fork_some h with ⟨h2, h⟩ | ⟨h2, h⟩
 ·obtain ⟨h3, h⟩ := need_some h
  obtain ⟨u4, h5, h⟩ := andThen_some h
  rcases fork_some h with ⟨h6, h⟩ | ⟨h6, h⟩
  ·injection h with h; subst h
   exact ⟨by intro e; simp [q2q_1_ex] at e, env.code (its := [b1, .pre p33, .asis, .call [none] [] [] true (q3h_R (List.getD x1 (Int.toNat x3) Z484d) u4) (q3h_O (List.getD x1 (Int.toNat x3) Z484d) u4), b1, b1, b1, b1, b1, b1, .sel [2] []]) (.c h2 (.c h3 (.c rn (.c (q3h_ok (List.getD x1 (Int.toNat x3) Z484d) u4 h5) (.c h6 (.c h6 (.c h6 (.c h6 (.c h6 (.c r1 .n)))))))))) (by kernel_rfl)⟩
  ·rcases fork_some h with ⟨h7, h⟩ | ⟨h7, h⟩
   ·obtain ⟨h8, h⟩ := need_some h
    rcases fork_some h with ⟨h9, h⟩ | ⟨h9, h⟩
    ·injection h with h; subst h
     exact ⟨by intro e; simp [q2q_1_ex] at e, env.code (its := [b1, .pre p33, .asis, .call [none] [] [] true (q3h_R (List.getD x1 (Int.toNat x3) Z484d) u4) (q3h_O (List.getD x1 (Int.toNat x3) Z484d) u4), b0, b0, b0, b1, b1, b1, b1, b1, b1, b1, b1, b1, b0, b1, b0, b1, .sel [2] []]) (.c h2 (.c h3 (.c rn (.c (q3h_ok (List.getD x1 (Int.toNat x3) Z484d) u4 h5) (.c h6 (.c h6 (.c h6 (.c h7 (.c h7 (.c h7 (.c h7 (.c h8 (.c h7 (.c h7 (.c h7 (.c h7 (.c h7 (.c h6 (.c h7 (.c h6 (.c h9 .n))))))))))))))))))))) (by kernel_rfl)⟩
    ·injection h with h; subst h
     exact env.code (its := [b1, .pre p33, .asis, .call [none] [] [] true (q3h_R (List.getD x1 (Int.toNat x3) Z484d) u4) (q3h_O (List.getD x1 (Int.toNat x3) Z484d) u4), b0, b0, b0, b1, b1, b1, b1, b1, b1, b1, b1, b1, b0, b1, b0, b0, .sel [0, 5, 6, 7] []]) (.c h2 (.c h3 (.c rn (.c (q3h_ok (List.getD x1 (Int.toNat x3) Z484d) u4 h5) (.c h6 (.c h6 (.c h6 (.c h7 (.c h7 (.c h7 (.c h7 (.c h8 (.c h7 (.c h7 (.c h7 (.c h7 (.c h7 (.c h6 (.c h7 (.c h6 (.c h9 .n))))))))))))))))))))) (by kernel_rfl)
   ·injection h with h; subst h
    exact env.code (its := [b1, .pre p33, .asis, .call [none] [] [] true (q3h_R (List.getD x1 (Int.toNat x3) Z484d) u4) (q3h_O (List.getD x1 (Int.toNat x3) Z484d) u4), b0, b0, b0, b0, b0, b0, b0, b0, b0, b0, b0, b0, b0, b0, b0, b0, .sel [0, 5, 6, 7] []]) (.c h2 (.c h3 (.c rn (.c (q3h_ok (List.getD x1 (Int.toNat x3) Z484d) u4 h5) (.c h6 (.c h6 (.c h6 (.c h7 (.c h7 (.c h7 (.c h7 (.c h7 (.c h7 (.c h7 (.c h7 (.c h7 (.c h6 (.c h7 (.c h6 (.c r0 .n)))))))))))))))))))) (by kernel_rfl)
 ·injection h with h; subst h
  exact ⟨by intro e; simp [q2q_1_ex] at e, env.code (its := [b0, .sel [0] []]) (.c h2 .n) (by kernel_rfl)⟩
theorem q2q_1_ok (x0 : List (T484d)) (x1 : List (T484d)) (x2 : Int) (x3 : Int) (o : (Bool) ⊕ (List (T484d))) (h : q2q_1 x0 x1 x2 x3 = some o) : J03 prog (J0w (bodyOf f37) [1, 0, 1, 0]) (q2q_1_in x0 x1 x2 x3) (q2q_1_ex o) (q2q_1_st o) :=
 J06.of_step (st := fun s => q2q_1_in x0 x1 x2 s) (ex := q2q_1_ex) (stO := q2q_1_st) (fun s s2 hs => q2q_1_body x0 x1 x2 s (.inl s2) hs) (fun s r hs => q2q_1_body x0 x1 x2 s (.inr r) hs) _ o h
def q2q_R (a0 : List (T484d)) (u : Bool) : Slot := (.v .bool u)
def q2q_O (a0 : List (T484d)) (u : Bool) : List AObj := []
theorem q2q_ok (a0 : List (T484d)) (u : Bool) (h : q2q a0 = some u) : CallC prog 37 [(.v (.slice Y484d) a0)] [] (q2q_R a0 u) (q2q_O a0 u) := by
 unfold q2q at h
 obtain ⟨o10, h11, h⟩ := andThen_some h
 rcases o10 with o12 | o13
 ·injection h with h; subst h
  exact env.fun func37 can37 (its := [.dive, .sel [0, 5, 6, 7] [], .part (q2q_1_ex (.inl o12)) (q2q_1_st (.inl o12))]) (pos := s0) (.c (q2q_1_ok a0 a0 (List.length a0 : Int) (0 : Int) (.inl o12) h11) .n) (by kernel_rfl)
 ·rcases fork_some h with ⟨h14, h⟩ | ⟨h14, h⟩
  ·injection h with h; subst h
   exact env.fun func37 can37 (its := [.dive, .sel [0, 5, 6, 7] [], .part (q2q_1_ex (.inr o13)) (q2q_1_st (.inr o13)), b1, b1, b1, b1]) (pos := s0) (.c (q2q_1_ok a0 a0 (List.length a0 : Int) (0 : Int) (.inr o13) h11) (.c h14 (.c h14 (.c h14 (.c h14 .n))))) (by kernel_rfl)
  ·injection h with h; subst h
   exact env.fun func37 can37 (its := [.dive, .sel [0, 5, 6, 7] [], .part (q2q_1_ex (.inr o13)) (q2q_1_st (.inr o13)), b0, b0, b0, b0]) (pos := s0) (.c (q2q_1_ok a0 a0 (List.length a0 : Int) (0 : Int) (.inr o13) h11) (.c h14 (.c h14 (.c h14 (.c h14 .n))))) (by kernel_rfl)
theorem can79 : J01 prog 79 := ⟨_, func79, by kernel_rfl, by kernel_rfl⟩
def q3f_1_in (x0 : Int) (x1 : B8) : St := ⟨[(0, (.v (.int .i64) x0)), (3, (.own 0 []))], [.row (.int .u8) x1 true], 26, 0⟩
def q3f_1_ex (o : Int × B8) : Exit := (.exit 0)
def q3f_1_st (o : Int × B8) : St := ⟨[(0, (.v (.int .i64) o.1)), (3, (.own 0 []))], [.row (.int .u8) o.2 true], 26, 0⟩
theorem q3f_1_body (x0 : Int) (x1 : B8) : ∀ r, q3f_1_step x0 x1 = some r → (match r with | .inl s => J03 prog (J0w (bodyOf f79) [1, 1, 1, 0, 0, 0]) (q3f_1_in x0 x1) .normal (q3f_1_in s.1 s.2) | .inr o => q3f_1_ex o ≠ .normal ∧ J03 prog (J0w (bodyOf f79) [1, 1, 1, 0, 0, 0]) (q3f_1_in x0 x1) (q3f_1_ex o) (q3f_1_st o)) := by
 intro r h
 unfold q3f_1_step at h
 rcases fork_some h with ⟨h4, h⟩ | ⟨h4, h⟩
 ·obtain ⟨h5, h⟩ := need_some h
  injection h with h; subst h
  exact env.code (its := [b1, .dive, .sel [0, 3] [2]]) (.c h4 (.c h5 (.c (of_decide_eq_true (p := (0 ≤ (7 : Int))) (by kernel_rfl)) .n))) (by kernel_rfl)
 ·injection h with h; subst h
  exact ⟨by intro e; simp [q3f_1_ex] at e, env.code (its := [b0, .sel [0, 3] [0]]) (.c h4 .n) (by kernel_rfl)⟩
theorem q3f_1_ok (x0 : Int) (x1 : B8) (o : Int × B8) (h : q3f_1 x0 x1 = some o) : J03 prog (J0w (bodyOf f79) [1, 1, 1, 0, 0]) (q3f_1_in x0 x1) (q3f_1_ex o) (q3f_1_st o) :=
 J06.of_step (st := fun s => q3f_1_in s.1 s.2) (ex := q3f_1_ex) (stO := q3f_1_st) (fun s s2 hs => q3f_1_body s.1 s.2 (.inl s2) hs) (fun s r hs => q3f_1_body s.1 s.2 (.inr r) hs) _ o h
def q3f_R (a0 : Int) (u : B8) : Slot := (.own 0 [])
def q3f_O (a0 : Int) (u : B8) : List AObj := [.row (.int .u8) u true]
theorem q3f_ok (a0 : Int) (u : B8) (h : q3f a0 = some u) : CallC prog 79 [(.v (.int .i64) a0)] [] (q3f_R a0 u) (q3f_O a0 u) := by
 unfold q3f at h
 rcases fork_some h with ⟨h1, h⟩ | ⟨h1, h⟩
 ·injection h with h; subst h
  exact env.fun func79 can79 (its := [b1, b1, b1, b1]) (pos := [.promote (.int .u8), .sel [0]]) (.c h1 (.c h1 (.c h1 (.c r1 .n)))) (by kernel_rfl)
 ·rcases fork_some h with ⟨h2, h⟩ | ⟨h2, h⟩
  ·injection h with h; subst h
   exact env.fun func79 can79 (its := [b0, b0, b0, b1]) (pos := [.promote (.int .u8), .sel [0]]) (.c h1 (.c h1 (.c h1 (.c h2 .n)))) (by kernel_rfl)
  ·obtain ⟨o6, h7, h⟩ := andThen_some h
   obtain ⟨h8, h⟩ := need_some h
   injection h with h; subst h
   exact env.fun func79 can79 (its := [b0, b0, b0, b0, .dive, .promote 3 (.int .u8), .sel [0, 3] [0], .part (q3f_1_ex o6) (q3f_1_st o6)]) (pos := [.sel [2]]) (.c h1 (.c h1 (.c h1 (.c h2 (.c (q3f_1_ok a0 ([] : List (UInt8)) o6 h7) (.c h8 .n)))))) (by kernel_rfl)
theorem can64 : J01 prog 64 := ⟨_, func64, by kernel_rfl, by kernel_rfl⟩
def q3g_1_in (x0 : List Int) (x1 : Int) (x2 : Int) (x3 : B8) : St := ⟨[(3, (.own 0 [])), (6, (.v (.slice (.int .i64)) x0)), (7, (.v (.int .i64) x1)), (8, (.v (.int .i64) x2))], [.row (.int .u8) x3 true], 18, 0⟩
def q3g_1_ex (o : B8) : Exit := (.exit 0)
def q3g_1_st (o : B8) : St := ⟨[(3, (.own 0 []))], [.row (.int .u8) o true], 18, 0⟩
theorem q3g_1_body (x0 : List Int) (x1 : Int) (x2 : Int) (x3 : B8) : ∀ r, q3g_1_step x0 x1 x2 x3 = some r → (match r with | .inl s => J03 prog (J0w (bodyOf f64) [1, 1, 0, 1, 0, 0]) (q3g_1_in x0 x1 x2 x3) .normal (q3g_1_in x0 x1 s.1 s.2) | .inr o => q3g_1_ex o ≠ .normal ∧ J03 prog (J0w (bodyOf f64) [1, 1, 0, 1, 0, 0]) (q3g_1_in x0 x1 x2 x3) (q3g_1_ex o) (q3g_1_st o)) := by
 intro r h
 unfold q3g_1_step at h
 rcases fork_some h with ⟨h2, h⟩ | ⟨h2, h⟩
 ·obtain ⟨h3, h⟩ := need_some h
  obtain ⟨u4, h5, h⟩ := andThen_some h
  obtain ⟨h6, h⟩ := need_some h
  injection h with h; subst h
  exact env.code (its := [b1, .call [none] [] [] true (q3f_R (List.getD x0 (Int.toNat x2) (0 : Int)) u4) (q3f_O (List.getD x0 (Int.toNat x2) (0 : Int)) u4), .sel [3, 6, 7, 8] [2]]) (.c h2 (.c h3 (.c (q3f_ok (List.getD x0 (Int.toNat x2) (0 : Int)) u4 h5) (.c h6 .n)))) (by kernel_rfl)
 ·injection h with h; subst h
  exact ⟨by intro e; simp [q3g_1_ex] at e, env.code (its := [b0, .sel [3] [0]]) (.c h2 .n) (by kernel_rfl)⟩
theorem q3g_1_ok (x0 : List Int) (x1 : Int) (x2 : Int) (x3 : B8) (o : B8) (h : q3g_1 x0 x1 x2 x3 = some o) : J03 prog (J0w (bodyOf f64) [1, 1, 0, 1, 0]) (q3g_1_in x0 x1 x2 x3) (q3g_1_ex o) (q3g_1_st o) :=
 J06.of_step (st := fun s => q3g_1_in x0 x1 s.1 s.2) (ex := q3g_1_ex) (stO := q3g_1_st) (fun s s2 hs => q3g_1_body x0 x1 s.1 s.2 (.inl s2) hs) (fun s r hs => q3g_1_body x0 x1 s.1 s.2 (.inr r) hs) _ o h
def q3g_R (a0 : List Int) (u : B8) : Slot := (.own 0 [])
def q3g_O (a0 : List Int) (u : B8) : List AObj := [.row (.int .u8) u true]
theorem q3g_ok (a0 : List Int) (u : B8) (h : q3g a0 = some u) : CallC prog 64 [(.v (.slice (.int .i64)) a0)] [] (q3g_R a0 u) (q3g_O a0 u) := by
 unfold q3g at h
 obtain ⟨o7, h8, h⟩ := andThen_some h
 injection h with h; subst h
 exact env.fun func64 can64 (its := [.dive, .promote 3 (.int .u8), .sel [3, 6, 7, 8] [0], .part (q3g_1_ex o7) (q3g_1_st o7)]) (pos := s1) (.c (q3g_1_ok a0 (List.length a0 : Int) (0 : Int) ([] : List (UInt8)) o7 h8) .n) (by kernel_rfl)
theorem can66 : J01 prog 66 := ⟨_, func66, by kernel_rfl, by kernel_rfl⟩
def q3e_1_in (x0 : List (B8)) (x1 : Int) (x2 : Int) (x3 : B8) : St := ⟨[(3, (.own 0 [])), (6, (.v (.slice .str) x0)), (7, (.v (.int .i64) x1)), (8, (.v (.int .i64) x2))], [.row (.int .u8) x3 true], 21, 0⟩
def q3e_1_ex (o : B8) : Exit := (.exit 0)
def q3e_1_st (o : B8) : St := ⟨[(3, (.own 0 []))], [.row (.int .u8) o true], 21, 0⟩
theorem q3e_1_body (x0 : List (B8)) (x1 : Int) (x2 : Int) (x3 : B8) : ∀ r, q3e_1_step x0 x1 x2 x3 = some r → (match r with | .inl s => J03 prog (J0w (bodyOf f66) [1, 1, 0, 1, 0, 0]) (q3e_1_in x0 x1 x2 x3) .normal (q3e_1_in x0 x1 s.1 s.2) | .inr o => q3e_1_ex o ≠ .normal ∧ J03 prog (J0w (bodyOf f66) [1, 1, 0, 1, 0, 0]) (q3e_1_in x0 x1 x2 x3) (q3e_1_ex o) (q3e_1_st o)) := by
 intro r h
 unfold q3e_1_step at h
 rcases fork_some h with ⟨h2, h⟩ | ⟨h2, h⟩
 ·obtain ⟨h3, h⟩ := need_some h
  obtain ⟨u4, h5, h⟩ := andThen_some h
  obtain ⟨h6, h⟩ := need_some h
  obtain ⟨h7, h⟩ := need_some h
  injection h with h; subst h
  exact env.code (its := [b1, .call [none] [] [] true (q3f_R (List.length (List.getD x0 (Int.toNat x2) ([] : B8)) : Int) u4) (q3f_O (List.length (List.getD x0 (Int.toNat x2) ([] : B8)) : Int) u4), .sel [3, 6, 7, 8] [3]]) (.c h2 (.c h3 (.c (q3f_ok (List.length (List.getD x0 (Int.toNat x2) ([] : B8)) : Int) u4 h5) (.c h6 (.c h7 .n))))) (by kernel_rfl)
 ·injection h with h; subst h
  exact ⟨by intro e; simp [q3e_1_ex] at e, env.code (its := [b0, .sel [3] [0]]) (.c h2 .n) (by kernel_rfl)⟩
theorem q3e_1_ok (x0 : List (B8)) (x1 : Int) (x2 : Int) (x3 : B8) (o : B8) (h : q3e_1 x0 x1 x2 x3 = some o) : J03 prog (J0w (bodyOf f66) [1, 1, 0, 1, 0]) (q3e_1_in x0 x1 x2 x3) (q3e_1_ex o) (q3e_1_st o) :=
 J06.of_step (st := fun s => q3e_1_in x0 x1 s.1 s.2) (ex := q3e_1_ex) (stO := q3e_1_st) (fun s s2 hs => q3e_1_body x0 x1 s.1 s.2 (.inl s2) hs) (fun s r hs => q3e_1_body x0 x1 s.1 s.2 (.inr r) hs) _ o h
def q3e_R (a0 : List (B8)) (u : B8) : Slot := (.own 0 [])
def q3e_O (a0 : List (B8)) (u : B8) : List AObj := [.row (.int .u8) u true]
theorem q3e_ok (a0 : List (B8)) (u : B8) (h : q3e a0 = some u) : CallC prog 66 [(.v (.slice .str) a0)] [] (q3e_R a0 u) (q3e_O a0 u) := by
 unfold q3e at h
 obtain ⟨o8, h9, h⟩ := andThen_some h
 injection h with h; subst h
 exact env.fun func66 can66 (its := [.dive, .promote 3 (.int .u8), .sel [3, 6, 7, 8] [0], .part (q3e_1_ex o8) (q3e_1_st o8)]) (pos := s1) (.c (q3e_1_ok a0 (List.length a0 : Int) (0 : Int) ([] : List (UInt8)) o8 h9) .n) (by kernel_rfl)
theorem can67 : J01 prog 67 := ⟨_, func67, by kernel_rfl, by kernel_rfl⟩
def q3c_1_in (x0 : List (B8)) (x1 : Int) (x2 : Int) (x3 : B8) : St := ⟨[(3, (.own 0 [])), (6, (.v (.slice Yh) x0)), (7, (.v (.int .i64) x1)), (8, (.v (.int .i64) x2))], [.row (.int .u8) x3 true], 17, 0⟩
def q3c_1_ex (o : B8) : Exit := (.exit 0)
def q3c_1_st (o : B8) : St := ⟨[(3, (.own 0 []))], [.row (.int .u8) o true], 17, 0⟩
theorem q3c_1_body (x0 : List (B8)) (x1 : Int) (x2 : Int) (x3 : B8) : ∀ r, q3c_1_step x0 x1 x2 x3 = some r → (match r with | .inl s => J03 prog (J0w (bodyOf f67) [1, 1, 0, 1, 0, 0]) (q3c_1_in x0 x1 x2 x3) .normal (q3c_1_in x0 x1 s.1 s.2) | .inr o => q3c_1_ex o ≠ .normal ∧ J03 prog (J0w (bodyOf f67) [1, 1, 0, 1, 0, 0]) (q3c_1_in x0 x1 x2 x3) (q3c_1_ex o) (q3c_1_st o)) := by
 intro r h
 unfold q3c_1_step at h
 rcases fork_some h with ⟨h2, h⟩ | ⟨h2, h⟩
 ·obtain ⟨h3, h⟩ := need_some h
  obtain ⟨h4, h⟩ := need_some h
  injection h with h; subst h
  exact env.code (its := [b1, b1, .sel [3, 6, 7, 8] [2]]) (.c h2 (.c h3 (.c h4 .n))) (by kernel_rfl)
 ·injection h with h; subst h
  exact ⟨by intro e; simp [q3c_1_ex] at e, env.code (its := [b0, .sel [3] [0]]) (.c h2 .n) (by kernel_rfl)⟩
theorem q3c_1_ok (x0 : List (B8)) (x1 : Int) (x2 : Int) (x3 : B8) (o : B8) (h : q3c_1 x0 x1 x2 x3 = some o) : J03 prog (J0w (bodyOf f67) [1, 1, 0, 1, 0]) (q3c_1_in x0 x1 x2 x3) (q3c_1_ex o) (q3c_1_st o) :=
 J06.of_step (st := fun s => q3c_1_in x0 x1 s.1 s.2) (ex := q3c_1_ex) (stO := q3c_1_st) (fun s s2 hs => q3c_1_body x0 x1 s.1 s.2 (.inl s2) hs) (fun s r hs => q3c_1_body x0 x1 s.1 s.2 (.inr r) hs) _ o h
def q3c_R (a0 : List (B8)) (u : B8) : Slot := (.own 0 [])
def q3c_O (a0 : List (B8)) (u : B8) : List AObj := [.row (.int .u8) u true]
theorem q3c_ok (a0 : List (B8)) (u : B8) (h : q3c a0 = some u) : CallC prog 67 [(.v (.slice Yh) a0)] [] (q3c_R a0 u) (q3c_O a0 u) := by
 unfold q3c at h
 obtain ⟨o5, h6, h⟩ := andThen_some h
 injection h with h; subst h
 exact env.fun func67 can67 (its := [.dive, .promote 3 (.int .u8), .sel [3, 6, 7, 8] [0], .part (q3c_1_ex o5) (q3c_1_st o5)]) (pos := s1) (.c (q3c_1_ok a0 (List.length a0 : Int) (0 : Int) ([] : List (UInt8)) o5 h6) .n) (by kernel_rfl)
theorem can80 : J01 prog 80 := ⟨_, func80, by kernel_rfl, by kernel_rfl⟩
def qe_R (a0 : Int) (u : B8) : Slot := (.own 0 [])
def qe_O (a0 : Int) (u : B8) : List AObj := [.row (.int .u8) u true]
theorem qe_ok (a0 : Int) (u : B8) (h : qe a0 = some u) : CallC prog 80 [.nil, (.v (.int .i64) a0)] [] (qe_R a0 u) (qe_O a0 u) := by
 unfold qe at h
 rcases fork_some h with ⟨h1, h⟩ | ⟨h1, h⟩
 ·cases h
 ·rcases fork_some h with ⟨h2, h⟩ | ⟨h2, h⟩
  ·obtain ⟨h3, h⟩ := need_some h
   obtain ⟨h4, h⟩ := need_some h
   obtain ⟨h5, h⟩ := need_some h
   obtain ⟨h6, h⟩ := need_some h
   injection h with h; subst h
   exact env.fun func80 can80 (its := [b0, b1, b1, b1]) (pos := [.sel [1]]) (.c h1 (.c h2 (.c h3 (.c h4 (.c h5 (.c h6 .n)))))) (by kernel_rfl)
  ·injection h with h; subst h
   exact env.fun func80 can80 (its := [b0, b0]) (pos := [.promote (.int .u8), .sel [0]]) (.c h1 (.c h2 .n)) (by kernel_rfl)
theorem can65 : J01 prog 65 := ⟨_, func65, by kernel_rfl, by kernel_rfl⟩
def qo_1_in (x0 : List (B8)) (x1 : Int) (x2 : List (B8)) (x3 : Int) (x4 : Int) : St := ⟨[(0, (.v Ybb x0)), (3, (.v (.int .i64) x1)), (9, (.v Ybb x2)), (10, (.v (.int .i64) x3)), (11, (.v (.int .i64) x4))], [], 36, 0⟩
def qo_1_ex (o : List (B8) × Int) : Exit := (.exit 0)
def qo_1_st (o : List (B8) × Int) : St := ⟨[(0, (.v Ybb o.1)), (3, (.v (.int .i64) o.2))], [], 36, 0⟩
theorem qo_1_body (x0 : List (B8)) (x1 : Int) (x2 : List (B8)) (x3 : Int) (x4 : Int) : ∀ r, qo_1_step x0 x1 x2 x3 x4 = some r → (match r with | .inl s => J03 prog (J0w (bodyOf f65) [1, 1, 0, 1, 0, 0]) (qo_1_in x0 x1 x2 x3 x4) .normal (qo_1_in x0 s.1 x2 x3 s.2) | .inr o => qo_1_ex o ≠ .normal ∧ J03 prog (J0w (bodyOf f65) [1, 1, 0, 1, 0, 0]) (qo_1_in x0 x1 x2 x3 x4) (qo_1_ex o) (qo_1_st o)) := by
 intro r h
 unfold qo_1_step at h
 rcases fork_some h with ⟨h2, h⟩ | ⟨h2, h⟩
 ·obtain ⟨h3, h⟩ := need_some h
  rcases fork_some h with ⟨h4, h⟩ | ⟨h4, h⟩
  ·cases h
  ·injection h with h; subst h
   exact env.code (its := [b1, b0, .sel [0, 3, 9, 10, 11] []]) (.c h2 (.c h3 (.c h4 .n))) (by kernel_rfl)
 ·injection h with h; subst h
  exact ⟨by intro e; simp [qo_1_ex] at e, env.code (its := [b0, .sel [0, 3] []]) (.c h2 .n) (by kernel_rfl)⟩
theorem qo_1_ok (x0 : List (B8)) (x1 : Int) (x2 : List (B8)) (x3 : Int) (x4 : Int) (o : List (B8) × Int) (h : qo_1 x0 x1 x2 x3 x4 = some o) : J03 prog (J0w (bodyOf f65) [1, 1, 0, 1, 0]) (qo_1_in x0 x1 x2 x3 x4) (qo_1_ex o) (qo_1_st o) :=
 J06.of_step (st := fun s => qo_1_in x0 s.1 x2 x3 s.2) (ex := qo_1_ex) (stO := qo_1_st) (fun s s2 hs => qo_1_body x0 s.1 x2 x3 s.2 (.inl s2) hs) (fun s r hs => qo_1_body x0 s.1 x2 x3 s.2 (.inr r) hs) _ o h
def qo_2_in (x0 : List (B8)) (x1 : Int) (x2 : Int) (x3 : B8) : St := ⟨[(6, (.own 0 [])), (25, (.v Ybb x0)), (26, (.v (.int .i64) x1)), (27, (.v (.int .i64) x2))], [.row (.int .u8) x3 true], 36, 0⟩
def qo_2_ex (o : B8) : Exit := (.exit 2)
def qo_2_st (o : B8) : St := ⟨[(6, (.own 0 []))], [.row (.int .u8) o true], 36, 0⟩
theorem qo_2_body (x0 : List (B8)) (x1 : Int) (x2 : Int) (x3 : B8) : ∀ r, qo_2_step x0 x1 x2 x3 = some r → (match r with | .inl s => J03 prog (J0w (bodyOf f65) [1, 1, 1, 1, 0, 1, 0, 0]) (qo_2_in x0 x1 x2 x3) .normal (qo_2_in x0 x1 s.1 s.2) | .inr o => qo_2_ex o ≠ .normal ∧ J03 prog (J0w (bodyOf f65) [1, 1, 1, 1, 0, 1, 0, 0]) (qo_2_in x0 x1 x2 x3) (qo_2_ex o) (qo_2_st o)) := by
 intro r h
 unfold qo_2_step at h
 rcases fork_some h with ⟨h10, h⟩ | ⟨h10, h⟩
 ·obtain ⟨h11, h⟩ := need_some h
  obtain ⟨h12, h⟩ := need_some h
  injection h with h; subst h
  exact env.code (its := [b1, .dive, .sel [6, 25, 26, 27] [1]]) (.c h10 (.c h11 (.c h12 .n))) (by kernel_rfl)
 ·injection h with h; subst h
  exact ⟨by intro e; simp [qo_2_ex] at e, env.code (its := [b0, .sel [6] [0]]) (.c h10 .n) (by kernel_rfl)⟩
theorem qo_2_ok (x0 : List (B8)) (x1 : Int) (x2 : Int) (x3 : B8) (o : B8) (h : qo_2 x0 x1 x2 x3 = some o) : J03 prog (J0w (bodyOf f65) [1, 1, 1, 1, 0, 1, 0]) (qo_2_in x0 x1 x2 x3) (qo_2_ex o) (qo_2_st o) :=
 J06.of_step (st := fun s => qo_2_in x0 x1 s.1 s.2) (ex := qo_2_ex) (stO := qo_2_st) (fun s s2 hs => qo_2_body x0 x1 s.1 s.2 (.inl s2) hs) (fun s r hs => qo_2_body x0 x1 s.1 s.2 (.inr r) hs) _ o h
def qo_R (a0 : List (B8)) (u : B8) : Slot := (.own 0 [])
def qo_O (a0 : List (B8)) (u : B8) : List AObj := [.row (.int .u8) u true]
theorem qo_ok (a0 : List (B8)) (u : B8) (h : qo a0 = some u) : CallC prog 65 [(.v Ybb a0)] [] (qo_R a0 u) (qo_O a0 u) := by
 unfold qo at h
 obtain ⟨o5, h6, h⟩ := andThen_some h
 obtain ⟨u7, h8, h⟩ := andThen_some h
 obtain ⟨o13, h14, h⟩ := andThen_some h
 injection h with h; subst h
 exact env.fun func65 can65 (its := [.dive, .sel [0, 3, 9, 10, 11] [], .part (qo_1_ex o5) (qo_1_st o5), .call [none, none] [] [] true (qe_R o5.2 u7) (qe_O o5.2 u7), .dive, .sel [6, 25, 26, 27] [0], .part (qo_2_ex o13) (qo_2_st o13)]) (pos := s1) (.c (qo_1_ok a0 (0 : Int) a0 (List.length a0 : Int) (0 : Int) o5 h6) (.c (qe_ok o5.2 u7 h8) (.c (qo_2_ok o5.1 (List.length o5.1 : Int) (0 : Int) u7 o13 h14) .n))) (by kernel_rfl)
theorem can87 : J01 prog 87 := ⟨_, func87, by kernel_rfl, by kernel_rfl⟩
def q31_R  (u : List UInt32) : Slot := (.v Y8 u)
def q31_O  (u : List UInt32) : List AObj := []
theorem q31_ok  (u : List UInt32) (h : q31  = some u) : CallC prog 87 [] [] (q31_R u) (q31_O u) := by
 unfold q31 at h
 injection h with h; subst h
 exact env.fun func87 can87 (its := []) (pos := s0) .n (by kernel_rfl)
theorem can88 : J01 prog 88 := ⟨_, func88, by kernel_rfl, by kernel_rfl⟩
def q39_R  (u : List UInt32) : Slot := (.v Y64 u)
def q39_O  (u : List UInt32) : List AObj := []
theorem q39_ok  (u : List UInt32) (h : q39  = some u) : CallC prog 88 [] [] (q39_R u) (q39_O u) := by
 unfold q39 at h
 injection h with h; subst h
 exact env.fun func88 can88 (its := []) (pos := s0) .n (by kernel_rfl)
theorem can98 : J01 prog 98 := ⟨_, func98, by kernel_rfl, by kernel_rfl⟩
def q2s_R (a0 : Int) (u : Int) : Slot := (.v (.int .i64) u)
def q2s_O (a0 : Int) (u : Int) : List AObj := []
theorem q2s_ok (a0 : Int) (u : Int) (h : q2s a0 = some u) : CallC prog 98 [(.v (.int .i64) a0)] [] (q2s_R a0 u) (q2s_O a0 u) := by
 unfold q2s at h
 injection h with h; subst h
 exact env.fun func98 can98 (its := []) (pos := s0) (.c (of_decide_eq_true (p := ((64 : Int) ≠ 0)) (by kernel_rfl)) .n) (by kernel_rfl)
theorem can89 : J01 prog 89 := ⟨_, func89, by kernel_rfl, by kernel_rfl⟩
def q2t_1_in (x0 : UInt64) (x1 : Int) (x2 : B8) : St := ⟨[(3, (.own 0 [])), (4, (.v (.int .u64) x0)), (22, (.v (.int .i64) x1))], [.row (.int .u8) x2 true], 39, 0⟩
def q2t_1_ex (o : B8) : Exit := (.exit 0)
def q2t_1_st (o : B8) : St := ⟨[(3, (.own 0 []))], [.row (.int .u8) o true], 39, 0⟩
theorem q2t_1_body (x0 : UInt64) (x1 : Int) (x2 : B8) : ∀ r, q2t_1_step x0 x1 x2 = some r → (match r with | .inl s => J03 prog (J0w (bodyOf f89) [1, 1, 1, 1, 1, 0, 1, 0, 0]) (q2t_1_in x0 x1 x2) .normal (q2t_1_in x0 s.1 s.2) | .inr o => q2t_1_ex o ≠ .normal ∧ J03 prog (J0w (bodyOf f89) [1, 1, 1, 1, 1, 0, 1, 0, 0]) (q2t_1_in x0 x1 x2) (q2t_1_ex o) (q2t_1_st o)) := by
 intro r h
 unfold q2t_1_step at h
 rcases fork_some h with ⟨h6, h⟩ | ⟨h6, h⟩
 ·obtain ⟨h7, h⟩ := need_some h
  obtain ⟨h8, h⟩ := need_some h
  injection h with h; subst h
  exact env.code (its := [b1, .dive, .sel [3, 4, 22] [0]]) (.c h6 (.c h7 (.c h8 .n))) (by kernel_rfl)
 ·injection h with h; subst h
  exact ⟨by intro e; simp [q2t_1_ex] at e, env.code (its := [b0, .sel [3] [0]]) (.c h6 .n) (by kernel_rfl)⟩
theorem q2t_1_ok (x0 : UInt64) (x1 : Int) (x2 : B8) (o : B8) (h : q2t_1 x0 x1 x2 = some o) : J03 prog (J0w (bodyOf f89) [1, 1, 1, 1, 1, 0, 1, 0]) (q2t_1_in x0 x1 x2) (q2t_1_ex o) (q2t_1_st o) :=
 J06.of_step (st := fun s => q2t_1_in x0 s.1 s.2) (ex := q2t_1_ex) (stO := q2t_1_st) (fun s s2 hs => q2t_1_body x0 s.1 s.2 (.inl s2) hs) (fun s r hs => q2t_1_body x0 s.1 s.2 (.inr r) hs) _ o h
def q2t_R (a0 : B8) (u : B8) : Slot := (.own 0 [])
def q2t_O (a0 : B8) (u : B8) : List AObj := [.row (.int .u8) u true]
theorem q2t_ok (a0 : B8) (u : B8) (h : q2t a0 = some u) : CallC prog 89 [(.v Yb a0)] [] (q2t_R a0 u) (q2t_O a0 u) := by
 unfold q2t at h
 obtain ⟨u1, h2, h⟩ := andThen_some h
 obtain ⟨h3, h⟩ := need_some h
 obtain ⟨h4, h⟩ := need_some h
 obtain ⟨o9, h10, h⟩ := andThen_some h
 injection h with h; subst h
 exact env.fun func89 can89 (its := [.call [none] [] [] true (q2s_R (List.length a0 : Int) u1) (q2s_O (List.length a0 : Int) u1), .dive, .sel [3, 4, 22] [0], .part (q2t_1_ex o9) (q2t_1_st o9)]) (pos := s1) (.c (q2s_ok (List.length a0 : Int) u1 h2) (.c h3 (.c h4 (.c (q2t_1_ok ((UInt64.ofNat (Int.toNat ((List.length a0 : Int) % 18446744073709551616))) * (8 : UInt64)) (0 : Int) (List.set (List.take (List.length (List.replicate (Int.toNat (w64 (u1 * (64 : Int)))) (0 : UInt8))) a0 ++ List.drop (List.length a0) (List.replicate (Int.toNat (w64 (u1 * (64 : Int)))) (0 : UInt8))) (Int.toNat (List.length a0 : Int)) (128 : UInt8)) o9 h10) .n)))) (by kernel_rfl)
theorem can106 : J01 prog 106 := ⟨_, func106, by kernel_rfl, by kernel_rfl⟩
def q1n_R (a0 : UInt32) (a1 : Int) (u : UInt32) : Slot := (.v (.int .u32) u)
def q1n_O (a0 : UInt32) (a1 : Int) (u : UInt32) : List AObj := []
theorem q1n_ok (a0 : UInt32) (a1 : Int) (u : UInt32) (h : q1n a0 a1 = some u) : CallC prog 106 [(.v (.int .u32) a0), (.v (.int .i64) a1)] [] (q1n_R a0 a1 u) (q1n_O a0 a1 u) := by
 unfold q1n at h
 obtain ⟨h1, h⟩ := need_some h
 obtain ⟨h2, h⟩ := need_some h
 injection h with h; subst h
 exact env.fun func106 can106 (its := []) (pos := s0) (.c h1 (.c h2 .n)) (by kernel_rfl)
theorem can100 : J01 prog 100 := ⟨_, func100, by kernel_rfl, by kernel_rfl⟩
def q32_R (a0 : UInt32) (a1 : Int) (u : UInt32) : Slot := (.v (.int .u32) u)
def q32_O (a0 : UInt32) (a1 : Int) (u : UInt32) : List AObj := []
theorem q32_ok (a0 : UInt32) (a1 : Int) (u : UInt32) (h : q32 a0 a1 = some u) : CallC prog 100 [(.v (.int .u32) a0), (.v (.int .i64) a1)] [] (q32_R a0 a1 u) (q32_O a0 a1 u) := by
 unfold q32 at h
 obtain ⟨u1, h2, h⟩ := andThen_some h
 injection h with h; subst h
 exact env.fun func100 can100 (its := [.call [none, none] [] [] true (q1n_R a0 (w64 (0 - a1)) u1) (q1n_O a0 (w64 (0 - a1)) u1)]) (pos := s0) (.c (q1n_ok a0 (w64 (0 - a1)) u1 h2) .n) (by kernel_rfl)
theorem can99 : J01 prog 99 := ⟨_, func99, by kernel_rfl, by kernel_rfl⟩
def q2p_1_in (x0 : B8) (x1 : Int) (x2 : List UInt32) (x3 : List UInt32) : St := ⟨[(0, (.v Yb x0)), (2, (.ptr 0 [])), (3, (.ptr 1 [])), (8, (.v (.int .i64) x1))], [.box Y64 (.v Y64 x2) true, .box Y64 (.v Y64 x3) true], 89, 0⟩
def q2p_1_ex (o : List UInt32 × List UInt32) : Exit := (.exit 0)
def q2p_1_st (o : List UInt32 × List UInt32) : St := ⟨[(2, (.ptr 0 [])), (3, (.ptr 1 []))], [.box Y64 (.v Y64 o.1) true, .box Y64 (.v Y64 o.2) true], 89, 0⟩
theorem q2p_1_body (x0 : B8) (x1 : Int) (x2 : List UInt32) (x3 : List UInt32) : ∀ r, q2p_1_step x0 x1 x2 x3 = some r → (match r with | .inl s => J03 prog (J0w (bodyOf f99) [1, 1, 0, 1, 0, 0]) (q2p_1_in x0 x1 x2 x3) .normal (q2p_1_in x0 s.1 x2 s.2) | .inr o => q2p_1_ex o ≠ .normal ∧ J03 prog (J0w (bodyOf f99) [1, 1, 0, 1, 0, 0]) (q2p_1_in x0 x1 x2 x3) (q2p_1_ex o) (q2p_1_st o)) := by
 intro r h
 unfold q2p_1_step at h
 rcases fork_some h with ⟨h2, h⟩ | ⟨h2, h⟩
 ·obtain ⟨h3, h⟩ := need_some h
  obtain ⟨h4, h⟩ := need_some h
  obtain ⟨h5, h⟩ := need_some h
  obtain ⟨h6, h⟩ := need_some h
  obtain ⟨h7, h⟩ := need_some h
  injection h with h; subst h
  exact env.code (its := [b1, .pre p0, .sel [0, 2, 3, 8] [0, 1]]) (.c h2 (.c h3 (.c (of_decide_eq_true (p := (0 ≤ (24 : Int))) (by kernel_rfl)) (.c h4 (.c (of_decide_eq_true (p := (0 ≤ (16 : Int))) (by kernel_rfl)) (.c h5 (.c (of_decide_eq_true (p := (0 ≤ (8 : Int))) (by kernel_rfl)) (.c h6 (.c h7 .n))))))))) (by kernel_rfl)
 ·injection h with h; subst h
  exact ⟨by intro e; simp [q2p_1_ex] at e, env.code (its := [b0, .sel [2, 3] [0, 1]]) (.c h2 .n) (by kernel_rfl)⟩
theorem q2p_1_ok (x0 : B8) (x1 : Int) (x2 : List UInt32) (x3 : List UInt32) (o : List UInt32 × List UInt32) (h : q2p_1 x0 x1 x2 x3 = some o) : J03 prog (J0w (bodyOf f99) [1, 1, 0, 1, 0]) (q2p_1_in x0 x1 x2 x3) (q2p_1_ex o) (q2p_1_st o) :=
 J06.of_step (st := fun s => q2p_1_in x0 s.1 x2 s.2) (ex := q2p_1_ex) (stO := q2p_1_st) (fun s s2 hs => q2p_1_body x0 s.1 x2 s.2 (.inl s2) hs) (fun s r hs => q2p_1_body x0 s.1 x2 s.2 (.inr r) hs) _ o h
def q2p_2_in (x0 : Int) (x1 : List UInt32) (x2 : List UInt32) : St := ⟨[(2, (.ptr 0 [])), (3, (.ptr 1 [])), (5, (.v (.int .i64) x0))], [.box Y64 (.v Y64 x1) true, .box Y64 (.v Y64 x2) true], 89, 0⟩
def q2p_2_ex (o : List UInt32 × List UInt32) : Exit := (.exit 2)
def q2p_2_st (o : List UInt32 × List UInt32) : St := ⟨[(2, (.ptr 0 [])), (3, (.ptr 1 []))], [.box Y64 (.v Y64 o.1) true, .box Y64 (.v Y64 o.2) true], 89, 0⟩
theorem q2p_2_body (x0 : Int) (x1 : List UInt32) (x2 : List UInt32) : ∀ r, q2p_2_step x0 x1 x2 = some r → (match r with | .inl s => J03 prog (J0w (bodyOf f99) [1, 1, 1, 0, 1, 0, 0]) (q2p_2_in x0 x1 x2) .normal (q2p_2_in s.1 x1 s.2) | .inr o => q2p_2_ex o ≠ .normal ∧ J03 prog (J0w (bodyOf f99) [1, 1, 1, 0, 1, 0, 0]) (q2p_2_in x0 x1 x2) (q2p_2_ex o) (q2p_2_st o)) := by
 intro r h
 unfold q2p_2_step at h
 rcases fork_some h with ⟨h11, h⟩ | ⟨h11, h⟩
 ·obtain ⟨h12, h⟩ := need_some h
  obtain ⟨h13, h⟩ := need_some h
  obtain ⟨h14, h⟩ := need_some h
  obtain ⟨u15, h16, h⟩ := andThen_some h
  obtain ⟨u17, h18, h⟩ := andThen_some h
  obtain ⟨h19, h⟩ := need_some h
  obtain ⟨u20, h21, h⟩ := andThen_some h
  obtain ⟨u22, h23, h⟩ := andThen_some h
  obtain ⟨h24, h⟩ := need_some h
  injection h with h; subst h
  exact env.code (its := [b1, .pre p1, .pre p2, .asis, .call [none, none] [] [] true (q32_R (List.getD x2 (Int.toNat (w64 (x0 - (15 : Int)))) (0 : UInt32)) (7 : Int) u15) (q32_O (List.getD x2 (Int.toNat (w64 (x0 - (15 : Int)))) (0 : UInt32)) (7 : Int) u15), .asis, .call [none, none] [] [] true (q32_R (List.getD x2 (Int.toNat (w64 (x0 - (15 : Int)))) (0 : UInt32)) (18 : Int) u17) (q32_O (List.getD x2 (Int.toNat (w64 (x0 - (15 : Int)))) (0 : UInt32)) (18 : Int) u17), .asis, .call [none, none] [] [] true (q32_R (List.getD x2 (Int.toNat (w64 (x0 - (2 : Int)))) (0 : UInt32)) (17 : Int) u20) (q32_O (List.getD x2 (Int.toNat (w64 (x0 - (2 : Int)))) (0 : UInt32)) (17 : Int) u20), .asis, .call [none, none] [] [] true (q32_R (List.getD x2 (Int.toNat (w64 (x0 - (2 : Int)))) (0 : UInt32)) (19 : Int) u22) (q32_O (List.getD x2 (Int.toNat (w64 (x0 - (2 : Int)))) (0 : UInt32)) (19 : Int) u22), .sel [2, 3, 5] [0, 1]]) (.c h11 (.c h12 (.c h13 (.c h14 (.c rn (.c (q32_ok (List.getD x2 (Int.toNat (w64 (x0 - (15 : Int)))) (0 : UInt32)) (7 : Int) u15 h16) (.c rn (.c (q32_ok (List.getD x2 (Int.toNat (w64 (x0 - (15 : Int)))) (0 : UInt32)) (18 : Int) u17 h18) (.c (of_decide_eq_true (p := (0 ≤ (3 : Int))) (by kernel_rfl)) (.c h19 (.c rn (.c (q32_ok (List.getD x2 (Int.toNat (w64 (x0 - (2 : Int)))) (0 : UInt32)) (17 : Int) u20 h21) (.c rn (.c (q32_ok (List.getD x2 (Int.toNat (w64 (x0 - (2 : Int)))) (0 : UInt32)) (19 : Int) u22 h23) (.c (of_decide_eq_true (p := (0 ≤ (10 : Int))) (by kernel_rfl)) (.c h24 .n)))))))))))))))) (by kernel_rfl)
 ·injection h with h; subst h
  exact ⟨by intro e; simp [q2p_2_ex] at e, env.code (its := [b0, .sel [2, 3] [0, 1]]) (.c h11 .n) (by kernel_rfl)⟩
theorem q2p_2_ok (x0 : Int) (x1 : List UInt32) (x2 : List UInt32) (o : List UInt32 × List UInt32) (h : q2p_2 x0 x1 x2 = some o) : J03 prog (J0w (bodyOf f99) [1, 1, 1, 0, 1, 0]) (q2p_2_in x0 x1 x2) (q2p_2_ex o) (q2p_2_st o) :=
 J06.of_step (st := fun s => q2p_2_in s.1 x1 s.2) (ex := q2p_2_ex) (stO := q2p_2_st) (fun s s2 hs => q2p_2_body s.1 x1 s.2 (.inl s2) hs) (fun s r hs => q2p_2_body s.1 x1 s.2 (.inr r) hs) _ o h
def q2p_R (a0 : B8) (u : List UInt32) : Slot := (.v Y64 u)
def q2p_O (a0 : B8) (u : List UInt32) : List AObj := []
theorem q2p_ok (a0 : B8) (u : List UInt32) (h : q2p a0 = some u) : CallC prog 99 [(.v Yb a0)] [] (q2p_R a0 u) (q2p_O a0 u) := by
 unfold q2p at h
 obtain ⟨o8, h9, h⟩ := andThen_some h
 obtain ⟨o25, h26, h⟩ := andThen_some h
 injection h with h; subst h
 exact env.fun func99 can99 (its := [.dive, .sel [0, 2, 3, 8] [0, 1], .part (q2p_1_ex o8) (q2p_1_st o8), .dive, .sel [2, 3, 5] [0, 1], .part (q2p_2_ex o25) (q2p_2_st o25)]) (pos := s0) (.c (q2p_1_ok a0 (0 : Int) (List.replicate 64 (0 : UInt32)) (List.replicate 64 (0 : UInt32)) o8 h9) (.c (q2p_2_ok (16 : Int) o8.1 o8.2 o25 h26) .n)) (by kernel_rfl)
theorem can90 : J01 prog 90 := ⟨_, func90, by kernel_rfl, by kernel_rfl⟩
def q2f_1_in (x0 : UInt32) (x1 : UInt32) (x2 : UInt32) (x3 : UInt32) (x4 : UInt32) (x5 : UInt32) (x6 : UInt32) (x7 : UInt32) (x8 : Int) (x9 : List UInt32) (x10 : List UInt32) (x11 : List UInt32) : St := ⟨[(0, (.ptr 0 [])), (1, (.ptr 1 [])), (6, (.ptr 2 [])), (7, (.v (.int .u32) x0)), (8, (.v (.int .u32) x1)), (9, (.v (.int .u32) x2)), (10, (.v (.int .u32) x3)), (11, (.v (.int .u32) x4)), (12, (.v (.int .u32) x5)), (13, (.v (.int .u32) x6)), (14, (.v (.int .u32) x7)), (56, (.v (.int .i64) x8))], [.box Y8 (.v Y8 x9) true, .box Y64 (.v Y64 x10) true, .box Y64 (.v Y64 x11) true], 146, 2⟩
def q2f_1_ex (o : UInt32 × UInt32 × UInt32 × UInt32 × UInt32 × UInt32 × UInt32 × UInt32 × List UInt32 × List UInt32) : Exit := (.exit 0)
def q2f_1_st (o : UInt32 × UInt32 × UInt32 × UInt32 × UInt32 × UInt32 × UInt32 × UInt32 × List UInt32 × List UInt32) : St := ⟨[(0, (.ptr 0 [])), (7, (.v (.int .u32) o.1)), (8, (.v (.int .u32) o.2.1)), (9, (.v (.int .u32) o.2.2.1)), (10, (.v (.int .u32) o.2.2.2.1)), (11, (.v (.int .u32) o.2.2.2.2.1)), (12, (.v (.int .u32) o.2.2.2.2.2.1)), (13, (.v (.int .u32) o.2.2.2.2.2.2.1)), (14, (.v (.int .u32) o.2.2.2.2.2.2.2.1))], [.box Y8 (.v Y8 o.2.2.2.2.2.2.2.2.1) true, .box Y64 (.v Y64 o.2.2.2.2.2.2.2.2.2) true], 146, 2⟩
theorem q2f_1_body (x0 : UInt32) (x1 : UInt32) (x2 : UInt32) (x3 : UInt32) (x4 : UInt32) (x5 : UInt32) (x6 : UInt32) (x7 : UInt32) (x8 : Int) (x9 : List UInt32) (x10 : List UInt32) (x11 : List UInt32) : ∀ r, q2f_1_step x0 x1 x2 x3 x4 x5 x6 x7 x8 x9 x10 x11 = some r → (match r with | .inl s => J03 prog (J0w (bodyOf f90) [1, 1, 0, 1, 0, 0]) (q2f_1_in x0 x1 x2 x3 x4 x5 x6 x7 x8 x9 x10 x11) .normal (q2f_1_in s.1 s.2.1 s.2.2.1 s.2.2.2.1 s.2.2.2.2.1 s.2.2.2.2.2.1 s.2.2.2.2.2.2.1 s.2.2.2.2.2.2.2.1 s.2.2.2.2.2.2.2.2 x9 x10 x11) | .inr o => q2f_1_ex o ≠ .normal ∧ J03 prog (J0w (bodyOf f90) [1, 1, 0, 1, 0, 0]) (q2f_1_in x0 x1 x2 x3 x4 x5 x6 x7 x8 x9 x10 x11) (q2f_1_ex o) (q2f_1_st o)) := by
 intro r h
 unfold q2f_1_step at h
 rcases fork_some h with ⟨h4, h⟩ | ⟨h4, h⟩
 ·obtain ⟨u5, h6, h⟩ := andThen_some h
  obtain ⟨u7, h8, h⟩ := andThen_some h
  obtain ⟨u9, h10, h⟩ := andThen_some h
  obtain ⟨h11, h⟩ := need_some h
  obtain ⟨u12, h13, h⟩ := andThen_some h
  obtain ⟨u14, h15, h⟩ := andThen_some h
  obtain ⟨u16, h17, h⟩ := andThen_some h
  injection h with h; subst h
  exact env.code (its := [b1, .pre p34, .asis, .call [none, none] [] [] true (q32_R x4 (6 : Int) u5) (q32_O x4 (6 : Int) u5), .asis, .call [none, none] [] [] true (q32_R x4 (11 : Int) u7) (q32_O x4 (11 : Int) u7), .asis, .call [none, none] [] [] true (q32_R x4 (25 : Int) u9) (q32_O x4 (25 : Int) u9), .call [none, none] [] [] true (q32_R x0 (2 : Int) u12) (q32_O x0 (2 : Int) u12), .call [none, none] [] [] true (q32_R x0 (13 : Int) u14) (q32_O x0 (13 : Int) u14), .call [none, none] [] [] true (q32_R x0 (22 : Int) u16) (q32_O x0 (22 : Int) u16), .sel [0, 1, 6, 7, 8, 9, 10, 11, 12, 13, 14, 56] [0, 1, 2]]) (.c h4 (.c rn (.c (q32_ok x4 (6 : Int) u5 h6) (.c rn (.c (q32_ok x4 (11 : Int) u7 h8) (.c rn (.c (q32_ok x4 (25 : Int) u9 h10) (.c h11 (.c h11 (.c (q32_ok x0 (2 : Int) u12 h13) (.c (q32_ok x0 (13 : Int) u14 h15) (.c (q32_ok x0 (22 : Int) u16 h17) .n)))))))))))) (by kernel_rfl)
 ·injection h with h; subst h
  exact ⟨by intro e; simp [q2f_1_ex] at e, env.code (its := [b0, .sel [0, 7, 8, 9, 10, 11, 12, 13, 14] [0, 1]]) (.c h4 .n) (by kernel_rfl)⟩
theorem q2f_1_ok (x0 : UInt32) (x1 : UInt32) (x2 : UInt32) (x3 : UInt32) (x4 : UInt32) (x5 : UInt32) (x6 : UInt32) (x7 : UInt32) (x8 : Int) (x9 : List UInt32) (x10 : List UInt32) (x11 : List UInt32) (o : UInt32 × UInt32 × UInt32 × UInt32 × UInt32 × UInt32 × UInt32 × UInt32 × List UInt32 × List UInt32) (h : q2f_1 x0 x1 x2 x3 x4 x5 x6 x7 x8 x9 x10 x11 = some o) : J03 prog (J0w (bodyOf f90) [1, 1, 0, 1, 0]) (q2f_1_in x0 x1 x2 x3 x4 x5 x6 x7 x8 x9 x10 x11) (q2f_1_ex o) (q2f_1_st o) :=
 J06.of_step (st := fun s => q2f_1_in s.1 s.2.1 s.2.2.1 s.2.2.2.1 s.2.2.2.2.1 s.2.2.2.2.2.1 s.2.2.2.2.2.2.1 s.2.2.2.2.2.2.2.1 s.2.2.2.2.2.2.2.2 x9 x10 x11) (ex := q2f_1_ex) (stO := q2f_1_st) (fun s s2 hs => q2f_1_body s.1 s.2.1 s.2.2.1 s.2.2.2.1 s.2.2.2.2.1 s.2.2.2.2.2.1 s.2.2.2.2.2.2.1 s.2.2.2.2.2.2.2.1 s.2.2.2.2.2.2.2.2 x9 x10 x11 (.inl s2) hs) (fun s r hs => q2f_1_body s.1 s.2.1 s.2.2.1 s.2.2.2.1 s.2.2.2.2.1 s.2.2.2.2.2.1 s.2.2.2.2.2.2.1 s.2.2.2.2.2.2.2.1 s.2.2.2.2.2.2.2.2 x9 x10 x11 (.inr r) hs) _ o h
def q2f_2_in (x0 : List UInt32) (x1 : Int) (x2 : List UInt32) (x3 : List UInt32) : St := ⟨[(0, (.ptr 0 [])), (131, (.v Y8 x0)), (132, (.v (.int .i64) x1))], [.box Y8 (.v Y8 x2) true, .box Y64 (.v Y64 x3) true], 146, 2⟩
def q2f_2_ex (o : List UInt32 × List UInt32) : Exit := (.exit 2)
def q2f_2_st (o : List UInt32 × List UInt32) : St := ⟨[], [.box Y8 (.v Y8 o.1) true, .box Y64 (.v Y64 o.2) true], 146, 2⟩
theorem q2f_2_body (x0 : List UInt32) (x1 : Int) (x2 : List UInt32) (x3 : List UInt32) : ∀ r, q2f_2_step x0 x1 x2 x3 = some r → (match r with | .inl s => J03 prog (J0w (bodyOf f90) [1, 1, 1, 1, 0, 0]) (q2f_2_in x0 x1 x2 x3) .normal (q2f_2_in x0 s.1 s.2 x3) | .inr o => q2f_2_ex o ≠ .normal ∧ J03 prog (J0w (bodyOf f90) [1, 1, 1, 1, 0, 0]) (q2f_2_in x0 x1 x2 x3) (q2f_2_ex o) (q2f_2_st o)) := by
 intro r h
 unfold q2f_2_step at h
 rcases fork_some h with ⟨h21, h⟩ | ⟨h21, h⟩
 ·obtain ⟨h22, h⟩ := need_some h
  injection h with h; subst h
  exact env.code (its := [b1, .pre p35, .sel [0, 131, 132] [0, 1]]) (.c h21 (.c h22 (.c h22 (.c h22 .n)))) (by kernel_rfl)
 ·injection h with h; subst h
  exact ⟨by intro e; simp [q2f_2_ex] at e, env.code (its := [b0, .sel [] [0, 1]]) (.c h21 .n) (by kernel_rfl)⟩
theorem q2f_2_ok (x0 : List UInt32) (x1 : Int) (x2 : List UInt32) (x3 : List UInt32) (o : List UInt32 × List UInt32) (h : q2f_2 x0 x1 x2 x3 = some o) : J03 prog (J0w (bodyOf f90) [1, 1, 1, 1, 0]) (q2f_2_in x0 x1 x2 x3) (q2f_2_ex o) (q2f_2_st o) :=
 J06.of_step (st := fun s => q2f_2_in x0 s.1 s.2 x3) (ex := q2f_2_ex) (stO := q2f_2_st) (fun s s2 hs => q2f_2_body x0 s.1 s.2 x3 (.inl s2) hs) (fun s r hs => q2f_2_body x0 s.1 s.2 x3 (.inr r) hs) _ o h
def q2f_R (a0 : B8) (a1 : List UInt32) (a2 : List UInt32) (u : List UInt32 × List UInt32) : Slot := .tnil
def q2f_O (a0 : B8) (a1 : List UInt32) (a2 : List UInt32) (u : List UInt32 × List UInt32) : List AObj := [.box Y8 (.v Y8 u.1) true, .box Y64 (.v Y64 u.2) true]
theorem q2f_ok (a0 : B8) (a1 : List UInt32) (a2 : List UInt32) (u : List UInt32 × List UInt32) (h : q2f a0 a1 a2 = some u) : CallC prog 90 [(.ptr 0 []), (.ptr 1 []), (.v Yb a0)] [.box Y8 (.v Y8 a1) true, .box Y64 (.v Y64 a2) true] (q2f_R a0 a1 a2 u) (q2f_O a0 a1 a2 u) := by
 unfold q2f at h
 obtain ⟨u1, h2, h⟩ := andThen_some h
 obtain ⟨o18, h19, h⟩ := andThen_some h
 obtain ⟨o23, h24, h⟩ := andThen_some h
 injection h with h; subst h
 exact env.fun func90 can90 (its := [.call [none] [] [] true (q2p_R a0 u1) (q2p_O a0 u1), .pre p36, .dive, .sel [0, 1, 6, 7, 8, 9, 10, 11, 12, 13, 14, 56] [0, 1, 2], .part (q2f_1_ex o18) (q2f_1_st o18), .dive, .sel [0, 131, 132] [0, 1], .part (q2f_2_ex o23) (q2f_2_st o23)]) (pos := [.sel [0, 1]]) (.c (q2p_ok a0 u1 h2) (.c (of_decide_eq_true (p := (0 ≤ (0 : Int) ∧ (0 : Int) < (8 : Int))) (by kernel_rfl)) (.c (of_decide_eq_true (p := (0 ≤ (1 : Int) ∧ (1 : Int) < (8 : Int))) (by kernel_rfl)) (.c (of_decide_eq_true (p := (0 ≤ (2 : Int) ∧ (2 : Int) < (8 : Int))) (by kernel_rfl)) (.c (of_decide_eq_true (p := (0 ≤ (3 : Int) ∧ (3 : Int) < (8 : Int))) (by kernel_rfl)) (.c (of_decide_eq_true (p := (0 ≤ (4 : Int) ∧ (4 : Int) < (8 : Int))) (by kernel_rfl)) (.c (of_decide_eq_true (p := (0 ≤ (5 : Int) ∧ (5 : Int) < (8 : Int))) (by kernel_rfl)) (.c (of_decide_eq_true (p := (0 ≤ (6 : Int) ∧ (6 : Int) < (8 : Int))) (by kernel_rfl)) (.c (of_decide_eq_true (p := (0 ≤ (7 : Int) ∧ (7 : Int) < (8 : Int))) (by kernel_rfl)) (.c (q2f_1_ok (List.getD a1 (Int.toNat (0 : Int)) (0 : UInt32)) (List.getD a1 (Int.toNat (1 : Int)) (0 : UInt32)) (List.getD a1 (Int.toNat (2 : Int)) (0 : UInt32)) (List.getD a1 (Int.toNat (3 : Int)) (0 : UInt32)) (List.getD a1 (Int.toNat (4 : Int)) (0 : UInt32)) (List.getD a1 (Int.toNat (5 : Int)) (0 : UInt32)) (List.getD a1 (Int.toNat (6 : Int)) (0 : UInt32)) (List.getD a1 (Int.toNat (7 : Int)) (0 : UInt32)) (0 : Int) a1 a2 u1 o18 h19) (.c (q2f_2_ok (List.set (List.set (List.set (List.set (List.set (List.set (List.set (List.set (List.replicate 8 (0 : UInt32)) 0 o18.1) 1 o18.2.1) 2 o18.2.2.1) 3 o18.2.2.2.1) 4 o18.2.2.2.2.1) 5 o18.2.2.2.2.2.1) 6 o18.2.2.2.2.2.2.1) 7 o18.2.2.2.2.2.2.2.1) (0 : Int) o18.2.2.2.2.2.2.2.2.1 o18.2.2.2.2.2.2.2.2.2 o23 h24) .n))))))))))) (by kernel_rfl)
theorem can81 : J01 prog 81 := ⟨_, func81, by kernel_rfl, by kernel_rfl⟩
def q3m_1_in (x0 : B8) (x1 : B8) (x2 : List UInt32) (x3 : List UInt32) : St := ⟨[(2, (.ptr 0 [])), (3, (.ptr 1 [])), (4, (.ptr 2 [])), (5, (.v Yb x0))], [.box Yh (.v Yh x1) true, .box Y8 (.v Y8 x2) true, .box Y64 (.v Y64 x3) true], 44, 0⟩
def q3m_1_ex (o : B8 × List UInt32) : Exit := (.exit 0)
def q3m_1_st (o : B8 × List UInt32) : St := ⟨[(2, (.ptr 0 [])), (3, (.ptr 1 []))], [.box Yh (.v Yh o.1) true, .box Y8 (.v Y8 o.2) true], 44, 0⟩
theorem q3m_1_body (x0 : B8) (x1 : B8) (x2 : List UInt32) (x3 : List UInt32) : ∀ r, q3m_1_step x0 x1 x2 x3 = some r → (match r with | .inl s => J03 prog (J0w (bodyOf f81) [1, 1, 0, 1, 0, 0]) (q3m_1_in x0 x1 x2 x3) .normal (q3m_1_in s.1 x1 s.2.1 s.2.2) | .inr o => q3m_1_ex o ≠ .normal ∧ J03 prog (J0w (bodyOf f81) [1, 1, 0, 1, 0, 0]) (q3m_1_in x0 x1 x2 x3) (q3m_1_ex o) (q3m_1_st o)) := by
 intro r h
 unfold q3m_1_step at h
 rcases fork_some h with ⟨h8, h⟩ | ⟨h8, h⟩
 ·obtain ⟨h9, h⟩ := need_some h
  obtain ⟨u10, h11, h⟩ := andThen_some h
  obtain ⟨h12, h⟩ := need_some h
  injection h with h; subst h
  exact env.code (its := [b1, b0, .call [none, none, none] [1, 2] [] true (q2f_R (cutL x0 (0 : Int) (64 : Int)) x2 x3 u10) (q2f_O (cutL x0 (0 : Int) (64 : Int)) x2 x3 u10), b0, .sel [2, 3, 4, 5] [0, 1, 2]]) (.c h8 (.c h9 (.c (q2f_ok (cutL x0 (0 : Int) (64 : Int)) x2 x3 u10 h11) (.c h12 .n)))) (by kernel_rfl)
 ·injection h with h; subst h
  exact ⟨by intro e; simp [q3m_1_ex] at e, env.code (its := [b0, .sel [2, 3] [0, 1]]) (.c h8 .n) (by kernel_rfl)⟩
theorem q3m_1_ok (x0 : B8) (x1 : B8) (x2 : List UInt32) (x3 : List UInt32) (o : B8 × List UInt32) (h : q3m_1 x0 x1 x2 x3 = some o) : J03 prog (J0w (bodyOf f81) [1, 1, 0, 1, 0]) (q3m_1_in x0 x1 x2 x3) (q3m_1_ex o) (q3m_1_st o) :=
 J06.of_step (st := fun s => q3m_1_in s.1 x1 s.2.1 s.2.2) (ex := q3m_1_ex) (stO := q3m_1_st) (fun s s2 hs => q3m_1_body s.1 x1 s.2.1 s.2.2 (.inl s2) hs) (fun s r hs => q3m_1_body s.1 x1 s.2.1 s.2.2 (.inr r) hs) _ o h
def q3m_2_in (x0 : Int) (x1 : UInt32) (x2 : List UInt32) (x3 : Int) (x4 : Int) (x5 : B8) (x6 : B8) : St := ⟨[(2, (.ptr 0 [])), (6, (.ptr 1 [])), (7, (.v (.int .i64) x0)), (8, (.v (.int .u32) x1)), (22, (.v Y8 x2)), (23, (.v (.int .i64) x3)), (27, (.v (.int .i64) x4))], [.box Yh (.v Yh x5) true, .box Yh (.v Yh x6) true], 44, 0⟩
def q3m_2_ex (o : List UInt32 × Int × B8 × B8) : Exit := (.exit 4)
def q3m_2_st (o : List UInt32 × Int × B8 × B8) : St := ⟨[(2, (.ptr 0 [])), (6, (.ptr 1 [])), (22, (.v Y8 o.1)), (23, (.v (.int .i64) o.2.1))], [.box Yh (.v Yh o.2.2.1) true, .box Yh (.v Yh o.2.2.2) true], 44, 0⟩
theorem q3m_2_body (x0 : Int) (x1 : UInt32) (x2 : List UInt32) (x3 : Int) (x4 : Int) (x5 : B8) (x6 : B8) : ∀ r, q3m_2_step x0 x1 x2 x3 x4 x5 x6 = some r → (match r with | .inl s => J03 prog (J0w (bodyOf f81) [1, 1, 1, 1, 0, 1, 0, 0, 1, 1, 0, 0, 1, 1, 0, 0]) (q3m_2_in x0 x1 x2 x3 x4 x5 x6) .normal (q3m_2_in x0 x1 x2 x3 s.1 x5 s.2) | .inr o => q3m_2_ex o ≠ .normal ∧ J03 prog (J0w (bodyOf f81) [1, 1, 1, 1, 0, 1, 0, 0, 1, 1, 0, 0, 1, 1, 0, 0]) (q3m_2_in x0 x1 x2 x3 x4 x5 x6) (q3m_2_ex o) (q3m_2_st o)) := by
 intro r h
 unfold q3m_2_step at h
 rcases fork_some h with ⟨h19, h⟩ | ⟨h19, h⟩
 ·obtain ⟨h20, h⟩ := need_some h
  obtain ⟨h21, h⟩ := need_some h
  injection h with h; subst h
  exact env.code (its := [b1, .dive, .sel [2, 6, 7, 8, 22, 23, 27] [0, 1]]) (.c h19 (.c h20 (.c h21 .n))) (by kernel_rfl)
 ·injection h with h; subst h
  exact ⟨by intro e; simp [q3m_2_ex] at e, env.code (its := [b0, .sel [2, 6, 22, 23] [0, 1]]) (.c h19 .n) (by kernel_rfl)⟩
theorem q3m_2_ok (x0 : Int) (x1 : UInt32) (x2 : List UInt32) (x3 : Int) (x4 : Int) (x5 : B8) (x6 : B8) (o : List UInt32 × Int × B8 × B8) (h : q3m_2 x0 x1 x2 x3 x4 x5 x6 = some o) : J03 prog (J0w (bodyOf f81) [1, 1, 1, 1, 0, 1, 0, 0, 1, 1, 0, 0, 1, 1, 0]) (q3m_2_in x0 x1 x2 x3 x4 x5 x6) (q3m_2_ex o) (q3m_2_st o) :=
 J06.of_step (st := fun s => q3m_2_in x0 x1 x2 x3 s.1 x5 s.2) (ex := q3m_2_ex) (stO := q3m_2_st) (fun s s2 hs => q3m_2_body x0 x1 x2 x3 s.1 x5 s.2 (.inl s2) hs) (fun s r hs => q3m_2_body x0 x1 x2 x3 s.1 x5 s.2 (.inr r) hs) _ o h
def q3m_3_in (x0 : List UInt32) (x1 : Int) (x2 : B8) (x3 : B8) : St := ⟨[(2, (.ptr 0 [])), (6, (.ptr 1 [])), (22, (.v Y8 x0)), (23, (.v (.int .i64) x1))], [.box Yh (.v Yh x2) true, .box Yh (.v Yh x3) true], 44, 0⟩
def q3m_3_ex (o : B8 × B8) : Exit := (.exit 2)
def q3m_3_st (o : B8 × B8) : St := ⟨[(2, (.ptr 0 [])), (6, (.ptr 1 []))], [.box Yh (.v Yh o.1) true, .box Yh (.v Yh o.2) true], 44, 0⟩
theorem q3m_3_body (x0 : List UInt32) (x1 : Int) (x2 : B8) (x3 : B8) : ∀ r, q3m_3_step x0 x1 x2 x3 = some r → (match r with | .inl s => J03 prog (J0w (bodyOf f81) [1, 1, 1, 1, 0, 1, 0, 0]) (q3m_3_in x0 x1 x2 x3) .normal (q3m_3_in s.1 s.2.1 s.2.2.1 s.2.2.2) | .inr o => q3m_3_ex o ≠ .normal ∧ J03 prog (J0w (bodyOf f81) [1, 1, 1, 1, 0, 1, 0, 0]) (q3m_3_in x0 x1 x2 x3) (q3m_3_ex o) (q3m_3_st o)) := by
 intro r h
 unfold q3m_3_step at h
 rcases fork_some h with ⟨h16, h⟩ | ⟨h16, h⟩
 ·obtain ⟨h17, h⟩ := need_some h
  obtain ⟨o22, h23, h⟩ := andThen_some h
  injection h with h; subst h
  exact env.code (its := [b1, .dive, .dive, .sel [2, 6, 7, 8, 22, 23, 27] [0, 1], .part (q3m_2_ex o22) (q3m_2_st o22), .sel [2, 6, 22, 23] [0, 1]]) (.c h16 (.c h17 (.c (q3m_2_ok x1 (List.getD x0 (Int.toNat x1) (0 : UInt32)) x0 x1 (0 : Int) x2 x3 o22 h23) .n))) (by kernel_rfl)
 ·injection h with h; subst h
  exact ⟨by intro e; simp [q3m_3_ex] at e, env.code (its := [b0, .sel [2, 6] [0, 1]]) (.c h16 .n) (by kernel_rfl)⟩
theorem q3m_3_ok (x0 : List UInt32) (x1 : Int) (x2 : B8) (x3 : B8) (o : B8 × B8) (h : q3m_3 x0 x1 x2 x3 = some o) : J03 prog (J0w (bodyOf f81) [1, 1, 1, 1, 0, 1, 0]) (q3m_3_in x0 x1 x2 x3) (q3m_3_ex o) (q3m_3_st o) :=
 J06.of_step (st := fun s => q3m_3_in s.1 s.2.1 s.2.2.1 s.2.2.2) (ex := q3m_3_ex) (stO := q3m_3_st) (fun s s2 hs => q3m_3_body s.1 s.2.1 s.2.2.1 s.2.2.2 (.inl s2) hs) (fun s r hs => q3m_3_body s.1 s.2.1 s.2.2.1 s.2.2.2 (.inr r) hs) _ o h
def q3m_R (a0 : B8) (u : B8) : Slot := (.v Yh u)
def q3m_O (a0 : B8) (u : B8) : List AObj := []
theorem q3m_ok (a0 : B8) (u : B8) (h : q3m a0 = some u) : CallC prog 81 [(.v Yb a0)] [] (q3m_R a0 u) (q3m_O a0 u) := by
 unfold q3m at h
 obtain ⟨u1, h2, h⟩ := andThen_some h
 obtain ⟨u3, h4, h⟩ := andThen_some h
 obtain ⟨u5, h6, h⟩ := andThen_some h
 obtain ⟨o13, h14, h⟩ := andThen_some h
 obtain ⟨o24, h25, h⟩ := andThen_some h
 injection h with h; subst h
 exact env.fun func81 can81 (its := [.call [] [] [] true (q31_R u1) (q31_O u1), .call [] [] [] true (q39_R u3) (q39_O u3), .call [none] [] [] true (q2t_R a0 u5) (q2t_O a0 u5), .dive, .val 5 Yb, .sel [2, 3, 4, 5] [0, 1, 2], .part (q3m_1_ex o13) (q3m_1_st o13), .dive, .sel [2, 6, 22, 23] [0, 2], .part (q3m_3_ex o24) (q3m_3_st o24)]) (pos := s0) (.c (q31_ok u1 h2) (.c (q39_ok u3 h4) (.c (q2t_ok a0 u5 h6) (.c (q3m_1_ok u5 Z32 u1 u3 o13 h14) (.c (q3m_3_ok o13.2 (0 : Int) o13.1 Z32 o24 h25) .n))))) (by kernel_rfl)
theorem can68 : J01 prog 68 := ⟨_, func68, by kernel_rfl, by kernel_rfl⟩
def q2m_1_in (x0 : List (B8)) (x1 : Int) (x2 : Int) (x3 : B8) (x4 : B8) : St := ⟨[(4, (.ptr 0 [])), (5, (.own 1 [])), (10, (.v Ybb x0)), (11, (.v (.int .i64) x1)), (12, (.v (.int .i64) x2))], [.box Yh (.v Yh x3) true, .row (.int .u8) x4 true], 22, 0⟩
def q2m_1_ex (o : B8 × B8) : Exit := (.exit 0)
def q2m_1_st (o : B8 × B8) : St := ⟨[(4, (.ptr 0 [])), (5, (.own 1 []))], [.box Yh (.v Yh o.1) true, .row (.int .u8) o.2 true], 22, 0⟩
theorem q2m_1_body (x0 : List (B8)) (x1 : Int) (x2 : Int) (x3 : B8) (x4 : B8) : ∀ r, q2m_1_step x0 x1 x2 x3 x4 = some r → (match r with | .inl s => J03 prog (J0w (bodyOf f68) [1, 1, 0, 1, 0, 0]) (q2m_1_in x0 x1 x2 x3 x4) .normal (q2m_1_in x0 x1 s.1 x3 s.2) | .inr o => q2m_1_ex o ≠ .normal ∧ J03 prog (J0w (bodyOf f68) [1, 1, 0, 1, 0, 0]) (q2m_1_in x0 x1 x2 x3 x4) (q2m_1_ex o) (q2m_1_st o)) := by
 intro r h
 unfold q2m_1_step at h
 rcases fork_some h with ⟨h2, h⟩ | ⟨h2, h⟩
 ·obtain ⟨h3, h⟩ := need_some h
  obtain ⟨h4, h⟩ := need_some h
  injection h with h; subst h
  exact env.code (its := [b1, .dive, .sel [4, 5, 10, 11, 12] [0, 2]]) (.c h2 (.c h3 (.c h4 .n))) (by kernel_rfl)
 ·injection h with h; subst h
  exact ⟨by intro e; simp [q2m_1_ex] at e, env.code (its := [b0, .sel [4, 5] [0, 1]]) (.c h2 .n) (by kernel_rfl)⟩
theorem q2m_1_ok (x0 : List (B8)) (x1 : Int) (x2 : Int) (x3 : B8) (x4 : B8) (o : B8 × B8) (h : q2m_1 x0 x1 x2 x3 x4 = some o) : J03 prog (J0w (bodyOf f68) [1, 1, 0, 1, 0]) (q2m_1_in x0 x1 x2 x3 x4) (q2m_1_ex o) (q2m_1_st o) :=
 J06.of_step (st := fun s => q2m_1_in x0 x1 s.1 x3 s.2) (ex := q2m_1_ex) (stO := q2m_1_st) (fun s s2 hs => q2m_1_body x0 x1 s.1 x3 s.2 (.inl s2) hs) (fun s r hs => q2m_1_body x0 x1 s.1 x3 s.2 (.inr r) hs) _ o h
def q2m_R (a0 : UInt8) (a1 : List (B8)) (u : B8) : Slot := (.v Yh u)
def q2m_O (a0 : UInt8) (a1 : List (B8)) (u : B8) : List AObj := []
theorem q2m_ok (a0 : UInt8) (a1 : List (B8)) (u : B8) (h : q2m a0 a1 = some u) : CallC prog 68 [(.v (.int .u8) a0), (.v Ybb a1)] [] (q2m_R a0 a1 u) (q2m_O a0 a1 u) := by
 unfold q2m at h
 obtain ⟨o5, h6, h⟩ := andThen_some h
 obtain ⟨u7, h8, h⟩ := andThen_some h
 injection h with h; subst h
 exact env.fun func68 can68 (its := [.dive, .sel [4, 5, 10, 11, 12] [0, 1], .part (q2m_1_ex o5) (q2m_1_st o5), .call [none] [] [1] true (q3m_R o5.2 u7) (q3m_O o5.2 u7)]) (pos := s0) (.c (q2m_1_ok a1 (List.length a1 : Int) (0 : Int) Z32 ([a0] : List (UInt8)) o5 h6) (.c (q3m_ok o5.2 u7 h8) .n)) (by kernel_rfl)
theorem can38 : J01 prog 38 := ⟨_, func38, by kernel_rfl, by kernel_rfl⟩
def q37_1_in (x0 : List (T484d)) (x1 : Int) (x2 : Int) (x3 : B8) (x4 : B8) : St := ⟨[(2, (.ptr 0 [])), (3, (.own 1 [])), (10, (.v (.slice Y484d) x0)), (11, (.v (.int .i64) x1)), (12, (.v (.int .i64) x2))], [.box Yh (.v Yh x3) true, .row (.int .u8) x4 true], 35, 0⟩
def q37_1_ex (o : B8 × B8) : Exit := (.exit 0)
def q37_1_st (o : B8 × B8) : St := ⟨[(2, (.ptr 0 [])), (3, (.own 1 []))], [.box Yh (.v Yh o.1) true, .row (.int .u8) o.2 true], 35, 0⟩
theorem q37_1_body (x0 : List (T484d)) (x1 : Int) (x2 : Int) (x3 : B8) (x4 : B8) : ∀ r, q37_1_step x0 x1 x2 x3 x4 = some r → (match r with | .inl s => J03 prog (J0w (bodyOf f38) [1, 1, 0, 1, 0, 0]) (q37_1_in x0 x1 x2 x3 x4) .normal (q37_1_in x0 x1 s.1 x3 s.2) | .inr o => q37_1_ex o ≠ .normal ∧ J03 prog (J0w (bodyOf f38) [1, 1, 0, 1, 0, 0]) (q37_1_in x0 x1 x2 x3 x4) (q37_1_ex o) (q37_1_st o)) := by
 intro r h
 unfold q37_1_step at h
 rcases fork_some h with ⟨h4, h⟩ | ⟨h4, h⟩
 ·obtain ⟨h5, h⟩ := need_some h
  obtain ⟨u6, h7, h⟩ := andThen_some h
  obtain ⟨u8, h9, h⟩ := andThen_some h
  obtain ⟨u10, h11, h⟩ := andThen_some h
  obtain ⟨u12, h13, h⟩ := andThen_some h
  injection h with h; subst h
  exact env.code (its := [b1, .pre p37, .call [none] [] [0] true (q3e_R ([(List.getD x0 (Int.toNat x2) Z484d).1] : List (B8)) u6) (q3e_O ([(List.getD x0 (Int.toNat x2) Z484d).1] : List (B8)) u6), .call [none] [] [0] true (q3g_R ([(List.getD x0 (Int.toNat x2) Z484d).2.1] : List (Int)) u8) (q3g_O ([(List.getD x0 (Int.toNat x2) Z484d).2.1] : List (Int)) u8), .call [none] [] [0] true (q3c_R ([(List.getD x0 (Int.toNat x2) Z484d).2.2.1] : List (B8)) u10) (q3c_O ([(List.getD x0 (Int.toNat x2) Z484d).2.2.1] : List (B8)) u10), .call [none] [] [0] true (qo_R ([x4, u6, u8, u10] : List (B8)) u12) (qo_O ([x4, u6, u8, u10] : List (B8)) u12), .sel [2, 3, 10, 11, 12] [0, 10]]) (.c h4 (.c h5 (.c (q3e_ok ([(List.getD x0 (Int.toNat x2) Z484d).1] : List (B8)) u6 h7) (.c (q3g_ok ([(List.getD x0 (Int.toNat x2) Z484d).2.1] : List (Int)) u8 h9) (.c (q3c_ok ([(List.getD x0 (Int.toNat x2) Z484d).2.2.1] : List (B8)) u10 h11) (.c (qo_ok ([x4, u6, u8, u10] : List (B8)) u12 h13) .n)))))) (by kernel_rfl)
 ·injection h with h; subst h
  exact ⟨by intro e; simp [q37_1_ex] at e, env.code (its := [b0, .sel [2, 3] [0, 1]]) (.c h4 .n) (by kernel_rfl)⟩
theorem q37_1_ok (x0 : List (T484d)) (x1 : Int) (x2 : Int) (x3 : B8) (x4 : B8) (o : B8 × B8) (h : q37_1 x0 x1 x2 x3 x4 = some o) : J03 prog (J0w (bodyOf f38) [1, 1, 0, 1, 0]) (q37_1_in x0 x1 x2 x3 x4) (q37_1_ex o) (q37_1_st o) :=
 J06.of_step (st := fun s => q37_1_in x0 x1 s.1 x3 s.2) (ex := q37_1_ex) (stO := q37_1_st) (fun s s2 hs => q37_1_body x0 x1 s.1 x3 s.2 (.inl s2) hs) (fun s r hs => q37_1_body x0 x1 s.1 x3 s.2 (.inr r) hs) _ o h
def q37_R (a0 : List (T484d)) (u : B8) : Slot := (.v Yh u)
def q37_O (a0 : List (T484d)) (u : B8) : List AObj := []
theorem q37_ok (a0 : List (T484d)) (u : B8) (h : q37 a0 = some u) : CallC prog 38 [(.v (.slice Y484d) a0)] [] (q37_R a0 u) (q37_O a0 u) := by
 unfold q37 at h
 obtain ⟨u1, h2, h⟩ := andThen_some h
 obtain ⟨o14, h15, h⟩ := andThen_some h
 obtain ⟨u16, h17, h⟩ := andThen_some h
 injection h with h; subst h
 exact env.fun func38 can38 (its := [.call [none] [] [1] true (q3g_R ([(List.length a0 : Int)] : List (Int)) u1) (q3g_O ([(List.length a0 : Int)] : List (Int)) u1), .dive, .sel [2, 3, 10, 11, 12] [0, 2], .part (q37_1_ex o14) (q37_1_st o14), .call [none, none] [] [2] true (q2m_R (86 : UInt8) ([o14.2] : List (B8)) u16) (q2m_O (86 : UInt8) ([o14.2] : List (B8)) u16)]) (pos := s0) (.c (q3g_ok ([(List.length a0 : Int)] : List (Int)) u1 h2) (.c (q37_1_ok a0 (List.length a0 : Int) (0 : Int) Z32 u1 o14 h15) (.c (q2m_ok (86 : UInt8) ([o14.2] : List (B8)) u16 h17) .n))) (by kernel_rfl)
theorem can39 : J01 prog 39 := ⟨_, func39, by kernel_rfl, by kernel_rfl⟩
def q2g_R (a0 : Int) (u : Bool) : Slot := (.v .bool u)
def q2g_O (a0 : Int) (u : Bool) : List AObj := []
theorem q2g_ok (a0 : Int) (u : Bool) (h : q2g a0 = some u) : CallC prog 39 [(.v (.int .i64) a0)] [] (q2g_R a0 u) (q2g_O a0 u) := by
 unfold q2g at h
 rcases fork_some h with ⟨h1, h⟩ | ⟨h1, h⟩
 ·injection h with h; subst h
  exact env.fun func39 can39 (its := [b1, b1, b1]) (pos := s0) (.c h1 (.c h1 (.c h1 .n))) (by kernel_rfl)
 ·injection h with h; subst h
  exact env.fun func39 can39 (its := [b0, b0, b0]) (pos := s0) (.c h1 (.c h1 (.c h1 .n))) (by kernel_rfl)
theorem can40 : J01 prog 40 := ⟨_, func40, by kernel_rfl, by kernel_rfl⟩
def q14_R (a0 : List (T484d)) (u : List (T484d)) : Slot := .own 0 []
def q14_O (a0 : List (T484d)) (u : List (T484d)) : List AObj := [.row Y484d u true]
theorem q14_ok (a0 : List (T484d)) (u : List (T484d)) (h : q14 a0 = some u) : CallC prog 40 [.v (.slice Y484d) a0] [] (q14_R a0 u) (q14_O a0 u) := by
 unfold q14 at h
 obtain ⟨h1, h⟩ := need_some h
 injection h with h; subst h
 rcases a0 with _ | ⟨x0, a0⟩
 ·exact env.funAny (r0 := J0w (bodyOf f40) [0]) (r1 := J0w (bodyOf f40) [1, 0, 0]) (x := J0w (bodyOf f40) [1, 0, 1, 0]) (z := J0w (bodyOf f40) [1, 1]) (t := 4) (r := (.own 0 [])) func40 can40 (i0 := [.sel [0] []]) (i1 := [.sel [0, 4] []]) (i2 := [.promote 2 Y484d, .sel [2] [0]]) (i3 := [.sel [2] [1]]) (pos := s1) (st1 := ⟨[(0, (.v (.slice Y484d) ([] : List (T484d))))], [], 8, 0⟩) (st2 := ⟨[(0, (.v (.slice Y484d) ([] : List (T484d)))), (4, .anyb)], [], 8, 0⟩) (st3 := ⟨[(2, (.own 0 []))], [.row Y484d ([] : List (T484d)) true], 8, 0⟩) (by kernel_rfl) (by kernel_rfl) (by kernel_rfl) (by kernel_rfl) (by kernel_rfl) (by kernel_rfl) (.c (show List.length ([] : List (T484d)) + List.length ([] : List (T484d)) ≤ 2147483648 from by first | decide | (simp at h1 ⊢; try omega)) .n) (by kernel_rfl) (by kernel_rfl) (by kernel_rfl)
 ·exact env.fun func40 can40 (its := [b0]) (pos := [.sel [1]]) (.c r0 (.c (show List.length ([] : List (T484d)) + List.length (x0 :: a0) ≤ 2147483648 from by first | decide | (simp at h1 ⊢; try omega)) .n)) (by kernel_rfl)
theorem can8 : J01 prog 8 := ⟨_, func8, by kernel_rfl, by kernel_rfl⟩
def q3a_R (a0 : Tf0bc) (a1 : List (T484d)) (a2 : Int) (u : (Int) ⊕ (Int × T65da)) : Slot := match u with | (.inl u) => (.tup .nilp (.tup (.v (.int .i64) u) .tnil)) | (.inr u) => (.tup (.ptr 0 []) (.tup (.v (.int .i64) u.1) .tnil))
def q3a_O (a0 : Tf0bc) (a1 : List (T484d)) (a2 : Int) (u : (Int) ⊕ (Int × T65da)) : List AObj := match u with | (.inl u) => [] | (.inr u) => [.box Y65da (.v Y65da u.2) true]
theorem q3a_ok (a0 : Tf0bc) (a1 : List (T484d)) (a2 : Int) (u : (Int) ⊕ (Int × T65da)) (h : q3a a0 a1 a2 = some u) : CallC prog 8 [(.v Yf0bc a0), (.v (.slice Y484d) a1), (.v (.int .i64) a2)] [] (q3a_R a0 a1 a2 u) (q3a_O a0 a1 a2 u) := by
 unfold q3a at h
 obtain ⟨u1, h2, h⟩ := andThen_some h
 rcases fork_some h with ⟨h3, h⟩ | ⟨h3, h⟩
 ·injection h with h; subst h
  exact env.fun func8 can8 (its := [.pre p38, .asis, .call [none] [] [] true (q2o_R a0 u1) (q2o_O a0 u1), b1, b1, b1, b1, b1, b1, b1, b1, b1, b1, b1, b1, b1, b1, b1]) (pos := s0) (.c rn (.c (q2o_ok a0 u1 h2) (.c h3 (.c h3 (.c h3 (.c h3 (.c r1 (.c r1 (.c r1 (.c r1 (.c r1 (.c r1 (.c r1 (.c r1 (.c r1 (.c r1 (.c r1 .n))))))))))))))))) (by kernel_rfl)
 ·obtain ⟨u4, h5, h⟩ := andThen_some h
  rcases fork_some h with ⟨h6, h⟩ | ⟨h6, h⟩
  ·injection h with h; subst h
   exact env.fun func8 can8 (its := [.pre p38, .asis, .call [none] [] [] true (q2o_R a0 u1) (q2o_O a0 u1), b0, b0, .asis, .call [none] [] [] true (q2q_R a1 u4) (q2q_O a1 u4), b0, b0, b1, b1, b1, b1, b1, b1, b1, b1, b1, b1, b1]) (pos := s0) (.c rn (.c (q2o_ok a0 u1 h2) (.c h3 (.c h3 (.c rn (.c (q2q_ok a1 u4 h5) (.c h3 (.c h3 (.c h6 (.c h6 (.c h6 (.c h6 (.c h6 (.c h6 (.c r1 (.c r1 (.c r1 (.c r1 (.c r1 .n))))))))))))))))))) (by kernel_rfl)
  ·obtain ⟨u7, h8, h⟩ := andThen_some h
   rcases fork_some h with ⟨h9, h⟩ | ⟨h9, h⟩
   ·injection h with h; subst h
    exact env.fun func8 can8 (its := [.pre p38, .asis, .call [none] [] [] true (q2o_R a0 u1) (q2o_O a0 u1), b0, b0, .asis, .call [none] [] [] true (q2q_R a1 u4) (q2q_O a1 u4), b0, b0, b0, b0, b0, b0, .asis, .call [none] [] [] true (q37_R a1 u7) (q37_O a1 u7), b0, b0, b1, b1, b1, b1, b1]) (pos := s0) (.c rn (.c (q2o_ok a0 u1 h2) (.c h3 (.c h3 (.c rn (.c (q2q_ok a1 u4 h5) (.c h3 (.c h3 (.c h6 (.c h6 (.c h6 (.c h6 (.c rn (.c (q37_ok a1 u7 h8) (.c h6 (.c h6 (.c h9 (.c h9 (.c h9 (.c h9 (.c r1 .n))))))))))))))))))))) (by kernel_rfl)
   ·obtain ⟨u10, h11, h⟩ := andThen_some h
    rcases fork_some h with ⟨h12, h⟩ | ⟨h12, h⟩
    ·injection h with h; subst h
     exact env.fun func8 can8 (its := [.pre p38, .asis, .call [none] [] [] true (q2o_R a0 u1) (q2o_O a0 u1), b0, b0, .asis, .call [none] [] [] true (q2q_R a1 u4) (q2q_O a1 u4), b0, b0, b0, b0, b0, b0, .asis, .call [none] [] [] true (q37_R a1 u7) (q37_O a1 u7), b0, b0, b0, b0, .asis, .call [none] [] [] true (q2g_R a2 u10) (q2g_O a2 u10), b0, b0, b1]) (pos := s0) (.c rn (.c (q2o_ok a0 u1 h2) (.c h3 (.c h3 (.c rn (.c (q2q_ok a1 u4 h5) (.c h3 (.c h3 (.c h6 (.c h6 (.c h6 (.c h6 (.c rn (.c (q37_ok a1 u7 h8) (.c h6 (.c h6 (.c h9 (.c h9 (.c rn (.c (q2g_ok a2 u10 h11) (.c h9 (.c h9 (.c h12 .n))))))))))))))))))))))) (by kernel_rfl)
    ·obtain ⟨u13, h14, h⟩ := andThen_some h
     injection h with h; subst h
     exact env.fun func8 can8 (its := [.pre p38, .asis, .call [none] [] [] true (q2o_R a0 u1) (q2o_O a0 u1), b0, b0, .asis, .call [none] [] [] true (q2q_R a1 u4) (q2q_O a1 u4), b0, b0, b0, b0, b0, b0, .asis, .call [none] [] [] true (q37_R a1 u7) (q37_O a1 u7), b0, b0, b0, b0, .asis, .call [none] [] [] true (q2g_R a2 u10) (q2g_O a2 u10), b0, b0, b0, .pre p39, .call [none] [] [] true (q14_R a1 u13) (q14_O a1 u13)]) (pos := [.sel [3]]) (.c rn (.c (q2o_ok a0 u1 h2) (.c h3 (.c h3 (.c rn (.c (q2q_ok a1 u4 h5) (.c h3 (.c h3 (.c h6 (.c h6 (.c h6 (.c h6 (.c rn (.c (q37_ok a1 u7 h8) (.c h6 (.c h6 (.c h9 (.c h9 (.c rn (.c (q2g_ok a2 u10 h11) (.c h9 (.c h9 (.c h12 (.c (q14_ok a1 u13 h14) .n)))))))))))))))))))))))) (by kernel_rfl)
theorem can9 : J01 prog 9 := ⟨_, func9, by kernel_rfl, by kernel_rfl⟩
def q1t_R (a0 : List Int) (a1 : Int) (u : Int) : Slot := (.v (.int .i64) u)
def q1t_O (a0 : List Int) (a1 : Int) (u : Int) : List AObj := []
theorem q1t_ok (a0 : List Int) (a1 : Int) (u : Int) (h : q1t a0 a1 = some u) : CallC prog 9 [(.v (.slice (.int .i64)) a0), (.v (.int .i64) a1)] [] (q1t_R a0 a1 u) (q1t_O a0 a1 u) := by
 unfold q1t at h
 rcases fork_some h with ⟨h1, h⟩ | ⟨h1, h⟩
 ·injection h with h; subst h
  exact env.fun func9 can9 (its := [b1]) (pos := s0) (.c h1 .n) (by kernel_rfl)
 ·obtain ⟨h2, h⟩ := need_some h
  obtain ⟨h3, h⟩ := need_some h
  obtain ⟨u4, h5, h⟩ := andThen_some h
  injection h with h; subst h
  exact env.fun func9 can9 (its := [b0, .call [none, none, none] [] [] true (q1c_R (List.getD a0 (Int.toNat (Int.tmod a1 (List.length a0 : Int))) (0 : Int)) (0 : Int) (1073741824 : Int) u4) (q1c_O (List.getD a0 (Int.toNat (Int.tmod a1 (List.length a0 : Int))) (0 : Int)) (0 : Int) (1073741824 : Int) u4)]) (pos := s0) (.c h1 (.c h2 (.c h3 (.c (q1c_ok (List.getD a0 (Int.toNat (Int.tmod a1 (List.length a0 : Int))) (0 : Int)) (0 : Int) (1073741824 : Int) u4 h5) .n)))) (by kernel_rfl)
theorem can11 : J01 prog 11 := ⟨_, func11, by kernel_rfl, by kernel_rfl⟩
def ql_R (a0 : T65da) (u : Tf0bc) : Slot := (.v Yf0bc u)
def ql_O (a0 : T65da) (u : Tf0bc) : List AObj := [.box Y65da (.v Y65da a0) true]
theorem ql_ok (a0 : T65da) (u : Tf0bc) (h : ql a0 = some u) : CallC prog 11 [(.ptr 0 [])] [.box Y65da (.v Y65da a0) true] (ql_R a0 u) (ql_O a0 u) := by
 unfold ql at h
 obtain ⟨h1, h⟩ := need_some h
 injection h with h; subst h
 exact env.fun func11 can11 (its := [.pre p40]) (pos := s1) (.c h1 .n) (by kernel_rfl)
theorem can41 : J01 prog 41 := ⟨_, func41, by kernel_rfl, by kernel_rfl⟩
def q2j_R (a0 : Tedcc) (u : Bool) : Slot := (.v .bool u)
def q2j_O (a0 : Tedcc) (u : Bool) : List AObj := []
theorem q2j_ok (a0 : Tedcc) (u : Bool) (h : q2j a0 = some u) : CallC prog 41 [(.v Yedcc a0)] [] (q2j_R a0 u) (q2j_O a0 u) := by
 unfold q2j at h
 obtain ⟨u1, h2, h⟩ := andThen_some h
 rcases fork_some h with ⟨h3, h⟩ | ⟨h3, h⟩
 ·obtain ⟨u4, h5, h⟩ := andThen_some h
  rcases fork_some h with ⟨h6, h⟩ | ⟨h6, h⟩
  ·obtain ⟨u7, h8, h⟩ := andThen_some h
   rcases fork_some h with ⟨h9, h⟩ | ⟨h9, h⟩
   ·rcases fork_some h with ⟨h10, h⟩ | ⟨h10, h⟩
    ·obtain ⟨u11, h12, h⟩ := andThen_some h
     rcases fork_some h with ⟨h13, h⟩ | ⟨h13, h⟩
     ·obtain ⟨u14, h15, h⟩ := andThen_some h
      injection h with h; subst h
      exact env.fun func41 can41 (its := [.pre p41, .asis, .call [none] [] [] true (q2o_R a0.1 u1) (q2o_O a0.1 u1), b1, b1, b1, .asis, .call [none] [] [] true (q2q_R a0.2.2.1 u4) (q2q_O a0.2.2.1 u4), b1, b1, b1, b1, .asis, .call [none] [] [] true (q2q_R a0.2.2.2.1 u7) (q2q_O a0.2.2.2.1 u7), b1, b1, b1, b1, b1, b1, b1, b1, b1, .asis, .call [none] [] [] true (q37_R a0.2.2.1 u11) (q37_O a0.2.2.1 u11), b1, b1, b1, b1, b1, b1, b1, b1, .asis, .call [none] [] [] true (q37_R a0.2.2.2.1 u14) (q37_O a0.2.2.2.1 u14), b1, b1, b1, b1, b1]) (pos := s0) (.c rn (.c (q2o_ok a0.1 u1 h2) (.c h3 (.c h3 (.c h3 (.c rn (.c (q2q_ok a0.2.2.1 u4 h5) (.c h3 (.c h6 (.c h6 (.c h6 (.c rn (.c (q2q_ok a0.2.2.2.1 u7 h8) (.c h6 (.c h9 (.c h9 (.c h9 (.c h9 (.c h9 (.c h10 (.c h10 (.c h10 (.c rn (.c (q37_ok a0.2.2.1 u11 h12) (.c h10 (.c h10 (.c h10 (.c h10 (.c h10 (.c h13 (.c h13 (.c h13 (.c rn (.c (q37_ok a0.2.2.2.1 u14 h15) (.c h13 (.c h13 (.c h13 (.c h13 (.c h13 .n))))))))))))))))))))))))))))))))))))))) (by kernel_rfl)
     ·injection h with h; subst h
      exact env.fun func41 can41 (its := [.pre p41, .asis, .call [none] [] [] true (q2o_R a0.1 u1) (q2o_O a0.1 u1), b1, b1, b1, .asis, .call [none] [] [] true (q2q_R a0.2.2.1 u4) (q2q_O a0.2.2.1 u4), b1, b1, b1, b1, .asis, .call [none] [] [] true (q2q_R a0.2.2.2.1 u7) (q2q_O a0.2.2.2.1 u7), b1, b1, b1, b1, b1, b1, b1, b1, b1, .asis, .call [none] [] [] true (q37_R a0.2.2.1 u11) (q37_O a0.2.2.1 u11), b1, b1, b1, b1, b1, b0, b0, b0, b0, b0, b0, b0, b0]) (pos := s0) (.c rn (.c (q2o_ok a0.1 u1 h2) (.c h3 (.c h3 (.c h3 (.c rn (.c (q2q_ok a0.2.2.1 u4 h5) (.c h3 (.c h6 (.c h6 (.c h6 (.c rn (.c (q2q_ok a0.2.2.2.1 u7 h8) (.c h6 (.c h9 (.c h9 (.c h9 (.c h9 (.c h9 (.c h10 (.c h10 (.c h10 (.c rn (.c (q37_ok a0.2.2.1 u11 h12) (.c h10 (.c h10 (.c h10 (.c h10 (.c h10 (.c h13 (.c h13 (.c h13 (.c h13 (.c h13 (.c h13 (.c h13 (.c h13 .n))))))))))))))))))))))))))))))))))))) (by kernel_rfl)
    ·injection h with h; subst h
     exact env.fun func41 can41 (its := [.pre p41, .asis, .call [none] [] [] true (q2o_R a0.1 u1) (q2o_O a0.1 u1), b1, b1, b1, .asis, .call [none] [] [] true (q2q_R a0.2.2.1 u4) (q2q_O a0.2.2.1 u4), b1, b1, b1, b1, .asis, .call [none] [] [] true (q2q_R a0.2.2.2.1 u7) (q2q_O a0.2.2.2.1 u7), b1, b1, b1, b1, b1, b1, b0, b0, b0, b0, b0, b0, b0, b0, b0, b0, b0, b0, b0, b0, b0, b0]) (pos := s0) (.c rn (.c (q2o_ok a0.1 u1 h2) (.c h3 (.c h3 (.c h3 (.c rn (.c (q2q_ok a0.2.2.1 u4 h5) (.c h3 (.c h6 (.c h6 (.c h6 (.c rn (.c (q2q_ok a0.2.2.2.1 u7 h8) (.c h6 (.c h9 (.c h9 (.c h9 (.c h9 (.c h9 (.c h10 (.c h10 (.c h10 (.c h10 (.c h10 (.c h10 (.c h10 (.c h10 (.c r0 (.c r0 (.c r0 (.c r0 (.c r0 (.c r0 (.c r0 (.c r0 .n))))))))))))))))))))))))))))))))))) (by kernel_rfl)
   ·injection h with h; subst h
    exact env.fun func41 can41 (its := [.pre p41, .asis, .call [none] [] [] true (q2o_R a0.1 u1) (q2o_O a0.1 u1), b1, b1, b1, .asis, .call [none] [] [] true (q2q_R a0.2.2.1 u4) (q2q_O a0.2.2.1 u4), b1, b1, b1, b1, .asis, .call [none] [] [] true (q2q_R a0.2.2.2.1 u7) (q2q_O a0.2.2.2.1 u7), b1, b0, b0, b0, b0, b0, b0, b0, b0, b0, b0, b0, b0, b0, b0, b0, b0, b0, b0, b0, b0, b0]) (pos := s0) (.c rn (.c (q2o_ok a0.1 u1 h2) (.c h3 (.c h3 (.c h3 (.c rn (.c (q2q_ok a0.2.2.1 u4 h5) (.c h3 (.c h6 (.c h6 (.c h6 (.c rn (.c (q2q_ok a0.2.2.2.1 u7 h8) (.c h6 (.c h9 (.c h9 (.c h9 (.c h9 (.c h9 (.c r0 (.c r0 (.c r0 (.c r0 (.c r0 (.c r0 (.c r0 (.c r0 (.c r0 (.c r0 (.c r0 (.c r0 (.c r0 (.c r0 (.c r0 (.c r0 .n))))))))))))))))))))))))))))))))))) (by kernel_rfl)
  ·injection h with h; subst h
   exact env.fun func41 can41 (its := [.pre p41, .asis, .call [none] [] [] true (q2o_R a0.1 u1) (q2o_O a0.1 u1), b1, b1, b1, .asis, .call [none] [] [] true (q2q_R a0.2.2.1 u4) (q2q_O a0.2.2.1 u4), b1, b0, b0, b0, b0, b0, b0, b0, b0, b0, b0, b0, b0, b0, b0, b0, b0, b0, b0, b0, b0, b0, b0, b0, b0, b0]) (pos := s0) (.c rn (.c (q2o_ok a0.1 u1 h2) (.c h3 (.c h3 (.c h3 (.c rn (.c (q2q_ok a0.2.2.1 u4 h5) (.c h3 (.c h6 (.c h6 (.c h6 (.c h6 (.c r0 (.c r0 (.c r0 (.c r0 (.c r0 (.c r0 (.c r0 (.c r0 (.c r0 (.c r0 (.c r0 (.c r0 (.c r0 (.c r0 (.c r0 (.c r0 (.c r0 (.c r0 (.c r0 (.c r0 (.c r0 .n))))))))))))))))))))))))))))))))) (by kernel_rfl)
 ·injection h with h; subst h
  exact env.fun func41 can41 (its := [.pre p41, .asis, .call [none] [] [] true (q2o_R a0.1 u1) (q2o_O a0.1 u1), b0, b0, b0, b0, b0, b0, b0, b0, b0, b0, b0, b0, b0, b0, b0, b0, b0, b0, b0, b0, b0, b0, b0, b0, b0, b0, b0, b0, b0]) (pos := s0) (.c rn (.c (q2o_ok a0.1 u1 h2) (.c h3 (.c h3 (.c h3 (.c h3 (.c r0 (.c r0 (.c r0 (.c r0 (.c r0 (.c r0 (.c r0 (.c r0 (.c r0 (.c r0 (.c r0 (.c r0 (.c r0 (.c r0 (.c r0 (.c r0 (.c r0 (.c r0 (.c r0 (.c r0 (.c r0 (.c r0 (.c r0 (.c r0 (.c r0 .n))))))))))))))))))))))))))))))) (by kernel_rfl)
theorem can17 : J01 prog 17 := ⟨_, func17, by kernel_rfl, by kernel_rfl⟩
def qj_R (a0 : Int) (a1 : T65da) (u : Bool) : Slot := (.v .bool u)
def qj_O (a0 : Int) (a1 : T65da) (u : Bool) : List AObj := [.box Y65da (.v Y65da a1) true]
theorem qj_ok (a0 : Int) (a1 : T65da) (u : Bool) (h : qj a0 a1 = some u) : CallC prog 17 [(.ptr 0 []), (.v (.int .i64) a0)] [.box Y65da (.v Y65da a1) true] (qj_R a0 a1 u) (qj_O a0 a1 u) := by
 unfold qj at h
 obtain ⟨u1, h2, h⟩ := andThen_some h
 injection h with h; subst h
 exact env.fun func17 can17 (its := [.pre p42, .asis, .call [none] [0] [] false (ql_R a1 u1) (ql_O a1 u1)]) (pos := s1) (.c (rfl : ([.box Y65da (.v Y65da a1) true] : List AObj) = [.box Y65da (.v Y65da a1) true]) (.c (ql_ok a1 u1 h2) .n)) (by kernel_rfl)
theorem can93 : J01 prog 93 := ⟨_, func93, by kernel_rfl, by kernel_rfl⟩
def q30_1_in (x0 : List (T8f72)) (x1 : Int) : St := ⟨[(0, (.v (.slice Y8f72) x0)), (3, (.v (.int .i64) x1))], [], 25, 0⟩
def q30_1_ex (o : (Bool) ⊕ (List (T8f72))) : Exit := match o with | (.inl o) => .ret | (.inr o) => (.exit 0)
def q30_1_st (o : (Bool) ⊕ (List (T8f72))) : St := match o with | (.inl o) => ⟨[(2, (.v .bool o))], [], 25, 0⟩ | (.inr o) => ⟨[(0, (.v (.slice Y8f72) o))], [], 25, 0⟩
theorem q30_1_body (x0 : List (T8f72)) (x1 : Int) : ∀ r, q30_1_step x0 x1 = some r → (match r with | .inl s => J03 prog (J0w (bodyOf f93) [1, 0, 1, 0, 0]) (q30_1_in x0 x1) .normal (q30_1_in x0 s) | .inr o => q30_1_ex o ≠ .normal ∧ J03 prog (J0w (bodyOf f93) [1, 0, 1, 0, 0]) (q30_1_in x0 x1) (q30_1_ex o) (q30_1_st o)) := by
 intro r h
 unfold q30_1_step at h
 rcases fork_some h with ⟨h2, h⟩ | ⟨h2, h⟩
 ·obtain ⟨h3, h⟩ := need_some h
  obtain ⟨h4, h⟩ := need_some h
  rcases fork_some h with ⟨h5, h⟩ | ⟨h5, h⟩
  ·injection h with h; subst h
   exact ⟨by intro e; simp [q30_1_ex] at e, env.code (its := [b1, .pre p43, b1, .sel [2] []]) (.c h2 (.c h3 (.c h4 (.c h5 .n)))) (by kernel_rfl)⟩
  ·injection h with h; subst h
   exact env.code (its := [b1, .pre p43, b0, .sel [0, 3] []]) (.c h2 (.c h3 (.c h4 (.c h5 .n)))) (by kernel_rfl)
 ·injection h with h; subst h
  exact ⟨by intro e; simp [q30_1_ex] at e, env.code (its := [b0, .sel [0] []]) (.c h2 .n) (by kernel_rfl)⟩
theorem q30_1_ok (x0 : List (T8f72)) (x1 : Int) (o : (Bool) ⊕ (List (T8f72))) (h : q30_1 x0 x1 = some o) : J03 prog (J0w (bodyOf f93) [1, 0, 1, 0]) (q30_1_in x0 x1) (q30_1_ex o) (q30_1_st o) :=
 J06.of_step (st := fun s => q30_1_in x0 s) (ex := q30_1_ex) (stO := q30_1_st) (fun s s2 hs => q30_1_body x0 s (.inl s2) hs) (fun s r hs => q30_1_body x0 s (.inr r) hs) _ o h
def q30_R (a0 : List (T8f72)) (u : Bool) : Slot := (.v .bool u)
def q30_O (a0 : List (T8f72)) (u : Bool) : List AObj := []
theorem q30_ok (a0 : List (T8f72)) (u : Bool) (h : q30 a0 = some u) : CallC prog 93 [(.v (.slice Y8f72) a0)] [] (q30_R a0 u) (q30_O a0 u) := by
 unfold q30 at h
 obtain ⟨o6, h7, h⟩ := andThen_some h
 rcases o6 with o8 | o9
 ·injection h with h; subst h
  exact env.fun func93 can93 (its := [.dive, .sel [0, 3] [], .part (q30_1_ex (.inl o8)) (q30_1_st (.inl o8))]) (pos := s0) (.c (q30_1_ok a0 (1 : Int) (.inl o8) h7) .n) (by kernel_rfl)
 ·injection h with h; subst h
  exact env.fun func93 can93 (its := [.dive, .sel [0, 3] [], .part (q30_1_ex (.inr o9)) (q30_1_st (.inr o9))]) (pos := s0) (.c (q30_1_ok a0 (1 : Int) (.inr o9) h7) .n) (by kernel_rfl)
theorem can107 : J01 prog 107 := ⟨_, func107, by kernel_rfl, by kernel_rfl⟩
def q2l_R (a0 : Tf0bc) (u : B8) : Slot := (.own 0 [])
def q2l_O (a0 : Tf0bc) (u : B8) : List AObj := [.row (.int .u8) u true]
theorem q2l_ok (a0 : Tf0bc) (u : B8) (h : q2l a0 = some u) : CallC prog 107 [(.v Yf0bc a0)] [] (q2l_R a0 u) (q2l_O a0 u) := by
 unfold q2l at h
 obtain ⟨u1, h2, h⟩ := andThen_some h
 rcases fork_some h with ⟨h3, h⟩ | ⟨h3, h⟩
 ·injection h with h; subst h
  exact env.fun func107 can107 (its := [.call [none] [] [] true (q2o_R a0 u1) (q2o_O a0 u1), b1]) (pos := [.promote (.int .u8), .sel [1]]) (.c (q2o_ok a0 u1 h2) (.c h3 .n)) (by kernel_rfl)
 ·obtain ⟨u4, h5, h⟩ := andThen_some h
  obtain ⟨u6, h7, h⟩ := andThen_some h
  obtain ⟨h8, h⟩ := need_some h
  injection h with h; subst h
  exact env.fun func107 can107 (its := [.call [none] [] [] true (q2o_R a0 u1) (q2o_O a0 u1), b0, .pre p44, .call [none] [] [0] true (q3g_R ([a0.1, a0.2.1] : List (Int)) u4) (q3g_O ([a0.1, a0.2.1] : List (Int)) u4), .call [none] [] [0] true (q3c_R ([a0.2.2.1, a0.2.2.2.1, a0.2.2.2.2.1, a0.2.2.2.2.2.1] : List (B8)) u6) (q3c_O ([a0.2.2.1, a0.2.2.2.1, a0.2.2.2.2.1, a0.2.2.2.2.2.1] : List (B8)) u6)]) (pos := [.sel [5]]) (.c (q2o_ok a0 u1 h2) (.c h3 (.c (q3g_ok ([a0.1, a0.2.1] : List (Int)) u4 h5) (.c (q3c_ok ([a0.2.2.1, a0.2.2.2.1, a0.2.2.2.2.1, a0.2.2.2.2.2.1] : List (B8)) u6 h7) (.c h8 .n))))) (by kernel_rfl)
theorem can102 : J01 prog 102 := ⟨_, func102, by kernel_rfl, by kernel_rfl⟩
def q34_R (a0 : Tf0bc) (u : B8) : Slot := (.v Yh u)
def q34_O (a0 : Tf0bc) (u : B8) : List AObj := []
theorem q34_ok (a0 : Tf0bc) (u : B8) (h : q34 a0 = some u) : CallC prog 102 [(.v Yf0bc a0)] [] (q34_R a0 u) (q34_O a0 u) := by
 unfold q34 at h
 obtain ⟨u1, h2, h⟩ := andThen_some h
 obtain ⟨u3, h4, h⟩ := andThen_some h
 injection h with h; subst h
 exact env.fun func102 can102 (its := [.call [none] [] [] true (q2l_R a0 u1) (q2l_O a0 u1), .call [none, none] [] [3] true (q2m_R (72 : UInt8) ([u1] : List (B8)) u3) (q2m_O (72 : UInt8) ([u1] : List (B8)) u3)]) (pos := s0) (.c (q2l_ok a0 u1 h2) (.c (q2m_ok (72 : UInt8) ([u1] : List (B8)) u3 h4) .n)) (by kernel_rfl)
theorem can94 : J01 prog 94 := ⟨_, func94, by kernel_rfl, by kernel_rfl⟩
def q35_R (a0 : Tf0bc) (u : B8) : Slot := (.own 0 [])
def q35_O (a0 : Tf0bc) (u : B8) : List AObj := [.box Yh (.v Yh u) true]
theorem q35_ok (a0 : Tf0bc) (u : B8) (h : q35 a0 = some u) : CallC prog 94 [(.v Yf0bc a0)] [] (q35_R a0 u) (q35_O a0 u) := by
 unfold q35 at h
 obtain ⟨u1, h2, h⟩ := andThen_some h
 injection h with h; subst h
 exact env.fun func94 can94 (its := [.call [none] [] [] true (q34_R a0 u1) (q34_O a0 u1), b1]) (pos := [.sel [1]]) (.c (q34_ok a0 u1 h2) .n) (by kernel_rfl)
theorem can95 : J01 prog 95 := ⟨_, func95, by kernel_rfl, by kernel_rfl⟩
def q38_1_in (x0 : B8) (x1 : List (T484d)) (x2 : Int) (x3 : Int) (x4 : T484d) : St := ⟨[(1, (.v .str x0)), (4, (.ptr 0 [])), (8, (.v (.slice Y484d) x1)), (9, (.v (.int .i64) x2)), (10, (.v (.int .i64) x3))], [.box Y484d (.v Y484d x4) true], 21, 0⟩
def q38_1_ex (o : (Bool × T484d) ⊕ (T484d)) : Exit := match o with | (.inl o) => .ret | (.inr o) => (.exit 0)
def q38_1_st (o : (Bool × T484d) ⊕ (T484d)) : St := match o with | (.inl o) => ⟨[(4, (.ptr 0 [])), (5, (.v .bool o.1))], [.box Y484d (.v Y484d o.2) true], 21, 0⟩ | (.inr o) => ⟨[(4, (.ptr 0 []))], [.box Y484d (.v Y484d o) true], 21, 0⟩
theorem q38_1_body (x0 : B8) (x1 : List (T484d)) (x2 : Int) (x3 : Int) (x4 : T484d) : ∀ r, q38_1_step x0 x1 x2 x3 x4 = some r → (match r with | .inl s => J03 prog (J0w (bodyOf f95) [1, 0, 1, 0, 0]) (q38_1_in x0 x1 x2 x3 x4) .normal (q38_1_in x0 x1 x2 s x4) | .inr o => q38_1_ex o ≠ .normal ∧ J03 prog (J0w (bodyOf f95) [1, 0, 1, 0, 0]) (q38_1_in x0 x1 x2 x3 x4) (q38_1_ex o) (q38_1_st o)) := by
 intro r h
 unfold q38_1_step at h
 rcases fork_some h with ⟨h2, h⟩ | ⟨h2, h⟩
 ·obtain ⟨h3, h⟩ := need_some h
  rcases fork_some h with ⟨h4, h⟩ | ⟨h4, h⟩
  ·injection h with h; subst h
   exact ⟨by intro e; simp [q38_1_ex] at e, env.code (its := [b1, b1, .sel [4, 5] [0]]) (.c h2 (.c h3 (.c h4 .n))) (by kernel_rfl)⟩
  ·injection h with h; subst h
   exact env.code (its := [b1, b0, .sel [1, 4, 8, 9, 10] [0]]) (.c h2 (.c h3 (.c h4 .n))) (by kernel_rfl)
 ·injection h with h; subst h
  exact ⟨by intro e; simp [q38_1_ex] at e, env.code (its := [b0, .sel [4] [0]]) (.c h2 .n) (by kernel_rfl)⟩
theorem q38_1_ok (x0 : B8) (x1 : List (T484d)) (x2 : Int) (x3 : Int) (x4 : T484d) (o : (Bool × T484d) ⊕ (T484d)) (h : q38_1 x0 x1 x2 x3 x4 = some o) : J03 prog (J0w (bodyOf f95) [1, 0, 1, 0]) (q38_1_in x0 x1 x2 x3 x4) (q38_1_ex o) (q38_1_st o) :=
 J06.of_step (st := fun s => q38_1_in x0 x1 x2 s x4) (ex := q38_1_ex) (stO := q38_1_st) (fun s s2 hs => q38_1_body x0 x1 x2 s x4 (.inl s2) hs) (fun s r hs => q38_1_body x0 x1 x2 s x4 (.inr r) hs) _ o h
def q38_R (a0 : List (T484d)) (a1 : B8) (u : (T484d) × Bool) : Slot := (.tup (.v Y484d u.1) (.tup (.v .bool u.2) .tnil))
def q38_O (a0 : List (T484d)) (a1 : B8) (u : (T484d) × Bool) : List AObj := []
theorem q38_ok (a0 : List (T484d)) (a1 : B8) (u : (T484d) × Bool) (h : q38 a0 a1 = some u) : CallC prog 95 [(.v (.slice Y484d) a0), (.v .str a1)] [] (q38_R a0 a1 u) (q38_O a0 a1 u) := by
 unfold q38 at h
 obtain ⟨o5, h6, h⟩ := andThen_some h
 rcases o5 with o7 | o8
 ·injection h with h; subst h
  exact env.fun func95 can95 (its := [.dive, .sel [1, 4, 8, 9, 10] [0], .part (q38_1_ex (.inl o7)) (q38_1_st (.inl o7))]) (pos := s0) (.c (q38_1_ok a1 a0 (List.length a0 : Int) (0 : Int) Z484d (.inl o7) h6) .n) (by kernel_rfl)
 ·injection h with h; subst h
  exact env.fun func95 can95 (its := [.dive, .sel [1, 4, 8, 9, 10] [0], .part (q38_1_ex (.inr o8)) (q38_1_st (.inr o8))]) (pos := s0) (.c (q38_1_ok a1 a0 (List.length a0 : Int) (0 : Int) Z484d (.inr o8) h6) .n) (by kernel_rfl)
theorem can103 : J01 prog 103 := ⟨_, func103, by kernel_rfl, by kernel_rfl⟩
def q3j_R (a0 : Int) (u : Bool) : Slot := (.v .bool u)
def q3j_O (a0 : Int) (u : Bool) : List AObj := []
theorem q3j_ok (a0 : Int) (u : Bool) (h : q3j a0 = some u) : CallC prog 103 [(.v (.int .i64) a0)] [] (q3j_R a0 u) (q3j_O a0 u) := by
 unfold q3j at h
 rcases fork_some h with ⟨h1, h⟩ | ⟨h1, h⟩
 ·injection h with h; subst h
  exact env.fun func103 can103 (its := [b1, b1, b1]) (pos := s0) (.c h1 (.c h1 (.c h1 .n))) (by kernel_rfl)
 ·injection h with h; subst h
  exact env.fun func103 can103 (its := [b0, b0, b0]) (pos := s0) (.c h1 (.c h1 (.c h1 .n))) (by kernel_rfl)
theorem can108 : J01 prog 108 := ⟨_, func108, by kernel_rfl, by kernel_rfl⟩
def q3l_R (a0 : B8) (a1 : Int) (u : Int) : Slot := (.v (.int .i64) u)
def q3l_O (a0 : B8) (a1 : Int) (u : Int) : List AObj := []
theorem q3l_ok (a0 : B8) (a1 : Int) (u : Int) (h : q3l a0 a1 = some u) : CallC prog 108 [(.v Yh a0), (.v (.int .i64) a1)] [] (q3l_R a0 a1 u) (q3l_O a0 a1 u) := by
 unfold q3l at h
 obtain ⟨h1, h⟩ := need_some h
 obtain ⟨h2, h⟩ := need_some h
 injection h with h; subst h
 exact env.fun func108 can108 (its := []) (pos := s0) (.c (of_decide_eq_true (p := ((8 : Int) ≠ 0)) (by kernel_rfl)) (.c h1 (.c (of_decide_eq_true (p := ((8 : Int) ≠ 0)) (by kernel_rfl)) (.c h2 .n)))) (by kernel_rfl)
theorem can109 : J01 prog 109 := ⟨_, func109, by kernel_rfl, by kernel_rfl⟩
def q2n_R (a0 : B8) (u : B8) : Slot := (.v Yh u)
def q2n_O (a0 : B8) (u : B8) : List AObj := []
theorem q2n_ok (a0 : B8) (u : B8) (h : q2n a0 = some u) : CallC prog 109 [(.v Yh a0)] [] (q2n_R a0 u) (q2n_O a0 u) := by
 unfold q2n at h
 obtain ⟨u1, h2, h⟩ := andThen_some h
 injection h with h; subst h
 exact env.fun func109 can109 (its := [b1, .call [none, none] [] [2] true (q2m_R (112 : UInt8) ([a0] : List (B8)) u1) (q2m_O (112 : UInt8) ([a0] : List (B8)) u1)]) (pos := s0) (.c (q2m_ok (112 : UInt8) ([a0] : List (B8)) u1 h2) .n) (by kernel_rfl)
theorem can110 : J01 prog 110 := ⟨_, func110, by kernel_rfl, by kernel_rfl⟩
def q3k_1_in (x0 : List (B8)) (x1 : Int) (x2 : Int) (x3 : B8) (x4 : B8) : St := ⟨[(2, (.ptr 0 [])), (3, (.own 1 [])), (6, (.v (.slice Yh) x0)), (7, (.v (.int .i64) x1)), (8, (.v (.int .i64) x2))], [.box Yh (.v Yh x3) true, .row (.int .u8) x4 true], 19, 0⟩
def q3k_1_ex (o : B8 × B8) : Exit := (.exit 0)
def q3k_1_st (o : B8 × B8) : St := ⟨[(2, (.ptr 0 [])), (3, (.own 1 []))], [.box Yh (.v Yh o.1) true, .row (.int .u8) o.2 true], 19, 0⟩
theorem q3k_1_body (x0 : List (B8)) (x1 : Int) (x2 : Int) (x3 : B8) (x4 : B8) : ∀ r, q3k_1_step x0 x1 x2 x3 x4 = some r → (match r with | .inl s => J03 prog (J0w (bodyOf f110) [1, 1, 0, 1, 0, 0]) (q3k_1_in x0 x1 x2 x3 x4) .normal (q3k_1_in x0 x1 s.1 x3 s.2) | .inr o => q3k_1_ex o ≠ .normal ∧ J03 prog (J0w (bodyOf f110) [1, 1, 0, 1, 0, 0]) (q3k_1_in x0 x1 x2 x3 x4) (q3k_1_ex o) (q3k_1_st o)) := by
 intro r h
 unfold q3k_1_step at h
 rcases fork_some h with ⟨h2, h⟩ | ⟨h2, h⟩
 ·obtain ⟨h3, h⟩ := need_some h
  obtain ⟨h4, h⟩ := need_some h
  injection h with h; subst h
  exact env.code (its := [b1, b1, .sel [2, 3, 6, 7, 8] [0, 3]]) (.c h2 (.c h3 (.c h4 .n))) (by kernel_rfl)
 ·injection h with h; subst h
  exact ⟨by intro e; simp [q3k_1_ex] at e, env.code (its := [b0, .sel [2, 3] [0, 1]]) (.c h2 .n) (by kernel_rfl)⟩
theorem q3k_1_ok (x0 : List (B8)) (x1 : Int) (x2 : Int) (x3 : B8) (x4 : B8) (o : B8 × B8) (h : q3k_1 x0 x1 x2 x3 x4 = some o) : J03 prog (J0w (bodyOf f110) [1, 1, 0, 1, 0]) (q3k_1_in x0 x1 x2 x3 x4) (q3k_1_ex o) (q3k_1_st o) :=
 J06.of_step (st := fun s => q3k_1_in x0 x1 s.1 x3 s.2) (ex := q3k_1_ex) (stO := q3k_1_st) (fun s s2 hs => q3k_1_body x0 x1 s.1 x3 s.2 (.inl s2) hs) (fun s r hs => q3k_1_body x0 x1 s.1 x3 s.2 (.inr r) hs) _ o h
def q3k_R (a0 : List (B8)) (u : B8) : Slot := (.v Yh u)
def q3k_O (a0 : List (B8)) (u : B8) : List AObj := []
theorem q3k_ok (a0 : List (B8)) (u : B8) (h : q3k a0 = some u) : CallC prog 110 [(.v (.slice Yh) a0)] [] (q3k_R a0 u) (q3k_O a0 u) := by
 unfold q3k at h
 obtain ⟨o5, h6, h⟩ := andThen_some h
 obtain ⟨u7, h8, h⟩ := andThen_some h
 injection h with h; subst h
 exact env.fun func110 can110 (its := [.dive, .promote 3 (.int .u8), .sel [2, 3, 6, 7, 8] [0, 1], .part (q3k_1_ex o5) (q3k_1_st o5), .call [none, none] [] [2] true (q2m_R (107 : UInt8) ([o5.2] : List (B8)) u7) (q2m_O (107 : UInt8) ([o5.2] : List (B8)) u7)]) (pos := s0) (.c (q3k_1_ok a0 (List.length a0 : Int) (0 : Int) Z32 ([] : List (UInt8)) o5 h6) (.c (q2m_ok (107 : UInt8) ([o5.2] : List (B8)) u7 h8) .n)) (by kernel_rfl)
theorem can104 : J01 prog 104 := ⟨_, func104, by kernel_rfl, by kernel_rfl⟩
def q3o_1_in (x0 : Int) (x1 : T9c6e) (x2 : B8) (x3 : B8) (x4 : List (B8)) : St := ⟨[(3, (.ptr 0 [])), (4, (.ptr 1 [])), (6, (.ptr 2 [])), (7, (.own 3 [])), (25, (.v (.int .i64) x0))], [.box Y9c6e (.v Y9c6e x1) true, .box Yh (.v Yh x2) true, .box Yh (.v Yh x3) true, .row Yh x4 true], 58, 0⟩
def q3o_1_ex (o : B8 × List (B8)) : Exit := (.exit 0)
def q3o_1_st (o : B8 × List (B8)) : St := ⟨[(4, (.ptr 0 [])), (7, (.own 1 []))], [.box Yh (.v Yh o.1) true, .row Yh o.2 true], 58, 0⟩
theorem q3o_1_body (x0 : Int) (x1 : T9c6e) (x2 : B8) (x3 : B8) (x4 : List (B8)) : ∀ r, q3o_1_step x0 x1 x2 x3 x4 = some r → (match r with | .inl s => J03 prog (J0w (bodyOf f104) [1, 1, 1, 1, 0, 1, 0, 0]) (q3o_1_in x0 x1 x2 x3 x4) .normal (q3o_1_in s.1 x1 x2 x3 s.2) | .inr o => q3o_1_ex o ≠ .normal ∧ J03 prog (J0w (bodyOf f104) [1, 1, 1, 1, 0, 1, 0, 0]) (q3o_1_in x0 x1 x2 x3 x4) (q3o_1_ex o) (q3o_1_st o)) := by
 intro r h
 unfold q3o_1_step at h
 rcases fork_some h with ⟨h7, h⟩ | ⟨h7, h⟩
 ·obtain ⟨u8, h9, h⟩ := andThen_some h
  obtain ⟨h10, h⟩ := need_some h
  obtain ⟨u11, h12, h⟩ := andThen_some h
  obtain ⟨h13, h⟩ := need_some h
  obtain ⟨h14, h⟩ := need_some h
  obtain ⟨h15, h⟩ := need_some h
  injection h with h; subst h
  exact env.code (its := [b1, .call [none, none] [] [] true (q3l_R x3 x0 u8) (q3l_O x3 x0 u8), .pre p45, .asis, .call [none] [] [] true (q2n_R (List.getD x1.1 (Int.toNat x0) Z32) u11) (q2n_O (List.getD x1.1 (Int.toNat x0) Z32) u11), .sel [3, 4, 6, 7, 25] [0, 1, 2, 3]]) (.c h7 (.c (q3l_ok x3 x0 u8 h9) (.c h10 (.c rn (.c (q2n_ok (List.getD x1.1 (Int.toNat x0) Z32) u11 h12) (.c h13 (.c h14 (.c h15 .n)))))))) (by kernel_rfl)
 ·injection h with h; subst h
  exact ⟨by intro e; simp [q3o_1_ex] at e, env.code (its := [b0, .sel [4, 7] [1, 3]]) (.c h7 .n) (by kernel_rfl)⟩
theorem q3o_1_ok (x0 : Int) (x1 : T9c6e) (x2 : B8) (x3 : B8) (x4 : List (B8)) (o : B8 × List (B8)) (h : q3o_1 x0 x1 x2 x3 x4 = some o) : J03 prog (J0w (bodyOf f104) [1, 1, 1, 1, 0, 1, 0]) (q3o_1_in x0 x1 x2 x3 x4) (q3o_1_ex o) (q3o_1_st o) :=
 J06.of_step (st := fun s => q3o_1_in s.1 x1 x2 x3 s.2) (ex := q3o_1_ex) (stO := q3o_1_st) (fun s s2 hs => q3o_1_body s.1 x1 x2 x3 s.2 (.inl s2) hs) (fun s r hs => q3o_1_body s.1 x1 x2 x3 s.2 (.inr r) hs) _ o h
def q3o_R (a0 : B8) (a1 : T9c6e) (u : B8 × Bool) : Slot := (.tup (.v Yh u.1) (.tup (.v .bool u.2) .tnil))
def q3o_O (a0 : B8) (a1 : T9c6e) (u : B8 × Bool) : List AObj := []
theorem q3o_ok (a0 : B8) (a1 : T9c6e) (u : B8 × Bool) (h : q3o a0 a1 = some u) : CallC prog 104 [(.v Yb a0), (.v Y9c6e a1)] [] (q3o_R a0 a1 u) (q3o_O a0 a1 u) := by
 unfold q3o at h
 rcases fork_some h with ⟨h1, h⟩ | ⟨h1, h⟩
 ·injection h with h; subst h
  exact env.fun func104 can104 (its := [b1, b1, b1, b1, b1, b1]) (pos := s0) (.c h1 (.c h1 (.c h1 (.c h1 (.c h1 (.c r1 .n)))))) (by kernel_rfl)
 ·rcases fork_some h with ⟨h2, h⟩ | ⟨h2, h⟩
  ·injection h with h; subst h
   exact env.fun func104 can104 (its := [b0, b0, b0, b0, b0, b1]) (pos := s0) (.c h1 (.c h1 (.c h1 (.c h1 (.c h1 (.c h2 .n)))))) (by kernel_rfl)
  ·obtain ⟨u3, h4, h⟩ := andThen_some h
   obtain ⟨h5, h⟩ := need_some h
   obtain ⟨o16, h17, h⟩ := andThen_some h
   obtain ⟨u18, h19, h⟩ := andThen_some h
   injection h with h; subst h
   exact env.fun func104 can104 (its := [b0, b0, b0, b0, b0, b0, .call [none, none] [] [2] true (q2m_R (109 : UInt8) ([a0] : List (B8)) u3) (q2m_O (109 : UInt8) ([a0] : List (B8)) u3), .dive, .sel [3, 4, 6, 7, 25] [0, 1, 3, 4], .part (q3o_1_ex o16) (q3o_1_st o16), .call [none] [] [1] true (q3k_R o16.2 u18) (q3k_O o16.2 u18)]) (pos := s0) (.c h1 (.c h1 (.c h1 (.c h1 (.c h1 (.c h2 (.c (q2m_ok (109 : UInt8) ([a0] : List (B8)) u3 h4) (.c h5 (.c (q3o_1_ok (0 : Int) a1 Z32 u3 (List.replicate (Int.toNat (64 : Int)) Z32) o16 h17) (.c (q3k_ok o16.2 u18 h19) .n)))))))))) (by kernel_rfl)
theorem can111 : J01 prog 111 := ⟨_, func111, by kernel_rfl, by kernel_rfl⟩
def q3i_R (a0 : Int) (a1 : Int) (u : Bool) : Slot := (.v .bool u)
def q3i_O (a0 : Int) (a1 : Int) (u : Bool) : List AObj := []
theorem q3i_ok (a0 : Int) (a1 : Int) (u : Bool) (h : q3i a0 a1 = some u) : CallC prog 111 [(.v (.int .i64) a0), (.v (.int .i64) a1)] [] (q3i_R a0 a1 u) (q3i_O a0 a1 u) := by
 unfold q3i at h
 rcases fork_some h with ⟨h1, h⟩ | ⟨h1, h⟩
 ·rcases fork_some h with ⟨h2, h⟩ | ⟨h2, h⟩
  ·injection h with h; subst h
   exact env.fun func111 can111 (its := [b1, b1, b1, b1, b1, b1, b1]) (pos := s0) (.c h1 (.c h1 (.c h1 (.c h1 (.c h2 (.c h2 (.c h2 .n))))))) (by kernel_rfl)
  ·injection h with h; subst h
   exact env.fun func111 can111 (its := [b1, b1, b1, b1, b0, b0, b0]) (pos := s0) (.c h1 (.c h1 (.c h1 (.c h1 (.c h2 (.c h2 (.c h2 .n))))))) (by kernel_rfl)
 ·injection h with h; subst h
  exact env.fun func111 can111 (its := [b0, b0, b0, b0, b0, b0, b0]) (pos := s0) (.c h1 (.c h1 (.c h1 (.c h1 (.c r0 (.c r0 (.c r0 .n))))))) (by kernel_rfl)
theorem can116 : J01 prog 116 := ⟨_, func116, by kernel_rfl, by kernel_rfl⟩
def q36_1_in (x0 : Int) (x1 : Int) : St := ⟨[(0, (.v (.int .i64) x0)), (3, (.v (.int .i64) x1))], [], 11, 0⟩
def q36_1_ex (o : Int) : Exit := (.exit 0)
def q36_1_st (o : Int) : St := ⟨[(3, (.v (.int .i64) o))], [], 11, 0⟩
theorem q36_1_body (x0 : Int) (x1 : Int) : ∀ r, q36_1_step x0 x1 = some r → (match r with | .inl s => J03 prog (J0w (bodyOf f116) [1, 1, 0, 0, 0]) (q36_1_in x0 x1) .normal (q36_1_in x0 s) | .inr o => q36_1_ex o ≠ .normal ∧ J03 prog (J0w (bodyOf f116) [1, 1, 0, 0, 0]) (q36_1_in x0 x1) (q36_1_ex o) (q36_1_st o)) := by
 intro r h
 unfold q36_1_step at h
 rcases fork_some h with ⟨h2, h⟩ | ⟨h2, h⟩
 ·injection h with h; subst h
  exact env.code (its := [b1, .dive, .sel [0, 3] []]) (.c h2 .n) (by kernel_rfl)
 ·injection h with h; subst h
  exact ⟨by intro e; simp [q36_1_ex] at e, env.code (its := [b0, .sel [3] []]) (.c h2 .n) (by kernel_rfl)⟩
theorem q36_1_ok (x0 : Int) (x1 : Int) (o : Int) (h : q36_1 x0 x1 = some o) : J03 prog (J0w (bodyOf f116) [1, 1, 0, 0]) (q36_1_in x0 x1) (q36_1_ex o) (q36_1_st o) :=
 J06.of_step (st := fun s => q36_1_in x0 s) (ex := q36_1_ex) (stO := q36_1_st) (fun s s2 hs => q36_1_body x0 s (.inl s2) hs) (fun s r hs => q36_1_body x0 s (.inr r) hs) _ o h
def q36_R (a0 : Int) (u : Int) : Slot := (.v (.int .i64) u)
def q36_O (a0 : Int) (u : Int) : List AObj := []
theorem q36_ok (a0 : Int) (u : Int) (h : q36 a0 = some u) : CallC prog 116 [(.v (.int .i64) a0)] [] (q36_R a0 u) (q36_O a0 u) := by
 unfold q36 at h
 obtain ⟨o3, h4, h⟩ := andThen_some h
 injection h with h; subst h
 exact env.fun func116 can116 (its := [.dive, .sel [0, 3] [], .part (q36_1_ex o3) (q36_1_st o3)]) (pos := s0) (.c (q36_1_ok a0 (1 : Int) o3 h4) .n) (by kernel_rfl)
theorem can114 : J01 prog 114 := ⟨_, func114, by kernel_rfl, by kernel_rfl⟩
def q2x_1_in (x0 : Int) (x1 : Int) (x2 : List Bool) : St := ⟨[(0, (.v (.int .i64) x0)), (1, (.v (.int .i64) x1)), (5, (.own 0 []))], [.row .bool x2 true], 28, 0⟩
def q2x_1_ex (o : List Bool) : Exit := (.exit 0)
def q2x_1_st (o : List Bool) : St := ⟨[(5, (.own 0 []))], [.row .bool o true], 28, 0⟩
theorem q2x_1_body (x0 : Int) (x1 : Int) (x2 : List Bool) : ∀ r, q2x_1_step x0 x1 x2 = some r → (match r with | .inl s => J03 prog (J0w (bodyOf f114) [1, 1, 0, 0, 0]) (q2x_1_in x0 x1 x2) .normal (q2x_1_in s.1 s.2.1 s.2.2) | .inr o => q2x_1_ex o ≠ .normal ∧ J03 prog (J0w (bodyOf f114) [1, 1, 0, 0, 0]) (q2x_1_in x0 x1 x2) (q2x_1_ex o) (q2x_1_st o)) := by
 intro r h
 unfold q2x_1_step at h
 rcases fork_some h with ⟨h2, h⟩ | ⟨h2, h⟩
 ·obtain ⟨u3, h4, h⟩ := andThen_some h
  obtain ⟨h5, h⟩ := need_some h
  rcases fork_some h with ⟨h6, h⟩ | ⟨h6, h⟩
  ·injection h with h; subst h
   exact env.code (its := [b1, .call [none] [] [] true (q36_R x1 u3) (q36_O x1 u3), b1, .sel [0, 1, 5] [2]]) (.c h2 (.c (q36_ok x1 u3 h4) (.c h5 (.c h6 .n)))) (by kernel_rfl)
  ·injection h with h; subst h
   exact env.code (its := [b1, .call [none] [] [] true (q36_R x1 u3) (q36_O x1 u3), b0, .sel [0, 1, 5] [2]]) (.c h2 (.c (q36_ok x1 u3 h4) (.c h5 (.c h6 .n)))) (by kernel_rfl)
 ·injection h with h; subst h
  exact ⟨by intro e; simp [q2x_1_ex] at e, env.code (its := [b0, .sel [5] [0]]) (.c h2 .n) (by kernel_rfl)⟩
theorem q2x_1_ok (x0 : Int) (x1 : Int) (x2 : List Bool) (o : List Bool) (h : q2x_1 x0 x1 x2 = some o) : J03 prog (J0w (bodyOf f114) [1, 1, 0, 0]) (q2x_1_in x0 x1 x2) (q2x_1_ex o) (q2x_1_st o) :=
 J06.of_step (st := fun s => q2x_1_in s.1 s.2.1 s.2.2) (ex := q2x_1_ex) (stO := q2x_1_st) (fun s s2 hs => q2x_1_body s.1 s.2.1 s.2.2 (.inl s2) hs) (fun s r hs => q2x_1_body s.1 s.2.1 s.2.2 (.inr r) hs) _ o h
def q2x_R (a0 : Int) (a1 : Int) (u : List Bool) : Slot := (.own 0 [])
def q2x_O (a0 : Int) (a1 : Int) (u : List Bool) : List AObj := [.row .bool u true]
theorem q2x_ok (a0 : Int) (a1 : Int) (u : List Bool) (h : q2x a0 a1 = some u) : CallC prog 114 [(.v (.int .i64) a0), (.v (.int .i64) a1)] [] (q2x_R a0 a1 u) (q2x_O a0 a1 u) := by
 unfold q2x at h
 obtain ⟨o7, h8, h⟩ := andThen_some h
 injection h with h; subst h
 exact env.fun func114 can114 (its := [.dive, .promote 5 .bool, .sel [0, 1, 5] [0], .part (q2x_1_ex o7) (q2x_1_st o7)]) (pos := s1) (.c (q2x_1_ok a0 a1 ([] : List (Bool)) o7 h8) .n) (by kernel_rfl)
theorem can112 : J01 prog 112 := ⟨_, func112, by kernel_rfl, by kernel_rfl⟩
def q2u_R (a0 : Int) (a1 : Int) (u : Int) : Slot := (.v (.int .i64) u)
def q2u_O (a0 : Int) (a1 : Int) (u : Int) : List AObj := []
theorem q2u_ok (a0 : Int) (a1 : Int) (u : Int) (h : q2u a0 a1 = some u) : CallC prog 112 [(.v (.int .i64) a0), (.v (.int .i64) a1)] [] (q2u_R a0 a1 u) (q2u_O a0 a1 u) := by
 unfold q2u at h
 obtain ⟨u1, h2, h⟩ := andThen_some h
 rcases fork_some h with ⟨h3, h⟩ | ⟨h3, h⟩
 ·injection h with h; subst h
  exact env.fun func112 can112 (its := [.call [none, none] [] [] true (q3i_R a0 a1 u1) (q3i_O a0 a1 u1), b1]) (pos := s0) (.c (q3i_ok a0 a1 u1 h2) (.c h3 .n)) (by kernel_rfl)
 ·obtain ⟨u4, h5, h⟩ := andThen_some h
  injection h with h; subst h
  exact env.fun func112 can112 (its := [.call [none, none] [] [] true (q3i_R a0 a1 u1) (q3i_O a0 a1 u1), b0, .call [none, none] [] [] true (q2x_R a0 a1 u4) (q2x_O a0 a1 u4)]) (pos := s0) (.c (q3i_ok a0 a1 u1 h2) (.c h3 (.c (q2x_ok a0 a1 u4 h5) .n))) (by kernel_rfl)
theorem can115 : J01 prog 115 := ⟨_, func115, by kernel_rfl, by kernel_rfl⟩
def q2w_R (a0 : B8) (a1 : B8) (u : B8) : Slot := (.v Yh u)
def q2w_O (a0 : B8) (a1 : B8) (u : B8) : List AObj := []
theorem q2w_ok (a0 : B8) (a1 : B8) (u : B8) (h : q2w a0 a1 = some u) : CallC prog 115 [(.v Yh a0), (.v Yh a1)] [] (q2w_R a0 a1 u) (q2w_O a0 a1 u) := by
 unfold q2w at h
 obtain ⟨u1, h2, h⟩ := andThen_some h
 injection h with h; subst h
 exact env.fun func115 can115 (its := [.pre p9, b1, b1, .asis, .call [none, none] [] [0] true (q2m_R (1 : UInt8) ([a0, a1] : List (B8)) u1) (q2m_O (1 : UInt8) ([a0, a1] : List (B8)) u1)]) (pos := s0) (.c (rfl : ([.row Yb ([a0, a1] : List (B8)) true] : List AObj) = [.row Yb ([a0, a1] : List (B8)) true]) (.c (q2m_ok (1 : UInt8) ([a0, a1] : List (B8)) u1 h2) .n)) (by kernel_rfl)
theorem can113 : J01 prog 113 := ⟨_, func113, by kernel_rfl, by kernel_rfl⟩
def q3b_R (a0 : List (B8)) (u : B8) : Slot := (.v Yh u)
def q3b_O (a0 : List (B8)) (u : B8) : List AObj := []
theorem q2i_ok : ∀ (k : Nat) (a0 : List (B8)) (u : B8) (h : q2i k a0 = some u), CallC prog 113 [(.v Ybb a0)] [] (q3b_R a0 u) (q3b_O a0 u)
 | 0, a0, u, h => by cases h
 | k + 1, a0, u, h => by
  unfold q2i at h
  rcases fork_some h with ⟨h1, h⟩ | ⟨h1, h⟩
  ·obtain ⟨u2, h3, h⟩ := andThen_some h
   injection h with h; subst h
   exact env.fun func113 can113 (its := [b1, .call [none, (some Yb)] [] [] true (q2m_R (2 : UInt8) ([] : List (B8)) u2) (q2m_O (2 : UInt8) ([] : List (B8)) u2)]) (pos := s0) (.c h1 (.c (q2m_ok (2 : UInt8) ([] : List (B8)) u2 h3) .n)) (by kernel_rfl)
  ·rcases fork_some h with ⟨h4, h⟩ | ⟨h4, h⟩
   ·obtain ⟨h5, h⟩ := need_some h
    obtain ⟨u6, h7, h⟩ := andThen_some h
    injection h with h; subst h
    exact env.fun func113 can113 (its := [b0, b1, .call [none, none] [] [1] true (q2m_R (0 : UInt8) ([(List.getD a0 (Int.toNat (0 : Int)) ([] : B8))] : List (B8)) u6) (q2m_O (0 : UInt8) ([(List.getD a0 (Int.toNat (0 : Int)) ([] : B8))] : List (B8)) u6)]) (pos := s0) (.c h1 (.c h4 (.c h5 (.c (q2m_ok (0 : UInt8) ([(List.getD a0 (Int.toNat (0 : Int)) ([] : B8))] : List (B8)) u6 h7) .n)))) (by kernel_rfl)
   ·obtain ⟨u8, h9, h⟩ := andThen_some h
    obtain ⟨h10, h⟩ := need_some h
    obtain ⟨u11, h12, h⟩ := andThen_some h
    obtain ⟨h13, h⟩ := need_some h
    obtain ⟨u14, h15, h⟩ := andThen_some h
    obtain ⟨u16, h17, h⟩ := andThen_some h
    injection h with h; subst h
    exact env.fun func113 can113 (its := [b0, b0, .call [none] [] [] true (q36_R (List.length a0 : Int) u8) (q36_O (List.length a0 : Int) u8), .pre p46, b0, .asis, .call [none] [] [] true (q3b_R (cutL a0 (0 : Int) u8) u11) (q3b_O (cutL a0 (0 : Int) u8) u11), b0, .asis, .call [none] [] [] true (q3b_R (cutL a0 u8 (List.length a0 : Int)) u14) (q3b_O (cutL a0 u8 (List.length a0 : Int)) u14), .asis, .call [none, none] [] [] true (q2w_R u11 u14 u16) (q2w_O u11 u14 u16)]) (pos := s0) (.c h1 (.c h4 (.c (q36_ok (List.length a0 : Int) u8 h9) (.c h10 (.c rn (.c (q2i_ok k (cutL a0 (0 : Int) u8) u11 h12) (.c h13 (.c rn (.c (q2i_ok k (cutL a0 u8 (List.length a0 : Int)) u14 h15) (.c rn (.c (q2w_ok u11 u14 u16 h17) .n))))))))))) (by kernel_rfl)
theorem q3b_ok (a0 : List (B8)) (u : B8) (h : q3b a0 = some u) : CallC prog 113 [(.v Ybb a0)] [] (q3b_R a0 u) (q3b_O a0 u) := q2i_ok 64 a0 u h
theorem can105 : J01 prog 105 := ⟨_, func105, by kernel_rfl, by kernel_rfl⟩
def q3n_1_in (x0 : List (B8)) (x1 : Int) (x2 : Int) (x3 : B8) (x4 : B8) (x5 : List Bool) : St := ⟨[(8, (.ptr 0 [])), (10, (.ptr 1 [])), (11, (.own 2 [])), (33, (.v (.slice Yh) x0)), (34, (.v (.int .i64) x1)), (35, (.v (.int .i64) x2))], [.box Yh (.v Yh x3) true, .box Yh (.v Yh x4) true, .row .bool x5 true], 56, 0⟩
def q3n_1_ex (o : B8 × B8) : Exit := (.exit 0)
def q3n_1_st (o : B8 × B8) : St := ⟨[(8, (.ptr 0 [])), (10, (.ptr 1 []))], [.box Yh (.v Yh o.1) true, .box Yh (.v Yh o.2) true], 56, 0⟩
theorem q3n_1_body (x0 : List (B8)) (x1 : Int) (x2 : Int) (x3 : B8) (x4 : B8) (x5 : List Bool) : ∀ r, q3n_1_step x0 x1 x2 x3 x4 x5 = some r → (match r with | .inl s => J03 prog (J0w (bodyOf f105) [1, 1, 1, 1, 0, 1, 0, 0]) (q3n_1_in x0 x1 x2 x3 x4 x5) .normal (q3n_1_in x0 x1 s.1 x3 s.2 x5) | .inr o => q3n_1_ex o ≠ .normal ∧ J03 prog (J0w (bodyOf f105) [1, 1, 1, 1, 0, 1, 0, 0]) (q3n_1_in x0 x1 x2 x3 x4 x5) (q3n_1_ex o) (q3n_1_st o)) := by
 intro r h
 unfold q3n_1_step at h
 rcases fork_some h with ⟨h12, h⟩ | ⟨h12, h⟩
 ·obtain ⟨h13, h⟩ := need_some h
  obtain ⟨h14, h⟩ := need_some h
  rcases fork_some h with ⟨h15, h⟩ | ⟨h15, h⟩
  ·obtain ⟨u16, h17, h⟩ := andThen_some h
   injection h with h; subst h
   exact env.code (its := [b1, b1, .call [none, none] [] [] true (q2w_R x4 (List.getD x0 (Int.toNat x2) Z32) u16) (q2w_O x4 (List.getD x0 (Int.toNat x2) Z32) u16), .sel [8, 10, 11, 33, 34, 35] [0, 1, 2]]) (.c h12 (.c h13 (.c h14 (.c h15 (.c (q2w_ok x4 (List.getD x0 (Int.toNat x2) Z32) u16 h17) .n))))) (by kernel_rfl)
  ·obtain ⟨u18, h19, h⟩ := andThen_some h
   injection h with h; subst h
   exact env.code (its := [b1, b0, .call [none, none] [] [] true (q2w_R (List.getD x0 (Int.toNat x2) Z32) x4 u18) (q2w_O (List.getD x0 (Int.toNat x2) Z32) x4 u18), .sel [8, 10, 11, 33, 34, 35] [0, 1, 2]]) (.c h12 (.c h13 (.c h14 (.c h15 (.c (q2w_ok (List.getD x0 (Int.toNat x2) Z32) x4 u18 h19) .n))))) (by kernel_rfl)
 ·injection h with h; subst h
  exact ⟨by intro e; simp [q3n_1_ex] at e, env.code (its := [b0, .sel [8, 10] [0, 1]]) (.c h12 .n) (by kernel_rfl)⟩
theorem q3n_1_ok (x0 : List (B8)) (x1 : Int) (x2 : Int) (x3 : B8) (x4 : B8) (x5 : List Bool) (o : B8 × B8) (h : q3n_1 x0 x1 x2 x3 x4 x5 = some o) : J03 prog (J0w (bodyOf f105) [1, 1, 1, 1, 0, 1, 0]) (q3n_1_in x0 x1 x2 x3 x4 x5) (q3n_1_ex o) (q3n_1_st o) :=
 J06.of_step (st := fun s => q3n_1_in x0 x1 s.1 x3 s.2 x5) (ex := q3n_1_ex) (stO := q3n_1_st) (fun s s2 hs => q3n_1_body x0 x1 s.1 x3 s.2 x5 (.inl s2) hs) (fun s r hs => q3n_1_body x0 x1 s.1 x3 s.2 x5 (.inr r) hs) _ o h
def q3n_R (a0 : B8) (a1 : Int) (a2 : Int) (a3 : List (B8)) (u : B8 × Bool) : Slot := (.tup (.v Yh u.1) (.tup (.v .bool u.2) .tnil))
def q3n_O (a0 : B8) (a1 : Int) (a2 : Int) (a3 : List (B8)) (u : B8 × Bool) : List AObj := []
theorem q3n_ok (a0 : B8) (a1 : Int) (a2 : Int) (a3 : List (B8)) (u : B8 × Bool) (h : q3n a0 a1 a2 a3 = some u) : CallC prog 105 [(.v Yb a0), (.v (.int .i64) a1), (.v (.int .i64) a2), (.v (.slice Yh) a3)] [] (q3n_R a0 a1 a2 a3 u) (q3n_O a0 a1 a2 a3 u) := by
 unfold q3n at h
 obtain ⟨u1, h2, h⟩ := andThen_some h
 rcases fork_some h with ⟨h3, h⟩ | ⟨h3, h⟩
 ·injection h with h; subst h
  exact env.fun func105 can105 (its := [.call [none, none] [] [] true (q3i_R a1 a2 u1) (q3i_O a1 a2 u1), b1, b1, b1, b1, b1, b1, b1, b1]) (pos := s0) (.c (q3i_ok a1 a2 u1 h2) (.c h3 (.c h3 (.c h3 (.c h3 (.c h3 (.c h3 (.c h3 (.c r1 .n))))))))) (by kernel_rfl)
 ·obtain ⟨u4, h5, h⟩ := andThen_some h
  rcases fork_some h with ⟨h6, h⟩ | ⟨h6, h⟩
  ·injection h with h; subst h
   exact env.fun func105 can105 (its := [.call [none, none] [] [] true (q3i_R a1 a2 u1) (q3i_O a1 a2 u1), b0, b0, b0, b0, b0, .call [none, none] [] [] true (q2u_R a1 a2 u4) (q2u_O a1 a2 u4), b0, b0, b1]) (pos := s0) (.c (q3i_ok a1 a2 u1 h2) (.c h3 (.c h3 (.c h3 (.c h3 (.c h3 (.c (q2u_ok a1 a2 u4 h5) (.c h3 (.c h3 (.c h6 .n)))))))))) (by kernel_rfl)
  ·obtain ⟨u7, h8, h⟩ := andThen_some h
   obtain ⟨u9, h10, h⟩ := andThen_some h
   obtain ⟨o20, h21, h⟩ := andThen_some h
   injection h with h; subst h
   exact env.fun func105 can105 (its := [.call [none, none] [] [] true (q3i_R a1 a2 u1) (q3i_O a1 a2 u1), b0, b0, b0, b0, b0, .call [none, none] [] [] true (q2u_R a1 a2 u4) (q2u_O a1 a2 u4), b0, b0, b0, .call [none] [] [1] true (q3b_R ([a0] : List (B8)) u7) (q3b_O ([a0] : List (B8)) u7), .call [none, none] [] [] true (q2x_R a1 a2 u9) (q2x_O a1 a2 u9), .dive, .sel [8, 10, 11, 33, 34, 35] [0, 2, 3], .part (q3n_1_ex o20) (q3n_1_st o20)]) (pos := s0) (.c (q3i_ok a1 a2 u1 h2) (.c h3 (.c h3 (.c h3 (.c h3 (.c h3 (.c (q2u_ok a1 a2 u4 h5) (.c h3 (.c h3 (.c h6 (.c (q3b_ok ([a0] : List (B8)) u7 h8) (.c (q2x_ok a1 a2 u9 h10) (.c (q3n_1_ok a3 (List.length a3 : Int) (0 : Int) Z32 u7 u9 o20 h21) .n))))))))))))) (by kernel_rfl)
theorem can96 : J01 prog 96 := ⟨_, func96, by kernel_rfl, by kernel_rfl⟩
def q2h_R (a0 : B8) (a1 : Int) (a2 : B8) (a3 : T8266) (u : Bool) : Slot := (.v .bool u)
def q2h_O (a0 : B8) (a1 : Int) (a2 : B8) (a3 : T8266) (u : Bool) : List AObj := []
theorem q2h_ok (a0 : B8) (a1 : Int) (a2 : B8) (a3 : T8266) (u : Bool) (h : q2h a0 a1 a2 a3 = some u) : CallC prog 96 [(.v Yh a0), (.v (.int .i64) a1), (.v Yb a2), (.v Y8266 a3)] [] (q2h_R a0 a1 a2 a3 u) (q2h_O a0 a1 a2 a3 u) := by
 unfold q2h at h
 obtain ⟨u1, h2, h⟩ := andThen_some h
 rcases fork_some h with ⟨h3, h⟩ | ⟨h3, h⟩
 ·injection h with h; subst h
  exact env.fun func96 can96 (its := [.call [none] [] [] true (q3j_R a1 u1) (q3j_O a1 u1), b1, b1, b1, b1, b1, b1]) (pos := s0) (.c (q3j_ok a1 u1 h2) (.c h3 (.c h3 (.c h3 (.c h3 (.c h3 (.c r1 .n))))))) (by kernel_rfl)
 ·rcases fork_some h with ⟨h4, h⟩ | ⟨h4, h⟩
  ·injection h with h; subst h
   exact env.fun func96 can96 (its := [.call [none] [] [] true (q3j_R a1 u1) (q3j_O a1 u1), b0, b0, b0, b0, b0, b1]) (pos := s0) (.c (q3j_ok a1 u1 h2) (.c h3 (.c h3 (.c h3 (.c h3 (.c h3 (.c h4 .n))))))) (by kernel_rfl)
  ·obtain ⟨u5, h6, h⟩ := andThen_some h
   rcases fork_some h with ⟨h7, h⟩ | ⟨h7, h⟩
   ·injection h with h; subst h
    exact env.fun func96 can96 (its := [.call [none] [] [] true (q3j_R a1 u1) (q3j_O a1 u1), b0, b0, b0, b0, b0, b0, .call [none, none] [] [] true (q3o_R a2 a3.2.1 u5) (q3o_O a2 a3.2.1 u5), b1]) (pos := s0) (.c (q3j_ok a1 u1 h2) (.c h3 (.c h3 (.c h3 (.c h3 (.c h3 (.c h4 (.c (q3o_ok a2 a3.2.1 u5 h6) (.c h7 .n))))))))) (by kernel_rfl)
   ·obtain ⟨u8, h9, h⟩ := andThen_some h
    rcases fork_some h with ⟨h10, h⟩ | ⟨h10, h⟩
    ·injection h with h; subst h
     exact env.fun func96 can96 (its := [.call [none] [] [] true (q3j_R a1 u1) (q3j_O a1 u1), b0, b0, b0, b0, b0, b0, .call [none, none] [] [] true (q3o_R a2 a3.2.1 u5) (q3o_O a2 a3.2.1 u5), b0, .pre p47, b1, .asis, .call [none, none, none, none] [] [0] true (q3n_R u5.1 (w64 (a1 - (1 : Int))) (16 : Int) a3.2.2.1 u8) (q3n_O u5.1 (w64 (a1 - (1 : Int))) (16 : Int) a3.2.2.1 u8), b1, b1, b1, b1]) (pos := s0) (.c (q3j_ok a1 u1 h2) (.c h3 (.c h3 (.c h3 (.c h3 (.c h3 (.c h4 (.c (q3o_ok a2 a3.2.1 u5 h6) (.c h7 (.c (rfl : ([.box Yh (.v Yh u5.1) true] : List AObj) = [.box Yh (.v Yh u5.1) true]) (.c (q3n_ok u5.1 (w64 (a1 - (1 : Int))) (16 : Int) a3.2.2.1 u8 h9) (.c h10 (.c h10 (.c h10 (.c h10 .n))))))))))))))) (by kernel_rfl)
    ·injection h with h; subst h
     exact env.fun func96 can96 (its := [.call [none] [] [] true (q3j_R a1 u1) (q3j_O a1 u1), b0, b0, b0, b0, b0, b0, .call [none, none] [] [] true (q3o_R a2 a3.2.1 u5) (q3o_O a2 a3.2.1 u5), b0, .pre p47, b1, .asis, .call [none, none, none, none] [] [0] true (q3n_R u5.1 (w64 (a1 - (1 : Int))) (16 : Int) a3.2.2.1 u8) (q3n_O u5.1 (w64 (a1 - (1 : Int))) (16 : Int) a3.2.2.1 u8), b0, b0, b0, b0]) (pos := s0) (.c (q3j_ok a1 u1 h2) (.c h3 (.c h3 (.c h3 (.c h3 (.c h3 (.c h4 (.c (q3o_ok a2 a3.2.1 u5 h6) (.c h7 (.c (rfl : ([.box Yh (.v Yh u5.1) true] : List AObj) = [.box Yh (.v Yh u5.1) true]) (.c (q3n_ok u5.1 (w64 (a1 - (1 : Int))) (16 : Int) a3.2.2.1 u8 h9) (.c h10 (.c h10 (.c h10 (.c h10 .n))))))))))))))) (by kernel_rfl)
theorem can83 : J01 prog 83 := ⟨_, func83, by kernel_rfl, by kernel_rfl⟩
def q2y_1_in (x0 : List (T484d)) (x1 : List (T8f72)) (x2 : Int) (x3 : Int) (x4 : Tf0bc) (x5 : List (B8)) (x6 : B8) : St := ⟨[(0, (.v (.slice Y484d) x0)), (4, (.ptr 0 [])), (7, (.own 1 [])), (8, (.own 2 [])), (18, (.v (.slice Y8f72) x1)), (19, (.v (.int .i64) x2)), (20, (.v (.int .i64) x3))], [.box Yf0bc (.v Yf0bc x4) true, .row .str x5 true, .box Yh (.v Yh x6) true], 49, 0⟩
def q2y_1_ex (o : List (B8)) : Exit := (.exit 0)
def q2y_1_st (o : List (B8)) : St := ⟨[(7, (.own 0 []))], [.row .str o true], 49, 0⟩
theorem q2y_1_body (x0 : List (T484d)) (x1 : List (T8f72)) (x2 : Int) (x3 : Int) (x4 : Tf0bc) (x5 : List (B8)) (x6 : B8) : ∀ r, q2y_1_step x0 x1 x2 x3 x4 x5 x6 = some r → (match r with | .inl s => J03 prog (J0w (bodyOf f83) [1, 1, 1, 1, 0, 1, 0, 0]) (q2y_1_in x0 x1 x2 x3 x4 x5 x6) .normal (q2y_1_in x0 x1 x2 s.1 x4 s.2 x6) | .inr o => q2y_1_ex o ≠ .normal ∧ J03 prog (J0w (bodyOf f83) [1, 1, 1, 1, 0, 1, 0, 0]) (q2y_1_in x0 x1 x2 x3 x4 x5 x6) (q2y_1_ex o) (q2y_1_st o)) := by
 intro r h
 unfold q2y_1_step at h
 rcases fork_some h with ⟨h7, h⟩ | ⟨h7, h⟩
 ·obtain ⟨h8, h⟩ := need_some h
  obtain ⟨u9, h10, h⟩ := andThen_some h
  rcases fork_some h with ⟨h11, h⟩ | ⟨h11, h⟩
  ·obtain ⟨u12, h13, h⟩ := andThen_some h
   rcases fork_some h with ⟨h14, h⟩ | ⟨h14, h⟩
   ·obtain ⟨h15, h⟩ := need_some h
    injection h with h; subst h
    exact env.code (its := [b1, .call [none, none] [] [] true (q38_R x0 ((List.getD x1 (Int.toNat x3) Z8f72).1) u9) (q38_O x0 ((List.getD x1 (Int.toNat x3) Z8f72).1) u9), b1, b1, b1, b1, b1, b1, b1, b1, .call [none, none, none, none] [] [2] true (q2h_R u9.1.2.2.1 x4.1 x6 ((List.getD x1 (Int.toNat x3) Z8f72).2.1) u12) (q2h_O u9.1.2.2.1 x4.1 x6 ((List.getD x1 (Int.toNat x3) Z8f72).2.1) u12), b1, b1, .sel [0, 4, 7, 8, 18, 19, 20] [0, 6, 2]]) (.c h7 (.c h8 (.c (q38_ok x0 ((List.getD x1 (Int.toNat x3) Z8f72).1) u9 h10) (.c h11 (.c h11 (.c h11 (.c h11 (.c h11 (.c h11 (.c h11 (.c h11 (.c (q2h_ok u9.1.2.2.1 x4.1 x6 ((List.getD x1 (Int.toNat x3) Z8f72).2.1) u12 h13) (.c h11 (.c h14 (.c h15 .n))))))))))))))) (by kernel_rfl)
   ·injection h with h; subst h
    exact env.code (its := [b1, .call [none, none] [] [] true (q38_R x0 ((List.getD x1 (Int.toNat x3) Z8f72).1) u9) (q38_O x0 ((List.getD x1 (Int.toNat x3) Z8f72).1) u9), b1, b1, b1, b1, b1, b1, b1, b1, .call [none, none, none, none] [] [2] true (q2h_R u9.1.2.2.1 x4.1 x6 ((List.getD x1 (Int.toNat x3) Z8f72).2.1) u12) (q2h_O u9.1.2.2.1 x4.1 x6 ((List.getD x1 (Int.toNat x3) Z8f72).2.1) u12), b1, b0, .sel [0, 4, 7, 8, 18, 19, 20] [0, 1, 2]]) (.c h7 (.c h8 (.c (q38_ok x0 ((List.getD x1 (Int.toNat x3) Z8f72).1) u9 h10) (.c h11 (.c h11 (.c h11 (.c h11 (.c h11 (.c h11 (.c h11 (.c h11 (.c (q2h_ok u9.1.2.2.1 x4.1 x6 ((List.getD x1 (Int.toNat x3) Z8f72).2.1) u12 h13) (.c h11 (.c h14 .n)))))))))))))) (by kernel_rfl)
  ·injection h with h; subst h
   exact env.code (its := [b1, .call [none, none] [] [] true (q38_R x0 ((List.getD x1 (Int.toNat x3) Z8f72).1) u9) (q38_O x0 ((List.getD x1 (Int.toNat x3) Z8f72).1) u9), b0, b0, b0, b0, b0, b0, b0, b0, b0, b0, .sel [0, 4, 7, 8, 18, 19, 20] [0, 1, 2]]) (.c h7 (.c h8 (.c (q38_ok x0 ((List.getD x1 (Int.toNat x3) Z8f72).1) u9 h10) (.c h11 (.c h11 (.c h11 (.c h11 (.c h11 (.c h11 (.c h11 (.c h11 (.c h11 (.c r0 .n))))))))))))) (by kernel_rfl)
 ·injection h with h; subst h
  exact ⟨by intro e; simp [q2y_1_ex] at e, env.code (its := [b0, .sel [7] [1]]) (.c h7 .n) (by kernel_rfl)⟩
theorem q2y_1_ok (x0 : List (T484d)) (x1 : List (T8f72)) (x2 : Int) (x3 : Int) (x4 : Tf0bc) (x5 : List (B8)) (x6 : B8) (o : List (B8)) (h : q2y_1 x0 x1 x2 x3 x4 x5 x6 = some o) : J03 prog (J0w (bodyOf f83) [1, 1, 1, 1, 0, 1, 0]) (q2y_1_in x0 x1 x2 x3 x4 x5 x6) (q2y_1_ex o) (q2y_1_st o) :=
 J06.of_step (st := fun s => q2y_1_in x0 x1 x2 s.1 x4 s.2 x6) (ex := q2y_1_ex) (stO := q2y_1_st) (fun s s2 hs => q2y_1_body x0 x1 x2 s.1 x4 s.2 x6 (.inl s2) hs) (fun s r hs => q2y_1_body x0 x1 x2 s.1 x4 s.2 x6 (.inr r) hs) _ o h
def q2y_R (a0 : List (T484d)) (a1 : Tf0bc) (a2 : List (T8f72)) (u : List (B8)) : Slot := (.own 0 [])
def q2y_O (a0 : List (T484d)) (a1 : Tf0bc) (a2 : List (T8f72)) (u : List (B8)) : List AObj := [.row .str u true]
theorem q2y_ok (a0 : List (T484d)) (a1 : Tf0bc) (a2 : List (T8f72)) (u : List (B8)) (h : q2y a0 a1 a2 = some u) : CallC prog 83 [(.v (.slice Y484d) a0), (.v Yf0bc a1), (.v (.slice Y8f72) a2)] [] (q2y_R a0 a1 a2 u) (q2y_O a0 a1 a2 u) := by
 unfold q2y at h
 obtain ⟨u1, h2, h⟩ := andThen_some h
 rcases fork_some h with ⟨h3, h⟩ | ⟨h3, h⟩
 ·injection h with h; subst h
  exact env.fun func83 can83 (its := [.call [none] [] [] true (q30_R a2 u1) (q30_O a2 u1), b1]) (pos := [.promote .str, .sel [1]]) (.c (q30_ok a2 u1 h2) (.c h3 .n)) (by kernel_rfl)
 ·obtain ⟨u4, h5, h⟩ := andThen_some h
  obtain ⟨o16, h17, h⟩ := andThen_some h
  injection h with h; subst h
  exact env.fun func83 can83 (its := [.call [none] [] [] true (q30_R a2 u1) (q30_O a2 u1), b0, .call [none] [] [] true (q35_R a1 u4) (q35_O a1 u4), .dive, .promote 7 .str, .sel [0, 4, 7, 8, 18, 19, 20] [0, 2, 1], .part (q2y_1_ex o16) (q2y_1_st o16)]) (pos := s1) (.c (q30_ok a2 u1 h2) (.c h3 (.c (q35_ok a1 u4 h5) (.c (q2y_1_ok a0 a2 (List.length a2 : Int) (0 : Int) a1 ([] : List (B8)) u4 o16 h17) .n)))) (by kernel_rfl)
theorem can101 : J01 prog 101 := ⟨_, func101, by kernel_rfl, by kernel_rfl⟩
def qd_1_in (x0 : List (B8)) (x1 : B8) (x2 : Int) (x3 : Int) : St := ⟨[(0, (.v (.slice .str) x0)), (1, (.v .str x1)), (7, (.v (.int .i64) x2)), (8, (.v (.int .i64) x3))], [], 19, 0⟩
def qd_1_ex (o : (Int) ⊕ (Unit)) : Exit := match o with | (.inl o) => .ret | (.inr o) => (.exit 0)
def qd_1_st (o : (Int) ⊕ (Unit)) : St := match o with | (.inl o) => ⟨[(4, (.v (.int .i64) o))], [], 19, 0⟩ | (.inr o) => ⟨[], [], 19, 0⟩
theorem qd_1_body (x0 : List (B8)) (x1 : B8) (x2 : Int) (x3 : Int) : ∀ r, qd_1_step x0 x1 x2 x3 = some r → (match r with | .inl s => J03 prog (J0w (bodyOf f101) [1, 0, 1, 0, 0]) (qd_1_in x0 x1 x2 x3) .normal (qd_1_in x0 x1 x2 s) | .inr o => qd_1_ex o ≠ .normal ∧ J03 prog (J0w (bodyOf f101) [1, 0, 1, 0, 0]) (qd_1_in x0 x1 x2 x3) (qd_1_ex o) (qd_1_st o)) := by
 intro r h
 unfold qd_1_step at h
 rcases fork_some h with ⟨h2, h⟩ | ⟨h2, h⟩
 ·obtain ⟨h3, h⟩ := need_some h
  rcases fork_some h with ⟨h4, h⟩ | ⟨h4, h⟩
  ·injection h with h; subst h
   exact ⟨by intro e; simp [qd_1_ex] at e, env.code (its := [b1, b1, .sel [4] []]) (.c h2 (.c h3 (.c h4 .n))) (by kernel_rfl)⟩
  ·injection h with h; subst h
   exact env.code (its := [b1, b0, .sel [0, 1, 7, 8] []]) (.c h2 (.c h3 (.c h4 .n))) (by kernel_rfl)
 ·injection h with h; subst h
  exact ⟨by intro e; simp [qd_1_ex] at e, env.code (its := [b0, .sel [] []]) (.c h2 .n) (by kernel_rfl)⟩
theorem qd_1_ok (x0 : List (B8)) (x1 : B8) (x2 : Int) (x3 : Int) (o : (Int) ⊕ (Unit)) (h : qd_1 x0 x1 x2 x3 = some o) : J03 prog (J0w (bodyOf f101) [1, 0, 1, 0]) (qd_1_in x0 x1 x2 x3) (qd_1_ex o) (qd_1_st o) :=
 J06.of_step (st := fun s => qd_1_in x0 x1 x2 s) (ex := qd_1_ex) (stO := qd_1_st) (fun s s2 hs => qd_1_body x0 x1 x2 s (.inl s2) hs) (fun s r hs => qd_1_body x0 x1 x2 s (.inr r) hs) _ o h
def qd_R (a0 : List (B8)) (a1 : B8) (u : Int) : Slot := (.v (.int .i64) u)
def qd_O (a0 : List (B8)) (a1 : B8) (u : Int) : List AObj := []
theorem qd_ok (a0 : List (B8)) (a1 : B8) (u : Int) (h : qd a0 a1 = some u) : CallC prog 101 [(.v (.slice .str) a0), (.v .str a1)] [] (qd_R a0 a1 u) (qd_O a0 a1 u) := by
 unfold qd at h
 obtain ⟨o5, h6, h⟩ := andThen_some h
 rcases o5 with o7 | o8
 ·injection h with h; subst h
  exact env.fun func101 can101 (its := [.dive, .sel [0, 1, 7, 8] [], .part (qd_1_ex (.inl o7)) (qd_1_st (.inl o7))]) (pos := s0) (.c (qd_1_ok a0 a1 (List.length a0 : Int) (0 : Int) (.inl o7) h6) .n) (by kernel_rfl)
 ·injection h with h; subst h
  exact env.fun func101 can101 (its := [.dive, .sel [0, 1, 7, 8] [], .part (qd_1_ex (.inr o8)) (qd_1_st (.inr o8))]) (pos := s0) (.c (qd_1_ok a0 a1 (List.length a0 : Int) (0 : Int) (.inr o8) h6) .n) (by kernel_rfl)
theorem can91 : J01 prog 91 := ⟨_, func91, by kernel_rfl, by kernel_rfl⟩
def qa_R (a0 : List (B8)) (a1 : B8) (u : Bool) : Slot := (.v .bool u)
def qa_O (a0 : List (B8)) (a1 : B8) (u : Bool) : List AObj := []
theorem qa_ok (a0 : List (B8)) (a1 : B8) (u : Bool) (h : qa a0 a1 = some u) : CallC prog 91 [(.v (.slice .str) a0), (.v .str a1)] [] (qa_R a0 a1 u) (qa_O a0 a1 u) := by
 unfold qa at h
 obtain ⟨u1, h2, h⟩ := andThen_some h
 injection h with h; subst h
 exact env.fun func91 can91 (its := [.call [none, none] [] [] true (qd_R a0 a1 u1) (qd_O a0 a1 u1)]) (pos := s0) (.c (qd_ok a0 a1 u1 h2) .n) (by kernel_rfl)
theorem can92 : J01 prog 92 := ⟨_, func92, by kernel_rfl, by kernel_rfl⟩
def q2r_1_in (x0 : Int) (x1 : List (T484d)) (x2 : Int) (x3 : Int) : St := ⟨[(3, (.v (.int .i64) x0)), (6, (.v (.slice Y484d) x1)), (7, (.v (.int .i64) x2)), (8, (.v (.int .i64) x3))], [], 18, 0⟩
def q2r_1_ex (o : Int) : Exit := (.exit 0)
def q2r_1_st (o : Int) : St := ⟨[(3, (.v (.int .i64) o))], [], 18, 0⟩
theorem q2r_1_body (x0 : Int) (x1 : List (T484d)) (x2 : Int) (x3 : Int) : ∀ r, q2r_1_step x0 x1 x2 x3 = some r → (match r with | .inl s => J03 prog (J0w (bodyOf f92) [1, 1, 0, 1, 0, 0]) (q2r_1_in x0 x1 x2 x3) .normal (q2r_1_in s.1 x1 x2 s.2) | .inr o => q2r_1_ex o ≠ .normal ∧ J03 prog (J0w (bodyOf f92) [1, 1, 0, 1, 0, 0]) (q2r_1_in x0 x1 x2 x3) (q2r_1_ex o) (q2r_1_st o)) := by
 intro r h
 unfold q2r_1_step at h
 rcases fork_some h with ⟨h2, h⟩ | ⟨h2, h⟩
 ·obtain ⟨h3, h⟩ := need_some h
  injection h with h; subst h
  exact env.code (its := [b1, .dive, .sel [3, 6, 7, 8] []]) (.c h2 (.c h3 .n)) (by kernel_rfl)
 ·injection h with h; subst h
  exact ⟨by intro e; simp [q2r_1_ex] at e, env.code (its := [b0, .sel [3] []]) (.c h2 .n) (by kernel_rfl)⟩
theorem q2r_1_ok (x0 : Int) (x1 : List (T484d)) (x2 : Int) (x3 : Int) (o : Int) (h : q2r_1 x0 x1 x2 x3 = some o) : J03 prog (J0w (bodyOf f92) [1, 1, 0, 1, 0]) (q2r_1_in x0 x1 x2 x3) (q2r_1_ex o) (q2r_1_st o) :=
 J06.of_step (st := fun s => q2r_1_in s.1 x1 x2 s.2) (ex := q2r_1_ex) (stO := q2r_1_st) (fun s s2 hs => q2r_1_body s.1 x1 x2 s.2 (.inl s2) hs) (fun s r hs => q2r_1_body s.1 x1 x2 s.2 (.inr r) hs) _ o h
def q2r_R (a0 : List (T484d)) (u : Int) : Slot := (.v (.int .i64) u)
def q2r_O (a0 : List (T484d)) (u : Int) : List AObj := []
theorem q2r_ok (a0 : List (T484d)) (u : Int) (h : q2r a0 = some u) : CallC prog 92 [(.v (.slice Y484d) a0)] [] (q2r_R a0 u) (q2r_O a0 u) := by
 unfold q2r at h
 obtain ⟨o4, h5, h⟩ := andThen_some h
 injection h with h; subst h
 exact env.fun func92 can92 (its := [.dive, .sel [3, 6, 7, 8] [], .part (q2r_1_ex o4) (q2r_1_st o4)]) (pos := s0) (.c (q2r_1_ok (0 : Int) a0 (List.length a0 : Int) (0 : Int) o4 h5) .n) (by kernel_rfl)
theorem can82 : J01 prog 82 := ⟨_, func82, by kernel_rfl, by kernel_rfl⟩
def q2z_1_in (x0 : List (T484d)) (x1 : List (B8)) (x2 : Int) (x3 : List (T484d)) (x4 : Int) (x5 : Int) : St := ⟨[(0, (.v (.slice Y484d) x0)), (1, (.v (.slice .str) x1)), (5, (.v (.int .i64) x2)), (8, (.v (.slice Y484d) x3)), (9, (.v (.int .i64) x4)), (10, (.v (.int .i64) x5))], [], 29, 0⟩
def q2z_1_ex (o : (List (T484d)) × Int) : Exit := (.exit 0)
def q2z_1_st (o : (List (T484d)) × Int) : St := ⟨[(0, (.v (.slice Y484d) o.1)), (5, (.v (.int .i64) o.2))], [], 29, 0⟩
theorem q2z_1_body (x0 : List (T484d)) (x1 : List (B8)) (x2 : Int) (x3 : List (T484d)) (x4 : Int) (x5 : Int) : ∀ r, q2z_1_step x0 x1 x2 x3 x4 x5 = some r → (match r with | .inl s => J03 prog (J0w (bodyOf f82) [1, 1, 0, 1, 0, 0]) (q2z_1_in x0 x1 x2 x3 x4 x5) .normal (q2z_1_in x0 x1 s.1 x3 x4 s.2) | .inr o => q2z_1_ex o ≠ .normal ∧ J03 prog (J0w (bodyOf f82) [1, 1, 0, 1, 0, 0]) (q2z_1_in x0 x1 x2 x3 x4 x5) (q2z_1_ex o) (q2z_1_st o)) := by
 intro r h
 unfold q2z_1_step at h
 rcases fork_some h with ⟨h2, h⟩ | ⟨h2, h⟩
 ·obtain ⟨h3, h⟩ := need_some h
  obtain ⟨u4, h5, h⟩ := andThen_some h
  rcases fork_some h with ⟨h6, h⟩ | ⟨h6, h⟩
  ·injection h with h; subst h
   exact env.code (its := [b1, .call [none, none] [] [] true (qa_R x1 ((List.getD x3 (Int.toNat x5) Z484d).1) u4) (qa_O x1 ((List.getD x3 (Int.toNat x5) Z484d).1) u4), b1, .sel [0, 1, 5, 8, 9, 10] []]) (.c h2 (.c h3 (.c (qa_ok x1 ((List.getD x3 (Int.toNat x5) Z484d).1) u4 h5) (.c h6 .n)))) (by kernel_rfl)
  ·injection h with h; subst h
   exact env.code (its := [b1, .call [none, none] [] [] true (qa_R x1 ((List.getD x3 (Int.toNat x5) Z484d).1) u4) (qa_O x1 ((List.getD x3 (Int.toNat x5) Z484d).1) u4), b0, .sel [0, 1, 5, 8, 9, 10] []]) (.c h2 (.c h3 (.c (qa_ok x1 ((List.getD x3 (Int.toNat x5) Z484d).1) u4 h5) (.c h6 .n)))) (by kernel_rfl)
 ·injection h with h; subst h
  exact ⟨by intro e; simp [q2z_1_ex] at e, env.code (its := [b0, .sel [0, 5] []]) (.c h2 .n) (by kernel_rfl)⟩
theorem q2z_1_ok (x0 : List (T484d)) (x1 : List (B8)) (x2 : Int) (x3 : List (T484d)) (x4 : Int) (x5 : Int) (o : (List (T484d)) × Int) (h : q2z_1 x0 x1 x2 x3 x4 x5 = some o) : J03 prog (J0w (bodyOf f82) [1, 1, 0, 1, 0]) (q2z_1_in x0 x1 x2 x3 x4 x5) (q2z_1_ex o) (q2z_1_st o) :=
 J06.of_step (st := fun s => q2z_1_in x0 x1 s.1 x3 x4 s.2) (ex := q2z_1_ex) (stO := q2z_1_st) (fun s s2 hs => q2z_1_body x0 x1 s.1 x3 x4 s.2 (.inl s2) hs) (fun s r hs => q2z_1_body x0 x1 s.1 x3 x4 s.2 (.inr r) hs) _ o h
def q2z_R (a0 : List (T484d)) (a1 : List (B8)) (u : Int × Int) : Slot := (.v .cplx u)
def q2z_O (a0 : List (T484d)) (a1 : List (B8)) (u : Int × Int) : List AObj := []
theorem q2z_ok (a0 : List (T484d)) (a1 : List (B8)) (u : Int × Int) (h : q2z a0 a1 = some u) : CallC prog 82 [(.v (.slice Y484d) a0), (.v (.slice .str) a1)] [] (q2z_R a0 a1 u) (q2z_O a0 a1 u) := by
 unfold q2z at h
 obtain ⟨o7, h8, h⟩ := andThen_some h
 obtain ⟨h9, h⟩ := need_some h
 obtain ⟨u10, h11, h⟩ := andThen_some h
 obtain ⟨h12, h⟩ := need_some h
 injection h with h; subst h
 exact env.fun func82 can82 (its := [.dive, .sel [0, 1, 5, 8, 9, 10] [], .part (q2z_1_ex o7) (q2z_1_st o7), .call [none] [] [] true (q2r_R o7.1 u10) (q2r_O o7.1 u10)]) (pos := s0) (.c (q2z_1_ok a0 a1 (0 : Int) a0 (List.length a0 : Int) (0 : Int) o7 h8) (.c h9 (.c (q2r_ok o7.1 u10 h11) (.c h12 .n)))) (by kernel_rfl)
theorem can70 : J01 prog 70 := ⟨_, func70, by kernel_rfl, by kernel_rfl⟩
def q2v_R (a0 : List (T484d)) (a1 : Tf0bc) (a2 : List (T8f72)) (u : Int × Int) : Slot := (.v .cplx u)
def q2v_O (a0 : List (T484d)) (a1 : Tf0bc) (a2 : List (T8f72)) (u : Int × Int) : List AObj := []
theorem q2v_ok (a0 : List (T484d)) (a1 : Tf0bc) (a2 : List (T8f72)) (u : Int × Int) (h : q2v a0 a1 a2 = some u) : CallC prog 70 [(.v (.slice Y484d) a0), (.v Yf0bc a1), (.v (.slice Y8f72) a2)] [] (q2v_R a0 a1 a2 u) (q2v_O a0 a1 a2 u) := by
 unfold q2v at h
 obtain ⟨u1, h2, h⟩ := andThen_some h
 obtain ⟨u3, h4, h⟩ := andThen_some h
 injection h with h; subst h
 exact env.fun func70 can70 (its := [.call [none, none, none] [] [] true (q2y_R a0 a1 a2 u1) (q2y_O a0 a1 a2 u1), .call [none, none] [] [1] true (q2z_R a0 u1 u3) (q2z_O a0 u1 u3)]) (pos := s0) (.c (q2y_ok a0 a1 a2 u1 h2) (.c (q2z_ok a0 u1 u3 h4) .n)) (by kernel_rfl)
theorem can69 : J01 prog 69 := ⟨_, func69, by kernel_rfl, by kernel_rfl⟩
def q3d_R (a0 : Int × Int) (a1 : Int) (a2 : Int) (u : Bool) : Slot := (.v .bool u)
def q3d_O (a0 : Int × Int) (a1 : Int) (a2 : Int) (u : Bool) : List AObj := []
theorem q3d_ok (a0 : Int × Int) (a1 : Int) (a2 : Int) (u : Bool) (h : q3d a0 a1 a2 = some u) : CallC prog 69 [(.v .cplx a0), (.v (.int .i64) a1), (.v (.int .i64) a2)] [] (q3d_R a0 a1 a2 u) (q3d_O a0 a1 a2 u) := by
 unfold q3d at h
 injection h with h; subst h
 exact env.fun func69 can69 (its := []) (pos := s0) .n (by kernel_rfl)
theorem can42 : J01 prog 42 := ⟨_, func42, by kernel_rfl, by kernel_rfl⟩
def q2k_R (a0 : List (T484d)) (a1 : Tf0bc) (a2 : List (T8f72)) (u : Bool) : Slot := (.v .bool u)
def q2k_O (a0 : List (T484d)) (a1 : Tf0bc) (a2 : List (T8f72)) (u : Bool) : List AObj := []
theorem q2k_ok (a0 : List (T484d)) (a1 : Tf0bc) (a2 : List (T8f72)) (u : Bool) (h : q2k a0 a1 a2 = some u) : CallC prog 42 [(.v (.slice Y484d) a0), (.v Yf0bc a1), (.v (.slice Y8f72) a2)] [] (q2k_R a0 a1 a2 u) (q2k_O a0 a1 a2 u) := by
 unfold q2k at h
 obtain ⟨u1, h2, h⟩ := andThen_some h
 obtain ⟨u3, h4, h⟩ := andThen_some h
 injection h with h; subst h
 exact env.fun func42 can42 (its := [.call [none, none, none] [] [] true (q2v_R a0 a1 a2 u1) (q2v_O a0 a1 a2 u1), .call [none, none, none] [] [] true (q3d_R u1 (2 : Int) (3 : Int) u3) (q3d_O u1 (2 : Int) (3 : Int) u3)]) (pos := s0) (.c (q2v_ok a0 a1 a2 u1 h2) (.c (q3d_ok u1 (2 : Int) (3 : Int) u3 h4) .n)) (by kernel_rfl)
theorem can43 : J01 prog 43 := ⟨_, func43, by kernel_rfl, by kernel_rfl⟩
def q33_R (a0 : List (T484d)) (a1 : Tf0bc) (a2 : List (T8f72)) (u : Bool) : Slot := (.v .bool u)
def q33_O (a0 : List (T484d)) (a1 : Tf0bc) (a2 : List (T8f72)) (u : Bool) : List AObj := []
theorem q33_ok (a0 : List (T484d)) (a1 : Tf0bc) (a2 : List (T8f72)) (u : Bool) (h : q33 a0 a1 a2 = some u) : CallC prog 43 [(.v (.slice Y484d) a0), (.v Yf0bc a1), (.v (.slice Y8f72) a2)] [] (q33_R a0 a1 a2 u) (q33_O a0 a1 a2 u) := by
 unfold q33 at h
 obtain ⟨u1, h2, h⟩ := andThen_some h
 obtain ⟨u3, h4, h⟩ := andThen_some h
 injection h with h; subst h
 exact env.fun func43 can43 (its := [.call [none, none, none] [] [] true (q2v_R a0 a1 a2 u1) (q2v_O a0 a1 a2 u1), .call [none, none, none] [] [] true (q3d_R u1 (1 : Int) (3 : Int) u3) (q3d_O u1 (1 : Int) (3 : Int) u3)]) (pos := s0) (.c (q2v_ok a0 a1 a2 u1 h2) (.c (q3d_ok u1 (1 : Int) (3 : Int) u3 h4) .n)) (by kernel_rfl)
theorem can44 : J01 prog 44 := ⟨_, func44, by kernel_rfl, by kernel_rfl⟩
def qg_R (a0 : List (Tf0bc)) (u : List (Tf0bc)) : Slot := .own 0 []
def qg_O (a0 : List (Tf0bc)) (u : List (Tf0bc)) : List AObj := [.row Yf0bc u true]
theorem qg_ok (a0 : List (Tf0bc)) (u : List (Tf0bc)) (h : qg a0 = some u) : CallC prog 44 [.v (.slice Yf0bc) a0] [] (qg_R a0 u) (qg_O a0 u) := by
 unfold qg at h
 obtain ⟨h1, h⟩ := need_some h
 injection h with h; subst h
 rcases a0 with _ | ⟨x0, a0⟩
 ·exact env.funAny (r0 := J0w (bodyOf f44) [0]) (r1 := J0w (bodyOf f44) [1, 0, 0]) (x := J0w (bodyOf f44) [1, 0, 1, 0]) (z := J0w (bodyOf f44) [1, 1]) (t := 4) (r := (.own 0 [])) func44 can44 (i0 := [.sel [0] []]) (i1 := [.sel [0, 4] []]) (i2 := [.promote 2 Yf0bc, .sel [2] [0]]) (i3 := [.sel [2] [1]]) (pos := s1) (st1 := ⟨[(0, (.v (.slice Yf0bc) ([] : List (Tf0bc))))], [], 8, 0⟩) (st2 := ⟨[(0, (.v (.slice Yf0bc) ([] : List (Tf0bc)))), (4, .anyb)], [], 8, 0⟩) (st3 := ⟨[(2, (.own 0 []))], [.row Yf0bc ([] : List (Tf0bc)) true], 8, 0⟩) (by kernel_rfl) (by kernel_rfl) (by kernel_rfl) (by kernel_rfl) (by kernel_rfl) (by kernel_rfl) (.c (show List.length ([] : List (Tf0bc)) + List.length ([] : List (Tf0bc)) ≤ 2147483648 from by first | decide | (simp at h1 ⊢; try omega)) .n) (by kernel_rfl) (by kernel_rfl) (by kernel_rfl)
 ·exact env.fun func44 can44 (its := [b0]) (pos := [.sel [1]]) (.c r0 (.c (show List.length ([] : List (Tf0bc)) + List.length (x0 :: a0) ≤ 2147483648 from by first | decide | (simp at h1 ⊢; try omega)) .n)) (by kernel_rfl)
end
end Go.Proofs.YtanhbdkimbljeaaGreat.lightHonest
