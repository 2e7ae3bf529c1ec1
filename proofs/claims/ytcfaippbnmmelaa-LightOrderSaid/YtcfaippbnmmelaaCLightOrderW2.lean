/-
  The functions, walked through: each call comes to what the pure text says.
-/
import Derived.Test.YtcfaippbnmmelaaProg
import Derived.Test.YtcfaippbnmmelaaAxC
import Derived.Test.YtcfaippbnmmelaaCLightOrderP
import Derived.Test.YtcfaippbnmmelaaCLightOrderW1
namespace Go.Proofs.Ytcfaippbnmmelaa.lightOrder
open Go.Ax Go.Ax.V Go.Proofs.Try
set_option maxRecDepth 100000
set_option linter.unusedVariables false
noncomputable section
theorem can8 : Callable prog 8 := ⟨_, func8, by kernel_rfl, by kernel_rfl⟩
def affiantlaw13_LightOrder_1_in (x0 : List Int) (x1 : Int) (x2 : List (Tedcc)) (x3 : List (List (T18c3))) (x4 : Unit) (x5 : List (B8)) (x6 : List (List (B8))) (x7 : List (B8)) (x8 : List (T484d)) : St := ⟨[(1, (.v (.slice (.int .i64)) x0)), (5, (.ptr 0 [])), (15, (.v (.int .i64) x1))], [.box Y6488 (.node (.own 1 []) (.node (.own 2 []) (.node (.own 3 []) (.node .nil (.node (.own 4 []) (.node (.v (.slice Yedcc) x2) (.node (.v (.slice (.slice Y18c3)) x3) (.v .unit x4)))))))) true, .row (.arr 32 (.int .u8)) x5 true, .row (.slice (.slice (.int .u8))) x6 true, .row .str x7 true, .row Y484d x8 true], 111, 0⟩
def affiantlaw13_LightOrder_1_ex (o : List Int × (List (Tedcc)) × (List (List (T18c3))) × Unit × List (B8) × List (List (B8)) × List (B8) × List (T484d)) : Exit := (.exit 0)
def affiantlaw13_LightOrder_1_st (o : List Int × (List (Tedcc)) × (List (List (T18c3))) × Unit × List (B8) × List (List (B8)) × List (B8) × List (T484d)) : St := ⟨[(1, (.v (.slice (.int .i64)) o.1)), (5, (.ptr 0 []))], [.box Y6488 (.node (.own 1 []) (.node (.own 2 []) (.node (.own 3 []) (.node .nil (.node (.own 4 []) (.node (.v (.slice Yedcc) o.2.1) (.node (.v (.slice (.slice Y18c3)) o.2.2.1) (.v .unit o.2.2.2.1)))))))) true, .row (.arr 32 (.int .u8)) o.2.2.2.2.1 true, .row (.slice (.slice (.int .u8))) o.2.2.2.2.2.1 true, .row .str o.2.2.2.2.2.2.1 true, .row Y484d o.2.2.2.2.2.2.2 true], 111, 0⟩
theorem affiantlaw13_LightOrder_1_body (x0 : List Int) (x1 : Int) (x2 : List (Tedcc)) (x3 : List (List (T18c3))) (x4 : Unit) (x5 : List (B8)) (x6 : List (List (B8))) (x7 : List (B8)) (x8 : List (T484d)) : ∀ r, affiantlaw13_LightOrder_1_step x0 x1 x2 x3 x4 x5 x6 x7 x8 = some r → (match r with | .inl s => CodeOK prog (codeAt (bodyOf f8) [1, 1, 0, 1, 0, 0]) (affiantlaw13_LightOrder_1_in x0 x1 x2 x3 x4 x5 x6 x7 x8) .normal (affiantlaw13_LightOrder_1_in x0 s.1 s.2.1 s.2.2.1 s.2.2.2.1 s.2.2.2.2.1 s.2.2.2.2.2.1 s.2.2.2.2.2.2.1 s.2.2.2.2.2.2.2) | .inr o => affiantlaw13_LightOrder_1_ex o ≠ .normal ∧ CodeOK prog (codeAt (bodyOf f8) [1, 1, 0, 1, 0, 0]) (affiantlaw13_LightOrder_1_in x0 x1 x2 x3 x4 x5 x6 x7 x8) (affiantlaw13_LightOrder_1_ex o) (affiantlaw13_LightOrder_1_st o)) := by
 intro r h
 unfold affiantlaw13_LightOrder_1_step at h
 rcases fork_some h with ⟨h4, h⟩ | ⟨h4, h⟩
 ·obtain ⟨u5, h6, h⟩ := andThen_some h
  injection h with h; subst h
  exact env.code (its := [b1, .call [none, none] [0, 1, 2, 3, 4] [] false (affiantref10_Chain_Commit_20bb_R (w64 (x1 + (1 : Int))) x2 x3 x4 x5 x6 x7 x8 u5) (affiantref10_Chain_Commit_20bb_O (w64 (x1 + (1 : Int))) x2 x3 x4 x5 x6 x7 x8 u5), .sel [1, 5, 15] [0, 1, 2, 3, 4]]) (.c h4 (.c (affiantref10_Chain_Commit_20bb_ok (w64 (x1 + (1 : Int))) x2 x3 x4 x5 x6 x7 x8 u5 h6) .n)) (by kernel_rfl)
 ·injection h with h; subst h
  exact ⟨by intro e; simp [affiantlaw13_LightOrder_1_ex] at e, env.code (its := [b0, .sel [1, 5] [0, 1, 2, 3, 4]]) (.c h4 .n) (by kernel_rfl)⟩
theorem affiantlaw13_LightOrder_1_ok (x0 : List Int) (x1 : Int) (x2 : List (Tedcc)) (x3 : List (List (T18c3))) (x4 : Unit) (x5 : List (B8)) (x6 : List (List (B8))) (x7 : List (B8)) (x8 : List (T484d)) (o : List Int × (List (Tedcc)) × (List (List (T18c3))) × Unit × List (B8) × List (List (B8)) × List (B8) × List (T484d)) (h : affiantlaw13_LightOrder_1 x0 x1 x2 x3 x4 x5 x6 x7 x8 = some o) : CodeOK prog (codeAt (bodyOf f8) [1, 1, 0, 1, 0]) (affiantlaw13_LightOrder_1_in x0 x1 x2 x3 x4 x5 x6 x7 x8) (affiantlaw13_LightOrder_1_ex o) (affiantlaw13_LightOrder_1_st o) :=
 LoopOK.of_step (st := fun s => affiantlaw13_LightOrder_1_in x0 s.1 s.2.1 s.2.2.1 s.2.2.2.1 s.2.2.2.2.1 s.2.2.2.2.2.1 s.2.2.2.2.2.2.1 s.2.2.2.2.2.2.2) (ex := affiantlaw13_LightOrder_1_ex) (stO := affiantlaw13_LightOrder_1_st) (fun s s2 hs => affiantlaw13_LightOrder_1_body x0 s.1 s.2.1 s.2.2.1 s.2.2.2.1 s.2.2.2.2.1 s.2.2.2.2.2.1 s.2.2.2.2.2.2.1 s.2.2.2.2.2.2.2 (.inl s2) hs) (fun s r hs => affiantlaw13_LightOrder_1_body x0 s.1 s.2.1 s.2.2.1 s.2.2.2.1 s.2.2.2.2.1 s.2.2.2.2.2.1 s.2.2.2.2.2.2.1 s.2.2.2.2.2.2.2 (.inr r) hs) _ o h
def affiantlaw13_LightOrder_2_in (x0 : List Int) (x1 : Int) (x2 : List (Tedcc)) (x3 : List (List (T18c3))) (x4 : Unit) (x5 : List (B8)) (x6 : List (List (B8))) (x7 : List (B8)) (x8 : List (T484d)) (x9 : T65da) (x10 : List (Tf0bc)) : St := ⟨[(1, (.v (.slice (.int .i64)) x0)), (5, (.ptr 0 [])), (7, (.ptr 5 [])), (9, (.own 6 [])), (10, (.v (.int .i64) x1))], [.box Y6488 (.node (.own 1 []) (.node (.own 2 []) (.node (.own 3 []) (.node .nil (.node (.own 4 []) (.node (.v (.slice Yedcc) x2) (.node (.v (.slice (.slice Y18c3)) x3) (.v .unit x4)))))))) true, .row (.arr 32 (.int .u8)) x5 true, .row (.slice (.slice (.int .u8))) x6 true, .row .str x7 true, .row Y484d x8 true, .box Y65da (.v Y65da x9) true, .row Yf0bc x10 true], 111, 0⟩
def affiantlaw13_LightOrder_2_ex (o : (Bool) ⊕ ((T65da) × List (Tf0bc))) : Exit := match o with | (.inl o) => .ret | (.inr o) => (.exit 2)
def affiantlaw13_LightOrder_2_st (o : (Bool) ⊕ ((T65da) × List (Tf0bc))) : St := match o with | (.inl o) => ⟨[(4, (.v .bool o))], [], 111, 0⟩ | (.inr o) => ⟨[(7, (.ptr 0 [])), (9, (.own 1 []))], [.box Y65da (.v Y65da o.1) true, .row Yf0bc o.2 true], 111, 0⟩
theorem affiantlaw13_LightOrder_2_body (x0 : List Int) (x1 : Int) (x2 : List (Tedcc)) (x3 : List (List (T18c3))) (x4 : Unit) (x5 : List (B8)) (x6 : List (List (B8))) (x7 : List (B8)) (x8 : List (T484d)) (x9 : T65da) (x10 : List (Tf0bc)) : ∀ r, affiantlaw13_LightOrder_2_step x0 x1 x2 x3 x4 x5 x6 x7 x8 x9 x10 = some r → (match r with | .inl s => CodeOK prog (codeAt (bodyOf f8) [1, 1, 1, 1, 1, 1, 0, 1, 0, 0]) (affiantlaw13_LightOrder_2_in x0 x1 x2 x3 x4 x5 x6 x7 x8 x9 x10) .normal (affiantlaw13_LightOrder_2_in x0 s.1 x2 x3 x4 x5 x6 x7 x8 s.2.1 s.2.2) | .inr o => affiantlaw13_LightOrder_2_ex o ≠ .normal ∧ CodeOK prog (codeAt (bodyOf f8) [1, 1, 1, 1, 1, 1, 0, 1, 0, 0]) (affiantlaw13_LightOrder_2_in x0 x1 x2 x3 x4 x5 x6 x7 x8 x9 x10) (affiantlaw13_LightOrder_2_ex o) (affiantlaw13_LightOrder_2_st o)) := by
 intro r h
 unfold affiantlaw13_LightOrder_2_step at h
 rcases fork_some h with ⟨h16, h⟩ | ⟨h16, h⟩
 ·rcases fork_some h with ⟨h17, h⟩ | ⟨h17, h⟩
  ·obtain ⟨h18, h⟩ := need_some h
   obtain ⟨u19, h20, h⟩ := andThen_some h
   obtain ⟨h21, h⟩ := need_some h
   obtain ⟨u22, h23, h⟩ := andThen_some h
   obtain ⟨h24, h⟩ := need_some h
   rcases fork_some h with ⟨h25, h⟩ | ⟨h25, h⟩
   ·rcases fork_some h with ⟨h26, h⟩ | ⟨h26, h⟩
    ·injection h with h; subst h
     exact ⟨by intro e; simp [affiantlaw13_LightOrder_2_ex] at e, env.code (its := [b1, b1, b1, b1, .pre p48, .asis, .call [none, none, none] [] [] true (affiantbook_Within_R (List.getD x0 (Int.toNat x1) (0 : Int)) (0 : Int) (8 : Int) u19) (affiantbook_Within_O (List.getD x0 (Int.toNat x1) (0 : Int)) (0 : Int) (8 : Int) u19), .call [none, none, none] [5] [] false (light_Client_Update_b86e_R (List.getD x2 (Int.toNat u19) Zedcc) (20 : Int) x9 u22) (light_Client_Update_b86e_O (List.getD x2 (Int.toNat u19) Zedcc) (20 : Int) x9 u22), .pre p49, b1, b1, .sel [4] []]) (.c h16 (.c h16 (.c h16 (.c h17 (.c h18 (.c rn (.c (affiantbook_Within_ok (List.getD x0 (Int.toNat x1) (0 : Int)) (0 : Int) (8 : Int) u19 h20) (.c h21 (.c (light_Client_Update_b86e_ok (List.getD x2 (Int.toNat u19) Zedcc) (20 : Int) x9 u22 h23) (.c h24 (.c h25 (.c h26 .n)))))))))))) (by kernel_rfl)⟩
    ·obtain ⟨h27, h⟩ := need_some h
     injection h with h; subst h
     exact env.code (its := [b1, b1, b1, b1, .pre p48, .asis, .call [none, none, none] [] [] true (affiantbook_Within_R (List.getD x0 (Int.toNat x1) (0 : Int)) (0 : Int) (8 : Int) u19) (affiantbook_Within_O (List.getD x0 (Int.toNat x1) (0 : Int)) (0 : Int) (8 : Int) u19), .call [none, none, none] [5] [] false (light_Client_Update_b86e_R (List.getD x2 (Int.toNat u19) Zedcc) (20 : Int) x9 u22) (light_Client_Update_b86e_O (List.getD x2 (Int.toNat u19) Zedcc) (20 : Int) x9 u22), .pre p49, b1, b0, .sel [1, 5, 7, 9, 10] [0, 1, 2, 3, 4, 5, 9]]) (.c h16 (.c h16 (.c h16 (.c h17 (.c h18 (.c rn (.c (affiantbook_Within_ok (List.getD x0 (Int.toNat x1) (0 : Int)) (0 : Int) (8 : Int) u19 h20) (.c h21 (.c (light_Client_Update_b86e_ok (List.getD x2 (Int.toNat u19) Zedcc) (20 : Int) x9 u22 h23) (.c h24 (.c h25 (.c h26 (.c h27 .n))))))))))))) (by kernel_rfl)
   ·rcases fork_some h with ⟨h28, h⟩ | ⟨h28, h⟩
    ·injection h with h; subst h
     exact ⟨by intro e; simp [affiantlaw13_LightOrder_2_ex] at e, env.code (its := [b1, b1, b1, b1, .pre p48, .asis, .call [none, none, none] [] [] true (affiantbook_Within_R (List.getD x0 (Int.toNat x1) (0 : Int)) (0 : Int) (8 : Int) u19) (affiantbook_Within_O (List.getD x0 (Int.toNat x1) (0 : Int)) (0 : Int) (8 : Int) u19), .call [none, none, none] [5] [] false (light_Client_Update_b86e_R (List.getD x2 (Int.toNat u19) Zedcc) (20 : Int) x9 u22) (light_Client_Update_b86e_O (List.getD x2 (Int.toNat u19) Zedcc) (20 : Int) x9 u22), .pre p49, b0, b1, .sel [4] []]) (.c h16 (.c h16 (.c h16 (.c h17 (.c h18 (.c rn (.c (affiantbook_Within_ok (List.getD x0 (Int.toNat x1) (0 : Int)) (0 : Int) (8 : Int) u19 h20) (.c h21 (.c (light_Client_Update_b86e_ok (List.getD x2 (Int.toNat u19) Zedcc) (20 : Int) x9 u22 h23) (.c h24 (.c h25 (.c h28 .n)))))))))))) (by kernel_rfl)⟩
    ·injection h with h; subst h
     exact env.code (its := [b1, b1, b1, b1, .pre p48, .asis, .call [none, none, none] [] [] true (affiantbook_Within_R (List.getD x0 (Int.toNat x1) (0 : Int)) (0 : Int) (8 : Int) u19) (affiantbook_Within_O (List.getD x0 (Int.toNat x1) (0 : Int)) (0 : Int) (8 : Int) u19), .call [none, none, none] [5] [] false (light_Client_Update_b86e_R (List.getD x2 (Int.toNat u19) Zedcc) (20 : Int) x9 u22) (light_Client_Update_b86e_O (List.getD x2 (Int.toNat u19) Zedcc) (20 : Int) x9 u22), .pre p49, b0, b0, .sel [1, 5, 7, 9, 10] [0, 1, 2, 3, 4, 5, 6]]) (.c h16 (.c h16 (.c h16 (.c h17 (.c h18 (.c rn (.c (affiantbook_Within_ok (List.getD x0 (Int.toNat x1) (0 : Int)) (0 : Int) (8 : Int) u19 h20) (.c h21 (.c (light_Client_Update_b86e_ok (List.getD x2 (Int.toNat u19) Zedcc) (20 : Int) x9 u22 h23) (.c h24 (.c h25 (.c h28 .n)))))))))))) (by kernel_rfl)
  ·injection h with h; subst h
   exact ⟨by intro e; simp [affiantlaw13_LightOrder_2_ex] at e, env.code (its := [b1, b1, b1, b0, .sel [7, 9] [5, 6]]) (.c h16 (.c h16 (.c h16 (.c h17 .n)))) (by kernel_rfl)⟩
 ·injection h with h; subst h
  exact ⟨by intro e; simp [affiantlaw13_LightOrder_2_ex] at e, env.code (its := [b0, b0, b0, b0, .sel [7, 9] [5, 6]]) (.c h16 (.c h16 (.c h16 (.c r0 .n)))) (by kernel_rfl)⟩
theorem affiantlaw13_LightOrder_2_ok (x0 : List Int) (x1 : Int) (x2 : List (Tedcc)) (x3 : List (List (T18c3))) (x4 : Unit) (x5 : List (B8)) (x6 : List (List (B8))) (x7 : List (B8)) (x8 : List (T484d)) (x9 : T65da) (x10 : List (Tf0bc)) (o : (Bool) ⊕ ((T65da) × List (Tf0bc))) (h : affiantlaw13_LightOrder_2 x0 x1 x2 x3 x4 x5 x6 x7 x8 x9 x10 = some o) : CodeOK prog (codeAt (bodyOf f8) [1, 1, 1, 1, 1, 1, 0, 1, 0]) (affiantlaw13_LightOrder_2_in x0 x1 x2 x3 x4 x5 x6 x7 x8 x9 x10) (affiantlaw13_LightOrder_2_ex o) (affiantlaw13_LightOrder_2_st o) :=
 LoopOK.of_step (st := fun s => affiantlaw13_LightOrder_2_in x0 s.1 x2 x3 x4 x5 x6 x7 x8 s.2.1 s.2.2) (ex := affiantlaw13_LightOrder_2_ex) (stO := affiantlaw13_LightOrder_2_st) (fun s s2 hs => affiantlaw13_LightOrder_2_body x0 s.1 x2 x3 x4 x5 x6 x7 x8 s.2.1 s.2.2 (.inl s2) hs) (fun s r hs => affiantlaw13_LightOrder_2_body x0 s.1 x2 x3 x4 x5 x6 x7 x8 s.2.1 s.2.2 (.inr r) hs) _ o h
def affiantlaw13_LightOrder_R (a0 : List Int) (a1 : List Int) (u : Bool) : Slot := (.v .bool u)
def affiantlaw13_LightOrder_O (a0 : List Int) (a1 : List Int) (u : Bool) : List AObj := []
theorem affiantlaw13_LightOrder_ok (a0 : List Int) (a1 : List Int) (u : Bool) (h : affiantlaw13_LightOrder a0 a1 = some u) : CallC prog 8 [(.v (.slice (.int .i64)) a0), (.v (.slice (.int .i64)) a1)] [] (affiantlaw13_LightOrder_R a0 a1 u) (affiantlaw13_LightOrder_O a0 a1 u) := by
 unfold affiantlaw13_LightOrder at h
 obtain ⟨u1, h2, h⟩ := andThen_some h
 obtain ⟨o7, h8, h⟩ := andThen_some h
 obtain ⟨h9, h⟩ := need_some h
 obtain ⟨u10, h11, h⟩ := andThen_some h
 rcases u10 with u12 | u13
 ·cases h
 ·rcases fork_some h with ⟨h14, h⟩ | ⟨h14, h⟩
  ·cases h
  ·obtain ⟨o29, h30, h⟩ := andThen_some h
   rcases o29 with o31 | o32
   ·injection h with h; subst h
    exact env.fun func8 can8 (its := [.call [none] [] [] false (affiantkeep_Chain_R a0 u1) (affiantkeep_Chain_O a0 u1), .dive, .valObj 0 [.fld 5], .valObj 0 [.fld 6], .sel [1, 5, 15] [0, 1, 2, 3, 4], .part (affiantlaw13_LightOrder_1_ex o7) (affiantlaw13_LightOrder_1_st o7), .pre p50, .call [none, none, none] [] [] false (light_New_R ((List.getD o7.2.1 (Int.toNat (0 : Int)) Zedcc).1) ((List.getD o7.2.1 (Int.toNat (0 : Int)) Zedcc).2.2.2.1) (500 : Int) (.inr u13)) (light_New_O ((List.getD o7.2.1 (Int.toNat (0 : Int)) Zedcc).1) ((List.getD o7.2.1 (Int.toNat (0 : Int)) Zedcc).2.2.2.1) (500 : Int) (.inr u13)), b0, b0, b0, b0, .dive, .sel [1, 5, 7, 9, 10] [0, 1, 2, 3, 4, 5, 6], .part (affiantlaw13_LightOrder_2_ex (.inl o31)) (affiantlaw13_LightOrder_2_st (.inl o31))]) (pos := [.sel []]) (.c (affiantkeep_Chain_ok a0 u1 h2) (.c (affiantlaw13_LightOrder_1_ok a1 (0 : Int) ([] : List (Tedcc)) ([] : List (List (T18c3))) u1.1 u1.2.1 u1.2.2.1 u1.2.2.2.1 u1.2.2.2.2 o7 h8) (.c h9 (.c h9 (.c (light_New_ok ((List.getD o7.2.1 (Int.toNat (0 : Int)) Zedcc).1) ((List.getD o7.2.1 (Int.toNat (0 : Int)) Zedcc).2.2.2.1) (500 : Int) (.inr u13) h11) (.c r0 (.c r0 (.c r0 (.c h14 (.c h9 (.c (affiantlaw13_LightOrder_2_ok o7.1 (0 : Int) o7.2.1 o7.2.2.1 o7.2.2.2.1 o7.2.2.2.2.1 o7.2.2.2.2.2.1 o7.2.2.2.2.2.2.1 o7.2.2.2.2.2.2.2 u13.2 ([(List.getD o7.2.1 (Int.toNat (0 : Int)) Zedcc).1] : List (Tf0bc)) (.inl o31) h30) .n))))))))))) (by kernel_rfl)
   ·obtain ⟨u33, h34, h⟩ := andThen_some h
    obtain ⟨h35, h⟩ := need_some h
    obtain ⟨u36, h37, h⟩ := andThen_some h
    rcases fork_some h with ⟨h38, h⟩ | ⟨h38, h⟩
    ·obtain ⟨u39, h40, h⟩ := andThen_some h
     injection h with h; subst h
     exact env.fun func8 can8 (its := [.call [none] [] [] false (affiantkeep_Chain_R a0 u1) (affiantkeep_Chain_O a0 u1), .dive, .valObj 0 [.fld 5], .valObj 0 [.fld 6], .sel [1, 5, 15] [0, 1, 2, 3, 4], .part (affiantlaw13_LightOrder_1_ex o7) (affiantlaw13_LightOrder_1_st o7), .pre p50, .call [none, none, none] [] [] false (light_New_R ((List.getD o7.2.1 (Int.toNat (0 : Int)) Zedcc).1) ((List.getD o7.2.1 (Int.toNat (0 : Int)) Zedcc).2.2.2.1) (500 : Int) (.inr u13)) (light_New_O ((List.getD o7.2.1 (Int.toNat (0 : Int)) Zedcc).1) ((List.getD o7.2.1 (Int.toNat (0 : Int)) Zedcc).2.2.2.1) (500 : Int) (.inr u13)), b0, b0, b0, b0, .dive, .sel [1, 5, 7, 9, 10] [0, 1, 2, 3, 4, 5, 6], .part (affiantlaw13_LightOrder_2_ex (.inr o32)) (affiantlaw13_LightOrder_2_st (.inr o32)), .pre p51, .call [none] [0] [] false (light_Client_Heads_265a_R o32.1 u33) (light_Client_Heads_265a_O o32.1 u33), b0, .asis, .call [none, none] [] [0] true (affiantbook_Same_Header_R u33 (cutL o32.2 (max (w64 ((List.length o32.2 : Int) - (6 : Int))) (0 : Int)) (List.length o32.2 : Int)) u36) (affiantbook_Same_Header_O u33 (cutL o32.2 (max (w64 ((List.length o32.2 : Int) - (6 : Int))) (0 : Int)) (List.length o32.2 : Int)) u36), b1, .asis, .call [] [] [] true (affiantlaw13_LightRuns_R u39) (affiantlaw13_LightRuns_O u39), b1]) (pos := [.sel []]) (.c (affiantkeep_Chain_ok a0 u1 h2) (.c (affiantlaw13_LightOrder_1_ok a1 (0 : Int) ([] : List (Tedcc)) ([] : List (List (T18c3))) u1.1 u1.2.1 u1.2.2.1 u1.2.2.2.1 u1.2.2.2.2 o7 h8) (.c h9 (.c h9 (.c (light_New_ok ((List.getD o7.2.1 (Int.toNat (0 : Int)) Zedcc).1) ((List.getD o7.2.1 (Int.toNat (0 : Int)) Zedcc).2.2.2.1) (500 : Int) (.inr u13) h11) (.c r0 (.c r0 (.c r0 (.c h14 (.c h9 (.c (affiantlaw13_LightOrder_2_ok o7.1 (0 : Int) o7.2.1 o7.2.2.1 o7.2.2.2.1 o7.2.2.2.2.1 o7.2.2.2.2.2.1 o7.2.2.2.2.2.2.1 o7.2.2.2.2.2.2.2 u13.2 ([(List.getD o7.2.1 (Int.toNat (0 : Int)) Zedcc).1] : List (Tf0bc)) (.inr o32) h30) (.c (light_Client_Heads_265a_ok o32.1 u33 h34) (.c h35 (.c (rfl : ([.row Yf0bc u33 true] : List AObj) = [.row Yf0bc u33 true]) (.c (affiantbook_Same_Header_ok u33 (cutL o32.2 (max (w64 ((List.length o32.2 : Int) - (6 : Int))) (0 : Int)) (List.length o32.2 : Int)) u36 h37) (.c h38 (.c rn (.c (affiantlaw13_LightRuns_ok u39 h40) (.c h38 .n))))))))))))))))))) (by kernel_rfl)
    ·cases h
end
end Go.Proofs.Ytcfaippbnmmelaa.lightOrder
