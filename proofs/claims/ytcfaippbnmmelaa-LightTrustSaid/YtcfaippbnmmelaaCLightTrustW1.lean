/-
  The functions, walked through: each call comes to what the pure text says.
-/
import Derived.Test.YtcfaippbnmmelaaProg
import Derived.Test.YtcfaippbnmmelaaAxC
import Derived.Test.YtcfaippbnmmelaaCLightTrustP
import Derived.Test.YtcfaippbnmmelaaCLightTrustW0
namespace Go.Proofs.Ytcfaippbnmmelaa.lightTrust
open Go.Ax Go.Ax.V Go.Proofs.Try
set_option maxRecDepth 100000
set_option linter.unusedVariables false
noncomputable section
theorem can25 : Callable prog 25 := ⟨_, func25, by kernel_rfl, by kernel_rfl⟩
def affiantkeep_Forged_1_in (x0 : List Int) (x1 : Int) (x2 : Int) (x3 : Int) (x4 : List Int) (x5 : Int) (x6 : Int) (x7 : Tf0bc) (x8 : Unit) (x9 : Tf0bc) (x10 : (List (T484d)) × (List (T484d)) × Unit) (x11 : List (T8f72)) (x12 : B8) : St := ⟨[(1, (.v (.slice (.int .i64)) x0)), (6, (.ptr 0 [])), (7, (.ptr 1 [])), (8, (.ptr 3 [])), (9, (.v (.int .i64) x1)), (33, (.v (.int .i64) x2)), (34, (.v (.int .i64) x3)), (37, (.v (.slice (.int .i64)) x4)), (38, (.v (.int .i64) x5)), (39, (.v (.int .i64) x6))], [.box Yedcc (.node (.v Yf0bc x7) (.node .nil (.node .nil (.node .nil (.v .unit x8))))) true, .box Yedcc (.node (.v Yf0bc x9) (.node (.own 2 []) (.v (.fld (.slice Y484d) (.fld (.slice Y484d) .unit)) x10))) true, .row Y8f72 x11 true, .box (.arr 32 (.int .u8)) (.v (.arr 32 (.int .u8)) x12) false], 62, 0⟩
def affiantkeep_Forged_1_ex (o : List Int × Int × Int × (Tf0bc) × Unit × (Tf0bc) × ((List (T484d)) × (List (T484d)) × Unit) × (List (T8f72)) × B8) : Exit := (.exit 2)
def affiantkeep_Forged_1_st (o : List Int × Int × Int × (Tf0bc) × Unit × (Tf0bc) × ((List (T484d)) × (List (T484d)) × Unit) × (List (T8f72)) × B8) : St := ⟨[(1, (.v (.slice (.int .i64)) o.1)), (6, (.ptr 0 [])), (7, (.ptr 1 [])), (8, (.ptr 3 [])), (33, (.v (.int .i64) o.2.1)), (34, (.v (.int .i64) o.2.2.1))], [.box Yedcc (.node (.v Yf0bc o.2.2.2.1) (.node .nil (.node .nil (.node .nil (.v .unit o.2.2.2.2.1))))) true, .box Yedcc (.node (.v Yf0bc o.2.2.2.2.2.1) (.node (.own 2 []) (.v (.fld (.slice Y484d) (.fld (.slice Y484d) .unit)) o.2.2.2.2.2.2.1))) true, .row Y8f72 o.2.2.2.2.2.2.2.1 true, .box (.arr 32 (.int .u8)) (.v (.arr 32 (.int .u8)) o.2.2.2.2.2.2.2.2) false], 62, 0⟩
theorem affiantkeep_Forged_1_body (x0 : List Int) (x1 : Int) (x2 : Int) (x3 : Int) (x4 : List Int) (x5 : Int) (x6 : Int) (x7 : Tf0bc) (x8 : Unit) (x9 : Tf0bc) (x10 : (List (T484d)) × (List (T484d)) × Unit) (x11 : List (T8f72)) (x12 : B8) : ∀ r, affiantkeep_Forged_1_step x0 x1 x2 x3 x4 x5 x6 x7 x8 x9 x10 x11 x12 = some r → (match r with | .inl s => CodeOK prog (codeAt (bodyOf f25) [1, 1, 1, 1, 1, 0, 1, 0, 0, 1, 1, 0, 0, 1, 1, 0, 0]) (affiantkeep_Forged_1_in x0 x1 x2 x3 x4 x5 x6 x7 x8 x9 x10 x11 x12) .normal (affiantkeep_Forged_1_in x0 x1 x2 x3 x4 x5 s.1 x7 x8 x9 x10 s.2 x12) | .inr o => affiantkeep_Forged_1_ex o ≠ .normal ∧ CodeOK prog (codeAt (bodyOf f25) [1, 1, 1, 1, 1, 0, 1, 0, 0, 1, 1, 0, 0, 1, 1, 0, 0]) (affiantkeep_Forged_1_in x0 x1 x2 x3 x4 x5 x6 x7 x8 x9 x10 x11 x12) (affiantkeep_Forged_1_ex o) (affiantkeep_Forged_1_st o)) := by
 intro r h
 unfold affiantkeep_Forged_1_step at h
 rcases fork_some h with ⟨h10, h⟩ | ⟨h10, h⟩
 ·obtain ⟨h11, h⟩ := need_some h
  obtain ⟨u12, h13, h⟩ := andThen_some h
  rcases fork_some h with ⟨h14, h⟩ | ⟨h14, h⟩
  ·obtain ⟨u15, h16, h⟩ := andThen_some h
   obtain ⟨u17, h18, h⟩ := andThen_some h
   obtain ⟨h19, h⟩ := need_some h
   injection h with h; subst h
   exact env.code (its := [b1, .call [none, none, none] [] [] true (affiantbook_Within_R (List.getD x4 (Int.toNat x6) (0 : Int)) (0 : Int) (4 : Int) u12) (affiantbook_Within_O (List.getD x4 (Int.toNat x6) (0 : Int)) (0 : Int) (4 : Int) u12), b1, .pre p32, .asis, .call [none] [] [] true (affiantkeep_Seed_R x1 u15) (affiantkeep_Seed_O x1 u15), b0, .asis, .call [none, none, none] [] [] false (affiantref1_Sealed_R u15 x9.1 x12 u17) (affiantref1_Sealed_O u15 x9.1 x12 u17), .sel [1, 6, 7, 8, 9, 33, 34, 37, 38, 39] [0, 1, 2, 3]]) (.c h10 (.c h11 (.c (affiantbook_Within_ok (List.getD x4 (Int.toNat x6) (0 : Int)) (0 : Int) (4 : Int) u12 h13) (.c h14 (.c rn (.c (affiantkeep_Seed_ok x1 u15 h16) (.c rn (.c (affiantref1_Sealed_ok u15 x9.1 x12 u17 h18) (.c h19 .n))))))))) (by kernel_rfl)
  ·injection h with h; subst h
   exact env.code (its := [b1, .call [none, none, none] [] [] true (affiantbook_Within_R (List.getD x4 (Int.toNat x6) (0 : Int)) (0 : Int) (4 : Int) u12) (affiantbook_Within_O (List.getD x4 (Int.toNat x6) (0 : Int)) (0 : Int) (4 : Int) u12), b0, .sel [1, 6, 7, 8, 9, 33, 34, 37, 38, 39] [0, 1, 2, 3]]) (.c h10 (.c h11 (.c (affiantbook_Within_ok (List.getD x4 (Int.toNat x6) (0 : Int)) (0 : Int) (4 : Int) u12 h13) (.c h14 .n)))) (by kernel_rfl)
 ·injection h with h; subst h
  exact ⟨by intro e; simp [affiantkeep_Forged_1_ex] at e, env.code (its := [b0, .sel [1, 6, 7, 8, 33, 34] [0, 1, 2, 3]]) (.c h10 .n) (by kernel_rfl)⟩
theorem affiantkeep_Forged_1_ok (x0 : List Int) (x1 : Int) (x2 : Int) (x3 : Int) (x4 : List Int) (x5 : Int) (x6 : Int) (x7 : Tf0bc) (x8 : Unit) (x9 : Tf0bc) (x10 : (List (T484d)) × (List (T484d)) × Unit) (x11 : List (T8f72)) (x12 : B8) (o : List Int × Int × Int × (Tf0bc) × Unit × (Tf0bc) × ((List (T484d)) × (List (T484d)) × Unit) × (List (T8f72)) × B8) (h : affiantkeep_Forged_1 x0 x1 x2 x3 x4 x5 x6 x7 x8 x9 x10 x11 x12 = some o) : CodeOK prog (codeAt (bodyOf f25) [1, 1, 1, 1, 1, 0, 1, 0, 0, 1, 1, 0, 0, 1, 1, 0]) (affiantkeep_Forged_1_in x0 x1 x2 x3 x4 x5 x6 x7 x8 x9 x10 x11 x12) (affiantkeep_Forged_1_ex o) (affiantkeep_Forged_1_st o) :=
 LoopOK.of_step (st := fun s => affiantkeep_Forged_1_in x0 x1 x2 x3 x4 x5 s.1 x7 x8 x9 x10 s.2 x12) (ex := affiantkeep_Forged_1_ex) (stO := affiantkeep_Forged_1_st) (fun s s2 hs => affiantkeep_Forged_1_body x0 x1 x2 x3 x4 x5 s.1 x7 x8 x9 x10 s.2 x12 (.inl s2) hs) (fun s r hs => affiantkeep_Forged_1_body x0 x1 x2 x3 x4 x5 s.1 x7 x8 x9 x10 s.2 x12 (.inr r) hs) _ o h
def affiantkeep_Forged_2_in (x0 : List Int) (x1 : Int) (x2 : Int) (x3 : Tf0bc) (x4 : Unit) (x5 : Tf0bc) (x6 : (List (T484d)) × (List (T484d)) × Unit) (x7 : List (T8f72)) (x8 : B8) : St := ⟨[(1, (.v (.slice (.int .i64)) x0)), (6, (.ptr 0 [])), (7, (.ptr 1 [])), (8, (.ptr 3 [])), (33, (.v (.int .i64) x1)), (34, (.v (.int .i64) x2))], [.box Yedcc (.node (.v Yf0bc x3) (.node .nil (.node .nil (.node .nil (.v .unit x4))))) true, .box Yedcc (.node (.v Yf0bc x5) (.node (.own 2 []) (.v (.fld (.slice Y484d) (.fld (.slice Y484d) .unit)) x6))) true, .row Y8f72 x7 true, .box (.arr 32 (.int .u8)) (.v (.arr 32 (.int .u8)) x8) false], 62, 0⟩
def affiantkeep_Forged_2_ex (o : (Tf0bc) × Unit × (Tf0bc) × ((List (T484d)) × (List (T484d)) × Unit) × List (T8f72)) : Exit := (.exit 0)
def affiantkeep_Forged_2_st (o : (Tf0bc) × Unit × (Tf0bc) × ((List (T484d)) × (List (T484d)) × Unit) × List (T8f72)) : St := ⟨[(6, (.ptr 0 [])), (7, (.ptr 1 []))], [.box Yedcc (.node (.v Yf0bc o.1) (.node .nil (.node .nil (.node .nil (.v .unit o.2.1))))) true, .box Yedcc (.node (.v Yf0bc o.2.2.1) (.node (.own 2 []) (.v (.fld (.slice Y484d) (.fld (.slice Y484d) .unit)) o.2.2.2.1))) true, .row Y8f72 o.2.2.2.2 true], 62, 0⟩
theorem affiantkeep_Forged_2_body (x0 : List Int) (x1 : Int) (x2 : Int) (x3 : Tf0bc) (x4 : Unit) (x5 : Tf0bc) (x6 : (List (T484d)) × (List (T484d)) × Unit) (x7 : List (T8f72)) (x8 : B8) : ∀ r, affiantkeep_Forged_2_step x0 x1 x2 x3 x4 x5 x6 x7 x8 = some r → (match r with | .inl s => CodeOK prog (codeAt (bodyOf f25) [1, 1, 1, 1, 1, 0, 1, 0, 0]) (affiantkeep_Forged_2_in x0 x1 x2 x3 x4 x5 x6 x7 x8) .normal (affiantkeep_Forged_2_in s.1 s.2.1 s.2.2.1 s.2.2.2.1 s.2.2.2.2.1 s.2.2.2.2.2.1 s.2.2.2.2.2.2.1 s.2.2.2.2.2.2.2.1 s.2.2.2.2.2.2.2.2) | .inr o => affiantkeep_Forged_2_ex o ≠ .normal ∧ CodeOK prog (codeAt (bodyOf f25) [1, 1, 1, 1, 1, 0, 1, 0, 0]) (affiantkeep_Forged_2_in x0 x1 x2 x3 x4 x5 x6 x7 x8) (affiantkeep_Forged_2_ex o) (affiantkeep_Forged_2_st o)) := by
 intro r h
 unfold affiantkeep_Forged_2_step at h
 rcases fork_some h with ⟨h8, h⟩ | ⟨h8, h⟩
 ·obtain ⟨o20, h21, h⟩ := andThen_some h
  injection h with h; subst h
  exact env.code (its := [b1, .dive, .dive, .sel [1, 6, 7, 8, 9, 33, 34, 37, 38, 39] [0, 1, 2, 3], .part (affiantkeep_Forged_1_ex o20) (affiantkeep_Forged_1_st o20), .sel [1, 6, 7, 8, 33, 34] [0, 1, 2, 3]]) (.c h8 (.c (affiantkeep_Forged_1_ok x0 x2 x1 x2 x0 (List.length x0 : Int) (0 : Int) x3 x4 x5 x6 x7 x8 o20 h21) .n)) (by kernel_rfl)
 ·injection h with h; subst h
  exact ⟨by intro e; simp [affiantkeep_Forged_2_ex] at e, env.code (its := [b0, .sel [6, 7] [0, 1, 2]]) (.c h8 .n) (by kernel_rfl)⟩
theorem affiantkeep_Forged_2_ok (x0 : List Int) (x1 : Int) (x2 : Int) (x3 : Tf0bc) (x4 : Unit) (x5 : Tf0bc) (x6 : (List (T484d)) × (List (T484d)) × Unit) (x7 : List (T8f72)) (x8 : B8) (o : (Tf0bc) × Unit × (Tf0bc) × ((List (T484d)) × (List (T484d)) × Unit) × List (T8f72)) (h : affiantkeep_Forged_2 x0 x1 x2 x3 x4 x5 x6 x7 x8 = some o) : CodeOK prog (codeAt (bodyOf f25) [1, 1, 1, 1, 1, 0, 1, 0]) (affiantkeep_Forged_2_in x0 x1 x2 x3 x4 x5 x6 x7 x8) (affiantkeep_Forged_2_ex o) (affiantkeep_Forged_2_st o) :=
 LoopOK.of_step (st := fun s => affiantkeep_Forged_2_in s.1 s.2.1 s.2.2.1 s.2.2.2.1 s.2.2.2.2.1 s.2.2.2.2.2.1 s.2.2.2.2.2.2.1 s.2.2.2.2.2.2.2.1 s.2.2.2.2.2.2.2.2) (ex := affiantkeep_Forged_2_ex) (stO := affiantkeep_Forged_2_st) (fun s s2 hs => affiantkeep_Forged_2_body s.1 s.2.1 s.2.2.1 s.2.2.2.1 s.2.2.2.2.1 s.2.2.2.2.2.1 s.2.2.2.2.2.2.1 s.2.2.2.2.2.2.2.1 s.2.2.2.2.2.2.2.2 (.inl s2) hs) (fun s r hs => affiantkeep_Forged_2_body s.1 s.2.1 s.2.2.1 s.2.2.2.1 s.2.2.2.2.1 s.2.2.2.2.2.1 s.2.2.2.2.2.2.1 s.2.2.2.2.2.2.2.1 s.2.2.2.2.2.2.2.2 (.inr r) hs) _ o h
def affiantkeep_Forged_R (a0 : Tedcc) (a1 : List Int) (a2 : Int) (u : Tedcc) : Slot := (.v Yedcc u)
def affiantkeep_Forged_O (a0 : Tedcc) (a1 : List Int) (a2 : Int) (u : Tedcc) : List AObj := []
theorem affiantkeep_Forged_ok (a0 : Tedcc) (a1 : List Int) (a2 : Int) (u : Tedcc) (h : affiantkeep_Forged a0 a1 a2 = some u) : CallC prog 25 [(.v Yedcc a0), (.v (.slice (.int .i64)) a1), (.v (.int .i64) a2)] [] (affiantkeep_Forged_R a0 a1 a2 u) (affiantkeep_Forged_O a0 a1 a2 u) := by
 unfold affiantkeep_Forged at h
 obtain ⟨u1, h2, h⟩ := andThen_some h
 obtain ⟨h3, h⟩ := need_some h
 obtain ⟨u4, h5, h⟩ := andThen_some h
 obtain ⟨h6, h⟩ := need_some h
 obtain ⟨o22, h23, h⟩ := andThen_some h
 injection h with h; subst h
 exact env.fun func25 can25 (its := [.call [none, none, none] [] [] true (affiantbook_Within_R a2 (0 : Int) (31 : Int) u1) (affiantbook_Within_O a2 (0 : Int) (31 : Int) u1), .call [none] [] [] true (affiantref10_HeaderHash_R (a0.1.1, a0.1.2.1, (List.set a0.1.2.2.1 (Int.toNat u1) ((List.getD a0.1.2.2.1 (Int.toNat u1) (0 : UInt8)) ^^^ (1 : UInt8))), a0.1.2.2.2.1, a0.1.2.2.2.2.1, a0.1.2.2.2.2.2.1, ()) u4) (affiantref10_HeaderHash_O (a0.1.1, a0.1.2.1, (List.set a0.1.2.2.1 (Int.toNat u1) ((List.getD a0.1.2.2.1 (Int.toNat u1) (0 : UInt8)) ^^^ (1 : UInt8))), a0.1.2.2.2.1, a0.1.2.2.2.2.1, a0.1.2.2.2.2.2.1, ()) u4), .dive, .freeze [3], .sel [1, 6, 7, 8, 33, 34] [1, 2, 5, 3], .part (affiantkeep_Forged_2_ex o22) (affiantkeep_Forged_2_st o22)]) (pos := [.sel []]) (.c (affiantbook_Within_ok a2 (0 : Int) (31 : Int) u1 h2) (.c h3 (.c h3 (.c (affiantref10_HeaderHash_ok (a0.1.1, a0.1.2.1, (List.set a0.1.2.2.1 (Int.toNat u1) ((List.getD a0.1.2.2.1 (Int.toNat u1) (0 : UInt8)) ^^^ (1 : UInt8))), a0.1.2.2.2.1, a0.1.2.2.2.2.1, a0.1.2.2.2.2.2.1, ()) u4 h5) (.c h6 (.c (affiantkeep_Forged_2_ok a1 (List.length (([] : List (T8f72)) ++ a0.2.1) : Int) (0 : Int) Zf0bc (()) (a0.1.1, a0.1.2.1, (List.set a0.1.2.2.1 (Int.toNat u1) ((List.getD a0.1.2.2.1 (Int.toNat u1) (0 : UInt8)) ^^^ (1 : UInt8))), a0.1.2.2.2.1, a0.1.2.2.2.2.1, a0.1.2.2.2.2.2.1, ()) (a0.2.2.1, a0.2.2.2.1, ()) (([] : List (T8f72)) ++ a0.2.1) u4 o22 h23) .n)))))) (by kernel_rfl)
theorem can33 : Callable prog 33 := ⟨_, func33, by kernel_rfl, by kernel_rfl⟩
def light_Client_Latest_265a_R (a0 : T65da) (u : Tf0bc) : Slot := (.v Yf0bc u)
def light_Client_Latest_265a_O (a0 : T65da) (u : Tf0bc) : List AObj := [.box Y65da (.v Y65da a0) true]
theorem light_Client_Latest_265a_ok (a0 : T65da) (u : Tf0bc) (h : light_Client_Latest_265a a0 = some u) : CallC prog 33 [(.ptr 0 [])] [.box Y65da (.v Y65da a0) true] (light_Client_Latest_265a_R a0 u) (light_Client_Latest_265a_O a0 u) := by
 unfold light_Client_Latest_265a at h
 obtain ⟨h1, h⟩ := need_some h
 injection h with h; subst h
 exact env.fun func33 can33 (its := [.pre p33]) (pos := [.sel [0]]) (.c h1 .n) (by kernel_rfl)
theorem can57 : Callable prog 57 := ⟨_, func57, by kernel_rfl, by kernel_rfl⟩
def light_Whole_R (a0 : Tedcc) (u : Bool) : Slot := (.v .bool u)
def light_Whole_O (a0 : Tedcc) (u : Bool) : List AObj := []
theorem light_Whole_ok (a0 : Tedcc) (u : Bool) (h : light_Whole a0 = some u) : CallC prog 57 [(.v Yedcc a0)] [] (light_Whole_R a0 u) (light_Whole_O a0 u) := by
 unfold light_Whole at h
 obtain ⟨u1, h2, h⟩ := andThen_some h
 rcases fork_some h with ⟨h3, h⟩ | ⟨h3, h⟩
 ·obtain ⟨u4, h5, h⟩ := andThen_some h
  rcases fork_some h with ⟨h6, h⟩ | ⟨h6, h⟩
  ·obtain ⟨u7, h8, h⟩ := andThen_some h
   rcases fork_some h with ⟨h9, h⟩ | ⟨h9, h⟩
   ·rcases fork_some h with ⟨h10, h⟩ | ⟨h10, h⟩
    ·obtain ⟨u11, h12, h⟩ := andThen_some h
     rcases fork_some h with ⟨h13, h⟩ | ⟨h13, h⟩
     ·obtain ⟨u14, h15, h⟩ := andThen_some h
      injection h with h; subst h
      exact env.fun func57 can57 (its := [.pre p34, .asis, .call [none] [] [] true (head_Right_R a0.1 u1) (head_Right_O a0.1 u1), b1, b1, b1, .asis, .call [none] [] [] true (vals_Right_R a0.2.2.1 u4) (vals_Right_O a0.2.2.1 u4), b1, b1, b1, b1, .asis, .call [none] [] [] true (vals_Right_R a0.2.2.2.1 u7) (vals_Right_O a0.2.2.2.1 u7), b1, b1, b1, b1, b1, b1, b1, b1, b1, .asis, .call [none] [] [] true (vals_Hash_R a0.2.2.1 u11) (vals_Hash_O a0.2.2.1 u11), b1, b1, b1, b1, b1, b1, b1, b1, .asis, .call [none] [] [] true (vals_Hash_R a0.2.2.2.1 u14) (vals_Hash_O a0.2.2.2.1 u14), b1, b1, b1, b1, b1]) (pos := [.sel []]) (.c rn (.c (head_Right_ok a0.1 u1 h2) (.c h3 (.c h3 (.c h3 (.c rn (.c (vals_Right_ok a0.2.2.1 u4 h5) (.c h3 (.c h6 (.c h6 (.c h6 (.c rn (.c (vals_Right_ok a0.2.2.2.1 u7 h8) (.c h6 (.c h9 (.c h9 (.c h9 (.c h9 (.c h9 (.c h10 (.c h10 (.c h10 (.c rn (.c (vals_Hash_ok a0.2.2.1 u11 h12) (.c h10 (.c h10 (.c h10 (.c h10 (.c h10 (.c h13 (.c h13 (.c h13 (.c rn (.c (vals_Hash_ok a0.2.2.2.1 u14 h15) (.c h13 (.c h13 (.c h13 (.c h13 (.c h13 .n))))))))))))))))))))))))))))))))))))))) (by kernel_rfl)
     ·injection h with h; subst h
      exact env.fun func57 can57 (its := [.pre p34, .asis, .call [none] [] [] true (head_Right_R a0.1 u1) (head_Right_O a0.1 u1), b1, b1, b1, .asis, .call [none] [] [] true (vals_Right_R a0.2.2.1 u4) (vals_Right_O a0.2.2.1 u4), b1, b1, b1, b1, .asis, .call [none] [] [] true (vals_Right_R a0.2.2.2.1 u7) (vals_Right_O a0.2.2.2.1 u7), b1, b1, b1, b1, b1, b1, b1, b1, b1, .asis, .call [none] [] [] true (vals_Hash_R a0.2.2.1 u11) (vals_Hash_O a0.2.2.1 u11), b1, b1, b1, b1, b1, b0, b0, b0, b0, b0, b0, b0, b0]) (pos := [.sel []]) (.c rn (.c (head_Right_ok a0.1 u1 h2) (.c h3 (.c h3 (.c h3 (.c rn (.c (vals_Right_ok a0.2.2.1 u4 h5) (.c h3 (.c h6 (.c h6 (.c h6 (.c rn (.c (vals_Right_ok a0.2.2.2.1 u7 h8) (.c h6 (.c h9 (.c h9 (.c h9 (.c h9 (.c h9 (.c h10 (.c h10 (.c h10 (.c rn (.c (vals_Hash_ok a0.2.2.1 u11 h12) (.c h10 (.c h10 (.c h10 (.c h10 (.c h10 (.c h13 (.c h13 (.c h13 (.c h13 (.c h13 (.c h13 (.c h13 (.c h13 .n))))))))))))))))))))))))))))))))))))) (by kernel_rfl)
    ·injection h with h; subst h
     exact env.fun func57 can57 (its := [.pre p34, .asis, .call [none] [] [] true (head_Right_R a0.1 u1) (head_Right_O a0.1 u1), b1, b1, b1, .asis, .call [none] [] [] true (vals_Right_R a0.2.2.1 u4) (vals_Right_O a0.2.2.1 u4), b1, b1, b1, b1, .asis, .call [none] [] [] true (vals_Right_R a0.2.2.2.1 u7) (vals_Right_O a0.2.2.2.1 u7), b1, b1, b1, b1, b1, b1, b0, b0, b0, b0, b0, b0, b0, b0, b0, b0, b0, b0, b0, b0, b0, b0]) (pos := [.sel []]) (.c rn (.c (head_Right_ok a0.1 u1 h2) (.c h3 (.c h3 (.c h3 (.c rn (.c (vals_Right_ok a0.2.2.1 u4 h5) (.c h3 (.c h6 (.c h6 (.c h6 (.c rn (.c (vals_Right_ok a0.2.2.2.1 u7 h8) (.c h6 (.c h9 (.c h9 (.c h9 (.c h9 (.c h9 (.c h10 (.c h10 (.c h10 (.c h10 (.c h10 (.c h10 (.c h10 (.c h10 (.c r0 (.c r0 (.c r0 (.c r0 (.c r0 (.c r0 (.c r0 (.c r0 .n))))))))))))))))))))))))))))))))))) (by kernel_rfl)
   ·injection h with h; subst h
    exact env.fun func57 can57 (its := [.pre p34, .asis, .call [none] [] [] true (head_Right_R a0.1 u1) (head_Right_O a0.1 u1), b1, b1, b1, .asis, .call [none] [] [] true (vals_Right_R a0.2.2.1 u4) (vals_Right_O a0.2.2.1 u4), b1, b1, b1, b1, .asis, .call [none] [] [] true (vals_Right_R a0.2.2.2.1 u7) (vals_Right_O a0.2.2.2.1 u7), b1, b0, b0, b0, b0, b0, b0, b0, b0, b0, b0, b0, b0, b0, b0, b0, b0, b0, b0, b0, b0, b0]) (pos := [.sel []]) (.c rn (.c (head_Right_ok a0.1 u1 h2) (.c h3 (.c h3 (.c h3 (.c rn (.c (vals_Right_ok a0.2.2.1 u4 h5) (.c h3 (.c h6 (.c h6 (.c h6 (.c rn (.c (vals_Right_ok a0.2.2.2.1 u7 h8) (.c h6 (.c h9 (.c h9 (.c h9 (.c h9 (.c h9 (.c r0 (.c r0 (.c r0 (.c r0 (.c r0 (.c r0 (.c r0 (.c r0 (.c r0 (.c r0 (.c r0 (.c r0 (.c r0 (.c r0 (.c r0 (.c r0 .n))))))))))))))))))))))))))))))))))) (by kernel_rfl)
  ·injection h with h; subst h
   exact env.fun func57 can57 (its := [.pre p34, .asis, .call [none] [] [] true (head_Right_R a0.1 u1) (head_Right_O a0.1 u1), b1, b1, b1, .asis, .call [none] [] [] true (vals_Right_R a0.2.2.1 u4) (vals_Right_O a0.2.2.1 u4), b1, b0, b0, b0, b0, b0, b0, b0, b0, b0, b0, b0, b0, b0, b0, b0, b0, b0, b0, b0, b0, b0, b0, b0, b0, b0]) (pos := [.sel []]) (.c rn (.c (head_Right_ok a0.1 u1 h2) (.c h3 (.c h3 (.c h3 (.c rn (.c (vals_Right_ok a0.2.2.1 u4 h5) (.c h3 (.c h6 (.c h6 (.c h6 (.c h6 (.c r0 (.c r0 (.c r0 (.c r0 (.c r0 (.c r0 (.c r0 (.c r0 (.c r0 (.c r0 (.c r0 (.c r0 (.c r0 (.c r0 (.c r0 (.c r0 (.c r0 (.c r0 (.c r0 (.c r0 (.c r0 .n))))))))))))))))))))))))))))))))) (by kernel_rfl)
 ·injection h with h; subst h
  exact env.fun func57 can57 (its := [.pre p34, .asis, .call [none] [] [] true (head_Right_R a0.1 u1) (head_Right_O a0.1 u1), b0, b0, b0, b0, b0, b0, b0, b0, b0, b0, b0, b0, b0, b0, b0, b0, b0, b0, b0, b0, b0, b0, b0, b0, b0, b0, b0, b0, b0]) (pos := [.sel []]) (.c rn (.c (head_Right_ok a0.1 u1 h2) (.c h3 (.c h3 (.c h3 (.c h3 (.c r0 (.c r0 (.c r0 (.c r0 (.c r0 (.c r0 (.c r0 (.c r0 (.c r0 (.c r0 (.c r0 (.c r0 (.c r0 (.c r0 (.c r0 (.c r0 (.c r0 (.c r0 (.c r0 (.c r0 (.c r0 (.c r0 (.c r0 (.c r0 (.c r0 .n))))))))))))))))))))))))))))))) (by kernel_rfl)
theorem can32 : Callable prog 32 := ⟨_, func32, by kernel_rfl, by kernel_rfl⟩
def light_Client_Expired_890f_R (a0 : Int) (a1 : T65da) (u : Bool) : Slot := (.v .bool u)
def light_Client_Expired_890f_O (a0 : Int) (a1 : T65da) (u : Bool) : List AObj := [.box Y65da (.v Y65da a1) true]
theorem light_Client_Expired_890f_ok (a0 : Int) (a1 : T65da) (u : Bool) (h : light_Client_Expired_890f a0 a1 = some u) : CallC prog 32 [(.ptr 0 []), (.v (.int .i64) a0)] [.box Y65da (.v Y65da a1) true] (light_Client_Expired_890f_R a0 a1 u) (light_Client_Expired_890f_O a0 a1 u) := by
 unfold light_Client_Expired_890f at h
 obtain ⟨u1, h2, h⟩ := andThen_some h
 injection h with h; subst h
 exact env.fun func32 can32 (its := [.pre p35, .asis, .call [none] [0] [] false (light_Client_Latest_265a_R a1 u1) (light_Client_Latest_265a_O a1 u1)]) (pos := [.sel [0]]) (.c (rfl : ([.box Y65da (.v Y65da a1) true] : List AObj) = [.box Y65da (.v Y65da a1) true]) (.c (light_Client_Latest_265a_ok a1 u1 h2) .n)) (by kernel_rfl)
theorem can20 : Callable prog 20 := ⟨_, func20, by kernel_rfl, by kernel_rfl⟩
def seal_Right_1_in (x0 : List (T8f72)) (x1 : Int) : St := ⟨[(0, (.v (.slice Y8f72) x0)), (3, (.v (.int .i64) x1))], [], 25, 0⟩
def seal_Right_1_ex (o : (Bool) ⊕ (List (T8f72))) : Exit := match o with | (.inl o) => .ret | (.inr o) => (.exit 0)
def seal_Right_1_st (o : (Bool) ⊕ (List (T8f72))) : St := match o with | (.inl o) => ⟨[(2, (.v .bool o))], [], 25, 0⟩ | (.inr o) => ⟨[(0, (.v (.slice Y8f72) o))], [], 25, 0⟩
theorem seal_Right_1_body (x0 : List (T8f72)) (x1 : Int) : ∀ r, seal_Right_1_step x0 x1 = some r → (match r with | .inl s => CodeOK prog (codeAt (bodyOf f20) [1, 0, 1, 0, 0]) (seal_Right_1_in x0 x1) .normal (seal_Right_1_in x0 s) | .inr o => seal_Right_1_ex o ≠ .normal ∧ CodeOK prog (codeAt (bodyOf f20) [1, 0, 1, 0, 0]) (seal_Right_1_in x0 x1) (seal_Right_1_ex o) (seal_Right_1_st o)) := by
 intro r h
 unfold seal_Right_1_step at h
 rcases fork_some h with ⟨h2, h⟩ | ⟨h2, h⟩
 ·obtain ⟨h3, h⟩ := need_some h
  obtain ⟨h4, h⟩ := need_some h
  rcases fork_some h with ⟨h5, h⟩ | ⟨h5, h⟩
  ·injection h with h; subst h
   exact ⟨by intro e; simp [seal_Right_1_ex] at e, env.code (its := [b1, .pre p36, b1, .sel [2] []]) (.c h2 (.c h3 (.c h4 (.c h5 .n)))) (by kernel_rfl)⟩
  ·injection h with h; subst h
   exact env.code (its := [b1, .pre p36, b0, .sel [0, 3] []]) (.c h2 (.c h3 (.c h4 (.c h5 .n)))) (by kernel_rfl)
 ·injection h with h; subst h
  exact ⟨by intro e; simp [seal_Right_1_ex] at e, env.code (its := [b0, .sel [0] []]) (.c h2 .n) (by kernel_rfl)⟩
theorem seal_Right_1_ok (x0 : List (T8f72)) (x1 : Int) (o : (Bool) ⊕ (List (T8f72))) (h : seal_Right_1 x0 x1 = some o) : CodeOK prog (codeAt (bodyOf f20) [1, 0, 1, 0]) (seal_Right_1_in x0 x1) (seal_Right_1_ex o) (seal_Right_1_st o) :=
 LoopOK.of_step (st := fun s => seal_Right_1_in x0 s) (ex := seal_Right_1_ex) (stO := seal_Right_1_st) (fun s s2 hs => seal_Right_1_body x0 s (.inl s2) hs) (fun s r hs => seal_Right_1_body x0 s (.inr r) hs) _ o h
def seal_Right_R (a0 : List (T8f72)) (u : Bool) : Slot := (.v .bool u)
def seal_Right_O (a0 : List (T8f72)) (u : Bool) : List AObj := []
theorem seal_Right_ok (a0 : List (T8f72)) (u : Bool) (h : seal_Right a0 = some u) : CallC prog 20 [(.v (.slice Y8f72) a0)] [] (seal_Right_R a0 u) (seal_Right_O a0 u) := by
 unfold seal_Right at h
 obtain ⟨o6, h7, h⟩ := andThen_some h
 rcases o6 with o8 | o9
 ·injection h with h; subst h
  exact env.fun func20 can20 (its := [.dive, .sel [0, 3] [], .part (seal_Right_1_ex (.inl o8)) (seal_Right_1_st (.inl o8))]) (pos := [.sel []]) (.c (seal_Right_1_ok a0 (1 : Int) (.inl o8) h7) .n) (by kernel_rfl)
 ·injection h with h; subst h
  exact env.fun func20 can20 (its := [.dive, .sel [0, 3] [], .part (seal_Right_1_ex (.inr o9)) (seal_Right_1_st (.inr o9))]) (pos := [.sel []]) (.c (seal_Right_1_ok a0 (1 : Int) (.inr o9) h7) .n) (by kernel_rfl)
theorem can100 : Callable prog 100 := ⟨_, func100, by kernel_rfl, by kernel_rfl⟩
def head_Bytes_R (a0 : Tf0bc) (u : B8) : Slot := (.own 0 [])
def head_Bytes_O (a0 : Tf0bc) (u : B8) : List AObj := [.row (.int .u8) u true]
theorem head_Bytes_ok (a0 : Tf0bc) (u : B8) (h : head_Bytes a0 = some u) : CallC prog 100 [(.v Yf0bc a0)] [] (head_Bytes_R a0 u) (head_Bytes_O a0 u) := by
 unfold head_Bytes at h
 obtain ⟨u1, h2, h⟩ := andThen_some h
 rcases fork_some h with ⟨h3, h⟩ | ⟨h3, h⟩
 ·injection h with h; subst h
  exact env.fun func100 can100 (its := [.call [none] [] [] true (head_Right_R a0 u1) (head_Right_O a0 u1), b1]) (pos := [.promote (.int .u8), .sel [1]]) (.c (head_Right_ok a0 u1 h2) (.c h3 .n)) (by kernel_rfl)
 ·obtain ⟨u4, h5, h⟩ := andThen_some h
  obtain ⟨u6, h7, h⟩ := andThen_some h
  obtain ⟨h8, h⟩ := need_some h
  injection h with h; subst h
  exact env.fun func100 can100 (its := [.call [none] [] [] true (head_Right_R a0 u1) (head_Right_O a0 u1), b0, .pre p37, .call [none] [] [0] true (vint_Put_R ([a0.1, a0.2.1] : List (Int)) u4) (vint_Put_O ([a0.1, a0.2.1] : List (Int)) u4), .call [none] [] [0] true (vint_Hash_R ([a0.2.2.1, a0.2.2.2.1, a0.2.2.2.2.1, a0.2.2.2.2.2.1] : List (B8)) u6) (vint_Hash_O ([a0.2.2.1, a0.2.2.2.1, a0.2.2.2.2.1, a0.2.2.2.2.2.1] : List (B8)) u6)]) (pos := [.sel [5]]) (.c (head_Right_ok a0 u1 h2) (.c h3 (.c (vint_Put_ok ([a0.1, a0.2.1] : List (Int)) u4 h5) (.c (vint_Hash_ok ([a0.2.2.1, a0.2.2.2.1, a0.2.2.2.2.1, a0.2.2.2.2.2.1] : List (B8)) u6 h7) (.c h8 .n))))) (by kernel_rfl)
theorem can71 : Callable prog 71 := ⟨_, func71, by kernel_rfl, by kernel_rfl⟩
def head_Hash_R (a0 : Tf0bc) (u : B8) : Slot := (.v (.arr 32 (.int .u8)) u)
def head_Hash_O (a0 : Tf0bc) (u : B8) : List AObj := []
theorem head_Hash_ok (a0 : Tf0bc) (u : B8) (h : head_Hash a0 = some u) : CallC prog 71 [(.v Yf0bc a0)] [] (head_Hash_R a0 u) (head_Hash_O a0 u) := by
 unfold head_Hash at h
 obtain ⟨u1, h2, h⟩ := andThen_some h
 obtain ⟨u3, h4, h⟩ := andThen_some h
 injection h with h; subst h
 exact env.fun func71 can71 (its := [.call [none] [] [] true (head_Bytes_R a0 u1) (head_Bytes_O a0 u1), .call [none, none] [] [3] true (sha_Tagged_R (72 : UInt8) ([u1] : List (B8)) u3) (sha_Tagged_O (72 : UInt8) ([u1] : List (B8)) u3)]) (pos := [.sel []]) (.c (head_Bytes_ok a0 u1 h2) (.c (sha_Tagged_ok (72 : UInt8) ([u1] : List (B8)) u3 h4) .n)) (by kernel_rfl)
theorem can43 : Callable prog 43 := ⟨_, func43, by kernel_rfl, by kernel_rfl⟩
def seal_text_R (a0 : Tf0bc) (u : B8) : Slot := (.own 0 [])
def seal_text_O (a0 : Tf0bc) (u : B8) : List AObj := [.box (.arr 32 (.int .u8)) (.v (.arr 32 (.int .u8)) u) true]
theorem seal_text_ok (a0 : Tf0bc) (u : B8) (h : seal_text a0 = some u) : CallC prog 43 [(.v Yf0bc a0)] [] (seal_text_R a0 u) (seal_text_O a0 u) := by
 unfold seal_text at h
 obtain ⟨u1, h2, h⟩ := andThen_some h
 injection h with h; subst h
 exact env.fun func43 can43 (its := [.call [none] [] [] true (head_Hash_R a0 u1) (head_Hash_O a0 u1), b1]) (pos := [.sel [1]]) (.c (head_Hash_ok a0 u1 h2) .n) (by kernel_rfl)
theorem can44 : Callable prog 44 := ⟨_, func44, by kernel_rfl, by kernel_rfl⟩
def vals_Find_1_in (x0 : B8) (x1 : List (T484d)) (x2 : Int) (x3 : Int) (x4 : T484d) : St := ⟨[(1, (.v .str x0)), (4, (.ptr 0 [])), (8, (.v (.slice Y484d) x1)), (9, (.v (.int .i64) x2)), (10, (.v (.int .i64) x3))], [.box Y484d (.v Y484d x4) true], 21, 0⟩
def vals_Find_1_ex (o : (Bool × T484d) ⊕ (T484d)) : Exit := match o with | (.inl o) => .ret | (.inr o) => (.exit 0)
def vals_Find_1_st (o : (Bool × T484d) ⊕ (T484d)) : St := match o with | (.inl o) => ⟨[(4, (.ptr 0 [])), (5, (.v .bool o.1))], [.box Y484d (.v Y484d o.2) true], 21, 0⟩ | (.inr o) => ⟨[(4, (.ptr 0 []))], [.box Y484d (.v Y484d o) true], 21, 0⟩
theorem vals_Find_1_body (x0 : B8) (x1 : List (T484d)) (x2 : Int) (x3 : Int) (x4 : T484d) : ∀ r, vals_Find_1_step x0 x1 x2 x3 x4 = some r → (match r with | .inl s => CodeOK prog (codeAt (bodyOf f44) [1, 0, 1, 0, 0]) (vals_Find_1_in x0 x1 x2 x3 x4) .normal (vals_Find_1_in x0 x1 x2 s x4) | .inr o => vals_Find_1_ex o ≠ .normal ∧ CodeOK prog (codeAt (bodyOf f44) [1, 0, 1, 0, 0]) (vals_Find_1_in x0 x1 x2 x3 x4) (vals_Find_1_ex o) (vals_Find_1_st o)) := by
 intro r h
 unfold vals_Find_1_step at h
 rcases fork_some h with ⟨h2, h⟩ | ⟨h2, h⟩
 ·obtain ⟨h3, h⟩ := need_some h
  rcases fork_some h with ⟨h4, h⟩ | ⟨h4, h⟩
  ·injection h with h; subst h
   exact ⟨by intro e; simp [vals_Find_1_ex] at e, env.code (its := [b1, b1, .sel [4, 5] [0]]) (.c h2 (.c h3 (.c h4 .n))) (by kernel_rfl)⟩
  ·injection h with h; subst h
   exact env.code (its := [b1, b0, .sel [1, 4, 8, 9, 10] [0]]) (.c h2 (.c h3 (.c h4 .n))) (by kernel_rfl)
 ·injection h with h; subst h
  exact ⟨by intro e; simp [vals_Find_1_ex] at e, env.code (its := [b0, .sel [4] [0]]) (.c h2 .n) (by kernel_rfl)⟩
theorem vals_Find_1_ok (x0 : B8) (x1 : List (T484d)) (x2 : Int) (x3 : Int) (x4 : T484d) (o : (Bool × T484d) ⊕ (T484d)) (h : vals_Find_1 x0 x1 x2 x3 x4 = some o) : CodeOK prog (codeAt (bodyOf f44) [1, 0, 1, 0]) (vals_Find_1_in x0 x1 x2 x3 x4) (vals_Find_1_ex o) (vals_Find_1_st o) :=
 LoopOK.of_step (st := fun s => vals_Find_1_in x0 x1 x2 s x4) (ex := vals_Find_1_ex) (stO := vals_Find_1_st) (fun s s2 hs => vals_Find_1_body x0 x1 x2 s x4 (.inl s2) hs) (fun s r hs => vals_Find_1_body x0 x1 x2 s x4 (.inr r) hs) _ o h
def vals_Find_R (a0 : List (T484d)) (a1 : B8) (u : (T484d) × Bool) : Slot := (.tup (.v Y484d u.1) (.tup (.v .bool u.2) .tnil))
def vals_Find_O (a0 : List (T484d)) (a1 : B8) (u : (T484d) × Bool) : List AObj := []
theorem vals_Find_ok (a0 : List (T484d)) (a1 : B8) (u : (T484d) × Bool) (h : vals_Find a0 a1 = some u) : CallC prog 44 [(.v (.slice Y484d) a0), (.v .str a1)] [] (vals_Find_R a0 a1 u) (vals_Find_O a0 a1 u) := by
 unfold vals_Find at h
 obtain ⟨o5, h6, h⟩ := andThen_some h
 rcases o5 with o7 | o8
 ·injection h with h; subst h
  exact env.fun func44 can44 (its := [.dive, .sel [1, 4, 8, 9, 10] [0], .part (vals_Find_1_ex (.inl o7)) (vals_Find_1_st (.inl o7))]) (pos := [.sel []]) (.c (vals_Find_1_ok a1 a0 (List.length a0 : Int) (0 : Int) Z484d (.inl o7) h6) .n) (by kernel_rfl)
 ·injection h with h; subst h
  exact env.fun func44 can44 (its := [.dive, .sel [1, 4, 8, 9, 10] [0], .part (vals_Find_1_ex (.inr o8)) (vals_Find_1_st (.inr o8))]) (pos := [.sel []]) (.c (vals_Find_1_ok a1 a0 (List.length a0 : Int) (0 : Int) Z484d (.inr o8) h6) .n) (by kernel_rfl)
theorem can72 : Callable prog 72 := ⟨_, func72, by kernel_rfl, by kernel_rfl⟩
def ring_is_R (a0 : Int) (u : Bool) : Slot := (.v .bool u)
def ring_is_O (a0 : Int) (u : Bool) : List AObj := []
theorem ring_is_ok (a0 : Int) (u : Bool) (h : ring_is a0 = some u) : CallC prog 72 [(.v (.int .i64) a0)] [] (ring_is_R a0 u) (ring_is_O a0 u) := by
 unfold ring_is at h
 rcases fork_some h with ⟨h1, h⟩ | ⟨h1, h⟩
 ·injection h with h; subst h
  exact env.fun func72 can72 (its := [b1, b1, b1]) (pos := [.sel []]) (.c h1 (.c h1 (.c h1 .n))) (by kernel_rfl)
 ·injection h with h; subst h
  exact env.fun func72 can72 (its := [b0, b0, b0]) (pos := [.sel []]) (.c h1 (.c h1 (.c h1 .n))) (by kernel_rfl)
theorem can101 : Callable prog 101 := ⟨_, func101, by kernel_rfl, by kernel_rfl⟩
def lam_bit_R (a0 : B8) (a1 : Int) (u : Int) : Slot := (.v (.int .i64) u)
def lam_bit_O (a0 : B8) (a1 : Int) (u : Int) : List AObj := []
theorem lam_bit_ok (a0 : B8) (a1 : Int) (u : Int) (h : lam_bit a0 a1 = some u) : CallC prog 101 [(.v (.arr 32 (.int .u8)) a0), (.v (.int .i64) a1)] [] (lam_bit_R a0 a1 u) (lam_bit_O a0 a1 u) := by
 unfold lam_bit at h
 obtain ⟨h1, h⟩ := need_some h
 obtain ⟨h2, h⟩ := need_some h
 injection h with h; subst h
 exact env.fun func101 can101 (its := []) (pos := [.sel []]) (.c (of_decide_eq_true (p := ((8 : Int) ≠ 0)) (by kernel_rfl)) (.c h1 (.c (of_decide_eq_true (p := ((8 : Int) ≠ 0)) (by kernel_rfl)) (.c h2 .n)))) (by kernel_rfl)
theorem can96 : Callable prog 96 := ⟨_, func96, by kernel_rfl, by kernel_rfl⟩
def lam_public_R (a0 : B8) (u : B8) : Slot := (.v (.arr 32 (.int .u8)) u)
def lam_public_O (a0 : B8) (u : B8) : List AObj := []
theorem lam_public_ok (a0 : B8) (u : B8) (h : lam_public a0 = some u) : CallC prog 96 [(.v (.arr 32 (.int .u8)) a0)] [] (lam_public_R a0 u) (lam_public_O a0 u) := by
 unfold lam_public at h
 obtain ⟨u1, h2, h⟩ := andThen_some h
 injection h with h; subst h
 exact env.fun func96 can96 (its := [b1, .call [none, none] [] [2] true (sha_Tagged_R (112 : UInt8) ([a0] : List (B8)) u1) (sha_Tagged_O (112 : UInt8) ([a0] : List (B8)) u1)]) (pos := [.sel []]) (.c (sha_Tagged_ok (112 : UInt8) ([a0] : List (B8)) u1 h2) .n) (by kernel_rfl)
theorem can98 : Callable prog 98 := ⟨_, func98, by kernel_rfl, by kernel_rfl⟩
def lam_key_1_in (x0 : List (B8)) (x1 : Int) (x2 : Int) (x3 : B8) (x4 : B8) : St := ⟨[(2, (.ptr 0 [])), (3, (.own 1 [])), (6, (.v (.slice (.arr 32 (.int .u8))) x0)), (7, (.v (.int .i64) x1)), (8, (.v (.int .i64) x2))], [.box (.arr 32 (.int .u8)) (.v (.arr 32 (.int .u8)) x3) true, .row (.int .u8) x4 true], 19, 0⟩
def lam_key_1_ex (o : B8 × B8) : Exit := (.exit 0)
def lam_key_1_st (o : B8 × B8) : St := ⟨[(2, (.ptr 0 [])), (3, (.own 1 []))], [.box (.arr 32 (.int .u8)) (.v (.arr 32 (.int .u8)) o.1) true, .row (.int .u8) o.2 true], 19, 0⟩
theorem lam_key_1_body (x0 : List (B8)) (x1 : Int) (x2 : Int) (x3 : B8) (x4 : B8) : ∀ r, lam_key_1_step x0 x1 x2 x3 x4 = some r → (match r with | .inl s => CodeOK prog (codeAt (bodyOf f98) [1, 1, 0, 1, 0, 0]) (lam_key_1_in x0 x1 x2 x3 x4) .normal (lam_key_1_in x0 x1 s.1 x3 s.2) | .inr o => lam_key_1_ex o ≠ .normal ∧ CodeOK prog (codeAt (bodyOf f98) [1, 1, 0, 1, 0, 0]) (lam_key_1_in x0 x1 x2 x3 x4) (lam_key_1_ex o) (lam_key_1_st o)) := by
 intro r h
 unfold lam_key_1_step at h
 rcases fork_some h with ⟨h2, h⟩ | ⟨h2, h⟩
 ·obtain ⟨h3, h⟩ := need_some h
  obtain ⟨h4, h⟩ := need_some h
  injection h with h; subst h
  exact env.code (its := [b1, b1, .sel [2, 3, 6, 7, 8] [0, 3]]) (.c h2 (.c h3 (.c h4 .n))) (by kernel_rfl)
 ·injection h with h; subst h
  exact ⟨by intro e; simp [lam_key_1_ex] at e, env.code (its := [b0, .sel [2, 3] [0, 1]]) (.c h2 .n) (by kernel_rfl)⟩
theorem lam_key_1_ok (x0 : List (B8)) (x1 : Int) (x2 : Int) (x3 : B8) (x4 : B8) (o : B8 × B8) (h : lam_key_1 x0 x1 x2 x3 x4 = some o) : CodeOK prog (codeAt (bodyOf f98) [1, 1, 0, 1, 0]) (lam_key_1_in x0 x1 x2 x3 x4) (lam_key_1_ex o) (lam_key_1_st o) :=
 LoopOK.of_step (st := fun s => lam_key_1_in x0 x1 s.1 x3 s.2) (ex := lam_key_1_ex) (stO := lam_key_1_st) (fun s s2 hs => lam_key_1_body x0 x1 s.1 x3 s.2 (.inl s2) hs) (fun s r hs => lam_key_1_body x0 x1 s.1 x3 s.2 (.inr r) hs) _ o h
def lam_key_R (a0 : List (B8)) (u : B8) : Slot := (.v (.arr 32 (.int .u8)) u)
def lam_key_O (a0 : List (B8)) (u : B8) : List AObj := []
theorem lam_key_ok (a0 : List (B8)) (u : B8) (h : lam_key a0 = some u) : CallC prog 98 [(.v (.slice (.arr 32 (.int .u8))) a0)] [] (lam_key_R a0 u) (lam_key_O a0 u) := by
 unfold lam_key at h
 obtain ⟨o5, h6, h⟩ := andThen_some h
 obtain ⟨u7, h8, h⟩ := andThen_some h
 injection h with h; subst h
 exact env.fun func98 can98 (its := [.dive, .promote 3 (.int .u8), .sel [2, 3, 6, 7, 8] [0, 1], .part (lam_key_1_ex o5) (lam_key_1_st o5), .call [none, none] [] [2] true (sha_Tagged_R (107 : UInt8) ([o5.2] : List (B8)) u7) (sha_Tagged_O (107 : UInt8) ([o5.2] : List (B8)) u7)]) (pos := [.sel []]) (.c (lam_key_1_ok a0 (List.length a0 : Int) (0 : Int) Z32 ([] : List (UInt8)) o5 h6) (.c (sha_Tagged_ok (107 : UInt8) ([o5.2] : List (B8)) u7 h8) .n)) (by kernel_rfl)
theorem can73 : Callable prog 73 := ⟨_, func73, by kernel_rfl, by kernel_rfl⟩
def lam_Who_1_in (x0 : Int) (x1 : T9c6e) (x2 : B8) (x3 : B8) (x4 : List (B8)) : St := ⟨[(3, (.ptr 0 [])), (4, (.ptr 1 [])), (6, (.ptr 2 [])), (7, (.own 3 [])), (25, (.v (.int .i64) x0))], [.box Y9c6e (.v Y9c6e x1) true, .box (.arr 32 (.int .u8)) (.v (.arr 32 (.int .u8)) x2) true, .box (.arr 32 (.int .u8)) (.v (.arr 32 (.int .u8)) x3) true, .row (.arr 32 (.int .u8)) x4 true], 58, 0⟩
def lam_Who_1_ex (o : B8 × List (B8)) : Exit := (.exit 0)
def lam_Who_1_st (o : B8 × List (B8)) : St := ⟨[(4, (.ptr 0 [])), (7, (.own 1 []))], [.box (.arr 32 (.int .u8)) (.v (.arr 32 (.int .u8)) o.1) true, .row (.arr 32 (.int .u8)) o.2 true], 58, 0⟩
theorem lam_Who_1_body (x0 : Int) (x1 : T9c6e) (x2 : B8) (x3 : B8) (x4 : List (B8)) : ∀ r, lam_Who_1_step x0 x1 x2 x3 x4 = some r → (match r with | .inl s => CodeOK prog (codeAt (bodyOf f73) [1, 1, 1, 1, 0, 1, 0, 0]) (lam_Who_1_in x0 x1 x2 x3 x4) .normal (lam_Who_1_in s.1 x1 x2 x3 s.2) | .inr o => lam_Who_1_ex o ≠ .normal ∧ CodeOK prog (codeAt (bodyOf f73) [1, 1, 1, 1, 0, 1, 0, 0]) (lam_Who_1_in x0 x1 x2 x3 x4) (lam_Who_1_ex o) (lam_Who_1_st o)) := by
 intro r h
 unfold lam_Who_1_step at h
 rcases fork_some h with ⟨h7, h⟩ | ⟨h7, h⟩
 ·obtain ⟨u8, h9, h⟩ := andThen_some h
  obtain ⟨h10, h⟩ := need_some h
  obtain ⟨u11, h12, h⟩ := andThen_some h
  obtain ⟨h13, h⟩ := need_some h
  obtain ⟨h14, h⟩ := need_some h
  obtain ⟨h15, h⟩ := need_some h
  injection h with h; subst h
  exact env.code (its := [b1, .call [none, none] [] [] true (lam_bit_R x3 x0 u8) (lam_bit_O x3 x0 u8), .pre p38, .asis, .call [none] [] [] true (lam_public_R (List.getD x1.1 (Int.toNat x0) Z32) u11) (lam_public_O (List.getD x1.1 (Int.toNat x0) Z32) u11), .sel [3, 4, 6, 7, 25] [0, 1, 2, 3]]) (.c h7 (.c (lam_bit_ok x3 x0 u8 h9) (.c h10 (.c rn (.c (lam_public_ok (List.getD x1.1 (Int.toNat x0) Z32) u11 h12) (.c h13 (.c h14 (.c h15 .n)))))))) (by kernel_rfl)
 ·injection h with h; subst h
  exact ⟨by intro e; simp [lam_Who_1_ex] at e, env.code (its := [b0, .sel [4, 7] [1, 3]]) (.c h7 .n) (by kernel_rfl)⟩
theorem lam_Who_1_ok (x0 : Int) (x1 : T9c6e) (x2 : B8) (x3 : B8) (x4 : List (B8)) (o : B8 × List (B8)) (h : lam_Who_1 x0 x1 x2 x3 x4 = some o) : CodeOK prog (codeAt (bodyOf f73) [1, 1, 1, 1, 0, 1, 0]) (lam_Who_1_in x0 x1 x2 x3 x4) (lam_Who_1_ex o) (lam_Who_1_st o) :=
 LoopOK.of_step (st := fun s => lam_Who_1_in s.1 x1 x2 x3 s.2) (ex := lam_Who_1_ex) (stO := lam_Who_1_st) (fun s s2 hs => lam_Who_1_body s.1 x1 x2 x3 s.2 (.inl s2) hs) (fun s r hs => lam_Who_1_body s.1 x1 x2 x3 s.2 (.inr r) hs) _ o h
def lam_Who_R (a0 : B8) (a1 : T9c6e) (u : B8 × Bool) : Slot := (.tup (.v (.arr 32 (.int .u8)) u.1) (.tup (.v .bool u.2) .tnil))
def lam_Who_O (a0 : B8) (a1 : T9c6e) (u : B8 × Bool) : List AObj := []
theorem lam_Who_ok (a0 : B8) (a1 : T9c6e) (u : B8 × Bool) (h : lam_Who a0 a1 = some u) : CallC prog 73 [(.v (.slice (.int .u8)) a0), (.v Y9c6e a1)] [] (lam_Who_R a0 a1 u) (lam_Who_O a0 a1 u) := by
 unfold lam_Who at h
 rcases fork_some h with ⟨h1, h⟩ | ⟨h1, h⟩
 ·injection h with h; subst h
  exact env.fun func73 can73 (its := [b1, b1, b1, b1, b1, b1]) (pos := [.sel []]) (.c h1 (.c h1 (.c h1 (.c h1 (.c h1 (.c r1 .n)))))) (by kernel_rfl)
 ·rcases fork_some h with ⟨h2, h⟩ | ⟨h2, h⟩
  ·injection h with h; subst h
   exact env.fun func73 can73 (its := [b0, b0, b0, b0, b0, b1]) (pos := [.sel []]) (.c h1 (.c h1 (.c h1 (.c h1 (.c h1 (.c h2 .n)))))) (by kernel_rfl)
  ·obtain ⟨u3, h4, h⟩ := andThen_some h
   obtain ⟨h5, h⟩ := need_some h
   obtain ⟨o16, h17, h⟩ := andThen_some h
   obtain ⟨u18, h19, h⟩ := andThen_some h
   injection h with h; subst h
   exact env.fun func73 can73 (its := [b0, b0, b0, b0, b0, b0, .call [none, none] [] [2] true (sha_Tagged_R (109 : UInt8) ([a0] : List (B8)) u3) (sha_Tagged_O (109 : UInt8) ([a0] : List (B8)) u3), .dive, .sel [3, 4, 6, 7, 25] [0, 1, 3, 4], .part (lam_Who_1_ex o16) (lam_Who_1_st o16), .call [none] [] [1] true (lam_key_R o16.2 u18) (lam_key_O o16.2 u18)]) (pos := [.sel []]) (.c h1 (.c h1 (.c h1 (.c h1 (.c h1 (.c h2 (.c (sha_Tagged_ok (109 : UInt8) ([a0] : List (B8)) u3 h4) (.c h5 (.c (lam_Who_1_ok (0 : Int) a1 Z32 u3 (List.replicate (Int.toNat (64 : Int)) Z32) o16 h17) (.c (lam_key_ok o16.2 u18 h19) .n)))))))))) (by kernel_rfl)
theorem can102 : Callable prog 102 := ⟨_, func102, by kernel_rfl, by kernel_rfl⟩
def tree_is_R (a0 : Int) (a1 : Int) (u : Bool) : Slot := (.v .bool u)
def tree_is_O (a0 : Int) (a1 : Int) (u : Bool) : List AObj := []
theorem tree_is_ok (a0 : Int) (a1 : Int) (u : Bool) (h : tree_is a0 a1 = some u) : CallC prog 102 [(.v (.int .i64) a0), (.v (.int .i64) a1)] [] (tree_is_R a0 a1 u) (tree_is_O a0 a1 u) := by
 unfold tree_is at h
 rcases fork_some h with ⟨h1, h⟩ | ⟨h1, h⟩
 ·rcases fork_some h with ⟨h2, h⟩ | ⟨h2, h⟩
  ·injection h with h; subst h
   exact env.fun func102 can102 (its := [b1, b1, b1, b1, b1, b1, b1]) (pos := [.sel []]) (.c h1 (.c h1 (.c h1 (.c h1 (.c h2 (.c h2 (.c h2 .n))))))) (by kernel_rfl)
  ·injection h with h; subst h
   exact env.fun func102 can102 (its := [b1, b1, b1, b1, b0, b0, b0]) (pos := [.sel []]) (.c h1 (.c h1 (.c h1 (.c h1 (.c h2 (.c h2 (.c h2 .n))))))) (by kernel_rfl)
 ·injection h with h; subst h
  exact env.fun func102 can102 (its := [b0, b0, b0, b0, b0, b0, b0]) (pos := [.sel []]) (.c h1 (.c h1 (.c h1 (.c h1 (.c r0 (.c r0 (.c r0 .n))))))) (by kernel_rfl)
theorem can115 : Callable prog 115 := ⟨_, func115, by kernel_rfl, by kernel_rfl⟩
def tree_left_1_in (x0 : Int) (x1 : Int) : St := ⟨[(0, (.v (.int .i64) x0)), (3, (.v (.int .i64) x1))], [], 11, 0⟩
def tree_left_1_ex (o : Int) : Exit := (.exit 0)
def tree_left_1_st (o : Int) : St := ⟨[(3, (.v (.int .i64) o))], [], 11, 0⟩
theorem tree_left_1_body (x0 : Int) (x1 : Int) : ∀ r, tree_left_1_step x0 x1 = some r → (match r with | .inl s => CodeOK prog (codeAt (bodyOf f115) [1, 1, 0, 0, 0]) (tree_left_1_in x0 x1) .normal (tree_left_1_in x0 s) | .inr o => tree_left_1_ex o ≠ .normal ∧ CodeOK prog (codeAt (bodyOf f115) [1, 1, 0, 0, 0]) (tree_left_1_in x0 x1) (tree_left_1_ex o) (tree_left_1_st o)) := by
 intro r h
 unfold tree_left_1_step at h
 rcases fork_some h with ⟨h2, h⟩ | ⟨h2, h⟩
 ·injection h with h; subst h
  exact env.code (its := [b1, .dive, .sel [0, 3] []]) (.c h2 .n) (by kernel_rfl)
 ·injection h with h; subst h
  exact ⟨by intro e; simp [tree_left_1_ex] at e, env.code (its := [b0, .sel [3] []]) (.c h2 .n) (by kernel_rfl)⟩
theorem tree_left_1_ok (x0 : Int) (x1 : Int) (o : Int) (h : tree_left_1 x0 x1 = some o) : CodeOK prog (codeAt (bodyOf f115) [1, 1, 0, 0]) (tree_left_1_in x0 x1) (tree_left_1_ex o) (tree_left_1_st o) :=
 LoopOK.of_step (st := fun s => tree_left_1_in x0 s) (ex := tree_left_1_ex) (stO := tree_left_1_st) (fun s s2 hs => tree_left_1_body x0 s (.inl s2) hs) (fun s r hs => tree_left_1_body x0 s (.inr r) hs) _ o h
def tree_left_R (a0 : Int) (u : Int) : Slot := (.v (.int .i64) u)
def tree_left_O (a0 : Int) (u : Int) : List AObj := []
theorem tree_left_ok (a0 : Int) (u : Int) (h : tree_left a0 = some u) : CallC prog 115 [(.v (.int .i64) a0)] [] (tree_left_R a0 u) (tree_left_O a0 u) := by
 unfold tree_left at h
 obtain ⟨o3, h4, h⟩ := andThen_some h
 injection h with h; subst h
 exact env.fun func115 can115 (its := [.dive, .sel [0, 3] [], .part (tree_left_1_ex o3) (tree_left_1_st o3)]) (pos := [.sel []]) (.c (tree_left_1_ok a0 (1 : Int) o3 h4) .n) (by kernel_rfl)
theorem can105 : Callable prog 105 := ⟨_, func105, by kernel_rfl, by kernel_rfl⟩
def tree_sides_1_in (x0 : Int) (x1 : Int) (x2 : List Bool) : St := ⟨[(0, (.v (.int .i64) x0)), (1, (.v (.int .i64) x1)), (5, (.own 0 []))], [.row .bool x2 true], 28, 0⟩
def tree_sides_1_ex (o : List Bool) : Exit := (.exit 0)
def tree_sides_1_st (o : List Bool) : St := ⟨[(5, (.own 0 []))], [.row .bool o true], 28, 0⟩
theorem tree_sides_1_body (x0 : Int) (x1 : Int) (x2 : List Bool) : ∀ r, tree_sides_1_step x0 x1 x2 = some r → (match r with | .inl s => CodeOK prog (codeAt (bodyOf f105) [1, 1, 0, 0, 0]) (tree_sides_1_in x0 x1 x2) .normal (tree_sides_1_in s.1 s.2.1 s.2.2) | .inr o => tree_sides_1_ex o ≠ .normal ∧ CodeOK prog (codeAt (bodyOf f105) [1, 1, 0, 0, 0]) (tree_sides_1_in x0 x1 x2) (tree_sides_1_ex o) (tree_sides_1_st o)) := by
 intro r h
 unfold tree_sides_1_step at h
 rcases fork_some h with ⟨h2, h⟩ | ⟨h2, h⟩
 ·obtain ⟨u3, h4, h⟩ := andThen_some h
  obtain ⟨h5, h⟩ := need_some h
  rcases fork_some h with ⟨h6, h⟩ | ⟨h6, h⟩
  ·injection h with h; subst h
   exact env.code (its := [b1, .call [none] [] [] true (tree_left_R x1 u3) (tree_left_O x1 u3), b1, .sel [0, 1, 5] [2]]) (.c h2 (.c (tree_left_ok x1 u3 h4) (.c h5 (.c h6 .n)))) (by kernel_rfl)
  ·injection h with h; subst h
   exact env.code (its := [b1, .call [none] [] [] true (tree_left_R x1 u3) (tree_left_O x1 u3), b0, .sel [0, 1, 5] [2]]) (.c h2 (.c (tree_left_ok x1 u3 h4) (.c h5 (.c h6 .n)))) (by kernel_rfl)
 ·injection h with h; subst h
  exact ⟨by intro e; simp [tree_sides_1_ex] at e, env.code (its := [b0, .sel [5] [0]]) (.c h2 .n) (by kernel_rfl)⟩
theorem tree_sides_1_ok (x0 : Int) (x1 : Int) (x2 : List Bool) (o : List Bool) (h : tree_sides_1 x0 x1 x2 = some o) : CodeOK prog (codeAt (bodyOf f105) [1, 1, 0, 0]) (tree_sides_1_in x0 x1 x2) (tree_sides_1_ex o) (tree_sides_1_st o) :=
 LoopOK.of_step (st := fun s => tree_sides_1_in s.1 s.2.1 s.2.2) (ex := tree_sides_1_ex) (stO := tree_sides_1_st) (fun s s2 hs => tree_sides_1_body s.1 s.2.1 s.2.2 (.inl s2) hs) (fun s r hs => tree_sides_1_body s.1 s.2.1 s.2.2 (.inr r) hs) _ o h
def tree_sides_R (a0 : Int) (a1 : Int) (u : List Bool) : Slot := (.own 0 [])
def tree_sides_O (a0 : Int) (a1 : Int) (u : List Bool) : List AObj := [.row .bool u true]
theorem tree_sides_ok (a0 : Int) (a1 : Int) (u : List Bool) (h : tree_sides a0 a1 = some u) : CallC prog 105 [(.v (.int .i64) a0), (.v (.int .i64) a1)] [] (tree_sides_R a0 a1 u) (tree_sides_O a0 a1 u) := by
 unfold tree_sides at h
 obtain ⟨o7, h8, h⟩ := andThen_some h
 injection h with h; subst h
 exact env.fun func105 can105 (its := [.dive, .promote 5 .bool, .sel [0, 1, 5] [0], .part (tree_sides_1_ex o7) (tree_sides_1_st o7)]) (pos := [.sel [0]]) (.c (tree_sides_1_ok a0 a1 ([] : List (Bool)) o7 h8) .n) (by kernel_rfl)
theorem can103 : Callable prog 103 := ⟨_, func103, by kernel_rfl, by kernel_rfl⟩
def tree_Depth_R (a0 : Int) (a1 : Int) (u : Int) : Slot := (.v (.int .i64) u)
def tree_Depth_O (a0 : Int) (a1 : Int) (u : Int) : List AObj := []
theorem tree_Depth_ok (a0 : Int) (a1 : Int) (u : Int) (h : tree_Depth a0 a1 = some u) : CallC prog 103 [(.v (.int .i64) a0), (.v (.int .i64) a1)] [] (tree_Depth_R a0 a1 u) (tree_Depth_O a0 a1 u) := by
 unfold tree_Depth at h
 obtain ⟨u1, h2, h⟩ := andThen_some h
 rcases fork_some h with ⟨h3, h⟩ | ⟨h3, h⟩
 ·injection h with h; subst h
  exact env.fun func103 can103 (its := [.call [none, none] [] [] true (tree_is_R a0 a1 u1) (tree_is_O a0 a1 u1), b1]) (pos := [.sel []]) (.c (tree_is_ok a0 a1 u1 h2) (.c h3 .n)) (by kernel_rfl)
 ·obtain ⟨u4, h5, h⟩ := andThen_some h
  injection h with h; subst h
  exact env.fun func103 can103 (its := [.call [none, none] [] [] true (tree_is_R a0 a1 u1) (tree_is_O a0 a1 u1), b0, .call [none, none] [] [] true (tree_sides_R a0 a1 u4) (tree_sides_O a0 a1 u4)]) (pos := [.sel []]) (.c (tree_is_ok a0 a1 u1 h2) (.c h3 (.c (tree_sides_ok a0 a1 u4 h5) .n))) (by kernel_rfl)
theorem can106 : Callable prog 106 := ⟨_, func106, by kernel_rfl, by kernel_rfl⟩
def tree_inner_R (a0 : B8) (a1 : B8) (u : B8) : Slot := (.v (.arr 32 (.int .u8)) u)
def tree_inner_O (a0 : B8) (a1 : B8) (u : B8) : List AObj := []
theorem tree_inner_ok (a0 : B8) (a1 : B8) (u : B8) (h : tree_inner a0 a1 = some u) : CallC prog 106 [(.v (.arr 32 (.int .u8)) a0), (.v (.arr 32 (.int .u8)) a1)] [] (tree_inner_R a0 a1 u) (tree_inner_O a0 a1 u) := by
 unfold tree_inner at h
 obtain ⟨u1, h2, h⟩ := andThen_some h
 injection h with h; subst h
 exact env.fun func106 can106 (its := [.pre p9, b1, b1, .asis, .call [none, none] [] [0] true (sha_Tagged_R (1 : UInt8) ([a0, a1] : List (B8)) u1) (sha_Tagged_O (1 : UInt8) ([a0, a1] : List (B8)) u1)]) (pos := [.sel []]) (.c (rfl : ([.row (.slice (.int .u8)) ([a0, a1] : List (B8)) true] : List AObj) = [.row (.slice (.int .u8)) ([a0, a1] : List (B8)) true]) (.c (sha_Tagged_ok (1 : UInt8) ([a0, a1] : List (B8)) u1 h2) .n)) (by kernel_rfl)
theorem can104 : Callable prog 104 := ⟨_, func104, by kernel_rfl, by kernel_rfl⟩
def tree_Root_R (a0 : List (B8)) (u : B8) : Slot := (.v (.arr 32 (.int .u8)) u)
def tree_Root_O (a0 : List (B8)) (u : B8) : List AObj := []
theorem tree_Root_f_ok : ∀ (k : Nat) (a0 : List (B8)) (u : B8) (h : tree_Root_f k a0 = some u), CallC prog 104 [(.v (.slice (.slice (.int .u8))) a0)] [] (tree_Root_R a0 u) (tree_Root_O a0 u)
 | 0, a0, u, h => by cases h
 | k + 1, a0, u, h => by
  unfold tree_Root_f at h
  rcases fork_some h with ⟨h1, h⟩ | ⟨h1, h⟩
  ·obtain ⟨u2, h3, h⟩ := andThen_some h
   injection h with h; subst h
   exact env.fun func104 can104 (its := [b1, .call [none, (some (.slice (.int .u8)))] [] [] true (sha_Tagged_R (2 : UInt8) ([] : List (B8)) u2) (sha_Tagged_O (2 : UInt8) ([] : List (B8)) u2)]) (pos := [.sel []]) (.c h1 (.c (sha_Tagged_ok (2 : UInt8) ([] : List (B8)) u2 h3) .n)) (by kernel_rfl)
  ·rcases fork_some h with ⟨h4, h⟩ | ⟨h4, h⟩
   ·obtain ⟨h5, h⟩ := need_some h
    obtain ⟨u6, h7, h⟩ := andThen_some h
    injection h with h; subst h
    exact env.fun func104 can104 (its := [b0, b1, .call [none, none] [] [1] true (sha_Tagged_R (0 : UInt8) ([(List.getD a0 (Int.toNat (0 : Int)) ([] : B8))] : List (B8)) u6) (sha_Tagged_O (0 : UInt8) ([(List.getD a0 (Int.toNat (0 : Int)) ([] : B8))] : List (B8)) u6)]) (pos := [.sel []]) (.c h1 (.c h4 (.c h5 (.c (sha_Tagged_ok (0 : UInt8) ([(List.getD a0 (Int.toNat (0 : Int)) ([] : B8))] : List (B8)) u6 h7) .n)))) (by kernel_rfl)
   ·obtain ⟨u8, h9, h⟩ := andThen_some h
    obtain ⟨h10, h⟩ := need_some h
    obtain ⟨u11, h12, h⟩ := andThen_some h
    obtain ⟨h13, h⟩ := need_some h
    obtain ⟨u14, h15, h⟩ := andThen_some h
    obtain ⟨u16, h17, h⟩ := andThen_some h
    injection h with h; subst h
    exact env.fun func104 can104 (its := [b0, b0, .call [none] [] [] true (tree_left_R (List.length a0 : Int) u8) (tree_left_O (List.length a0 : Int) u8), .pre p39, b0, .asis, .call [none] [] [] true (tree_Root_R (cutL a0 (0 : Int) u8) u11) (tree_Root_O (cutL a0 (0 : Int) u8) u11), b0, .asis, .call [none] [] [] true (tree_Root_R (cutL a0 u8 (List.length a0 : Int)) u14) (tree_Root_O (cutL a0 u8 (List.length a0 : Int)) u14), .asis, .call [none, none] [] [] true (tree_inner_R u11 u14 u16) (tree_inner_O u11 u14 u16)]) (pos := [.sel []]) (.c h1 (.c h4 (.c (tree_left_ok (List.length a0 : Int) u8 h9) (.c h10 (.c rn (.c (tree_Root_f_ok k (cutL a0 (0 : Int) u8) u11 h12) (.c h13 (.c rn (.c (tree_Root_f_ok k (cutL a0 u8 (List.length a0 : Int)) u14 h15) (.c rn (.c (tree_inner_ok u11 u14 u16 h17) .n))))))))))) (by kernel_rfl)
theorem tree_Root_ok (a0 : List (B8)) (u : B8) (h : tree_Root a0 = some u) : CallC prog 104 [(.v (.slice (.slice (.int .u8))) a0)] [] (tree_Root_R a0 u) (tree_Root_O a0 u) := tree_Root_f_ok 64 a0 u h
theorem can74 : Callable prog 74 := ⟨_, func74, by kernel_rfl, by kernel_rfl⟩
def tree_Up_1_in (x0 : List (B8)) (x1 : Int) (x2 : Int) (x3 : B8) (x4 : B8) (x5 : List Bool) : St := ⟨[(8, (.ptr 0 [])), (10, (.ptr 1 [])), (11, (.own 2 [])), (33, (.v (.slice (.arr 32 (.int .u8))) x0)), (34, (.v (.int .i64) x1)), (35, (.v (.int .i64) x2))], [.box (.arr 32 (.int .u8)) (.v (.arr 32 (.int .u8)) x3) true, .box (.arr 32 (.int .u8)) (.v (.arr 32 (.int .u8)) x4) true, .row .bool x5 true], 56, 0⟩
def tree_Up_1_ex (o : B8 × B8) : Exit := (.exit 0)
def tree_Up_1_st (o : B8 × B8) : St := ⟨[(8, (.ptr 0 [])), (10, (.ptr 1 []))], [.box (.arr 32 (.int .u8)) (.v (.arr 32 (.int .u8)) o.1) true, .box (.arr 32 (.int .u8)) (.v (.arr 32 (.int .u8)) o.2) true], 56, 0⟩
theorem tree_Up_1_body (x0 : List (B8)) (x1 : Int) (x2 : Int) (x3 : B8) (x4 : B8) (x5 : List Bool) : ∀ r, tree_Up_1_step x0 x1 x2 x3 x4 x5 = some r → (match r with | .inl s => CodeOK prog (codeAt (bodyOf f74) [1, 1, 1, 1, 0, 1, 0, 0]) (tree_Up_1_in x0 x1 x2 x3 x4 x5) .normal (tree_Up_1_in x0 x1 s.1 x3 s.2 x5) | .inr o => tree_Up_1_ex o ≠ .normal ∧ CodeOK prog (codeAt (bodyOf f74) [1, 1, 1, 1, 0, 1, 0, 0]) (tree_Up_1_in x0 x1 x2 x3 x4 x5) (tree_Up_1_ex o) (tree_Up_1_st o)) := by
 intro r h
 unfold tree_Up_1_step at h
 rcases fork_some h with ⟨h12, h⟩ | ⟨h12, h⟩
 ·obtain ⟨h13, h⟩ := need_some h
  obtain ⟨h14, h⟩ := need_some h
  rcases fork_some h with ⟨h15, h⟩ | ⟨h15, h⟩
  ·obtain ⟨u16, h17, h⟩ := andThen_some h
   injection h with h; subst h
   exact env.code (its := [b1, b1, .call [none, none] [] [] true (tree_inner_R x4 (List.getD x0 (Int.toNat x2) Z32) u16) (tree_inner_O x4 (List.getD x0 (Int.toNat x2) Z32) u16), .sel [8, 10, 11, 33, 34, 35] [0, 1, 2]]) (.c h12 (.c h13 (.c h14 (.c h15 (.c (tree_inner_ok x4 (List.getD x0 (Int.toNat x2) Z32) u16 h17) .n))))) (by kernel_rfl)
  ·obtain ⟨u18, h19, h⟩ := andThen_some h
   injection h with h; subst h
   exact env.code (its := [b1, b0, .call [none, none] [] [] true (tree_inner_R (List.getD x0 (Int.toNat x2) Z32) x4 u18) (tree_inner_O (List.getD x0 (Int.toNat x2) Z32) x4 u18), .sel [8, 10, 11, 33, 34, 35] [0, 1, 2]]) (.c h12 (.c h13 (.c h14 (.c h15 (.c (tree_inner_ok (List.getD x0 (Int.toNat x2) Z32) x4 u18 h19) .n))))) (by kernel_rfl)
 ·injection h with h; subst h
  exact ⟨by intro e; simp [tree_Up_1_ex] at e, env.code (its := [b0, .sel [8, 10] [0, 1]]) (.c h12 .n) (by kernel_rfl)⟩
theorem tree_Up_1_ok (x0 : List (B8)) (x1 : Int) (x2 : Int) (x3 : B8) (x4 : B8) (x5 : List Bool) (o : B8 × B8) (h : tree_Up_1 x0 x1 x2 x3 x4 x5 = some o) : CodeOK prog (codeAt (bodyOf f74) [1, 1, 1, 1, 0, 1, 0]) (tree_Up_1_in x0 x1 x2 x3 x4 x5) (tree_Up_1_ex o) (tree_Up_1_st o) :=
 LoopOK.of_step (st := fun s => tree_Up_1_in x0 x1 s.1 x3 s.2 x5) (ex := tree_Up_1_ex) (stO := tree_Up_1_st) (fun s s2 hs => tree_Up_1_body x0 x1 s.1 x3 s.2 x5 (.inl s2) hs) (fun s r hs => tree_Up_1_body x0 x1 s.1 x3 s.2 x5 (.inr r) hs) _ o h
def tree_Up_R (a0 : B8) (a1 : Int) (a2 : Int) (a3 : List (B8)) (u : B8 × Bool) : Slot := (.tup (.v (.arr 32 (.int .u8)) u.1) (.tup (.v .bool u.2) .tnil))
def tree_Up_O (a0 : B8) (a1 : Int) (a2 : Int) (a3 : List (B8)) (u : B8 × Bool) : List AObj := []
theorem tree_Up_ok (a0 : B8) (a1 : Int) (a2 : Int) (a3 : List (B8)) (u : B8 × Bool) (h : tree_Up a0 a1 a2 a3 = some u) : CallC prog 74 [(.v (.slice (.int .u8)) a0), (.v (.int .i64) a1), (.v (.int .i64) a2), (.v (.slice (.arr 32 (.int .u8))) a3)] [] (tree_Up_R a0 a1 a2 a3 u) (tree_Up_O a0 a1 a2 a3 u) := by
 unfold tree_Up at h
 obtain ⟨u1, h2, h⟩ := andThen_some h
 rcases fork_some h with ⟨h3, h⟩ | ⟨h3, h⟩
 ·injection h with h; subst h
  exact env.fun func74 can74 (its := [.call [none, none] [] [] true (tree_is_R a1 a2 u1) (tree_is_O a1 a2 u1), b1, b1, b1, b1, b1, b1, b1, b1]) (pos := [.sel []]) (.c (tree_is_ok a1 a2 u1 h2) (.c h3 (.c h3 (.c h3 (.c h3 (.c h3 (.c h3 (.c h3 (.c r1 .n))))))))) (by kernel_rfl)
 ·obtain ⟨u4, h5, h⟩ := andThen_some h
  rcases fork_some h with ⟨h6, h⟩ | ⟨h6, h⟩
  ·injection h with h; subst h
   exact env.fun func74 can74 (its := [.call [none, none] [] [] true (tree_is_R a1 a2 u1) (tree_is_O a1 a2 u1), b0, b0, b0, b0, b0, .call [none, none] [] [] true (tree_Depth_R a1 a2 u4) (tree_Depth_O a1 a2 u4), b0, b0, b1]) (pos := [.sel []]) (.c (tree_is_ok a1 a2 u1 h2) (.c h3 (.c h3 (.c h3 (.c h3 (.c h3 (.c (tree_Depth_ok a1 a2 u4 h5) (.c h3 (.c h3 (.c h6 .n)))))))))) (by kernel_rfl)
  ·obtain ⟨u7, h8, h⟩ := andThen_some h
   obtain ⟨u9, h10, h⟩ := andThen_some h
   obtain ⟨o20, h21, h⟩ := andThen_some h
   injection h with h; subst h
   exact env.fun func74 can74 (its := [.call [none, none] [] [] true (tree_is_R a1 a2 u1) (tree_is_O a1 a2 u1), b0, b0, b0, b0, b0, .call [none, none] [] [] true (tree_Depth_R a1 a2 u4) (tree_Depth_O a1 a2 u4), b0, b0, b0, .call [none] [] [1] true (tree_Root_R ([a0] : List (B8)) u7) (tree_Root_O ([a0] : List (B8)) u7), .call [none, none] [] [] true (tree_sides_R a1 a2 u9) (tree_sides_O a1 a2 u9), .dive, .sel [8, 10, 11, 33, 34, 35] [0, 2, 3], .part (tree_Up_1_ex o20) (tree_Up_1_st o20)]) (pos := [.sel []]) (.c (tree_is_ok a1 a2 u1 h2) (.c h3 (.c h3 (.c h3 (.c h3 (.c h3 (.c (tree_Depth_ok a1 a2 u4 h5) (.c h3 (.c h3 (.c h6 (.c (tree_Root_ok ([a0] : List (B8)) u7 h8) (.c (tree_sides_ok a1 a2 u9 h10) (.c (tree_Up_1_ok a3 (List.length a3 : Int) (0 : Int) Z32 u7 u9 o20 h21) .n))))))))))))) (by kernel_rfl)
theorem can45 : Callable prog 45 := ⟨_, func45, by kernel_rfl, by kernel_rfl⟩
def ring_Verify_R (a0 : B8) (a1 : Int) (a2 : B8) (a3 : T8266) (u : Bool) : Slot := (.v .bool u)
def ring_Verify_O (a0 : B8) (a1 : Int) (a2 : B8) (a3 : T8266) (u : Bool) : List AObj := []
theorem ring_Verify_ok (a0 : B8) (a1 : Int) (a2 : B8) (a3 : T8266) (u : Bool) (h : ring_Verify a0 a1 a2 a3 = some u) : CallC prog 45 [(.v (.arr 32 (.int .u8)) a0), (.v (.int .i64) a1), (.v (.slice (.int .u8)) a2), (.v Y8266 a3)] [] (ring_Verify_R a0 a1 a2 a3 u) (ring_Verify_O a0 a1 a2 a3 u) := by
 unfold ring_Verify at h
 obtain ⟨u1, h2, h⟩ := andThen_some h
 rcases fork_some h with ⟨h3, h⟩ | ⟨h3, h⟩
 ·injection h with h; subst h
  exact env.fun func45 can45 (its := [.call [none] [] [] true (ring_is_R a1 u1) (ring_is_O a1 u1), b1, b1, b1, b1, b1, b1]) (pos := [.sel []]) (.c (ring_is_ok a1 u1 h2) (.c h3 (.c h3 (.c h3 (.c h3 (.c h3 (.c r1 .n))))))) (by kernel_rfl)
 ·rcases fork_some h with ⟨h4, h⟩ | ⟨h4, h⟩
  ·injection h with h; subst h
   exact env.fun func45 can45 (its := [.call [none] [] [] true (ring_is_R a1 u1) (ring_is_O a1 u1), b0, b0, b0, b0, b0, b1]) (pos := [.sel []]) (.c (ring_is_ok a1 u1 h2) (.c h3 (.c h3 (.c h3 (.c h3 (.c h3 (.c h4 .n))))))) (by kernel_rfl)
  ·obtain ⟨u5, h6, h⟩ := andThen_some h
   rcases fork_some h with ⟨h7, h⟩ | ⟨h7, h⟩
   ·injection h with h; subst h
    exact env.fun func45 can45 (its := [.call [none] [] [] true (ring_is_R a1 u1) (ring_is_O a1 u1), b0, b0, b0, b0, b0, b0, .call [none, none] [] [] true (lam_Who_R a2 a3.2.1 u5) (lam_Who_O a2 a3.2.1 u5), b1]) (pos := [.sel []]) (.c (ring_is_ok a1 u1 h2) (.c h3 (.c h3 (.c h3 (.c h3 (.c h3 (.c h4 (.c (lam_Who_ok a2 a3.2.1 u5 h6) (.c h7 .n))))))))) (by kernel_rfl)
   ·obtain ⟨u8, h9, h⟩ := andThen_some h
    rcases fork_some h with ⟨h10, h⟩ | ⟨h10, h⟩
    ·injection h with h; subst h
     exact env.fun func45 can45 (its := [.call [none] [] [] true (ring_is_R a1 u1) (ring_is_O a1 u1), b0, b0, b0, b0, b0, b0, .call [none, none] [] [] true (lam_Who_R a2 a3.2.1 u5) (lam_Who_O a2 a3.2.1 u5), b0, .pre p40, b1, .asis, .call [none, none, none, none] [] [0] true (tree_Up_R u5.1 (w64 (a1 - (1 : Int))) (16 : Int) a3.2.2.1 u8) (tree_Up_O u5.1 (w64 (a1 - (1 : Int))) (16 : Int) a3.2.2.1 u8), b1, b1, b1, b1]) (pos := [.sel []]) (.c (ring_is_ok a1 u1 h2) (.c h3 (.c h3 (.c h3 (.c h3 (.c h3 (.c h4 (.c (lam_Who_ok a2 a3.2.1 u5 h6) (.c h7 (.c (rfl : ([.box (.arr 32 (.int .u8)) (.v (.arr 32 (.int .u8)) u5.1) true] : List AObj) = [.box (.arr 32 (.int .u8)) (.v (.arr 32 (.int .u8)) u5.1) true]) (.c (tree_Up_ok u5.1 (w64 (a1 - (1 : Int))) (16 : Int) a3.2.2.1 u8 h9) (.c h10 (.c h10 (.c h10 (.c h10 .n))))))))))))))) (by kernel_rfl)
    ·injection h with h; subst h
     exact env.fun func45 can45 (its := [.call [none] [] [] true (ring_is_R a1 u1) (ring_is_O a1 u1), b0, b0, b0, b0, b0, b0, .call [none, none] [] [] true (lam_Who_R a2 a3.2.1 u5) (lam_Who_O a2 a3.2.1 u5), b0, .pre p40, b1, .asis, .call [none, none, none, none] [] [0] true (tree_Up_R u5.1 (w64 (a1 - (1 : Int))) (16 : Int) a3.2.2.1 u8) (tree_Up_O u5.1 (w64 (a1 - (1 : Int))) (16 : Int) a3.2.2.1 u8), b0, b0, b0, b0]) (pos := [.sel []]) (.c (ring_is_ok a1 u1 h2) (.c h3 (.c h3 (.c h3 (.c h3 (.c h3 (.c h4 (.c (lam_Who_ok a2 a3.2.1 u5 h6) (.c h7 (.c (rfl : ([.box (.arr 32 (.int .u8)) (.v (.arr 32 (.int .u8)) u5.1) true] : List AObj) = [.box (.arr 32 (.int .u8)) (.v (.arr 32 (.int .u8)) u5.1) true]) (.c (tree_Up_ok u5.1 (w64 (a1 - (1 : Int))) (16 : Int) a3.2.2.1 u8 h9) (.c h10 (.c h10 (.c h10 (.c h10 .n))))))))))))))) (by kernel_rfl)
theorem can17 : Callable prog 17 := ⟨_, func17, by kernel_rfl, by kernel_rfl⟩
def seal_Names_1_in (x0 : List (T484d)) (x1 : List (T8f72)) (x2 : Int) (x3 : Int) (x4 : Tf0bc) (x5 : List (B8)) (x6 : B8) : St := ⟨[(0, (.v (.slice Y484d) x0)), (4, (.ptr 0 [])), (7, (.own 1 [])), (8, (.own 2 [])), (18, (.v (.slice Y8f72) x1)), (19, (.v (.int .i64) x2)), (20, (.v (.int .i64) x3))], [.box Yf0bc (.v Yf0bc x4) true, .row .str x5 true, .box (.arr 32 (.int .u8)) (.v (.arr 32 (.int .u8)) x6) true], 49, 0⟩
def seal_Names_1_ex (o : List (B8)) : Exit := (.exit 0)
def seal_Names_1_st (o : List (B8)) : St := ⟨[(7, (.own 0 []))], [.row .str o true], 49, 0⟩
theorem seal_Names_1_body (x0 : List (T484d)) (x1 : List (T8f72)) (x2 : Int) (x3 : Int) (x4 : Tf0bc) (x5 : List (B8)) (x6 : B8) : ∀ r, seal_Names_1_step x0 x1 x2 x3 x4 x5 x6 = some r → (match r with | .inl s => CodeOK prog (codeAt (bodyOf f17) [1, 1, 1, 1, 0, 1, 0, 0]) (seal_Names_1_in x0 x1 x2 x3 x4 x5 x6) .normal (seal_Names_1_in x0 x1 x2 s.1 x4 s.2 x6) | .inr o => seal_Names_1_ex o ≠ .normal ∧ CodeOK prog (codeAt (bodyOf f17) [1, 1, 1, 1, 0, 1, 0, 0]) (seal_Names_1_in x0 x1 x2 x3 x4 x5 x6) (seal_Names_1_ex o) (seal_Names_1_st o)) := by
 intro r h
 unfold seal_Names_1_step at h
 rcases fork_some h with ⟨h7, h⟩ | ⟨h7, h⟩
 ·obtain ⟨h8, h⟩ := need_some h
  obtain ⟨u9, h10, h⟩ := andThen_some h
  rcases fork_some h with ⟨h11, h⟩ | ⟨h11, h⟩
  ·obtain ⟨u12, h13, h⟩ := andThen_some h
   rcases fork_some h with ⟨h14, h⟩ | ⟨h14, h⟩
   ·obtain ⟨h15, h⟩ := need_some h
    injection h with h; subst h
    exact env.code (its := [b1, .call [none, none] [] [] true (vals_Find_R x0 ((List.getD x1 (Int.toNat x3) Z8f72).1) u9) (vals_Find_O x0 ((List.getD x1 (Int.toNat x3) Z8f72).1) u9), b1, b1, b1, b1, b1, b1, b1, b1, .call [none, none, none, none] [] [2] true (ring_Verify_R u9.1.2.2.1 x4.1 x6 ((List.getD x1 (Int.toNat x3) Z8f72).2.1) u12) (ring_Verify_O u9.1.2.2.1 x4.1 x6 ((List.getD x1 (Int.toNat x3) Z8f72).2.1) u12), b1, b1, .sel [0, 4, 7, 8, 18, 19, 20] [0, 6, 2]]) (.c h7 (.c h8 (.c (vals_Find_ok x0 ((List.getD x1 (Int.toNat x3) Z8f72).1) u9 h10) (.c h11 (.c h11 (.c h11 (.c h11 (.c h11 (.c h11 (.c h11 (.c h11 (.c (ring_Verify_ok u9.1.2.2.1 x4.1 x6 ((List.getD x1 (Int.toNat x3) Z8f72).2.1) u12 h13) (.c h11 (.c h14 (.c h15 .n))))))))))))))) (by kernel_rfl)
   ·injection h with h; subst h
    exact env.code (its := [b1, .call [none, none] [] [] true (vals_Find_R x0 ((List.getD x1 (Int.toNat x3) Z8f72).1) u9) (vals_Find_O x0 ((List.getD x1 (Int.toNat x3) Z8f72).1) u9), b1, b1, b1, b1, b1, b1, b1, b1, .call [none, none, none, none] [] [2] true (ring_Verify_R u9.1.2.2.1 x4.1 x6 ((List.getD x1 (Int.toNat x3) Z8f72).2.1) u12) (ring_Verify_O u9.1.2.2.1 x4.1 x6 ((List.getD x1 (Int.toNat x3) Z8f72).2.1) u12), b1, b0, .sel [0, 4, 7, 8, 18, 19, 20] [0, 1, 2]]) (.c h7 (.c h8 (.c (vals_Find_ok x0 ((List.getD x1 (Int.toNat x3) Z8f72).1) u9 h10) (.c h11 (.c h11 (.c h11 (.c h11 (.c h11 (.c h11 (.c h11 (.c h11 (.c (ring_Verify_ok u9.1.2.2.1 x4.1 x6 ((List.getD x1 (Int.toNat x3) Z8f72).2.1) u12 h13) (.c h11 (.c h14 .n)))))))))))))) (by kernel_rfl)
  ·injection h with h; subst h
   exact env.code (its := [b1, .call [none, none] [] [] true (vals_Find_R x0 ((List.getD x1 (Int.toNat x3) Z8f72).1) u9) (vals_Find_O x0 ((List.getD x1 (Int.toNat x3) Z8f72).1) u9), b0, b0, b0, b0, b0, b0, b0, b0, b0, b0, .sel [0, 4, 7, 8, 18, 19, 20] [0, 1, 2]]) (.c h7 (.c h8 (.c (vals_Find_ok x0 ((List.getD x1 (Int.toNat x3) Z8f72).1) u9 h10) (.c h11 (.c h11 (.c h11 (.c h11 (.c h11 (.c h11 (.c h11 (.c h11 (.c h11 (.c r0 .n))))))))))))) (by kernel_rfl)
 ·injection h with h; subst h
  exact ⟨by intro e; simp [seal_Names_1_ex] at e, env.code (its := [b0, .sel [7] [1]]) (.c h7 .n) (by kernel_rfl)⟩
theorem seal_Names_1_ok (x0 : List (T484d)) (x1 : List (T8f72)) (x2 : Int) (x3 : Int) (x4 : Tf0bc) (x5 : List (B8)) (x6 : B8) (o : List (B8)) (h : seal_Names_1 x0 x1 x2 x3 x4 x5 x6 = some o) : CodeOK prog (codeAt (bodyOf f17) [1, 1, 1, 1, 0, 1, 0]) (seal_Names_1_in x0 x1 x2 x3 x4 x5 x6) (seal_Names_1_ex o) (seal_Names_1_st o) :=
 LoopOK.of_step (st := fun s => seal_Names_1_in x0 x1 x2 s.1 x4 s.2 x6) (ex := seal_Names_1_ex) (stO := seal_Names_1_st) (fun s s2 hs => seal_Names_1_body x0 x1 x2 s.1 x4 s.2 x6 (.inl s2) hs) (fun s r hs => seal_Names_1_body x0 x1 x2 s.1 x4 s.2 x6 (.inr r) hs) _ o h
def seal_Names_R (a0 : List (T484d)) (a1 : Tf0bc) (a2 : List (T8f72)) (u : List (B8)) : Slot := (.own 0 [])
def seal_Names_O (a0 : List (T484d)) (a1 : Tf0bc) (a2 : List (T8f72)) (u : List (B8)) : List AObj := [.row .str u true]
theorem seal_Names_ok (a0 : List (T484d)) (a1 : Tf0bc) (a2 : List (T8f72)) (u : List (B8)) (h : seal_Names a0 a1 a2 = some u) : CallC prog 17 [(.v (.slice Y484d) a0), (.v Yf0bc a1), (.v (.slice Y8f72) a2)] [] (seal_Names_R a0 a1 a2 u) (seal_Names_O a0 a1 a2 u) := by
 unfold seal_Names at h
 obtain ⟨u1, h2, h⟩ := andThen_some h
 rcases fork_some h with ⟨h3, h⟩ | ⟨h3, h⟩
 ·injection h with h; subst h
  exact env.fun func17 can17 (its := [.call [none] [] [] true (seal_Right_R a2 u1) (seal_Right_O a2 u1), b1]) (pos := [.promote .str, .sel [1]]) (.c (seal_Right_ok a2 u1 h2) (.c h3 .n)) (by kernel_rfl)
 ·obtain ⟨u4, h5, h⟩ := andThen_some h
  obtain ⟨o16, h17, h⟩ := andThen_some h
  injection h with h; subst h
  exact env.fun func17 can17 (its := [.call [none] [] [] true (seal_Right_R a2 u1) (seal_Right_O a2 u1), b0, .call [none] [] [] true (seal_text_R a1 u4) (seal_text_O a1 u4), .dive, .promote 7 .str, .sel [0, 4, 7, 8, 18, 19, 20] [0, 2, 1], .part (seal_Names_1_ex o16) (seal_Names_1_st o16)]) (pos := [.sel [0]]) (.c (seal_Right_ok a2 u1 h2) (.c h3 (.c (seal_text_ok a1 u4 h5) (.c (seal_Names_1_ok a0 a2 (List.length a2 : Int) (0 : Int) a1 ([] : List (B8)) u4 o16 h17) .n)))) (by kernel_rfl)
theorem can99 : Callable prog 99 := ⟨_, func99, by kernel_rfl, by kernel_rfl⟩
def slices_Index_Lstring_string_1_in (x0 : List (B8)) (x1 : B8) (x2 : Int) (x3 : Int) : St := ⟨[(0, (.v (.slice .str) x0)), (1, (.v .str x1)), (7, (.v (.int .i64) x2)), (8, (.v (.int .i64) x3))], [], 19, 0⟩
def slices_Index_Lstring_string_1_ex (o : (Int) ⊕ (Unit)) : Exit := match o with | (.inl o) => .ret | (.inr o) => (.exit 0)
def slices_Index_Lstring_string_1_st (o : (Int) ⊕ (Unit)) : St := match o with | (.inl o) => ⟨[(4, (.v (.int .i64) o))], [], 19, 0⟩ | (.inr o) => ⟨[], [], 19, 0⟩
theorem slices_Index_Lstring_string_1_body (x0 : List (B8)) (x1 : B8) (x2 : Int) (x3 : Int) : ∀ r, slices_Index_Lstring_string_1_step x0 x1 x2 x3 = some r → (match r with | .inl s => CodeOK prog (codeAt (bodyOf f99) [1, 0, 1, 0, 0]) (slices_Index_Lstring_string_1_in x0 x1 x2 x3) .normal (slices_Index_Lstring_string_1_in x0 x1 x2 s) | .inr o => slices_Index_Lstring_string_1_ex o ≠ .normal ∧ CodeOK prog (codeAt (bodyOf f99) [1, 0, 1, 0, 0]) (slices_Index_Lstring_string_1_in x0 x1 x2 x3) (slices_Index_Lstring_string_1_ex o) (slices_Index_Lstring_string_1_st o)) := by
 intro r h
 unfold slices_Index_Lstring_string_1_step at h
 rcases fork_some h with ⟨h2, h⟩ | ⟨h2, h⟩
 ·obtain ⟨h3, h⟩ := need_some h
  rcases fork_some h with ⟨h4, h⟩ | ⟨h4, h⟩
  ·injection h with h; subst h
   exact ⟨by intro e; simp [slices_Index_Lstring_string_1_ex] at e, env.code (its := [b1, b1, .sel [4] []]) (.c h2 (.c h3 (.c h4 .n))) (by kernel_rfl)⟩
  ·injection h with h; subst h
   exact env.code (its := [b1, b0, .sel [0, 1, 7, 8] []]) (.c h2 (.c h3 (.c h4 .n))) (by kernel_rfl)
 ·injection h with h; subst h
  exact ⟨by intro e; simp [slices_Index_Lstring_string_1_ex] at e, env.code (its := [b0, .sel [] []]) (.c h2 .n) (by kernel_rfl)⟩
theorem slices_Index_Lstring_string_1_ok (x0 : List (B8)) (x1 : B8) (x2 : Int) (x3 : Int) (o : (Int) ⊕ (Unit)) (h : slices_Index_Lstring_string_1 x0 x1 x2 x3 = some o) : CodeOK prog (codeAt (bodyOf f99) [1, 0, 1, 0]) (slices_Index_Lstring_string_1_in x0 x1 x2 x3) (slices_Index_Lstring_string_1_ex o) (slices_Index_Lstring_string_1_st o) :=
 LoopOK.of_step (st := fun s => slices_Index_Lstring_string_1_in x0 x1 x2 s) (ex := slices_Index_Lstring_string_1_ex) (stO := slices_Index_Lstring_string_1_st) (fun s s2 hs => slices_Index_Lstring_string_1_body x0 x1 x2 s (.inl s2) hs) (fun s r hs => slices_Index_Lstring_string_1_body x0 x1 x2 s (.inr r) hs) _ o h
def slices_Index_Lstring_string_R (a0 : List (B8)) (a1 : B8) (u : Int) : Slot := (.v (.int .i64) u)
def slices_Index_Lstring_string_O (a0 : List (B8)) (a1 : B8) (u : Int) : List AObj := []
theorem slices_Index_Lstring_string_ok (a0 : List (B8)) (a1 : B8) (u : Int) (h : slices_Index_Lstring_string a0 a1 = some u) : CallC prog 99 [(.v (.slice .str) a0), (.v .str a1)] [] (slices_Index_Lstring_string_R a0 a1 u) (slices_Index_Lstring_string_O a0 a1 u) := by
 unfold slices_Index_Lstring_string at h
 obtain ⟨o5, h6, h⟩ := andThen_some h
 rcases o5 with o7 | o8
 ·injection h with h; subst h
  exact env.fun func99 can99 (its := [.dive, .sel [0, 1, 7, 8] [], .part (slices_Index_Lstring_string_1_ex (.inl o7)) (slices_Index_Lstring_string_1_st (.inl o7))]) (pos := [.sel []]) (.c (slices_Index_Lstring_string_1_ok a0 a1 (List.length a0 : Int) (0 : Int) (.inl o7) h6) .n) (by kernel_rfl)
 ·injection h with h; subst h
  exact env.fun func99 can99 (its := [.dive, .sel [0, 1, 7, 8] [], .part (slices_Index_Lstring_string_1_ex (.inr o8)) (slices_Index_Lstring_string_1_st (.inr o8))]) (pos := [.sel []]) (.c (slices_Index_Lstring_string_1_ok a0 a1 (List.length a0 : Int) (0 : Int) (.inr o8) h6) .n) (by kernel_rfl)
theorem can69 : Callable prog 69 := ⟨_, func69, by kernel_rfl, by kernel_rfl⟩
def slices_Contains_Lstring_string_R (a0 : List (B8)) (a1 : B8) (u : Bool) : Slot := (.v .bool u)
def slices_Contains_Lstring_string_O (a0 : List (B8)) (a1 : B8) (u : Bool) : List AObj := []
theorem slices_Contains_Lstring_string_ok (a0 : List (B8)) (a1 : B8) (u : Bool) (h : slices_Contains_Lstring_string a0 a1 = some u) : CallC prog 69 [(.v (.slice .str) a0), (.v .str a1)] [] (slices_Contains_Lstring_string_R a0 a1 u) (slices_Contains_Lstring_string_O a0 a1 u) := by
 unfold slices_Contains_Lstring_string at h
 obtain ⟨u1, h2, h⟩ := andThen_some h
 injection h with h; subst h
 exact env.fun func69 can69 (its := [.call [none, none] [] [] true (slices_Index_Lstring_string_R a0 a1 u1) (slices_Index_Lstring_string_O a0 a1 u1)]) (pos := [.sel []]) (.c (slices_Index_Lstring_string_ok a0 a1 u1 h2) .n) (by kernel_rfl)
theorem can70 : Callable prog 70 := ⟨_, func70, by kernel_rfl, by kernel_rfl⟩
def vals_Total_1_in (x0 : Int) (x1 : List (T484d)) (x2 : Int) (x3 : Int) : St := ⟨[(3, (.v (.int .i64) x0)), (6, (.v (.slice Y484d) x1)), (7, (.v (.int .i64) x2)), (8, (.v (.int .i64) x3))], [], 18, 0⟩
def vals_Total_1_ex (o : Int) : Exit := (.exit 0)
def vals_Total_1_st (o : Int) : St := ⟨[(3, (.v (.int .i64) o))], [], 18, 0⟩
theorem vals_Total_1_body (x0 : Int) (x1 : List (T484d)) (x2 : Int) (x3 : Int) : ∀ r, vals_Total_1_step x0 x1 x2 x3 = some r → (match r with | .inl s => CodeOK prog (codeAt (bodyOf f70) [1, 1, 0, 1, 0, 0]) (vals_Total_1_in x0 x1 x2 x3) .normal (vals_Total_1_in s.1 x1 x2 s.2) | .inr o => vals_Total_1_ex o ≠ .normal ∧ CodeOK prog (codeAt (bodyOf f70) [1, 1, 0, 1, 0, 0]) (vals_Total_1_in x0 x1 x2 x3) (vals_Total_1_ex o) (vals_Total_1_st o)) := by
 intro r h
 unfold vals_Total_1_step at h
 rcases fork_some h with ⟨h2, h⟩ | ⟨h2, h⟩
 ·obtain ⟨h3, h⟩ := need_some h
  injection h with h; subst h
  exact env.code (its := [b1, .dive, .sel [3, 6, 7, 8] []]) (.c h2 (.c h3 .n)) (by kernel_rfl)
 ·injection h with h; subst h
  exact ⟨by intro e; simp [vals_Total_1_ex] at e, env.code (its := [b0, .sel [3] []]) (.c h2 .n) (by kernel_rfl)⟩
theorem vals_Total_1_ok (x0 : Int) (x1 : List (T484d)) (x2 : Int) (x3 : Int) (o : Int) (h : vals_Total_1 x0 x1 x2 x3 = some o) : CodeOK prog (codeAt (bodyOf f70) [1, 1, 0, 1, 0]) (vals_Total_1_in x0 x1 x2 x3) (vals_Total_1_ex o) (vals_Total_1_st o) :=
 LoopOK.of_step (st := fun s => vals_Total_1_in s.1 x1 x2 s.2) (ex := vals_Total_1_ex) (stO := vals_Total_1_st) (fun s s2 hs => vals_Total_1_body s.1 x1 x2 s.2 (.inl s2) hs) (fun s r hs => vals_Total_1_body s.1 x1 x2 s.2 (.inr r) hs) _ o h
def vals_Total_R (a0 : List (T484d)) (u : Int) : Slot := (.v (.int .i64) u)
def vals_Total_O (a0 : List (T484d)) (u : Int) : List AObj := []
theorem vals_Total_ok (a0 : List (T484d)) (u : Int) (h : vals_Total a0 = some u) : CallC prog 70 [(.v (.slice Y484d) a0)] [] (vals_Total_R a0 u) (vals_Total_O a0 u) := by
 unfold vals_Total at h
 obtain ⟨o4, h5, h⟩ := andThen_some h
 injection h with h; subst h
 exact env.fun func70 can70 (its := [.dive, .sel [3, 6, 7, 8] [], .part (vals_Total_1_ex o4) (vals_Total_1_st o4)]) (pos := [.sel []]) (.c (vals_Total_1_ok (0 : Int) a0 (List.length a0 : Int) (0 : Int) o4 h5) .n) (by kernel_rfl)
theorem can41 : Callable prog 41 := ⟨_, func41, by kernel_rfl, by kernel_rfl⟩
def vals_Tally_1_in (x0 : List (T484d)) (x1 : List (B8)) (x2 : Int) (x3 : List (T484d)) (x4 : Int) (x5 : Int) : St := ⟨[(0, (.v (.slice Y484d) x0)), (1, (.v (.slice .str) x1)), (5, (.v (.int .i64) x2)), (8, (.v (.slice Y484d) x3)), (9, (.v (.int .i64) x4)), (10, (.v (.int .i64) x5))], [], 29, 0⟩
def vals_Tally_1_ex (o : (List (T484d)) × Int) : Exit := (.exit 0)
def vals_Tally_1_st (o : (List (T484d)) × Int) : St := ⟨[(0, (.v (.slice Y484d) o.1)), (5, (.v (.int .i64) o.2))], [], 29, 0⟩
theorem vals_Tally_1_body (x0 : List (T484d)) (x1 : List (B8)) (x2 : Int) (x3 : List (T484d)) (x4 : Int) (x5 : Int) : ∀ r, vals_Tally_1_step x0 x1 x2 x3 x4 x5 = some r → (match r with | .inl s => CodeOK prog (codeAt (bodyOf f41) [1, 1, 0, 1, 0, 0]) (vals_Tally_1_in x0 x1 x2 x3 x4 x5) .normal (vals_Tally_1_in x0 x1 s.1 x3 x4 s.2) | .inr o => vals_Tally_1_ex o ≠ .normal ∧ CodeOK prog (codeAt (bodyOf f41) [1, 1, 0, 1, 0, 0]) (vals_Tally_1_in x0 x1 x2 x3 x4 x5) (vals_Tally_1_ex o) (vals_Tally_1_st o)) := by
 intro r h
 unfold vals_Tally_1_step at h
 rcases fork_some h with ⟨h2, h⟩ | ⟨h2, h⟩
 ·obtain ⟨h3, h⟩ := need_some h
  obtain ⟨u4, h5, h⟩ := andThen_some h
  rcases fork_some h with ⟨h6, h⟩ | ⟨h6, h⟩
  ·injection h with h; subst h
   exact env.code (its := [b1, .call [none, none] [] [] true (slices_Contains_Lstring_string_R x1 ((List.getD x3 (Int.toNat x5) Z484d).1) u4) (slices_Contains_Lstring_string_O x1 ((List.getD x3 (Int.toNat x5) Z484d).1) u4), b1, .sel [0, 1, 5, 8, 9, 10] []]) (.c h2 (.c h3 (.c (slices_Contains_Lstring_string_ok x1 ((List.getD x3 (Int.toNat x5) Z484d).1) u4 h5) (.c h6 .n)))) (by kernel_rfl)
  ·injection h with h; subst h
   exact env.code (its := [b1, .call [none, none] [] [] true (slices_Contains_Lstring_string_R x1 ((List.getD x3 (Int.toNat x5) Z484d).1) u4) (slices_Contains_Lstring_string_O x1 ((List.getD x3 (Int.toNat x5) Z484d).1) u4), b0, .sel [0, 1, 5, 8, 9, 10] []]) (.c h2 (.c h3 (.c (slices_Contains_Lstring_string_ok x1 ((List.getD x3 (Int.toNat x5) Z484d).1) u4 h5) (.c h6 .n)))) (by kernel_rfl)
 ·injection h with h; subst h
  exact ⟨by intro e; simp [vals_Tally_1_ex] at e, env.code (its := [b0, .sel [0, 5] []]) (.c h2 .n) (by kernel_rfl)⟩
theorem vals_Tally_1_ok (x0 : List (T484d)) (x1 : List (B8)) (x2 : Int) (x3 : List (T484d)) (x4 : Int) (x5 : Int) (o : (List (T484d)) × Int) (h : vals_Tally_1 x0 x1 x2 x3 x4 x5 = some o) : CodeOK prog (codeAt (bodyOf f41) [1, 1, 0, 1, 0]) (vals_Tally_1_in x0 x1 x2 x3 x4 x5) (vals_Tally_1_ex o) (vals_Tally_1_st o) :=
 LoopOK.of_step (st := fun s => vals_Tally_1_in x0 x1 s.1 x3 x4 s.2) (ex := vals_Tally_1_ex) (stO := vals_Tally_1_st) (fun s s2 hs => vals_Tally_1_body x0 x1 s.1 x3 x4 s.2 (.inl s2) hs) (fun s r hs => vals_Tally_1_body x0 x1 s.1 x3 x4 s.2 (.inr r) hs) _ o h
def vals_Tally_R (a0 : List (T484d)) (a1 : List (B8)) (u : Int × Int) : Slot := (.v .cplx u)
def vals_Tally_O (a0 : List (T484d)) (a1 : List (B8)) (u : Int × Int) : List AObj := []
theorem vals_Tally_ok (a0 : List (T484d)) (a1 : List (B8)) (u : Int × Int) (h : vals_Tally a0 a1 = some u) : CallC prog 41 [(.v (.slice Y484d) a0), (.v (.slice .str) a1)] [] (vals_Tally_R a0 a1 u) (vals_Tally_O a0 a1 u) := by
 unfold vals_Tally at h
 obtain ⟨o7, h8, h⟩ := andThen_some h
 obtain ⟨h9, h⟩ := need_some h
 obtain ⟨u10, h11, h⟩ := andThen_some h
 obtain ⟨h12, h⟩ := need_some h
 injection h with h; subst h
 exact env.fun func41 can41 (its := [.dive, .sel [0, 1, 5, 8, 9, 10] [], .part (vals_Tally_1_ex o7) (vals_Tally_1_st o7), .call [none] [] [] true (vals_Total_R o7.1 u10) (vals_Total_O o7.1 u10)]) (pos := [.sel []]) (.c (vals_Tally_1_ok a0 a1 (0 : Int) a0 (List.length a0 : Int) (0 : Int) o7 h8) (.c h9 (.c (vals_Total_ok o7.1 u10 h11) (.c h12 .n)))) (by kernel_rfl)
theorem can13 : Callable prog 13 := ⟨_, func13, by kernel_rfl, by kernel_rfl⟩
def seal_Tally_R (a0 : List (T484d)) (a1 : Tf0bc) (a2 : List (T8f72)) (u : Int × Int) : Slot := (.v .cplx u)
def seal_Tally_O (a0 : List (T484d)) (a1 : Tf0bc) (a2 : List (T8f72)) (u : Int × Int) : List AObj := []
theorem seal_Tally_ok (a0 : List (T484d)) (a1 : Tf0bc) (a2 : List (T8f72)) (u : Int × Int) (h : seal_Tally a0 a1 a2 = some u) : CallC prog 13 [(.v (.slice Y484d) a0), (.v Yf0bc a1), (.v (.slice Y8f72) a2)] [] (seal_Tally_R a0 a1 a2 u) (seal_Tally_O a0 a1 a2 u) := by
 unfold seal_Tally at h
 obtain ⟨u1, h2, h⟩ := andThen_some h
 obtain ⟨u3, h4, h⟩ := andThen_some h
 injection h with h; subst h
 exact env.fun func13 can13 (its := [.call [none, none, none] [] [] true (seal_Names_R a0 a1 a2 u1) (seal_Names_O a0 a1 a2 u1), .call [none, none] [] [1] true (vals_Tally_R a0 u1 u3) (vals_Tally_O a0 u1 u3)]) (pos := [.sel []]) (.c (seal_Names_ok a0 a1 a2 u1 h2) (.c (vals_Tally_ok a0 u1 u3 h4) .n)) (by kernel_rfl)
theorem can42 : Callable prog 42 := ⟨_, func42, by kernel_rfl, by kernel_rfl⟩
def vals_Over_R (a0 : Int × Int) (a1 : Int) (a2 : Int) (u : Bool) : Slot := (.v .bool u)
def vals_Over_O (a0 : Int × Int) (a1 : Int) (a2 : Int) (u : Bool) : List AObj := []
theorem vals_Over_ok (a0 : Int × Int) (a1 : Int) (a2 : Int) (u : Bool) (h : vals_Over a0 a1 a2 = some u) : CallC prog 42 [(.v .cplx a0), (.v (.int .i64) a1), (.v (.int .i64) a2)] [] (vals_Over_R a0 a1 a2 u) (vals_Over_O a0 a1 a2 u) := by
 unfold vals_Over at h
 injection h with h; subst h
 exact env.fun func42 can42 (its := []) (pos := [.sel []]) .n (by kernel_rfl)
theorem can15 : Callable prog 15 := ⟨_, func15, by kernel_rfl, by kernel_rfl⟩
def seal_Enough_R (a0 : List (T484d)) (a1 : Tf0bc) (a2 : List (T8f72)) (u : Bool) : Slot := (.v .bool u)
def seal_Enough_O (a0 : List (T484d)) (a1 : Tf0bc) (a2 : List (T8f72)) (u : Bool) : List AObj := []
theorem seal_Enough_ok (a0 : List (T484d)) (a1 : Tf0bc) (a2 : List (T8f72)) (u : Bool) (h : seal_Enough a0 a1 a2 = some u) : CallC prog 15 [(.v (.slice Y484d) a0), (.v Yf0bc a1), (.v (.slice Y8f72) a2)] [] (seal_Enough_R a0 a1 a2 u) (seal_Enough_O a0 a1 a2 u) := by
 unfold seal_Enough at h
 obtain ⟨u1, h2, h⟩ := andThen_some h
 obtain ⟨u3, h4, h⟩ := andThen_some h
 injection h with h; subst h
 exact env.fun func15 can15 (its := [.call [none, none, none] [] [] true (seal_Tally_R a0 a1 a2 u1) (seal_Tally_O a0 a1 a2 u1), .call [none, none, none] [] [] true (vals_Over_R u1 (2 : Int) (3 : Int) u3) (vals_Over_O u1 (2 : Int) (3 : Int) u3)]) (pos := [.sel []]) (.c (seal_Tally_ok a0 a1 a2 u1 h2) (.c (vals_Over_ok u1 (2 : Int) (3 : Int) u3 h4) .n)) (by kernel_rfl)
theorem can16 : Callable prog 16 := ⟨_, func16, by kernel_rfl, by kernel_rfl⟩
def seal_Some_R (a0 : List (T484d)) (a1 : Tf0bc) (a2 : List (T8f72)) (u : Bool) : Slot := (.v .bool u)
def seal_Some_O (a0 : List (T484d)) (a1 : Tf0bc) (a2 : List (T8f72)) (u : Bool) : List AObj := []
theorem seal_Some_ok (a0 : List (T484d)) (a1 : Tf0bc) (a2 : List (T8f72)) (u : Bool) (h : seal_Some a0 a1 a2 = some u) : CallC prog 16 [(.v (.slice Y484d) a0), (.v Yf0bc a1), (.v (.slice Y8f72) a2)] [] (seal_Some_R a0 a1 a2 u) (seal_Some_O a0 a1 a2 u) := by
 unfold seal_Some at h
 obtain ⟨u1, h2, h⟩ := andThen_some h
 obtain ⟨u3, h4, h⟩ := andThen_some h
 injection h with h; subst h
 exact env.fun func16 can16 (its := [.call [none, none, none] [] [] true (seal_Tally_R a0 a1 a2 u1) (seal_Tally_O a0 a1 a2 u1), .call [none, none, none] [] [] true (vals_Over_R u1 (1 : Int) (3 : Int) u3) (vals_Over_O u1 (1 : Int) (3 : Int) u3)]) (pos := [.sel []]) (.c (seal_Tally_ok a0 a1 a2 u1 h2) (.c (vals_Over_ok u1 (1 : Int) (3 : Int) u3 h4) .n)) (by kernel_rfl)
theorem can58 : Callable prog 58 := ⟨_, func58, by kernel_rfl, by kernel_rfl⟩
def slices_Clone_LHeader_Header_R (a0 : List (Tf0bc)) (u : List (Tf0bc)) : Slot := .own 0 []
def slices_Clone_LHeader_Header_O (a0 : List (Tf0bc)) (u : List (Tf0bc)) : List AObj := [.row Yf0bc u true]
theorem slices_Clone_LHeader_Header_ok (a0 : List (Tf0bc)) (u : List (Tf0bc)) (h : slices_Clone_LHeader_Header a0 = some u) : CallC prog 58 [.v (.slice Yf0bc) a0] [] (slices_Clone_LHeader_Header_R a0 u) (slices_Clone_LHeader_Header_O a0 u) := by
 unfold slices_Clone_LHeader_Header at h
 obtain ⟨h1, h⟩ := need_some h
 injection h with h; subst h
 rcases a0 with _ | ⟨x0, a0⟩
 ·exact env.funAny (r0 := codeAt (bodyOf f58) [0]) (r1 := codeAt (bodyOf f58) [1, 0, 0]) (x := codeAt (bodyOf f58) [1, 0, 1, 0]) (z := codeAt (bodyOf f58) [1, 1]) (t := 4) (r := (.own 0 [])) func58 can58 (i0 := [.sel [0] []]) (i1 := [.sel [0, 4] []]) (i2 := [.promote 2 Yf0bc, .sel [2] [0]]) (i3 := [.sel [2] [1]]) (pos := [.sel [0]]) (st1 := ⟨[(0, (.v (.slice Yf0bc) ([] : List (Tf0bc))))], [], 8, 0⟩) (st2 := ⟨[(0, (.v (.slice Yf0bc) ([] : List (Tf0bc)))), (4, .anyb)], [], 8, 0⟩) (st3 := ⟨[(2, (.own 0 []))], [.row Yf0bc ([] : List (Tf0bc)) true], 8, 0⟩) (by kernel_rfl) (by kernel_rfl) (by kernel_rfl) (by kernel_rfl) (by kernel_rfl) (by kernel_rfl) (.c (show List.length ([] : List (Tf0bc)) + List.length ([] : List (Tf0bc)) ≤ 2147483648 from by first | decide | (simp at h1 ⊢; try omega)) .n) (by kernel_rfl) (by kernel_rfl) (by kernel_rfl)
 ·exact env.fun func58 can58 (its := [b0]) (pos := [.sel [1]]) (.c r0 (.c (show List.length ([] : List (Tf0bc)) + List.length (x0 :: a0) ≤ 2147483648 from by first | decide | (simp at h1 ⊢; try omega)) .n)) (by kernel_rfl)
theorem can24 : Callable prog 24 := ⟨_, func24, by kernel_rfl, by kernel_rfl⟩
def light_Client_Update_b86e_R (a0 : Tedcc) (a1 : Int) (a2 : T65da) (u : Int × T65da) : Slot := (.v (.int .i64) u.1)
def light_Client_Update_b86e_O (a0 : Tedcc) (a1 : Int) (a2 : T65da) (u : Int × T65da) : List AObj := [.box Y65da (.v Y65da u.2) true]
theorem light_Client_Update_b86e_ok (a0 : Tedcc) (a1 : Int) (a2 : T65da) (u : Int × T65da) (h : light_Client_Update_b86e a0 a1 a2 = some u) : CallC prog 24 [(.ptr 0 []), (.v Yedcc a0), (.v (.int .i64) a1)] [.box Y65da (.v Y65da a2) true] (light_Client_Update_b86e_R a0 a1 a2 u) (light_Client_Update_b86e_O a0 a1 a2 u) := by
 unfold light_Client_Update_b86e at h
 obtain ⟨u1, h2, h⟩ := andThen_some h
 rcases fork_some h with ⟨h3, h⟩ | ⟨h3, h⟩
 ·injection h with h; subst h
  exact env.fun func24 can24 (its := [.call [none] [0] [] false (light_Client_Latest_265a_R a2 u1) (light_Client_Latest_265a_O a2 u1), b1]) (pos := [.sel [0]]) (.c (light_Client_Latest_265a_ok a2 u1 h2) (.c h3 .n)) (by kernel_rfl)
 ·obtain ⟨u4, h5, h⟩ := andThen_some h
  rcases fork_some h with ⟨h6, h⟩ | ⟨h6, h⟩
  ·injection h with h; subst h
   exact env.fun func24 can24 (its := [.call [none] [0] [] false (light_Client_Latest_265a_R a2 u1) (light_Client_Latest_265a_O a2 u1), b0, .call [none] [] [] true (light_Whole_R a0 u4) (light_Whole_O a0 u4), b1]) (pos := [.sel [0]]) (.c (light_Client_Latest_265a_ok a2 u1 h2) (.c h3 (.c (light_Whole_ok a0 u4 h5) (.c h6 .n)))) (by kernel_rfl)
  ·rcases fork_some h with ⟨h7, h⟩ | ⟨h7, h⟩
   ·injection h with h; subst h
    exact env.fun func24 can24 (its := [.call [none] [0] [] false (light_Client_Latest_265a_R a2 u1) (light_Client_Latest_265a_O a2 u1), b0, .call [none] [] [] true (light_Whole_R a0 u4) (light_Whole_O a0 u4), b0, b1]) (pos := [.sel [0]]) (.c (light_Client_Latest_265a_ok a2 u1 h2) (.c h3 (.c (light_Whole_ok a0 u4 h5) (.c h6 (.c h7 .n))))) (by kernel_rfl)
   ·rcases fork_some h with ⟨h8, h⟩ | ⟨h8, h⟩
    ·injection h with h; subst h
     exact env.fun func24 can24 (its := [.call [none] [0] [] false (light_Client_Latest_265a_R a2 u1) (light_Client_Latest_265a_O a2 u1), b0, .call [none] [] [] true (light_Whole_R a0 u4) (light_Whole_O a0 u4), b0, b0, b1]) (pos := [.sel [0]]) (.c (light_Client_Latest_265a_ok a2 u1 h2) (.c h3 (.c (light_Whole_ok a0 u4 h5) (.c h6 (.c h7 (.c h8 .n)))))) (by kernel_rfl)
    ·obtain ⟨u9, h10, h⟩ := andThen_some h
     rcases fork_some h with ⟨h11, h⟩ | ⟨h11, h⟩
     ·injection h with h; subst h
      exact env.fun func24 can24 (its := [.call [none] [0] [] false (light_Client_Latest_265a_R a2 u1) (light_Client_Latest_265a_O a2 u1), b0, .call [none] [] [] true (light_Whole_R a0 u4) (light_Whole_O a0 u4), b0, b0, b0, .call [none, none] [0] [] false (light_Client_Expired_890f_R a1 a2 u9) (light_Client_Expired_890f_O a1 a2 u9), b1, b1, b1, b1, b1, b1, b1]) (pos := [.sel [0]]) (.c (light_Client_Latest_265a_ok a2 u1 h2) (.c h3 (.c (light_Whole_ok a0 u4 h5) (.c h6 (.c h7 (.c h8 (.c (light_Client_Expired_890f_ok a1 a2 u9 h10) (.c h11 (.c h11 (.c h11 (.c h11 (.c h11 (.c h11 (.c r1 .n)))))))))))))) (by kernel_rfl)
     ·rcases fork_some h with ⟨h12, h⟩ | ⟨h12, h⟩
      ·injection h with h; subst h
       exact env.fun func24 can24 (its := [.call [none] [0] [] false (light_Client_Latest_265a_R a2 u1) (light_Client_Latest_265a_O a2 u1), b0, .call [none] [] [] true (light_Whole_R a0 u4) (light_Whole_O a0 u4), b0, b0, b0, .call [none, none] [0] [] false (light_Client_Expired_890f_R a1 a2 u9) (light_Client_Expired_890f_O a1 a2 u9), b0, b0, b0, b0, b0, b0, b1]) (pos := [.sel [0]]) (.c (light_Client_Latest_265a_ok a2 u1 h2) (.c h3 (.c (light_Whole_ok a0 u4 h5) (.c h6 (.c h7 (.c h8 (.c (light_Client_Expired_890f_ok a1 a2 u9 h10) (.c h11 (.c h11 (.c h11 (.c h11 (.c h11 (.c h11 (.c h12 .n)))))))))))))) (by kernel_rfl)
      ·rcases fork_some h with ⟨h13, h⟩ | ⟨h13, h⟩
       ·rcases fork_some h with ⟨h14, h⟩ | ⟨h14, h⟩
        ·injection h with h; subst h
         exact env.fun func24 can24 (its := [.call [none] [0] [] false (light_Client_Latest_265a_R a2 u1) (light_Client_Latest_265a_O a2 u1), b0, .call [none] [] [] true (light_Whole_R a0 u4) (light_Whole_O a0 u4), b0, b0, b0, .call [none, none] [0] [] false (light_Client_Expired_890f_R a1 a2 u9) (light_Client_Expired_890f_O a1 a2 u9), b0, b0, b0, b0, b0, b0, b0, .pre p41, b1, b1, b1, b1, b1, b1, b1, b1, b1, b1, b1, b1, b1, b1, b1, b1, b1, b1, b1, b1, b1, b1]) (pos := [.sel [0]]) (.c (light_Client_Latest_265a_ok a2 u1 h2) (.c h3 (.c (light_Whole_ok a0 u4 h5) (.c h6 (.c h7 (.c h8 (.c (light_Client_Expired_890f_ok a1 a2 u9 h10) (.c h11 (.c h11 (.c h11 (.c h11 (.c h11 (.c h11 (.c h12 (.c h13 (.c h13 (.c h13 (.c h13 (.c h13 (.c h13 (.c h13 (.c h14 (.c h14 (.c h14 (.c h14 (.c h14 (.c h14 (.c h14 (.c h14 (.c h14 (.c r1 (.c r1 (.c r1 (.c r1 (.c r1 (.c r1 .n)))))))))))))))))))))))))))))))))))) (by kernel_rfl)
        ·obtain ⟨u15, h16, h⟩ := andThen_some h
         rcases fork_some h with ⟨h17, h⟩ | ⟨h17, h⟩
         ·injection h with h; subst h
          exact env.fun func24 can24 (its := [.call [none] [0] [] false (light_Client_Latest_265a_R a2 u1) (light_Client_Latest_265a_O a2 u1), b0, .call [none] [] [] true (light_Whole_R a0 u4) (light_Whole_O a0 u4), b0, b0, b0, .call [none, none] [0] [] false (light_Client_Expired_890f_R a1 a2 u9) (light_Client_Expired_890f_O a1 a2 u9), b0, b0, b0, b0, b0, b0, b0, .pre p41, b1, b1, b1, b1, b1, b1, b1, b0, b0, b0, b0, b0, b0, b0, .asis, .call [none, none, none] [] [] true (seal_Enough_R a0.2.2.1 a0.1 a0.2.1 u15) (seal_Enough_O a0.2.2.1 a0.1 a0.2.1 u15), b0, b0, b1, b1, b1, b1, b1, b1]) (pos := [.sel [0]]) (.c (light_Client_Latest_265a_ok a2 u1 h2) (.c h3 (.c (light_Whole_ok a0 u4 h5) (.c h6 (.c h7 (.c h8 (.c (light_Client_Expired_890f_ok a1 a2 u9 h10) (.c h11 (.c h11 (.c h11 (.c h11 (.c h11 (.c h11 (.c h12 (.c h13 (.c h13 (.c h13 (.c h13 (.c h13 (.c h13 (.c h13 (.c h14 (.c h14 (.c h14 (.c h14 (.c h14 (.c h14 (.c h14 (.c rn (.c (seal_Enough_ok a0.2.2.1 a0.1 a0.2.1 u15 h16) (.c h14 (.c h14 (.c h17 (.c h17 (.c h17 (.c h17 (.c h17 (.c r1 .n)))))))))))))))))))))))))))))))))))))) (by kernel_rfl)
         ·rcases fork_some h with ⟨h18, h⟩ | ⟨h18, h⟩
          ·obtain ⟨u19, h20, h⟩ := andThen_some h
           rcases fork_some h with ⟨h21, h⟩ | ⟨h21, h⟩
           ·injection h with h; subst h
            exact env.fun func24 can24 (its := [.call [none] [0] [] false (light_Client_Latest_265a_R a2 u1) (light_Client_Latest_265a_O a2 u1), b0, .call [none] [] [] true (light_Whole_R a0 u4) (light_Whole_O a0 u4), b0, b0, b0, .call [none, none] [0] [] false (light_Client_Expired_890f_R a1 a2 u9) (light_Client_Expired_890f_O a1 a2 u9), b0, b0, b0, b0, b0, b0, b0, .pre p41, b1, b1, b1, b1, b1, b1, b1, b0, b0, b0, b0, b0, b0, b0, .asis, .call [none, none, none] [] [] true (seal_Enough_R a0.2.2.1 a0.1 a0.2.1 u15) (seal_Enough_O a0.2.2.1 a0.1 a0.2.1 u15), b0, b0, b0, b0, b0, b1, b1, b1, b1, b1, b1, b1, b1, b1, .asis, .call [none, none, none] [] [] true (seal_Some_R a2.2.1 a0.1 a0.2.1 u19) (seal_Some_O a2.2.1 a0.1 a0.2.1 u19), b1, b0, b1, b0, b1]) (pos := [.sel [0]]) (.c (light_Client_Latest_265a_ok a2 u1 h2) (.c h3 (.c (light_Whole_ok a0 u4 h5) (.c h6 (.c h7 (.c h8 (.c (light_Client_Expired_890f_ok a1 a2 u9 h10) (.c h11 (.c h11 (.c h11 (.c h11 (.c h11 (.c h11 (.c h12 (.c h13 (.c h13 (.c h13 (.c h13 (.c h13 (.c h13 (.c h13 (.c h14 (.c h14 (.c h14 (.c h14 (.c h14 (.c h14 (.c h14 (.c rn (.c (seal_Enough_ok a0.2.2.1 a0.1 a0.2.1 u15 h16) (.c h14 (.c h14 (.c h17 (.c h17 (.c h17 (.c h18 (.c h18 (.c h18 (.c h18 (.c h18 (.c h18 (.c h18 (.c h18 (.c h18 (.c rn (.c (seal_Some_ok a2.2.1 a0.1 a0.2.1 u19 h20) (.c h18 (.c h17 (.c h18 (.c h17 (.c h21 .n))))))))))))))))))))))))))))))))))))))))))))))))))) (by kernel_rfl)
           ·obtain ⟨u22, h23, h⟩ := andThen_some h
            obtain ⟨h24, h⟩ := need_some h
            rcases fork_some h with ⟨h25, h⟩ | ⟨h25, h⟩
            ·obtain ⟨h26, h⟩ := need_some h
             obtain ⟨u27, h28, h⟩ := andThen_some h
             injection h with h; subst h
             exact env.fun func24 can24 (its := [.call [none] [0] [] false (light_Client_Latest_265a_R a2 u1) (light_Client_Latest_265a_O a2 u1), b0, .call [none] [] [] true (light_Whole_R a0 u4) (light_Whole_O a0 u4), b0, b0, b0, .call [none, none] [0] [] false (light_Client_Expired_890f_R a1 a2 u9) (light_Client_Expired_890f_O a1 a2 u9), b0, b0, b0, b0, b0, b0, b0, .pre p41, b1, b1, b1, b1, b1, b1, b1, b0, b0, b0, b0, b0, b0, b0, .asis, .call [none, none, none] [] [] true (seal_Enough_R a0.2.2.1 a0.1 a0.2.1 u15) (seal_Enough_O a0.2.2.1 a0.1 a0.2.1 u15), b0, b0, b0, b0, b0, b1, b1, b1, b1, b1, b1, b1, b1, b1, .asis, .call [none, none, none] [] [] true (seal_Some_R a2.2.1 a0.1 a0.2.1 u19) (seal_Some_O a2.2.1 a0.1 a0.2.1 u19), b1, b0, b1, b0, b0, .pre p42, .call [none] [] [] true (slices_Clone_LHeader_Header_R a2.1 u22) (slices_Clone_LHeader_Header_O a2.1 u22), b1, b0, .call [none] [] [] true (slices_Clone_LVal_Val_R a0.2.2.2.1 u27) (slices_Clone_LVal_Val_O a0.2.2.2.1 u27)]) (pos := [.valObj 0 [], .sel [0]]) (.c (light_Client_Latest_265a_ok a2 u1 h2) (.c h3 (.c (light_Whole_ok a0 u4 h5) (.c h6 (.c h7 (.c h8 (.c (light_Client_Expired_890f_ok a1 a2 u9 h10) (.c h11 (.c h11 (.c h11 (.c h11 (.c h11 (.c h11 (.c h12 (.c h13 (.c h13 (.c h13 (.c h13 (.c h13 (.c h13 (.c h13 (.c h14 (.c h14 (.c h14 (.c h14 (.c h14 (.c h14 (.c h14 (.c rn (.c (seal_Enough_ok a0.2.2.1 a0.1 a0.2.1 u15 h16) (.c h14 (.c h14 (.c h17 (.c h17 (.c h17 (.c h18 (.c h18 (.c h18 (.c h18 (.c h18 (.c h18 (.c h18 (.c h18 (.c h18 (.c rn (.c (seal_Some_ok a2.2.1 a0.1 a0.2.1 u19 h20) (.c h18 (.c h17 (.c h18 (.c h17 (.c h21 (.c (slices_Clone_LHeader_Header_ok a2.1 u22 h23) (.c h24 (.c h25 (.c h26 (.c (slices_Clone_LVal_Val_ok a0.2.2.2.1 u27 h28) .n)))))))))))))))))))))))))))))))))))))))))))))))))))))))) (by kernel_rfl)
            ·obtain ⟨u29, h30, h⟩ := andThen_some h
             injection h with h; subst h
             exact env.fun func24 can24 (its := [.call [none] [0] [] false (light_Client_Latest_265a_R a2 u1) (light_Client_Latest_265a_O a2 u1), b0, .call [none] [] [] true (light_Whole_R a0 u4) (light_Whole_O a0 u4), b0, b0, b0, .call [none, none] [0] [] false (light_Client_Expired_890f_R a1 a2 u9) (light_Client_Expired_890f_O a1 a2 u9), b0, b0, b0, b0, b0, b0, b0, .pre p41, b1, b1, b1, b1, b1, b1, b1, b0, b0, b0, b0, b0, b0, b0, .asis, .call [none, none, none] [] [] true (seal_Enough_R a0.2.2.1 a0.1 a0.2.1 u15) (seal_Enough_O a0.2.2.1 a0.1 a0.2.1 u15), b0, b0, b0, b0, b0, b1, b1, b1, b1, b1, b1, b1, b1, b1, .asis, .call [none, none, none] [] [] true (seal_Some_R a2.2.1 a0.1 a0.2.1 u19) (seal_Some_O a2.2.1 a0.1 a0.2.1 u19), b1, b0, b1, b0, b0, .pre p42, .call [none] [] [] true (slices_Clone_LHeader_Header_R a2.1 u22) (slices_Clone_LHeader_Header_O a2.1 u22), b0, .call [none] [] [] true (slices_Clone_LVal_Val_R a0.2.2.2.1 u29) (slices_Clone_LVal_Val_O a0.2.2.2.1 u29)]) (pos := [.valObj 0 [], .sel [0]]) (.c (light_Client_Latest_265a_ok a2 u1 h2) (.c h3 (.c (light_Whole_ok a0 u4 h5) (.c h6 (.c h7 (.c h8 (.c (light_Client_Expired_890f_ok a1 a2 u9 h10) (.c h11 (.c h11 (.c h11 (.c h11 (.c h11 (.c h11 (.c h12 (.c h13 (.c h13 (.c h13 (.c h13 (.c h13 (.c h13 (.c h13 (.c h14 (.c h14 (.c h14 (.c h14 (.c h14 (.c h14 (.c h14 (.c rn (.c (seal_Enough_ok a0.2.2.1 a0.1 a0.2.1 u15 h16) (.c h14 (.c h14 (.c h17 (.c h17 (.c h17 (.c h18 (.c h18 (.c h18 (.c h18 (.c h18 (.c h18 (.c h18 (.c h18 (.c h18 (.c rn (.c (seal_Some_ok a2.2.1 a0.1 a0.2.1 u19 h20) (.c h18 (.c h17 (.c h18 (.c h17 (.c h21 (.c (slices_Clone_LHeader_Header_ok a2.1 u22 h23) (.c h24 (.c h25 (.c (slices_Clone_LVal_Val_ok a0.2.2.2.1 u29 h30) .n))))))))))))))))))))))))))))))))))))))))))))))))))))))) (by kernel_rfl)
          ·obtain ⟨u31, h32, h⟩ := andThen_some h
           obtain ⟨h33, h⟩ := need_some h
           rcases fork_some h with ⟨h34, h⟩ | ⟨h34, h⟩
           ·obtain ⟨h35, h⟩ := need_some h
            obtain ⟨u36, h37, h⟩ := andThen_some h
            injection h with h; subst h
            exact env.fun func24 can24 (its := [.call [none] [0] [] false (light_Client_Latest_265a_R a2 u1) (light_Client_Latest_265a_O a2 u1), b0, .call [none] [] [] true (light_Whole_R a0 u4) (light_Whole_O a0 u4), b0, b0, b0, .call [none, none] [0] [] false (light_Client_Expired_890f_R a1 a2 u9) (light_Client_Expired_890f_O a1 a2 u9), b0, b0, b0, b0, b0, b0, b0, .pre p41, b1, b1, b1, b1, b1, b1, b1, b0, b0, b0, b0, b0, b0, b0, .asis, .call [none, none, none] [] [] true (seal_Enough_R a0.2.2.1 a0.1 a0.2.1 u15) (seal_Enough_O a0.2.2.1 a0.1 a0.2.1 u15), b0, b0, b0, b0, b0, b0, b0, b0, b0, b0, b0, b0, b0, b0, b0, b0, b0, b0, b0, .pre p42, .call [none] [] [] true (slices_Clone_LHeader_Header_R a2.1 u31) (slices_Clone_LHeader_Header_O a2.1 u31), b1, b0, .call [none] [] [] true (slices_Clone_LVal_Val_R a0.2.2.2.1 u36) (slices_Clone_LVal_Val_O a0.2.2.2.1 u36)]) (pos := [.valObj 0 [], .sel [0]]) (.c (light_Client_Latest_265a_ok a2 u1 h2) (.c h3 (.c (light_Whole_ok a0 u4 h5) (.c h6 (.c h7 (.c h8 (.c (light_Client_Expired_890f_ok a1 a2 u9 h10) (.c h11 (.c h11 (.c h11 (.c h11 (.c h11 (.c h11 (.c h12 (.c h13 (.c h13 (.c h13 (.c h13 (.c h13 (.c h13 (.c h13 (.c h14 (.c h14 (.c h14 (.c h14 (.c h14 (.c h14 (.c h14 (.c rn (.c (seal_Enough_ok a0.2.2.1 a0.1 a0.2.1 u15 h16) (.c h14 (.c h14 (.c h17 (.c h17 (.c h17 (.c h18 (.c h18 (.c h18 (.c h18 (.c h18 (.c h18 (.c h18 (.c h18 (.c h18 (.c h18 (.c h17 (.c h18 (.c h17 (.c r0 (.c (slices_Clone_LHeader_Header_ok a2.1 u31 h32) (.c h33 (.c h34 (.c h35 (.c (slices_Clone_LVal_Val_ok a0.2.2.2.1 u36 h37) .n)))))))))))))))))))))))))))))))))))))))))))))))))))))) (by kernel_rfl)
           ·obtain ⟨u38, h39, h⟩ := andThen_some h
            injection h with h; subst h
            exact env.fun func24 can24 (its := [.call [none] [0] [] false (light_Client_Latest_265a_R a2 u1) (light_Client_Latest_265a_O a2 u1), b0, .call [none] [] [] true (light_Whole_R a0 u4) (light_Whole_O a0 u4), b0, b0, b0, .call [none, none] [0] [] false (light_Client_Expired_890f_R a1 a2 u9) (light_Client_Expired_890f_O a1 a2 u9), b0, b0, b0, b0, b0, b0, b0, .pre p41, b1, b1, b1, b1, b1, b1, b1, b0, b0, b0, b0, b0, b0, b0, .asis, .call [none, none, none] [] [] true (seal_Enough_R a0.2.2.1 a0.1 a0.2.1 u15) (seal_Enough_O a0.2.2.1 a0.1 a0.2.1 u15), b0, b0, b0, b0, b0, b0, b0, b0, b0, b0, b0, b0, b0, b0, b0, b0, b0, b0, b0, .pre p42, .call [none] [] [] true (slices_Clone_LHeader_Header_R a2.1 u31) (slices_Clone_LHeader_Header_O a2.1 u31), b0, .call [none] [] [] true (slices_Clone_LVal_Val_R a0.2.2.2.1 u38) (slices_Clone_LVal_Val_O a0.2.2.2.1 u38)]) (pos := [.valObj 0 [], .sel [0]]) (.c (light_Client_Latest_265a_ok a2 u1 h2) (.c h3 (.c (light_Whole_ok a0 u4 h5) (.c h6 (.c h7 (.c h8 (.c (light_Client_Expired_890f_ok a1 a2 u9 h10) (.c h11 (.c h11 (.c h11 (.c h11 (.c h11 (.c h11 (.c h12 (.c h13 (.c h13 (.c h13 (.c h13 (.c h13 (.c h13 (.c h13 (.c h14 (.c h14 (.c h14 (.c h14 (.c h14 (.c h14 (.c h14 (.c rn (.c (seal_Enough_ok a0.2.2.1 a0.1 a0.2.1 u15 h16) (.c h14 (.c h14 (.c h17 (.c h17 (.c h17 (.c h18 (.c h18 (.c h18 (.c h18 (.c h18 (.c h18 (.c h18 (.c h18 (.c h18 (.c h18 (.c h17 (.c h18 (.c h17 (.c r0 (.c (slices_Clone_LHeader_Header_ok a2.1 u31 h32) (.c h33 (.c h34 (.c (slices_Clone_LVal_Val_ok a0.2.2.2.1 u38 h39) .n))))))))))))))))))))))))))))))))))))))))))))))))))))) (by kernel_rfl)
       ·obtain ⟨u40, h41, h⟩ := andThen_some h
        rcases fork_some h with ⟨h42, h⟩ | ⟨h42, h⟩
        ·injection h with h; subst h
         exact env.fun func24 can24 (its := [.call [none] [0] [] false (light_Client_Latest_265a_R a2 u1) (light_Client_Latest_265a_O a2 u1), b0, .call [none] [] [] true (light_Whole_R a0 u4) (light_Whole_O a0 u4), b0, b0, b0, .call [none, none] [0] [] false (light_Client_Expired_890f_R a1 a2 u9) (light_Client_Expired_890f_O a1 a2 u9), b0, b0, b0, b0, b0, b0, b0, .pre p41, b0, b0, b0, b0, b0, b0, b0, b0, b0, b0, b0, b0, b0, b0, .asis, .call [none, none, none] [] [] true (seal_Enough_R a0.2.2.1 a0.1 a0.2.1 u40) (seal_Enough_O a0.2.2.1 a0.1 a0.2.1 u40), b0, b0, b1, b1, b1, b1, b1, b1]) (pos := [.sel [0]]) (.c (light_Client_Latest_265a_ok a2 u1 h2) (.c h3 (.c (light_Whole_ok a0 u4 h5) (.c h6 (.c h7 (.c h8 (.c (light_Client_Expired_890f_ok a1 a2 u9 h10) (.c h11 (.c h11 (.c h11 (.c h11 (.c h11 (.c h11 (.c h12 (.c h13 (.c h13 (.c h13 (.c h13 (.c h13 (.c h13 (.c h13 (.c r0 (.c r0 (.c r0 (.c r0 (.c r0 (.c r0 (.c r0 (.c rn (.c (seal_Enough_ok a0.2.2.1 a0.1 a0.2.1 u40 h41) (.c r0 (.c r0 (.c h42 (.c h42 (.c h42 (.c h42 (.c h42 (.c r1 .n)))))))))))))))))))))))))))))))))))))) (by kernel_rfl)
        ·rcases fork_some h with ⟨h43, h⟩ | ⟨h43, h⟩
         ·obtain ⟨u44, h45, h⟩ := andThen_some h
          rcases fork_some h with ⟨h46, h⟩ | ⟨h46, h⟩
          ·injection h with h; subst h
           exact env.fun func24 can24 (its := [.call [none] [0] [] false (light_Client_Latest_265a_R a2 u1) (light_Client_Latest_265a_O a2 u1), b0, .call [none] [] [] true (light_Whole_R a0 u4) (light_Whole_O a0 u4), b0, b0, b0, .call [none, none] [0] [] false (light_Client_Expired_890f_R a1 a2 u9) (light_Client_Expired_890f_O a1 a2 u9), b0, b0, b0, b0, b0, b0, b0, .pre p41, b0, b0, b0, b0, b0, b0, b0, b0, b0, b0, b0, b0, b0, b0, .asis, .call [none, none, none] [] [] true (seal_Enough_R a0.2.2.1 a0.1 a0.2.1 u40) (seal_Enough_O a0.2.2.1 a0.1 a0.2.1 u40), b0, b0, b0, b0, b0, b1, b1, b1, b1, b1, b1, b1, b1, b1, .asis, .call [none, none, none] [] [] true (seal_Some_R a2.2.1 a0.1 a0.2.1 u44) (seal_Some_O a2.2.1 a0.1 a0.2.1 u44), b1, b0, b1, b0, b1]) (pos := [.sel [0]]) (.c (light_Client_Latest_265a_ok a2 u1 h2) (.c h3 (.c (light_Whole_ok a0 u4 h5) (.c h6 (.c h7 (.c h8 (.c (light_Client_Expired_890f_ok a1 a2 u9 h10) (.c h11 (.c h11 (.c h11 (.c h11 (.c h11 (.c h11 (.c h12 (.c h13 (.c h13 (.c h13 (.c h13 (.c h13 (.c h13 (.c h13 (.c r0 (.c r0 (.c r0 (.c r0 (.c r0 (.c r0 (.c r0 (.c rn (.c (seal_Enough_ok a0.2.2.1 a0.1 a0.2.1 u40 h41) (.c r0 (.c r0 (.c h42 (.c h42 (.c h42 (.c h43 (.c h43 (.c h43 (.c h43 (.c h43 (.c h43 (.c h43 (.c h43 (.c h43 (.c rn (.c (seal_Some_ok a2.2.1 a0.1 a0.2.1 u44 h45) (.c h43 (.c h42 (.c h43 (.c h42 (.c h46 .n))))))))))))))))))))))))))))))))))))))))))))))))))) (by kernel_rfl)
          ·obtain ⟨u47, h48, h⟩ := andThen_some h
           obtain ⟨h49, h⟩ := need_some h
           rcases fork_some h with ⟨h50, h⟩ | ⟨h50, h⟩
           ·obtain ⟨h51, h⟩ := need_some h
            obtain ⟨u52, h53, h⟩ := andThen_some h
            injection h with h; subst h
            exact env.fun func24 can24 (its := [.call [none] [0] [] false (light_Client_Latest_265a_R a2 u1) (light_Client_Latest_265a_O a2 u1), b0, .call [none] [] [] true (light_Whole_R a0 u4) (light_Whole_O a0 u4), b0, b0, b0, .call [none, none] [0] [] false (light_Client_Expired_890f_R a1 a2 u9) (light_Client_Expired_890f_O a1 a2 u9), b0, b0, b0, b0, b0, b0, b0, .pre p41, b0, b0, b0, b0, b0, b0, b0, b0, b0, b0, b0, b0, b0, b0, .asis, .call [none, none, none] [] [] true (seal_Enough_R a0.2.2.1 a0.1 a0.2.1 u40) (seal_Enough_O a0.2.2.1 a0.1 a0.2.1 u40), b0, b0, b0, b0, b0, b1, b1, b1, b1, b1, b1, b1, b1, b1, .asis, .call [none, none, none] [] [] true (seal_Some_R a2.2.1 a0.1 a0.2.1 u44) (seal_Some_O a2.2.1 a0.1 a0.2.1 u44), b1, b0, b1, b0, b0, .pre p42, .call [none] [] [] true (slices_Clone_LHeader_Header_R a2.1 u47) (slices_Clone_LHeader_Header_O a2.1 u47), b1, b0, .call [none] [] [] true (slices_Clone_LVal_Val_R a0.2.2.2.1 u52) (slices_Clone_LVal_Val_O a0.2.2.2.1 u52)]) (pos := [.valObj 0 [], .sel [0]]) (.c (light_Client_Latest_265a_ok a2 u1 h2) (.c h3 (.c (light_Whole_ok a0 u4 h5) (.c h6 (.c h7 (.c h8 (.c (light_Client_Expired_890f_ok a1 a2 u9 h10) (.c h11 (.c h11 (.c h11 (.c h11 (.c h11 (.c h11 (.c h12 (.c h13 (.c h13 (.c h13 (.c h13 (.c h13 (.c h13 (.c h13 (.c r0 (.c r0 (.c r0 (.c r0 (.c r0 (.c r0 (.c r0 (.c rn (.c (seal_Enough_ok a0.2.2.1 a0.1 a0.2.1 u40 h41) (.c r0 (.c r0 (.c h42 (.c h42 (.c h42 (.c h43 (.c h43 (.c h43 (.c h43 (.c h43 (.c h43 (.c h43 (.c h43 (.c h43 (.c rn (.c (seal_Some_ok a2.2.1 a0.1 a0.2.1 u44 h45) (.c h43 (.c h42 (.c h43 (.c h42 (.c h46 (.c (slices_Clone_LHeader_Header_ok a2.1 u47 h48) (.c h49 (.c h50 (.c h51 (.c (slices_Clone_LVal_Val_ok a0.2.2.2.1 u52 h53) .n)))))))))))))))))))))))))))))))))))))))))))))))))))))))) (by kernel_rfl)
           ·obtain ⟨u54, h55, h⟩ := andThen_some h
            injection h with h; subst h
            exact env.fun func24 can24 (its := [.call [none] [0] [] false (light_Client_Latest_265a_R a2 u1) (light_Client_Latest_265a_O a2 u1), b0, .call [none] [] [] true (light_Whole_R a0 u4) (light_Whole_O a0 u4), b0, b0, b0, .call [none, none] [0] [] false (light_Client_Expired_890f_R a1 a2 u9) (light_Client_Expired_890f_O a1 a2 u9), b0, b0, b0, b0, b0, b0, b0, .pre p41, b0, b0, b0, b0, b0, b0, b0, b0, b0, b0, b0, b0, b0, b0, .asis, .call [none, none, none] [] [] true (seal_Enough_R a0.2.2.1 a0.1 a0.2.1 u40) (seal_Enough_O a0.2.2.1 a0.1 a0.2.1 u40), b0, b0, b0, b0, b0, b1, b1, b1, b1, b1, b1, b1, b1, b1, .asis, .call [none, none, none] [] [] true (seal_Some_R a2.2.1 a0.1 a0.2.1 u44) (seal_Some_O a2.2.1 a0.1 a0.2.1 u44), b1, b0, b1, b0, b0, .pre p42, .call [none] [] [] true (slices_Clone_LHeader_Header_R a2.1 u47) (slices_Clone_LHeader_Header_O a2.1 u47), b0, .call [none] [] [] true (slices_Clone_LVal_Val_R a0.2.2.2.1 u54) (slices_Clone_LVal_Val_O a0.2.2.2.1 u54)]) (pos := [.valObj 0 [], .sel [0]]) (.c (light_Client_Latest_265a_ok a2 u1 h2) (.c h3 (.c (light_Whole_ok a0 u4 h5) (.c h6 (.c h7 (.c h8 (.c (light_Client_Expired_890f_ok a1 a2 u9 h10) (.c h11 (.c h11 (.c h11 (.c h11 (.c h11 (.c h11 (.c h12 (.c h13 (.c h13 (.c h13 (.c h13 (.c h13 (.c h13 (.c h13 (.c r0 (.c r0 (.c r0 (.c r0 (.c r0 (.c r0 (.c r0 (.c rn (.c (seal_Enough_ok a0.2.2.1 a0.1 a0.2.1 u40 h41) (.c r0 (.c r0 (.c h42 (.c h42 (.c h42 (.c h43 (.c h43 (.c h43 (.c h43 (.c h43 (.c h43 (.c h43 (.c h43 (.c h43 (.c rn (.c (seal_Some_ok a2.2.1 a0.1 a0.2.1 u44 h45) (.c h43 (.c h42 (.c h43 (.c h42 (.c h46 (.c (slices_Clone_LHeader_Header_ok a2.1 u47 h48) (.c h49 (.c h50 (.c (slices_Clone_LVal_Val_ok a0.2.2.2.1 u54 h55) .n))))))))))))))))))))))))))))))))))))))))))))))))))))))) (by kernel_rfl)
         ·obtain ⟨u56, h57, h⟩ := andThen_some h
          obtain ⟨h58, h⟩ := need_some h
          rcases fork_some h with ⟨h59, h⟩ | ⟨h59, h⟩
          ·obtain ⟨h60, h⟩ := need_some h
           obtain ⟨u61, h62, h⟩ := andThen_some h
           injection h with h; subst h
           exact env.fun func24 can24 (its := [.call [none] [0] [] false (light_Client_Latest_265a_R a2 u1) (light_Client_Latest_265a_O a2 u1), b0, .call [none] [] [] true (light_Whole_R a0 u4) (light_Whole_O a0 u4), b0, b0, b0, .call [none, none] [0] [] false (light_Client_Expired_890f_R a1 a2 u9) (light_Client_Expired_890f_O a1 a2 u9), b0, b0, b0, b0, b0, b0, b0, .pre p41, b0, b0, b0, b0, b0, b0, b0, b0, b0, b0, b0, b0, b0, b0, .asis, .call [none, none, none] [] [] true (seal_Enough_R a0.2.2.1 a0.1 a0.2.1 u40) (seal_Enough_O a0.2.2.1 a0.1 a0.2.1 u40), b0, b0, b0, b0, b0, b0, b0, b0, b0, b0, b0, b0, b0, b0, b0, b0, b0, b0, b0, .pre p42, .call [none] [] [] true (slices_Clone_LHeader_Header_R a2.1 u56) (slices_Clone_LHeader_Header_O a2.1 u56), b1, b0, .call [none] [] [] true (slices_Clone_LVal_Val_R a0.2.2.2.1 u61) (slices_Clone_LVal_Val_O a0.2.2.2.1 u61)]) (pos := [.valObj 0 [], .sel [0]]) (.c (light_Client_Latest_265a_ok a2 u1 h2) (.c h3 (.c (light_Whole_ok a0 u4 h5) (.c h6 (.c h7 (.c h8 (.c (light_Client_Expired_890f_ok a1 a2 u9 h10) (.c h11 (.c h11 (.c h11 (.c h11 (.c h11 (.c h11 (.c h12 (.c h13 (.c h13 (.c h13 (.c h13 (.c h13 (.c h13 (.c h13 (.c r0 (.c r0 (.c r0 (.c r0 (.c r0 (.c r0 (.c r0 (.c rn (.c (seal_Enough_ok a0.2.2.1 a0.1 a0.2.1 u40 h41) (.c r0 (.c r0 (.c h42 (.c h42 (.c h42 (.c h43 (.c h43 (.c h43 (.c h43 (.c h43 (.c h43 (.c h43 (.c h43 (.c h43 (.c h43 (.c h42 (.c h43 (.c h42 (.c r0 (.c (slices_Clone_LHeader_Header_ok a2.1 u56 h57) (.c h58 (.c h59 (.c h60 (.c (slices_Clone_LVal_Val_ok a0.2.2.2.1 u61 h62) .n)))))))))))))))))))))))))))))))))))))))))))))))))))))) (by kernel_rfl)
          ·obtain ⟨u63, h64, h⟩ := andThen_some h
           injection h with h; subst h
           exact env.fun func24 can24 (its := [.call [none] [0] [] false (light_Client_Latest_265a_R a2 u1) (light_Client_Latest_265a_O a2 u1), b0, .call [none] [] [] true (light_Whole_R a0 u4) (light_Whole_O a0 u4), b0, b0, b0, .call [none, none] [0] [] false (light_Client_Expired_890f_R a1 a2 u9) (light_Client_Expired_890f_O a1 a2 u9), b0, b0, b0, b0, b0, b0, b0, .pre p41, b0, b0, b0, b0, b0, b0, b0, b0, b0, b0, b0, b0, b0, b0, .asis, .call [none, none, none] [] [] true (seal_Enough_R a0.2.2.1 a0.1 a0.2.1 u40) (seal_Enough_O a0.2.2.1 a0.1 a0.2.1 u40), b0, b0, b0, b0, b0, b0, b0, b0, b0, b0, b0, b0, b0, b0, b0, b0, b0, b0, b0, .pre p42, .call [none] [] [] true (slices_Clone_LHeader_Header_R a2.1 u56) (slices_Clone_LHeader_Header_O a2.1 u56), b0, .call [none] [] [] true (slices_Clone_LVal_Val_R a0.2.2.2.1 u63) (slices_Clone_LVal_Val_O a0.2.2.2.1 u63)]) (pos := [.valObj 0 [], .sel [0]]) (.c (light_Client_Latest_265a_ok a2 u1 h2) (.c h3 (.c (light_Whole_ok a0 u4 h5) (.c h6 (.c h7 (.c h8 (.c (light_Client_Expired_890f_ok a1 a2 u9 h10) (.c h11 (.c h11 (.c h11 (.c h11 (.c h11 (.c h11 (.c h12 (.c h13 (.c h13 (.c h13 (.c h13 (.c h13 (.c h13 (.c h13 (.c r0 (.c r0 (.c r0 (.c r0 (.c r0 (.c r0 (.c r0 (.c rn (.c (seal_Enough_ok a0.2.2.1 a0.1 a0.2.1 u40 h41) (.c r0 (.c r0 (.c h42 (.c h42 (.c h42 (.c h43 (.c h43 (.c h43 (.c h43 (.c h43 (.c h43 (.c h43 (.c h43 (.c h43 (.c h43 (.c h42 (.c h43 (.c h42 (.c r0 (.c (slices_Clone_LHeader_Header_ok a2.1 u56 h57) (.c h58 (.c h59 (.c (slices_Clone_LVal_Val_ok a0.2.2.2.1 u63 h64) .n))))))))))))))))))))))))))))))))))))))))))))))))))))) (by kernel_rfl)
theorem can29 : Callable prog 29 := ⟨_, func29, by kernel_rfl, by kernel_rfl⟩
def affiantref10_Total_1_in (x0 : Int) (x1 : List (T484d)) (x2 : Int) (x3 : Int) : St := ⟨[(3, (.v (.int .i64) x0)), (6, (.v (.slice Y484d) x1)), (7, (.v (.int .i64) x2)), (8, (.v (.int .i64) x3))], [], 18, 0⟩
def affiantref10_Total_1_ex (o : Int) : Exit := (.exit 0)
def affiantref10_Total_1_st (o : Int) : St := ⟨[(3, (.v (.int .i64) o))], [], 18, 0⟩
theorem affiantref10_Total_1_body (x0 : Int) (x1 : List (T484d)) (x2 : Int) (x3 : Int) : ∀ r, affiantref10_Total_1_step x0 x1 x2 x3 = some r → (match r with | .inl s => CodeOK prog (codeAt (bodyOf f29) [1, 1, 0, 1, 0, 0]) (affiantref10_Total_1_in x0 x1 x2 x3) .normal (affiantref10_Total_1_in s.1 x1 x2 s.2) | .inr o => affiantref10_Total_1_ex o ≠ .normal ∧ CodeOK prog (codeAt (bodyOf f29) [1, 1, 0, 1, 0, 0]) (affiantref10_Total_1_in x0 x1 x2 x3) (affiantref10_Total_1_ex o) (affiantref10_Total_1_st o)) := by
 intro r h
 unfold affiantref10_Total_1_step at h
 rcases fork_some h with ⟨h2, h⟩ | ⟨h2, h⟩
 ·obtain ⟨h3, h⟩ := need_some h
  injection h with h; subst h
  exact env.code (its := [b1, .dive, .sel [3, 6, 7, 8] []]) (.c h2 (.c h3 .n)) (by kernel_rfl)
 ·injection h with h; subst h
  exact ⟨by intro e; simp [affiantref10_Total_1_ex] at e, env.code (its := [b0, .sel [3] []]) (.c h2 .n) (by kernel_rfl)⟩
theorem affiantref10_Total_1_ok (x0 : Int) (x1 : List (T484d)) (x2 : Int) (x3 : Int) (o : Int) (h : affiantref10_Total_1 x0 x1 x2 x3 = some o) : CodeOK prog (codeAt (bodyOf f29) [1, 1, 0, 1, 0]) (affiantref10_Total_1_in x0 x1 x2 x3) (affiantref10_Total_1_ex o) (affiantref10_Total_1_st o) :=
 LoopOK.of_step (st := fun s => affiantref10_Total_1_in s.1 x1 x2 s.2) (ex := affiantref10_Total_1_ex) (stO := affiantref10_Total_1_st) (fun s s2 hs => affiantref10_Total_1_body s.1 x1 x2 s.2 (.inl s2) hs) (fun s r hs => affiantref10_Total_1_body s.1 x1 x2 s.2 (.inr r) hs) _ o h
def affiantref10_Total_R (a0 : List (T484d)) (u : Int) : Slot := (.v (.int .i64) u)
def affiantref10_Total_O (a0 : List (T484d)) (u : Int) : List AObj := []
theorem affiantref10_Total_ok (a0 : List (T484d)) (u : Int) (h : affiantref10_Total a0 = some u) : CallC prog 29 [(.v (.slice Y484d) a0)] [] (affiantref10_Total_R a0 u) (affiantref10_Total_O a0 u) := by
 unfold affiantref10_Total at h
 obtain ⟨o4, h5, h⟩ := andThen_some h
 injection h with h; subst h
 exact env.fun func29 can29 (its := [.dive, .sel [3, 6, 7, 8] [], .part (affiantref10_Total_1_ex o4) (affiantref10_Total_1_st o4)]) (pos := [.sel []]) (.c (affiantref10_Total_1_ok (0 : Int) a0 (List.length a0 : Int) (0 : Int) o4 h5) .n) (by kernel_rfl)
theorem can28 : Callable prog 28 := ⟨_, func28, by kernel_rfl, by kernel_rfl⟩
def affiantref10_Over_R (a0 : Int) (a1 : Int) (a2 : Int) (a3 : Int) (u : Bool) : Slot := (.v .bool u)
def affiantref10_Over_O (a0 : Int) (a1 : Int) (a2 : Int) (a3 : Int) (u : Bool) : List AObj := []
theorem affiantref10_Over_ok (a0 : Int) (a1 : Int) (a2 : Int) (a3 : Int) (u : Bool) (h : affiantref10_Over a0 a1 a2 a3 = some u) : CallC prog 28 [(.v (.int .i64) a0), (.v (.int .i64) a1), (.v (.int .i64) a2), (.v (.int .i64) a3)] [] (affiantref10_Over_R a0 a1 a2 a3 u) (affiantref10_Over_O a0 a1 a2 a3 u) := by
 unfold affiantref10_Over at h
 injection h with h; subst h
 exact env.fun func28 can28 (its := []) (pos := [.sel []]) .n (by kernel_rfl)
theorem can62 : Callable prog 62 := ⟨_, func62, by kernel_rfl, by kernel_rfl⟩
def affiantref1_Who_1_in (x0 : B8) (x1 : Int) (x2 : T9c6e) (x3 : B8) (x4 : List (B8)) : St := ⟨[(0, (.v (.slice (.int .u8)) x0)), (3, (.ptr 0 [])), (4, (.ptr 1 [])), (6, (.own 2 [])), (21, (.v (.int .i64) x1))], [.box Y9c6e (.v Y9c6e x2) true, .box (.arr 32 (.int .u8)) (.v (.arr 32 (.int .u8)) x3) true, .row (.arr 32 (.int .u8)) x4 true], 49, 0⟩
def affiantref1_Who_1_ex (o : B8 × List (B8)) : Exit := (.exit 0)
def affiantref1_Who_1_st (o : B8 × List (B8)) : St := ⟨[(4, (.ptr 0 [])), (6, (.own 1 []))], [.box (.arr 32 (.int .u8)) (.v (.arr 32 (.int .u8)) o.1) true, .row (.arr 32 (.int .u8)) o.2 true], 49, 0⟩
theorem affiantref1_Who_1_body (x0 : B8) (x1 : Int) (x2 : T9c6e) (x3 : B8) (x4 : List (B8)) : ∀ r, affiantref1_Who_1_step x0 x1 x2 x3 x4 = some r → (match r with | .inl s => CodeOK prog (codeAt (bodyOf f62) [1, 1, 1, 0, 1, 0, 0]) (affiantref1_Who_1_in x0 x1 x2 x3 x4) .normal (affiantref1_Who_1_in x0 s.1 x2 x3 s.2) | .inr o => affiantref1_Who_1_ex o ≠ .normal ∧ CodeOK prog (codeAt (bodyOf f62) [1, 1, 1, 0, 1, 0, 0]) (affiantref1_Who_1_in x0 x1 x2 x3 x4) (affiantref1_Who_1_ex o) (affiantref1_Who_1_st o)) := by
 intro r h
 unfold affiantref1_Who_1_step at h
 rcases fork_some h with ⟨h4, h⟩ | ⟨h4, h⟩
 ·obtain ⟨h5, h⟩ := need_some h
  obtain ⟨u6, h7, h⟩ := andThen_some h
  obtain ⟨h8, h⟩ := need_some h
  obtain ⟨u9, h10, h⟩ := andThen_some h
  rcases fork_some h with ⟨h11, h⟩ | ⟨h11, h⟩
  ·obtain ⟨h12, h⟩ := need_some h
   injection h with h; subst h
   exact env.code (its := [b1, .pre p43, .asis, .call [none] [] [] true (affiantref1_public_R (List.getD x2.1 (Int.toNat x1) Z32) u6) (affiantref1_public_O (List.getD x2.1 (Int.toNat x1) Z32) u6), .call [none, none] [] [] true (affiantref1_bit_R x0 x1 u9) (affiantref1_bit_O x0 x1 u9), b1, .sel [0, 3, 4, 6, 21] [0, 1, 6]]) (.c h4 (.c h5 (.c rn (.c (affiantref1_public_ok (List.getD x2.1 (Int.toNat x1) Z32) u6 h7) (.c h8 (.c (affiantref1_bit_ok x0 x1 u9 h10) (.c h11 (.c h12 .n)))))))) (by kernel_rfl)
  ·obtain ⟨h13, h⟩ := need_some h
   injection h with h; subst h
   exact env.code (its := [b1, .pre p43, .asis, .call [none] [] [] true (affiantref1_public_R (List.getD x2.1 (Int.toNat x1) Z32) u6) (affiantref1_public_O (List.getD x2.1 (Int.toNat x1) Z32) u6), .call [none, none] [] [] true (affiantref1_bit_R x0 x1 u9) (affiantref1_bit_O x0 x1 u9), b0, .sel [0, 3, 4, 6, 21] [0, 1, 6]]) (.c h4 (.c h5 (.c rn (.c (affiantref1_public_ok (List.getD x2.1 (Int.toNat x1) Z32) u6 h7) (.c h8 (.c (affiantref1_bit_ok x0 x1 u9 h10) (.c h11 (.c h13 .n)))))))) (by kernel_rfl)
 ·injection h with h; subst h
  exact ⟨by intro e; simp [affiantref1_Who_1_ex] at e, env.code (its := [b0, .sel [4, 6] [1, 2]]) (.c h4 .n) (by kernel_rfl)⟩
theorem affiantref1_Who_1_ok (x0 : B8) (x1 : Int) (x2 : T9c6e) (x3 : B8) (x4 : List (B8)) (o : B8 × List (B8)) (h : affiantref1_Who_1 x0 x1 x2 x3 x4 = some o) : CodeOK prog (codeAt (bodyOf f62) [1, 1, 1, 0, 1, 0]) (affiantref1_Who_1_in x0 x1 x2 x3 x4) (affiantref1_Who_1_ex o) (affiantref1_Who_1_st o) :=
 LoopOK.of_step (st := fun s => affiantref1_Who_1_in x0 s.1 x2 x3 s.2) (ex := affiantref1_Who_1_ex) (stO := affiantref1_Who_1_st) (fun s s2 hs => affiantref1_Who_1_body x0 s.1 x2 x3 s.2 (.inl s2) hs) (fun s r hs => affiantref1_Who_1_body x0 s.1 x2 x3 s.2 (.inr r) hs) _ o h
def affiantref1_Who_R (a0 : B8) (a1 : T9c6e) (u : B8 × Bool) : Slot := (.tup (.v (.arr 32 (.int .u8)) u.1) (.tup (.v .bool u.2) .tnil))
def affiantref1_Who_O (a0 : B8) (a1 : T9c6e) (u : B8 × Bool) : List AObj := []
theorem affiantref1_Who_ok (a0 : B8) (a1 : T9c6e) (u : B8 × Bool) (h : affiantref1_Who a0 a1 = some u) : CallC prog 62 [(.v (.slice (.int .u8)) a0), (.v Y9c6e a1)] [] (affiantref1_Who_R a0 a1 u) (affiantref1_Who_O a0 a1 u) := by
 unfold affiantref1_Who at h
 rcases fork_some h with ⟨h1, h⟩ | ⟨h1, h⟩
 ·injection h with h; subst h
  exact env.fun func62 can62 (its := [b1, b1, b1, b1, b1, b1]) (pos := [.sel []]) (.c h1 (.c h1 (.c h1 (.c h1 (.c h1 (.c r1 .n)))))) (by kernel_rfl)
 ·rcases fork_some h with ⟨h2, h⟩ | ⟨h2, h⟩
  ·injection h with h; subst h
   exact env.fun func62 can62 (its := [b0, b0, b0, b0, b0, b1]) (pos := [.sel []]) (.c h1 (.c h1 (.c h1 (.c h1 (.c h1 (.c h2 .n)))))) (by kernel_rfl)
  ·obtain ⟨o14, h15, h⟩ := andThen_some h
   obtain ⟨u16, h17, h⟩ := andThen_some h
   injection h with h; subst h
   exact env.fun func62 can62 (its := [b0, b0, b0, b0, b0, b0, .dive, .promote 6 (.arr 32 (.int .u8)), .sel [0, 3, 4, 6, 21] [0, 1, 2], .part (affiantref1_Who_1_ex o14) (affiantref1_Who_1_st o14), .call [none] [] [1] true (affiantref1_key_R o14.2 u16) (affiantref1_key_O o14.2 u16)]) (pos := [.sel []]) (.c h1 (.c h1 (.c h1 (.c h1 (.c h1 (.c h2 (.c (affiantref1_Who_1_ok a0 (0 : Int) a1 Z32 ([] : List (B8)) o14 h15) (.c (affiantref1_key_ok o14.2 u16 h17) .n)))))))) (by kernel_rfl)
theorem can63 : Callable prog 63 := ⟨_, func63, by kernel_rfl, by kernel_rfl⟩
def affiantref1_Up_R (a0 : B8) (a1 : Int) (a2 : Int) (a3 : List (B8)) (u : B8 × Bool) : Slot := (.tup (.v (.arr 32 (.int .u8)) u.1) (.tup (.v .bool u.2) .tnil))
def affiantref1_Up_O (a0 : B8) (a1 : Int) (a2 : Int) (a3 : List (B8)) (u : B8 × Bool) : List AObj := []
theorem affiantref1_Up_f_ok : ∀ (k : Nat) (a0 : B8) (a1 : Int) (a2 : Int) (a3 : List (B8)) (u : B8 × Bool) (h : affiantref1_Up_f k a0 a1 a2 a3 = some u), CallC prog 63 [(.v (.slice (.int .u8)) a0), (.v (.int .i64) a1), (.v (.int .i64) a2), (.v (.slice (.arr 32 (.int .u8))) a3)] [] (affiantref1_Up_R a0 a1 a2 a3 u) (affiantref1_Up_O a0 a1 a2 a3 u)
 | 0, a0, a1, a2, a3, u, h => by cases h
 | k + 1, a0, a1, a2, a3, u, h => by
  unfold affiantref1_Up_f at h
  rcases fork_some h with ⟨h1, h⟩ | ⟨h1, h⟩
  ·injection h with h; subst h
   exact env.fun func63 can63 (its := [b1, b1, b1, b1, b1, b1, b1, b1]) (pos := [.sel []]) (.c h1 (.c h1 (.c h1 (.c h1 (.c r1 (.c r1 (.c r1 (.c r1 .n)))))))) (by kernel_rfl)
  ·rcases fork_some h with ⟨h2, h⟩ | ⟨h2, h⟩
   ·injection h with h; subst h
    exact env.fun func63 can63 (its := [b0, b0, b0, b0, b1, b1, b1, b1]) (pos := [.sel []]) (.c h1 (.c h1 (.c h1 (.c h1 (.c h2 (.c h2 (.c h2 (.c r1 .n)))))))) (by kernel_rfl)
   ·rcases fork_some h with ⟨h3, h⟩ | ⟨h3, h⟩
    ·injection h with h; subst h
     exact env.fun func63 can63 (its := [b0, b0, b0, b0, b0, b0, b0, b1]) (pos := [.sel []]) (.c h1 (.c h1 (.c h1 (.c h1 (.c h2 (.c h2 (.c h2 (.c h3 .n)))))))) (by kernel_rfl)
    ·rcases fork_some h with ⟨h4, h⟩ | ⟨h4, h⟩
     ·obtain ⟨u5, h6, h⟩ := andThen_some h
      injection h with h; subst h
      exact env.fun func63 can63 (its := [b0, b0, b0, b0, b0, b0, b0, b0, b1, .call [none, none] [] [1] true (affiantref1_Tagged_R (0 : UInt8) ([a0] : List (B8)) u5) (affiantref1_Tagged_O (0 : UInt8) ([a0] : List (B8)) u5)]) (pos := [.sel []]) (.c h1 (.c h1 (.c h1 (.c h1 (.c h2 (.c h2 (.c h2 (.c h3 (.c h4 (.c (affiantref1_Tagged_ok (0 : UInt8) ([a0] : List (B8)) u5 h6) .n)))))))))) (by kernel_rfl)
     ·rcases fork_some h with ⟨h7, h⟩ | ⟨h7, h⟩
      ·injection h with h; subst h
       exact env.fun func63 can63 (its := [b0, b0, b0, b0, b0, b0, b0, b0, b0, b1]) (pos := [.sel []]) (.c h1 (.c h1 (.c h1 (.c h1 (.c h2 (.c h2 (.c h2 (.c h3 (.c h4 (.c h7 .n)))))))))) (by kernel_rfl)
      ·obtain ⟨u8, h9, h⟩ := andThen_some h
       obtain ⟨h10, h⟩ := need_some h
       rcases fork_some h with ⟨h11, h⟩ | ⟨h11, h⟩
       ·obtain ⟨h12, h⟩ := need_some h
        obtain ⟨u13, h14, h⟩ := andThen_some h
        obtain ⟨u15, h16, h⟩ := andThen_some h
        injection h with h; subst h
        exact env.fun func63 can63 (its := [b0, b0, b0, b0, b0, b0, b0, b0, b0, b0, .pre p44, .asis, .call [none] [] [] true (affiantref1_half_R a2 u8) (affiantref1_half_O a2 u8), b1, b0, .call [none, none, none, none] [] [] true (affiantref1_Up_R a0 a1 u8 (cutL a3 (0 : Int) (w64 ((List.length a3 : Int) - (1 : Int)))) u13) (affiantref1_Up_O a0 a1 u8 (cutL a3 (0 : Int) (w64 ((List.length a3 : Int) - (1 : Int)))) u13), .pre p45, b1, b1, .asis, .call [none, none] [] [0] true (affiantref1_Tagged_R (1 : UInt8) ([u13.1, (List.getD a3 (Int.toNat (w64 ((List.length a3 : Int) - (1 : Int)))) Z32)] : List (B8)) u15) (affiantref1_Tagged_O (1 : UInt8) ([u13.1, (List.getD a3 (Int.toNat (w64 ((List.length a3 : Int) - (1 : Int)))) Z32)] : List (B8)) u15)]) (pos := [.sel []]) (.c h1 (.c h1 (.c h1 (.c h1 (.c h2 (.c h2 (.c h2 (.c h3 (.c h4 (.c h7 (.c rn (.c (affiantref1_half_ok a2 u8 h9) (.c h10 (.c h11 (.c h12 (.c (affiantref1_Up_f_ok k a0 a1 u8 (cutL a3 (0 : Int) (w64 ((List.length a3 : Int) - (1 : Int)))) u13 h14) (.c (rfl : ([.row (.slice (.int .u8)) ([u13.1, (List.getD a3 (Int.toNat (w64 ((List.length a3 : Int) - (1 : Int)))) Z32)] : List (B8)) true] : List AObj) = [.row (.slice (.int .u8)) ([u13.1, (List.getD a3 (Int.toNat (w64 ((List.length a3 : Int) - (1 : Int)))) Z32)] : List (B8)) true]) (.c (affiantref1_Tagged_ok (1 : UInt8) ([u13.1, (List.getD a3 (Int.toNat (w64 ((List.length a3 : Int) - (1 : Int)))) Z32)] : List (B8)) u15 h16) .n)))))))))))))))))) (by kernel_rfl)
       ·obtain ⟨h17, h⟩ := need_some h
        obtain ⟨u18, h19, h⟩ := andThen_some h
        obtain ⟨u20, h21, h⟩ := andThen_some h
        injection h with h; subst h
        exact env.fun func63 can63 (its := [b0, b0, b0, b0, b0, b0, b0, b0, b0, b0, .pre p44, .asis, .call [none] [] [] true (affiantref1_half_R a2 u8) (affiantref1_half_O a2 u8), b0, b0, .call [none, none, none, none] [] [] true (affiantref1_Up_R a0 (w64 (a1 - u8)) (w64 (a2 - u8)) (cutL a3 (0 : Int) (w64 ((List.length a3 : Int) - (1 : Int)))) u18) (affiantref1_Up_O a0 (w64 (a1 - u8)) (w64 (a2 - u8)) (cutL a3 (0 : Int) (w64 ((List.length a3 : Int) - (1 : Int)))) u18), .pre p45, b1, b1, .asis, .call [none, none] [] [0] true (affiantref1_Tagged_R (1 : UInt8) ([(List.getD a3 (Int.toNat (w64 ((List.length a3 : Int) - (1 : Int)))) Z32), u18.1] : List (B8)) u20) (affiantref1_Tagged_O (1 : UInt8) ([(List.getD a3 (Int.toNat (w64 ((List.length a3 : Int) - (1 : Int)))) Z32), u18.1] : List (B8)) u20)]) (pos := [.sel []]) (.c h1 (.c h1 (.c h1 (.c h1 (.c h2 (.c h2 (.c h2 (.c h3 (.c h4 (.c h7 (.c rn (.c (affiantref1_half_ok a2 u8 h9) (.c h10 (.c h11 (.c h17 (.c (affiantref1_Up_f_ok k a0 (w64 (a1 - u8)) (w64 (a2 - u8)) (cutL a3 (0 : Int) (w64 ((List.length a3 : Int) - (1 : Int)))) u18 h19) (.c (rfl : ([.row (.slice (.int .u8)) ([(List.getD a3 (Int.toNat (w64 ((List.length a3 : Int) - (1 : Int)))) Z32), u18.1] : List (B8)) true] : List AObj) = [.row (.slice (.int .u8)) ([(List.getD a3 (Int.toNat (w64 ((List.length a3 : Int) - (1 : Int)))) Z32), u18.1] : List (B8)) true]) (.c (affiantref1_Tagged_ok (1 : UInt8) ([(List.getD a3 (Int.toNat (w64 ((List.length a3 : Int) - (1 : Int)))) Z32), u18.1] : List (B8)) u20 h21) .n)))))))))))))))))) (by kernel_rfl)
theorem affiantref1_Up_ok (a0 : B8) (a1 : Int) (a2 : Int) (a3 : List (B8)) (u : B8 × Bool) (h : affiantref1_Up a0 a1 a2 a3 = some u) : CallC prog 63 [(.v (.slice (.int .u8)) a0), (.v (.int .i64) a1), (.v (.int .i64) a2), (.v (.slice (.arr 32 (.int .u8))) a3)] [] (affiantref1_Up_R a0 a1 a2 a3 u) (affiantref1_Up_O a0 a1 a2 a3 u) := affiantref1_Up_f_ok 64 a0 a1 a2 a3 u h
theorem can31 : Callable prog 31 := ⟨_, func31, by kernel_rfl, by kernel_rfl⟩
def affiantref1_Verify_R (a0 : B8) (a1 : Int) (a2 : B8) (a3 : T8266) (u : Bool) : Slot := (.v .bool u)
def affiantref1_Verify_O (a0 : B8) (a1 : Int) (a2 : B8) (a3 : T8266) (u : Bool) : List AObj := []
theorem affiantref1_Verify_ok (a0 : B8) (a1 : Int) (a2 : B8) (a3 : T8266) (u : Bool) (h : affiantref1_Verify a0 a1 a2 a3 = some u) : CallC prog 31 [(.v (.arr 32 (.int .u8)) a0), (.v (.int .i64) a1), (.v (.slice (.int .u8)) a2), (.v Y8266 a3)] [] (affiantref1_Verify_R a0 a1 a2 a3 u) (affiantref1_Verify_O a0 a1 a2 a3 u) := by
 unfold affiantref1_Verify at h
 obtain ⟨u1, h2, h⟩ := andThen_some h
 rcases fork_some h with ⟨h3, h⟩ | ⟨h3, h⟩
 ·injection h with h; subst h
  exact env.fun func31 can31 (its := [.call [none, none] [] [] true (affiantref1_Who_R a2 a3.2.1 u1) (affiantref1_Who_O a2 a3.2.1 u1), b1, b1, b1, b1, b1, b1, b1, b1, b1, b1, b1, b1]) (pos := [.sel []]) (.c (affiantref1_Who_ok a2 a3.2.1 u1 h2) (.c h3 (.c h3 (.c h3 (.c h3 (.c h3 (.c r1 (.c r1 (.c r1 (.c r1 (.c r1 (.c r1 (.c r1 .n))))))))))))) (by kernel_rfl)
 ·rcases fork_some h with ⟨h4, h⟩ | ⟨h4, h⟩
  ·injection h with h; subst h
   exact env.fun func31 can31 (its := [.call [none, none] [] [] true (affiantref1_Who_R a2 a3.2.1 u1) (affiantref1_Who_O a2 a3.2.1 u1), b0, b0, b0, b0, b0, b1, b1, b1, b1, b1, b1, b1]) (pos := [.sel []]) (.c (affiantref1_Who_ok a2 a3.2.1 u1 h2) (.c h3 (.c h3 (.c h3 (.c h3 (.c h3 (.c h4 (.c h4 (.c h4 (.c r1 (.c r1 (.c r1 (.c r1 .n))))))))))))) (by kernel_rfl)
  ·rcases fork_some h with ⟨h5, h⟩ | ⟨h5, h⟩
   ·injection h with h; subst h
    exact env.fun func31 can31 (its := [.call [none, none] [] [] true (affiantref1_Who_R a2 a3.2.1 u1) (affiantref1_Who_O a2 a3.2.1 u1), b0, b0, b0, b0, b0, b0, b0, b0, b1, b1, b1, b1]) (pos := [.sel []]) (.c (affiantref1_Who_ok a2 a3.2.1 u1 h2) (.c h3 (.c h3 (.c h3 (.c h3 (.c h3 (.c h4 (.c h4 (.c h4 (.c h5 (.c h5 (.c h5 (.c r1 .n))))))))))))) (by kernel_rfl)
   ·rcases fork_some h with ⟨h6, h⟩ | ⟨h6, h⟩
    ·injection h with h; subst h
     exact env.fun func31 can31 (its := [.call [none, none] [] [] true (affiantref1_Who_R a2 a3.2.1 u1) (affiantref1_Who_O a2 a3.2.1 u1), b0, b0, b0, b0, b0, b0, b0, b0, b0, b0, b0, b1]) (pos := [.sel []]) (.c (affiantref1_Who_ok a2 a3.2.1 u1 h2) (.c h3 (.c h3 (.c h3 (.c h3 (.c h3 (.c h4 (.c h4 (.c h4 (.c h5 (.c h5 (.c h5 (.c h6 .n))))))))))))) (by kernel_rfl)
    ·obtain ⟨u7, h8, h⟩ := andThen_some h
     rcases fork_some h with ⟨h9, h⟩ | ⟨h9, h⟩
     ·injection h with h; subst h
      exact env.fun func31 can31 (its := [.call [none, none] [] [] true (affiantref1_Who_R a2 a3.2.1 u1) (affiantref1_Who_O a2 a3.2.1 u1), b0, b0, b0, b0, b0, b0, b0, b0, b0, b0, b0, b0, .pre p40, b1, .asis, .call [none, none, none, none] [] [0] true (affiantref1_Up_R u1.1 (w64 (a1 - (1 : Int))) (16 : Int) a3.2.2.1 u7) (affiantref1_Up_O u1.1 (w64 (a1 - (1 : Int))) (16 : Int) a3.2.2.1 u7), b1, b1, b1, b1]) (pos := [.sel []]) (.c (affiantref1_Who_ok a2 a3.2.1 u1 h2) (.c h3 (.c h3 (.c h3 (.c h3 (.c h3 (.c h4 (.c h4 (.c h4 (.c h5 (.c h5 (.c h5 (.c h6 (.c (rfl : ([.box (.arr 32 (.int .u8)) (.v (.arr 32 (.int .u8)) u1.1) true] : List AObj) = [.box (.arr 32 (.int .u8)) (.v (.arr 32 (.int .u8)) u1.1) true]) (.c (affiantref1_Up_ok u1.1 (w64 (a1 - (1 : Int))) (16 : Int) a3.2.2.1 u7 h8) (.c h9 (.c h9 (.c h9 (.c h9 .n))))))))))))))))))) (by kernel_rfl)
     ·injection h with h; subst h
      exact env.fun func31 can31 (its := [.call [none, none] [] [] true (affiantref1_Who_R a2 a3.2.1 u1) (affiantref1_Who_O a2 a3.2.1 u1), b0, b0, b0, b0, b0, b0, b0, b0, b0, b0, b0, b0, .pre p40, b1, .asis, .call [none, none, none, none] [] [0] true (affiantref1_Up_R u1.1 (w64 (a1 - (1 : Int))) (16 : Int) a3.2.2.1 u7) (affiantref1_Up_O u1.1 (w64 (a1 - (1 : Int))) (16 : Int) a3.2.2.1 u7), b0, b0, b0, b0]) (pos := [.sel []]) (.c (affiantref1_Who_ok a2 a3.2.1 u1 h2) (.c h3 (.c h3 (.c h3 (.c h3 (.c h3 (.c h4 (.c h4 (.c h4 (.c h5 (.c h5 (.c h5 (.c h6 (.c (rfl : ([.box (.arr 32 (.int .u8)) (.v (.arr 32 (.int .u8)) u1.1) true] : List AObj) = [.box (.arr 32 (.int .u8)) (.v (.arr 32 (.int .u8)) u1.1) true]) (.c (affiantref1_Up_ok u1.1 (w64 (a1 - (1 : Int))) (16 : Int) a3.2.2.1 u7 h8) (.c h9 (.c h9 (.c h9 (.c h9 .n))))))))))))))))))) (by kernel_rfl)
theorem can26 : Callable prog 26 := ⟨_, func26, by kernel_rfl, by kernel_rfl⟩
def light_Client_Misbehave_1c97_1_in (x0 : Int) (x1 : Int) (x2 : T65da) (x3 : List (Tedcc)) : St := ⟨[(0, (.ptr 0 [])), (39, (.own 1 [])), (40, (.v (.int .i64) x0)), (41, (.v (.int .i64) x1))], [.box Y65da (.v Y65da x2) true, .row Yedcc x3 true], 69, 1⟩
def light_Client_Misbehave_1c97_1_ex (o : (Int × T65da) ⊕ (T65da)) : Exit := match o with | (.inl o) => .ret | (.inr o) => (.exit 0)
def light_Client_Misbehave_1c97_1_st (o : (Int × T65da) ⊕ (T65da)) : St := match o with | (.inl o) => ⟨[(6, (.v (.int .i64) o.1))], [.box Y65da (.v Y65da o.2) true], 69, 1⟩ | (.inr o) => ⟨[(0, (.ptr 0 []))], [.box Y65da (.v Y65da o) true], 69, 1⟩
theorem light_Client_Misbehave_1c97_1_body (x0 : Int) (x1 : Int) (x2 : T65da) (x3 : List (Tedcc)) : ∀ r, light_Client_Misbehave_1c97_1_step x0 x1 x2 x3 = some r → (match r with | .inl s => CodeOK prog (codeAt (bodyOf f26) [1, 1, 1, 0, 1, 0, 0]) (light_Client_Misbehave_1c97_1_in x0 x1 x2 x3) .normal (light_Client_Misbehave_1c97_1_in x0 s x2 x3) | .inr o => light_Client_Misbehave_1c97_1_ex o ≠ .normal ∧ CodeOK prog (codeAt (bodyOf f26) [1, 1, 1, 0, 1, 0, 0]) (light_Client_Misbehave_1c97_1_in x0 x1 x2 x3) (light_Client_Misbehave_1c97_1_ex o) (light_Client_Misbehave_1c97_1_st o)) := by
 intro r h
 unfold light_Client_Misbehave_1c97_1_step at h
 rcases fork_some h with ⟨h11, h⟩ | ⟨h11, h⟩
 ·obtain ⟨h12, h⟩ := need_some h
  obtain ⟨u13, h14, h⟩ := andThen_some h
  rcases fork_some h with ⟨h15, h⟩ | ⟨h15, h⟩
  ·injection h with h; subst h
   exact ⟨by intro e; simp [light_Client_Misbehave_1c97_1_ex] at e, env.code (its := [b1, .pre p46, .asis, .call [none, none, none] [] [] true (seal_Enough_R ((List.getD x3 (Int.toNat x1) Zedcc).2.2.1) ((List.getD x3 (Int.toNat x1) Zedcc).1) ((List.getD x3 (Int.toNat x1) Zedcc).2.1) u13) (seal_Enough_O ((List.getD x3 (Int.toNat x1) Zedcc).2.2.1) ((List.getD x3 (Int.toNat x1) Zedcc).1) ((List.getD x3 (Int.toNat x1) Zedcc).2.1) u13), b1, b1, b1, b1, b1, b1, b1, b1, b1, b1, b1, b1, .sel [6] [0]]) (.c h11 (.c h12 (.c rn (.c (seal_Enough_ok ((List.getD x3 (Int.toNat x1) Zedcc).2.2.1) ((List.getD x3 (Int.toNat x1) Zedcc).1) ((List.getD x3 (Int.toNat x1) Zedcc).2.1) u13 h14) (.c h15 (.c h15 (.c h15 (.c h15 (.c h15 (.c h15 (.c h15 (.c h15 (.c h15 (.c h15 (.c h15 (.c r1 .n)))))))))))))))) (by kernel_rfl)⟩
  ·obtain ⟨u16, h17, h⟩ := andThen_some h
   rcases fork_some h with ⟨h18, h⟩ | ⟨h18, h⟩
   ·injection h with h; subst h
    exact ⟨by intro e; simp [light_Client_Misbehave_1c97_1_ex] at e, env.code (its := [b1, .pre p46, .asis, .call [none, none, none] [] [] true (seal_Enough_R ((List.getD x3 (Int.toNat x1) Zedcc).2.2.1) ((List.getD x3 (Int.toNat x1) Zedcc).1) ((List.getD x3 (Int.toNat x1) Zedcc).2.1) u13) (seal_Enough_O ((List.getD x3 (Int.toNat x1) Zedcc).2.2.1) ((List.getD x3 (Int.toNat x1) Zedcc).1) ((List.getD x3 (Int.toNat x1) Zedcc).2.1) u13), b0, b0, b0, b0, b0, b0, b0, b0, b0, .asis, .call [none, none, none] [] [] true (seal_Some_R x2.2.1 ((List.getD x3 (Int.toNat x1) Zedcc).1) ((List.getD x3 (Int.toNat x1) Zedcc).2.1) u16) (seal_Some_O x2.2.1 ((List.getD x3 (Int.toNat x1) Zedcc).1) ((List.getD x3 (Int.toNat x1) Zedcc).2.1) u16), b0, b0, b1, .sel [6] [0]]) (.c h11 (.c h12 (.c rn (.c (seal_Enough_ok ((List.getD x3 (Int.toNat x1) Zedcc).2.2.1) ((List.getD x3 (Int.toNat x1) Zedcc).1) ((List.getD x3 (Int.toNat x1) Zedcc).2.1) u13 h14) (.c h15 (.c h15 (.c h15 (.c h15 (.c h15 (.c h15 (.c h15 (.c h15 (.c h15 (.c rn (.c (seal_Some_ok x2.2.1 ((List.getD x3 (Int.toNat x1) Zedcc).1) ((List.getD x3 (Int.toNat x1) Zedcc).2.1) u16 h17) (.c h15 (.c h15 (.c h18 .n)))))))))))))))))) (by kernel_rfl)⟩
   ·injection h with h; subst h
    exact env.code (its := [b1, .pre p46, .asis, .call [none, none, none] [] [] true (seal_Enough_R ((List.getD x3 (Int.toNat x1) Zedcc).2.2.1) ((List.getD x3 (Int.toNat x1) Zedcc).1) ((List.getD x3 (Int.toNat x1) Zedcc).2.1) u13) (seal_Enough_O ((List.getD x3 (Int.toNat x1) Zedcc).2.2.1) ((List.getD x3 (Int.toNat x1) Zedcc).1) ((List.getD x3 (Int.toNat x1) Zedcc).2.1) u13), b0, b0, b0, b0, b0, b0, b0, b0, b0, .asis, .call [none, none, none] [] [] true (seal_Some_R x2.2.1 ((List.getD x3 (Int.toNat x1) Zedcc).1) ((List.getD x3 (Int.toNat x1) Zedcc).2.1) u16) (seal_Some_O x2.2.1 ((List.getD x3 (Int.toNat x1) Zedcc).1) ((List.getD x3 (Int.toNat x1) Zedcc).2.1) u16), b0, b0, b0, .sel [0, 39, 40, 41] [0, 1]]) (.c h11 (.c h12 (.c rn (.c (seal_Enough_ok ((List.getD x3 (Int.toNat x1) Zedcc).2.2.1) ((List.getD x3 (Int.toNat x1) Zedcc).1) ((List.getD x3 (Int.toNat x1) Zedcc).2.1) u13 h14) (.c h15 (.c h15 (.c h15 (.c h15 (.c h15 (.c h15 (.c h15 (.c h15 (.c h15 (.c rn (.c (seal_Some_ok x2.2.1 ((List.getD x3 (Int.toNat x1) Zedcc).1) ((List.getD x3 (Int.toNat x1) Zedcc).2.1) u16 h17) (.c h15 (.c h15 (.c h18 .n)))))))))))))))))) (by kernel_rfl)
 ·injection h with h; subst h
  exact ⟨by intro e; simp [light_Client_Misbehave_1c97_1_ex] at e, env.code (its := [b0, .sel [0] [0]]) (.c h11 .n) (by kernel_rfl)⟩
theorem light_Client_Misbehave_1c97_1_ok (x0 : Int) (x1 : Int) (x2 : T65da) (x3 : List (Tedcc)) (o : (Int × T65da) ⊕ (T65da)) (h : light_Client_Misbehave_1c97_1 x0 x1 x2 x3 = some o) : CodeOK prog (codeAt (bodyOf f26) [1, 1, 1, 0, 1, 0]) (light_Client_Misbehave_1c97_1_in x0 x1 x2 x3) (light_Client_Misbehave_1c97_1_ex o) (light_Client_Misbehave_1c97_1_st o) :=
 LoopOK.of_step (st := fun s => light_Client_Misbehave_1c97_1_in x0 s x2 x3) (ex := light_Client_Misbehave_1c97_1_ex) (stO := light_Client_Misbehave_1c97_1_st) (fun s s2 hs => light_Client_Misbehave_1c97_1_body x0 s x2 x3 (.inl s2) hs) (fun s r hs => light_Client_Misbehave_1c97_1_body x0 s x2 x3 (.inr r) hs) _ o h
def light_Client_Misbehave_1c97_R (a0 : Tedcc) (a1 : Tedcc) (a2 : T65da) (u : Int × T65da) : Slot := (.v (.int .i64) u.1)
def light_Client_Misbehave_1c97_O (a0 : Tedcc) (a1 : Tedcc) (a2 : T65da) (u : Int × T65da) : List AObj := [.box Y65da (.v Y65da u.2) true]
theorem light_Client_Misbehave_1c97_ok (a0 : Tedcc) (a1 : Tedcc) (a2 : T65da) (u : Int × T65da) (h : light_Client_Misbehave_1c97 a0 a1 a2 = some u) : CallC prog 26 [(.ptr 0 []), (.v Yedcc a0), (.v Yedcc a1)] [.box Y65da (.v Y65da a2) true] (light_Client_Misbehave_1c97_R a0 a1 a2 u) (light_Client_Misbehave_1c97_O a0 a1 a2 u) := by
 unfold light_Client_Misbehave_1c97 at h
 rcases fork_some h with ⟨h1, h⟩ | ⟨h1, h⟩
 ·injection h with h; subst h
  exact env.fun func26 can26 (its := [b1]) (pos := [.sel [0]]) (.c h1 .n) (by kernel_rfl)
 ·obtain ⟨u2, h3, h⟩ := andThen_some h
  rcases fork_some h with ⟨h4, h⟩ | ⟨h4, h⟩
  ·injection h with h; subst h
   exact env.fun func26 can26 (its := [b0, .call [none] [] [] true (light_Whole_R a0 u2) (light_Whole_O a0 u2), b1, b1, b1, b1, b1, b1, b1, b1, b1, b1, b1, b1, b1, b1, b1, b1, b1, b1, b1]) (pos := [.sel [0]]) (.c h1 (.c (light_Whole_ok a0 u2 h3) (.c h4 (.c h4 (.c h4 (.c h4 (.c r1 (.c r1 (.c r1 (.c r1 (.c r1 (.c r1 (.c r1 (.c r1 (.c r1 (.c r1 (.c r1 (.c r1 (.c r1 (.c r1 (.c r1 .n))))))))))))))))))))) (by kernel_rfl)
  ·obtain ⟨u5, h6, h⟩ := andThen_some h
   rcases fork_some h with ⟨h7, h⟩ | ⟨h7, h⟩
   ·injection h with h; subst h
    exact env.fun func26 can26 (its := [b0, .call [none] [] [] true (light_Whole_R a0 u2) (light_Whole_O a0 u2), b0, b0, .call [none] [] [] true (light_Whole_R a1 u5) (light_Whole_O a1 u5), b0, b0, b1, b1, b1, b1, b1, b1, b1, b1, b1, b1, b1, b1, b1, b1, b1]) (pos := [.sel [0]]) (.c h1 (.c (light_Whole_ok a0 u2 h3) (.c h4 (.c h4 (.c (light_Whole_ok a1 u5 h6) (.c h4 (.c h4 (.c h7 (.c h7 (.c h7 (.c h7 (.c h7 (.c h7 (.c h7 (.c h7 (.c r1 (.c r1 (.c r1 (.c r1 (.c r1 (.c r1 (.c r1 .n)))))))))))))))))))))) (by kernel_rfl)
   ·rcases fork_some h with ⟨h8, h⟩ | ⟨h8, h⟩
    ·injection h with h; subst h
     exact env.fun func26 can26 (its := [b0, .call [none] [] [] true (light_Whole_R a0 u2) (light_Whole_O a0 u2), b0, b0, .call [none] [] [] true (light_Whole_R a1 u5) (light_Whole_O a1 u5), b0, b0, b0, b0, b0, b0, b0, b0, b0, b0, b1, b1, b1, b1, b1, b1, b1]) (pos := [.sel [0]]) (.c h1 (.c (light_Whole_ok a0 u2 h3) (.c h4 (.c h4 (.c (light_Whole_ok a1 u5 h6) (.c h4 (.c h4 (.c h7 (.c h7 (.c h7 (.c h7 (.c h7 (.c h7 (.c h7 (.c h7 (.c h8 (.c h8 (.c h8 (.c h8 (.c h8 (.c h8 (.c r1 .n)))))))))))))))))))))) (by kernel_rfl)
    ·rcases fork_some h with ⟨h9, h⟩ | ⟨h9, h⟩
     ·injection h with h; subst h
      exact env.fun func26 can26 (its := [b0, .call [none] [] [] true (light_Whole_R a0 u2) (light_Whole_O a0 u2), b0, b0, .call [none] [] [] true (light_Whole_R a1 u5) (light_Whole_O a1 u5), b0, b0, b0, b0, b0, b0, b0, b0, b0, b0, b0, b0, b0, b0, b0, b0, b1]) (pos := [.sel [0]]) (.c h1 (.c (light_Whole_ok a0 u2 h3) (.c h4 (.c h4 (.c (light_Whole_ok a1 u5 h6) (.c h4 (.c h4 (.c h7 (.c h7 (.c h7 (.c h7 (.c h7 (.c h7 (.c h7 (.c h7 (.c h8 (.c h8 (.c h8 (.c h8 (.c h8 (.c h8 (.c h9 .n)))))))))))))))))))))) (by kernel_rfl)
     ·obtain ⟨o19, h20, h⟩ := andThen_some h
      rcases o19 with o21 | o22
      ·injection h with h; subst h
       exact env.fun func26 can26 (its := [b0, .call [none] [] [] true (light_Whole_R a0 u2) (light_Whole_O a0 u2), b0, b0, .call [none] [] [] true (light_Whole_R a1 u5) (light_Whole_O a1 u5), b0, b0, b0, b0, b0, b0, b0, b0, b0, b0, b0, b0, b0, b0, b0, b0, b0, .dive, .sel [0, 39, 40, 41] [0, 3], .part (light_Client_Misbehave_1c97_1_ex (.inl o21)) (light_Client_Misbehave_1c97_1_st (.inl o21))]) (pos := [.sel [0]]) (.c h1 (.c (light_Whole_ok a0 u2 h3) (.c h4 (.c h4 (.c (light_Whole_ok a1 u5 h6) (.c h4 (.c h4 (.c h7 (.c h7 (.c h7 (.c h7 (.c h7 (.c h7 (.c h7 (.c h7 (.c h8 (.c h8 (.c h8 (.c h8 (.c h8 (.c h8 (.c h9 (.c (light_Client_Misbehave_1c97_1_ok (List.length ([a0, a1] : List (Tedcc)) : Int) (0 : Int) a2 ([a0, a1] : List (Tedcc)) (.inl o21) h20) .n))))))))))))))))))))))) (by kernel_rfl)
      ·injection h with h; subst h
       exact env.fun func26 can26 (its := [b0, .call [none] [] [] true (light_Whole_R a0 u2) (light_Whole_O a0 u2), b0, b0, .call [none] [] [] true (light_Whole_R a1 u5) (light_Whole_O a1 u5), b0, b0, b0, b0, b0, b0, b0, b0, b0, b0, b0, b0, b0, b0, b0, b0, b0, .dive, .sel [0, 39, 40, 41] [0, 3], .part (light_Client_Misbehave_1c97_1_ex (.inr o22)) (light_Client_Misbehave_1c97_1_st (.inr o22))]) (pos := [.sel [0]]) (.c h1 (.c (light_Whole_ok a0 u2 h3) (.c h4 (.c h4 (.c (light_Whole_ok a1 u5 h6) (.c h4 (.c h4 (.c h7 (.c h7 (.c h7 (.c h7 (.c h7 (.c h7 (.c h7 (.c h7 (.c h8 (.c h8 (.c h8 (.c h8 (.c h8 (.c h8 (.c h9 (.c (light_Client_Misbehave_1c97_1_ok (List.length ([a0, a1] : List (Tedcc)) : Int) (0 : Int) a2 ([a0, a1] : List (Tedcc)) (.inr o22) h20) .n))))))))))))))))))))))) (by kernel_rfl)
theorem can27 : Callable prog 27 := ⟨_, func27, by kernel_rfl, by kernel_rfl⟩
def light_Client_Frozen_265a_R (a0 : T65da) (u : Bool) : Slot := (.v .bool u)
def light_Client_Frozen_265a_O (a0 : T65da) (u : Bool) : List AObj := [.box Y65da (.v Y65da a0) true]
theorem light_Client_Frozen_265a_ok (a0 : T65da) (u : Bool) (h : light_Client_Frozen_265a a0 = some u) : CallC prog 27 [(.ptr 0 [])] [.box Y65da (.v Y65da a0) true] (light_Client_Frozen_265a_R a0 u) (light_Client_Frozen_265a_O a0 u) := by
 unfold light_Client_Frozen_265a at h
 injection h with h; subst h
 exact env.fun func27 can27 (its := []) (pos := [.sel [0]]) .n (by kernel_rfl)
end
end Go.Proofs.Ytcfaippbnmmelaa.lightTrust
