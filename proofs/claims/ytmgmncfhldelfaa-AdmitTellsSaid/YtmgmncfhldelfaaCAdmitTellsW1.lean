/-
  The functions, walked through: each call comes to what the pure text says.
-/
import Derived.Test.YtmgmncfhldelfaaProg
import Derived.Test.YtmgmncfhldelfaaAxC
import Derived.Test.YtmgmncfhldelfaaCAdmitTellsP
import Derived.Test.YtmgmncfhldelfaaCAdmitTellsW0
namespace Go.Proofs.Ytmgmncfhldelfaa.admitTells
open Go.Ax Go.Ax.V Go.Proofs.Try
set_option maxRecDepth 100000
set_option linter.unusedVariables false
noncomputable section
theorem can82 : Callable prog 82 := ⟨_, func82, by kernel_rfl, by kernel_rfl⟩
def kv_placeF1_R (a0 : T18c3) (a1 : B8) (u : Int) : Slot := (.v (.int .i64) u)
def kv_placeF1_O (a0 : T18c3) (a1 : B8) (u : Int) : List AObj := []
theorem kv_placeF1_ok (a0 : T18c3) (a1 : B8) (u : Int) (h : kv_placeF1 a0 a1 = some u) : CallC prog 82 [(.v Y18c3 a0), (.v .str a1)] [] (kv_placeF1_R a0 a1 u) (kv_placeF1_O a0 a1 u) := by
 unfold kv_placeF1 at h
 obtain ⟨u1, h2, h⟩ := andThen_some h
 injection h with h; subst h
 exact env.fun func82 can82 (its := [.call [none, none] [] [] true (strings_Compare_R a0.1 a1 u1) (strings_Compare_O a0.1 a1 u1)]) (pos := [.sel []]) (.c (strings_Compare_ok a0.1 a1 u1 h2) .n) (by kernel_rfl)
theorem can81 : Callable prog 81 := ⟨_, func81, by kernel_rfl, by kernel_rfl⟩
def slices_BinarySearchFunc_LPair_Pair_string_1a7a_1_in (x0 : List (T18c3)) (x1 : B8) (x2 : Int) (x3 : Int) (x4 : Int) : St := ⟨[(0, (.v (.slice Y18c3) x0)), (1, (.v .str x1)), (2, (.fn 82 .tnil)), (8, (.v (.int .i64) x2)), (9, (.v (.int .i64) x3)), (10, (.v (.int .i64) x4))], [], 49, 0⟩
def slices_BinarySearchFunc_LPair_Pair_string_1a7a_1_ex (o : (List (T18c3)) × B8 × Int × Int) : Exit := (.exit 0)
def slices_BinarySearchFunc_LPair_Pair_string_1a7a_1_st (o : (List (T18c3)) × B8 × Int × Int) : St := ⟨[(0, (.v (.slice Y18c3) o.1)), (1, (.v .str o.2.1)), (2, (.fn 82 .tnil)), (8, (.v (.int .i64) o.2.2.1)), (9, (.v (.int .i64) o.2.2.2))], [], 49, 0⟩
theorem slices_BinarySearchFunc_LPair_Pair_string_1a7a_1_body (x0 : List (T18c3)) (x1 : B8) (x2 : Int) (x3 : Int) (x4 : Int) : ∀ r, slices_BinarySearchFunc_LPair_Pair_string_1a7a_1_step x0 x1 x2 x3 x4 = some r → (match r with | .inl s => CodeOK prog (codeAt (bodyOf f81) [1, 1, 1, 0, 0, 0]) (slices_BinarySearchFunc_LPair_Pair_string_1a7a_1_in x0 x1 x2 x3 x4) .normal (slices_BinarySearchFunc_LPair_Pair_string_1a7a_1_in x0 x1 x2 s.1 s.2) | .inr o => slices_BinarySearchFunc_LPair_Pair_string_1a7a_1_ex o ≠ .normal ∧ CodeOK prog (codeAt (bodyOf f81) [1, 1, 1, 0, 0, 0]) (slices_BinarySearchFunc_LPair_Pair_string_1a7a_1_in x0 x1 x2 x3 x4) (slices_BinarySearchFunc_LPair_Pair_string_1a7a_1_ex o) (slices_BinarySearchFunc_LPair_Pair_string_1a7a_1_st o)) := by
 intro r h
 unfold slices_BinarySearchFunc_LPair_Pair_string_1a7a_1_step at h
 rcases fork_some h with ⟨h2, h⟩ | ⟨h2, h⟩
 ·obtain ⟨h3, h⟩ := need_some h
  obtain ⟨u4, h5, h⟩ := andThen_some h
  rcases fork_some h with ⟨h6, h⟩ | ⟨h6, h⟩
  ·injection h with h; subst h
   exact env.code (its := [b1, .call [none, none] [] [] true (kv_placeF1_R (List.getD x0 (Int.toNat (w64 ((UInt64.toNat (UInt64.ofNat (UInt64.toNat (UInt64.ofNat (Int.toNat ((w64 (x3 + x4)) % 18446744073709551616))) >>> (Int.toNat (1 : Int)))) : Nat) : Int))) Z18c3) x1 u4) (kv_placeF1_O (List.getD x0 (Int.toNat (w64 ((UInt64.toNat (UInt64.ofNat (UInt64.toNat (UInt64.ofNat (Int.toNat ((w64 (x3 + x4)) % 18446744073709551616))) >>> (Int.toNat (1 : Int)))) : Nat) : Int))) Z18c3) x1 u4), b1, .sel [0, 1, 2, 8, 9, 10] []]) (.c h2 (.c (of_decide_eq_true (p := (0 ≤ (1 : Int))) (by kernel_rfl)) (.c h3 (.c (kv_placeF1_ok (List.getD x0 (Int.toNat (w64 ((UInt64.toNat (UInt64.ofNat (UInt64.toNat (UInt64.ofNat (Int.toNat ((w64 (x3 + x4)) % 18446744073709551616))) >>> (Int.toNat (1 : Int)))) : Nat) : Int))) Z18c3) x1 u4 h5) (.c h6 .n))))) (by kernel_rfl)
  ·injection h with h; subst h
   exact env.code (its := [b1, .call [none, none] [] [] true (kv_placeF1_R (List.getD x0 (Int.toNat (w64 ((UInt64.toNat (UInt64.ofNat (UInt64.toNat (UInt64.ofNat (Int.toNat ((w64 (x3 + x4)) % 18446744073709551616))) >>> (Int.toNat (1 : Int)))) : Nat) : Int))) Z18c3) x1 u4) (kv_placeF1_O (List.getD x0 (Int.toNat (w64 ((UInt64.toNat (UInt64.ofNat (UInt64.toNat (UInt64.ofNat (Int.toNat ((w64 (x3 + x4)) % 18446744073709551616))) >>> (Int.toNat (1 : Int)))) : Nat) : Int))) Z18c3) x1 u4), b0, .sel [0, 1, 2, 8, 9, 10] []]) (.c h2 (.c (of_decide_eq_true (p := (0 ≤ (1 : Int))) (by kernel_rfl)) (.c h3 (.c (kv_placeF1_ok (List.getD x0 (Int.toNat (w64 ((UInt64.toNat (UInt64.ofNat (UInt64.toNat (UInt64.ofNat (Int.toNat ((w64 (x3 + x4)) % 18446744073709551616))) >>> (Int.toNat (1 : Int)))) : Nat) : Int))) Z18c3) x1 u4 h5) (.c h6 .n))))) (by kernel_rfl)
 ·injection h with h; subst h
  exact ⟨by intro e; simp [slices_BinarySearchFunc_LPair_Pair_string_1a7a_1_ex] at e, env.code (its := [b0, .sel [0, 1, 2, 8, 9] []]) (.c h2 .n) (by kernel_rfl)⟩
theorem slices_BinarySearchFunc_LPair_Pair_string_1a7a_1_ok (x0 : List (T18c3)) (x1 : B8) (x2 : Int) (x3 : Int) (x4 : Int) (o : (List (T18c3)) × B8 × Int × Int) (h : slices_BinarySearchFunc_LPair_Pair_string_1a7a_1 x0 x1 x2 x3 x4 = some o) : CodeOK prog (codeAt (bodyOf f81) [1, 1, 1, 0, 0]) (slices_BinarySearchFunc_LPair_Pair_string_1a7a_1_in x0 x1 x2 x3 x4) (slices_BinarySearchFunc_LPair_Pair_string_1a7a_1_ex o) (slices_BinarySearchFunc_LPair_Pair_string_1a7a_1_st o) :=
 LoopOK.of_step (st := fun s => slices_BinarySearchFunc_LPair_Pair_string_1a7a_1_in x0 x1 x2 s.1 s.2) (ex := slices_BinarySearchFunc_LPair_Pair_string_1a7a_1_ex) (stO := slices_BinarySearchFunc_LPair_Pair_string_1a7a_1_st) (fun s s2 hs => slices_BinarySearchFunc_LPair_Pair_string_1a7a_1_body x0 x1 x2 s.1 s.2 (.inl s2) hs) (fun s r hs => slices_BinarySearchFunc_LPair_Pair_string_1a7a_1_body x0 x1 x2 s.1 s.2 (.inr r) hs) _ o h
def slices_BinarySearchFunc_LPair_Pair_string_1a7a_R (a0 : List (T18c3)) (a1 : B8) (u : Int × Bool) : Slot := (.tup (.v (.int .i64) u.1) (.tup (.v .bool u.2) .tnil))
def slices_BinarySearchFunc_LPair_Pair_string_1a7a_O (a0 : List (T18c3)) (a1 : B8) (u : Int × Bool) : List AObj := []
theorem slices_BinarySearchFunc_LPair_Pair_string_1a7a_ok (a0 : List (T18c3)) (a1 : B8) (u : Int × Bool) (h : slices_BinarySearchFunc_LPair_Pair_string_1a7a a0 a1 = some u) : CallC prog 81 [(.v (.slice Y18c3) a0), (.v .str a1), (.fn 82 .tnil)] [] (slices_BinarySearchFunc_LPair_Pair_string_1a7a_R a0 a1 u) (slices_BinarySearchFunc_LPair_Pair_string_1a7a_O a0 a1 u) := by
 unfold slices_BinarySearchFunc_LPair_Pair_string_1a7a at h
 obtain ⟨o7, h8, h⟩ := andThen_some h
 rcases fork_some h with ⟨h9, h⟩ | ⟨h9, h⟩
 ·obtain ⟨h10, h⟩ := need_some h
  obtain ⟨u11, h12, h⟩ := andThen_some h
  injection h with h; subst h
  exact env.fun func81 can81 (its := [.dive, .sel [0, 1, 2, 8, 9, 10] [], .part (slices_BinarySearchFunc_LPair_Pair_string_1a7a_1_ex o7) (slices_BinarySearchFunc_LPair_Pair_string_1a7a_1_st o7), b1, b1, b1, b1, b1, b1, b1, .call [none, none] [] [] true (kv_placeF1_R (List.getD o7.1 (Int.toNat o7.2.2.2) Z18c3) o7.2.1 u11) (kv_placeF1_O (List.getD o7.1 (Int.toNat o7.2.2.2) Z18c3) o7.2.1 u11), b1, b1]) (pos := [.sel []]) (.c (slices_BinarySearchFunc_LPair_Pair_string_1a7a_1_ok a0 a1 (List.length a0 : Int) (0 : Int) (List.length a0 : Int) o7 h8) (.c h9 (.c h9 (.c h9 (.c h9 (.c h10 (.c h9 (.c h9 (.c h9 (.c (kv_placeF1_ok (List.getD o7.1 (Int.toNat o7.2.2.2) Z18c3) o7.2.1 u11 h12) (.c h9 (.c h9 .n)))))))))))) (by kernel_rfl)
 ·injection h with h; subst h
  exact env.fun func81 can81 (its := [.dive, .sel [0, 1, 2, 8, 9, 10] [], .part (slices_BinarySearchFunc_LPair_Pair_string_1a7a_1_ex o7) (slices_BinarySearchFunc_LPair_Pair_string_1a7a_1_st o7), b0, b0, b0, b0, b0, b0, b0, b0, b0]) (pos := [.sel []]) (.c (slices_BinarySearchFunc_LPair_Pair_string_1a7a_1_ok a0 a1 (List.length a0 : Int) (0 : Int) (List.length a0 : Int) o7 h8) (.c h9 (.c h9 (.c h9 (.c h9 (.c h9 (.c h9 (.c h9 (.c h9 (.c h9 .n)))))))))) (by kernel_rfl)
theorem can51 : Callable prog 51 := ⟨_, func51, by kernel_rfl, by kernel_rfl⟩
def kv_place_R (a0 : List (T18c3)) (a1 : B8) (u : Int × Bool) : Slot := (.tup (.v (.int .i64) u.1) (.tup (.v .bool u.2) .tnil))
def kv_place_O (a0 : List (T18c3)) (a1 : B8) (u : Int × Bool) : List AObj := []
theorem kv_place_ok (a0 : List (T18c3)) (a1 : B8) (u : Int × Bool) (h : kv_place a0 a1 = some u) : CallC prog 51 [(.v (.slice Y18c3) a0), (.v .str a1)] [] (kv_place_R a0 a1 u) (kv_place_O a0 a1 u) := by
 unfold kv_place at h
 obtain ⟨u1, h2, h⟩ := andThen_some h
 injection h with h; subst h
 exact env.fun func51 can51 (its := [.call [none, none, none] [] [] true (slices_BinarySearchFunc_LPair_Pair_string_1a7a_R a0 a1 u1) (slices_BinarySearchFunc_LPair_Pair_string_1a7a_O a0 a1 u1)]) (pos := [.sel []]) (.c (slices_BinarySearchFunc_LPair_Pair_string_1a7a_ok a0 a1 u1 h2) .n) (by kernel_rfl)
theorem can18 : Callable prog 18 := ⟨_, func18, by kernel_rfl, by kernel_rfl⟩
def kv_First_R (a0 : List (T18c3)) (a1 : B8) (u : Int) : Slot := (.v (.int .i64) u)
def kv_First_O (a0 : List (T18c3)) (a1 : B8) (u : Int) : List AObj := []
theorem kv_First_ok (a0 : List (T18c3)) (a1 : B8) (u : Int) (h : kv_First a0 a1 = some u) : CallC prog 18 [(.v (.slice Y18c3) a0), (.v .str a1)] [] (kv_First_R a0 a1 u) (kv_First_O a0 a1 u) := by
 unfold kv_First at h
 obtain ⟨u1, h2, h⟩ := andThen_some h
 injection h with h; subst h
 exact env.fun func18 can18 (its := [.call [none, none] [] [] true (kv_place_R a0 a1 u1) (kv_place_O a0 a1 u1)]) (pos := [.sel []]) (.c (kv_place_ok a0 a1 u1 h2) .n) (by kernel_rfl)
theorem can52 : Callable prog 52 := ⟨_, func52, by kernel_rfl, by kernel_rfl⟩
def slices_Clone_LPair_Pair_R (a0 : List (T18c3)) (u : List (T18c3)) : Slot := .own 0 []
def slices_Clone_LPair_Pair_O (a0 : List (T18c3)) (u : List (T18c3)) : List AObj := [.row Y18c3 u true]
theorem slices_Clone_LPair_Pair_ok (a0 : List (T18c3)) (u : List (T18c3)) (h : slices_Clone_LPair_Pair a0 = some u) : CallC prog 52 [.v (.slice Y18c3) a0] [] (slices_Clone_LPair_Pair_R a0 u) (slices_Clone_LPair_Pair_O a0 u) := by
 unfold slices_Clone_LPair_Pair at h
 obtain ⟨h1, h⟩ := need_some h
 injection h with h; subst h
 rcases a0 with _ | ⟨x0, a0⟩
 ·exact env.funAny (r0 := codeAt (bodyOf f52) [0]) (r1 := codeAt (bodyOf f52) [1, 0, 0]) (x := codeAt (bodyOf f52) [1, 0, 1, 0]) (z := codeAt (bodyOf f52) [1, 1]) (t := 4) (r := (.own 0 [])) func52 can52 (i0 := [.sel [0] []]) (i1 := [.sel [0, 4] []]) (i2 := [.promote 2 Y18c3, .sel [2] [0]]) (i3 := [.sel [2] [1]]) (pos := [.sel [0]]) (st1 := ⟨[(0, (.v (.slice Y18c3) ([] : List (T18c3))))], [], 8, 0⟩) (st2 := ⟨[(0, (.v (.slice Y18c3) ([] : List (T18c3)))), (4, .anyb)], [], 8, 0⟩) (st3 := ⟨[(2, (.own 0 []))], [.row Y18c3 ([] : List (T18c3)) true], 8, 0⟩) (by kernel_rfl) (by kernel_rfl) (by kernel_rfl) (by kernel_rfl) (by kernel_rfl) (by kernel_rfl) (.c (show List.length ([] : List (T18c3)) + List.length ([] : List (T18c3)) ≤ 2147483648 from by first | decide | (simp at h1 ⊢; try omega)) .n) (by kernel_rfl) (by kernel_rfl) (by kernel_rfl)
 ·exact env.fun func52 can52 (its := [b0]) (pos := [.sel [1]]) (.c r0 (.c (show List.length ([] : List (T18c3)) + List.length (x0 :: a0) ≤ 2147483648 from by first | decide | (simp at h1 ⊢; try omega)) .n)) (by kernel_rfl)
theorem can20 : Callable prog 20 := ⟨_, func20, by kernel_rfl, by kernel_rfl⟩
def kv_Range_R (a0 : List (T18c3)) (a1 : B8) (a2 : B8) (u : List (T18c3)) : Slot := (.own 0 [])
def kv_Range_O (a0 : List (T18c3)) (a1 : B8) (a2 : B8) (u : List (T18c3)) : List AObj := [.row Y18c3 u true]
theorem kv_Range_ok (a0 : List (T18c3)) (a1 : B8) (a2 : B8) (u : List (T18c3)) (h : kv_Range a0 a1 a2 = some u) : CallC prog 20 [(.v (.slice Y18c3) a0), (.v .str a1), (.v .str a2)] [] (kv_Range_R a0 a1 a2 u) (kv_Range_O a0 a1 a2 u) := by
 unfold kv_Range at h
 obtain ⟨u1, h2, h⟩ := andThen_some h
 obtain ⟨u3, h4, h⟩ := andThen_some h
 obtain ⟨h5, h⟩ := need_some h
 obtain ⟨u6, h7, h⟩ := andThen_some h
 injection h with h; subst h
 exact env.fun func20 can20 (its := [.call [none, none] [] [] true (kv_First_R a0 a1 u1) (kv_First_O a0 a1 u1), .call [none, none] [] [] true (kv_First_R a0 a2 u3) (kv_First_O a0 a2 u3), b0, .call [none] [] [] true (slices_Clone_LPair_Pair_R (cutL a0 u1 (max u1 u3)) u6) (slices_Clone_LPair_Pair_O (cutL a0 u1 (max u1 u3)) u6)]) (pos := [.sel [0]]) (.c (kv_First_ok a0 a1 u1 h2) (.c (kv_First_ok a0 a2 u3 h4) (.c h5 (.c (slices_Clone_LPair_Pair_ok (cutL a0 u1 (max u1 u3)) u6 h7) .n)))) (by kernel_rfl)
theorem can13 : Callable prog 13 := ⟨_, func13, by kernel_rfl, by kernel_rfl⟩
def check_Range_R (a0 : B8) (a1 : B8) (a2 : B8) (a3 : T20c7) (u : (List (T18c3)) × Bool) : Slot := (.tup (.v (.slice Y18c3) u.1) (.tup (.v .bool u.2) .tnil))
def check_Range_O (a0 : B8) (a1 : B8) (a2 : B8) (a3 : T20c7) (u : (List (T18c3)) × Bool) : List AObj := []
theorem check_Range_ok (a0 : B8) (a1 : B8) (a2 : B8) (a3 : T20c7) (u : (List (T18c3)) × Bool) (h : check_Range a0 a1 a2 a3 = some u) : CallC prog 13 [(.v (.arr 32 (.int .u8)) a0), (.v .str a1), (.v .str a2), (.v Y20c7 a3)] [] (check_Range_R a0 a1 a2 a3 u) (check_Range_O a0 a1 a2 a3 u) := by
 unfold check_Range at h
 obtain ⟨u1, h2, h⟩ := andThen_some h
 rcases fork_some h with ⟨h3, h⟩ | ⟨h3, h⟩
 ·injection h with h; subst h
  exact env.fun func13 can13 (its := [.call [none, none] [] [] true (check_Sound_R a0 a3 u1) (check_Sound_O a0 a3 u1), b1]) (pos := [.vals (.slice Y18c3) [.bool], .sel []]) (.c (check_Sound_ok a0 a3 u1 h2) (.c h3 .n)) (by kernel_rfl)
 ·rcases fork_some h with ⟨h4, h⟩ | ⟨h4, h⟩
  ·injection h with h; subst h
   exact env.fun func13 can13 (its := [.call [none, none] [] [] true (check_Sound_R a0 a3 u1) (check_Sound_O a0 a3 u1), b0, b1]) (pos := [.vals (.slice Y18c3) [.bool], .sel []]) (.c (check_Sound_ok a0 a3 u1 h2) (.c h3 (.c h4 .n))) (by kernel_rfl)
  ·rcases fork_some h with ⟨h5, h⟩ | ⟨h5, h⟩
   ·rcases fork_some h with ⟨h6, h⟩ | ⟨h6, h⟩
    ·obtain ⟨u7, h8, h⟩ := andThen_some h
     injection h with h; subst h
     exact env.fun func13 can13 (its := [.call [none, none] [] [] true (check_Sound_R a0 a3 u1) (check_Sound_O a0 a3 u1), b0, b0, b1, b1, b1, b1, b1, b1, b1, b1, b1, b1, b1, b1, b1, b1, b1, b1, b1, b1, b1, b1, b0, b0, b0, b0, .call [none, none, none] [] [] true (kv_Range_R a3.2.2.1 a1 a2 u7) (kv_Range_O a3.2.2.1 a1 a2 u7)]) (pos := [.vals (.slice Y18c3) [.bool], .sel []]) (.c (check_Sound_ok a0 a3 u1 h2) (.c h3 (.c h4 (.c h5 (.c h5 (.c h5 (.c h5 (.c h5 (.c h5 (.c h5 (.c h5 (.c h6 (.c h6 (.c h6 (.c h6 (.c h6 (.c h6 (.c h6 (.c h6 (.c h6 (.c h6 (.c h6 (.c h6 (.c r0 (.c r0 (.c r0 (.c r0 (.c (kv_Range_ok a3.2.2.1 a1 a2 u7 h8) .n)))))))))))))))))))))))))))) (by kernel_rfl)
    ·obtain ⟨h9, h⟩ := need_some h
     rcases fork_some h with ⟨h10, h⟩ | ⟨h10, h⟩
     ·injection h with h; subst h
      exact env.fun func13 can13 (its := [.call [none, none] [] [] true (check_Sound_R a0 a3 u1) (check_Sound_O a0 a3 u1), b0, b0, b1, b1, b1, b1, b1, b1, b1, b1, b0, b0, b0, b0, b0, b0, b0, b0, b0, b0, b0, b0, b0, b0, b0, b1]) (pos := [.vals (.slice Y18c3) [.bool], .sel []]) (.c (check_Sound_ok a0 a3 u1 h2) (.c h3 (.c h4 (.c h5 (.c h5 (.c h5 (.c h5 (.c h5 (.c h5 (.c h5 (.c h5 (.c h6 (.c h6 (.c h6 (.c h6 (.c h6 (.c h9 (.c h6 (.c h6 (.c h6 (.c h6 (.c h6 (.c h6 (.c h6 (.c r0 (.c r0 (.c r0 (.c h10 .n)))))))))))))))))))))))))))) (by kernel_rfl)
     ·obtain ⟨u11, h12, h⟩ := andThen_some h
      injection h with h; subst h
      exact env.fun func13 can13 (its := [.call [none, none] [] [] true (check_Sound_R a0 a3 u1) (check_Sound_O a0 a3 u1), b0, b0, b1, b1, b1, b1, b1, b1, b1, b1, b0, b0, b0, b0, b0, b0, b0, b0, b0, b0, b0, b0, b0, b0, b0, b0, .call [none, none, none] [] [] true (kv_Range_R a3.2.2.1 a1 a2 u11) (kv_Range_O a3.2.2.1 a1 a2 u11)]) (pos := [.vals (.slice Y18c3) [.bool], .sel []]) (.c (check_Sound_ok a0 a3 u1 h2) (.c h3 (.c h4 (.c h5 (.c h5 (.c h5 (.c h5 (.c h5 (.c h5 (.c h5 (.c h5 (.c h6 (.c h6 (.c h6 (.c h6 (.c h6 (.c h9 (.c h6 (.c h6 (.c h6 (.c h6 (.c h6 (.c h6 (.c h6 (.c r0 (.c r0 (.c r0 (.c h10 (.c (kv_Range_ok a3.2.2.1 a1 a2 u11 h12) .n))))))))))))))))))))))))))))) (by kernel_rfl)
   ·obtain ⟨h13, h⟩ := need_some h
    rcases fork_some h with ⟨h14, h⟩ | ⟨h14, h⟩
    ·rcases fork_some h with ⟨h15, h⟩ | ⟨h15, h⟩
     ·injection h with h; subst h
      exact env.fun func13 can13 (its := [.call [none, none] [] [] true (check_Sound_R a0 a3 u1) (check_Sound_O a0 a3 u1), b0, b0, b0, b0, b0, b0, b0, b0, b0, b0, b1, b1, b1, b1, b1, b1, b1, b1, b1, b1, b1, b1, b1, b1, b1, b1]) (pos := [.vals (.slice Y18c3) [.bool], .sel []]) (.c (check_Sound_ok a0 a3 u1 h2) (.c h3 (.c h4 (.c h5 (.c h5 (.c h5 (.c h13 (.c h5 (.c h5 (.c h5 (.c h5 (.c h5 (.c h14 (.c h14 (.c h14 (.c h14 (.c h14 (.c h14 (.c h14 (.c h14 (.c h14 (.c h14 (.c h14 (.c h14 (.c h15 (.c h15 (.c h15 (.c r1 .n)))))))))))))))))))))))))))) (by kernel_rfl)
     ·obtain ⟨u16, h17, h⟩ := andThen_some h
      injection h with h; subst h
      exact env.fun func13 can13 (its := [.call [none, none] [] [] true (check_Sound_R a0 a3 u1) (check_Sound_O a0 a3 u1), b0, b0, b0, b0, b0, b0, b0, b0, b0, b0, b1, b1, b1, b1, b1, b1, b1, b1, b1, b1, b1, b1, b0, b0, b0, b0, .call [none, none, none] [] [] true (kv_Range_R a3.2.2.1 a1 a2 u16) (kv_Range_O a3.2.2.1 a1 a2 u16)]) (pos := [.vals (.slice Y18c3) [.bool], .sel []]) (.c (check_Sound_ok a0 a3 u1 h2) (.c h3 (.c h4 (.c h5 (.c h5 (.c h5 (.c h13 (.c h5 (.c h5 (.c h5 (.c h5 (.c h5 (.c h14 (.c h14 (.c h14 (.c h14 (.c h14 (.c h14 (.c h14 (.c h14 (.c h14 (.c h14 (.c h14 (.c h14 (.c h15 (.c h15 (.c h15 (.c r0 (.c (kv_Range_ok a3.2.2.1 a1 a2 u16 h17) .n))))))))))))))))))))))))))))) (by kernel_rfl)
    ·obtain ⟨h18, h⟩ := need_some h
     rcases fork_some h with ⟨h19, h⟩ | ⟨h19, h⟩
     ·injection h with h; subst h
      exact env.fun func13 can13 (its := [.call [none, none] [] [] true (check_Sound_R a0 a3 u1) (check_Sound_O a0 a3 u1), b0, b0, b0, b0, b0, b0, b0, b0, b0, b0, b0, b0, b0, b0, b0, b0, b0, b0, b0, b0, b0, b0, b1, b1, b1, b1]) (pos := [.vals (.slice Y18c3) [.bool], .sel []]) (.c (check_Sound_ok a0 a3 u1 h2) (.c h3 (.c h4 (.c h5 (.c h5 (.c h5 (.c h13 (.c h5 (.c h5 (.c h5 (.c h5 (.c h5 (.c h14 (.c h14 (.c h14 (.c h14 (.c h14 (.c h18 (.c h14 (.c h14 (.c h14 (.c h14 (.c h14 (.c h14 (.c h14 (.c h19 (.c h19 (.c h19 (.c r1 .n))))))))))))))))))))))))))))) (by kernel_rfl)
     ·rcases fork_some h with ⟨h20, h⟩ | ⟨h20, h⟩
      ·injection h with h; subst h
       exact env.fun func13 can13 (its := [.call [none, none] [] [] true (check_Sound_R a0 a3 u1) (check_Sound_O a0 a3 u1), b0, b0, b0, b0, b0, b0, b0, b0, b0, b0, b0, b0, b0, b0, b0, b0, b0, b0, b0, b0, b0, b0, b0, b0, b0, b1]) (pos := [.vals (.slice Y18c3) [.bool], .sel []]) (.c (check_Sound_ok a0 a3 u1 h2) (.c h3 (.c h4 (.c h5 (.c h5 (.c h5 (.c h13 (.c h5 (.c h5 (.c h5 (.c h5 (.c h5 (.c h14 (.c h14 (.c h14 (.c h14 (.c h14 (.c h18 (.c h14 (.c h14 (.c h14 (.c h14 (.c h14 (.c h14 (.c h14 (.c h19 (.c h19 (.c h19 (.c h20 .n))))))))))))))))))))))))))))) (by kernel_rfl)
      ·obtain ⟨u21, h22, h⟩ := andThen_some h
       injection h with h; subst h
       exact env.fun func13 can13 (its := [.call [none, none] [] [] true (check_Sound_R a0 a3 u1) (check_Sound_O a0 a3 u1), b0, b0, b0, b0, b0, b0, b0, b0, b0, b0, b0, b0, b0, b0, b0, b0, b0, b0, b0, b0, b0, b0, b0, b0, b0, b0, .call [none, none, none] [] [] true (kv_Range_R a3.2.2.1 a1 a2 u21) (kv_Range_O a3.2.2.1 a1 a2 u21)]) (pos := [.vals (.slice Y18c3) [.bool], .sel []]) (.c (check_Sound_ok a0 a3 u1 h2) (.c h3 (.c h4 (.c h5 (.c h5 (.c h5 (.c h13 (.c h5 (.c h5 (.c h5 (.c h5 (.c h5 (.c h14 (.c h14 (.c h14 (.c h14 (.c h14 (.c h18 (.c h14 (.c h14 (.c h14 (.c h14 (.c h14 (.c h14 (.c h14 (.c h19 (.c h19 (.c h19 (.c h20 (.c (kv_Range_ok a3.2.2.1 a1 a2 u21 h22) .n)))))))))))))))))))))))))))))) (by kernel_rfl)
theorem can57 : Callable prog 57 := ⟨_, func57, by kernel_rfl, by kernel_rfl⟩
def slices_Equal_LPair_Pair_1_in (x0 : List (T18c3)) (x1 : List (T18c3)) (x2 : Int) (x3 : Int) : St := ⟨[(0, (.v (.slice Y18c3) x0)), (1, (.v (.slice Y18c3) x1)), (12, (.v (.int .i64) x2)), (13, (.v (.int .i64) x3))], [], 26, 0⟩
def slices_Equal_LPair_Pair_1_ex (o : (Bool) ⊕ (Unit)) : Exit := match o with | (.inl o) => .ret | (.inr o) => (.exit 0)
def slices_Equal_LPair_Pair_1_st (o : (Bool) ⊕ (Unit)) : St := match o with | (.inl o) => ⟨[(4, (.v .bool o))], [], 26, 0⟩ | (.inr o) => ⟨[], [], 26, 0⟩
theorem slices_Equal_LPair_Pair_1_body (x0 : List (T18c3)) (x1 : List (T18c3)) (x2 : Int) (x3 : Int) : ∀ r, slices_Equal_LPair_Pair_1_step x0 x1 x2 x3 = some r → (match r with | .inl s => CodeOK prog (codeAt (bodyOf f57) [1, 1, 0, 1, 0, 0]) (slices_Equal_LPair_Pair_1_in x0 x1 x2 x3) .normal (slices_Equal_LPair_Pair_1_in x0 x1 x2 s) | .inr o => slices_Equal_LPair_Pair_1_ex o ≠ .normal ∧ CodeOK prog (codeAt (bodyOf f57) [1, 1, 0, 1, 0, 0]) (slices_Equal_LPair_Pair_1_in x0 x1 x2 x3) (slices_Equal_LPair_Pair_1_ex o) (slices_Equal_LPair_Pair_1_st o)) := by
 intro r h
 unfold slices_Equal_LPair_Pair_1_step at h
 rcases fork_some h with ⟨h3, h⟩ | ⟨h3, h⟩
 ·obtain ⟨h4, h⟩ := need_some h
  obtain ⟨h5, h⟩ := need_some h
  rcases fork_some h with ⟨h6, h⟩ | ⟨h6, h⟩
  ·injection h with h; subst h
   exact ⟨by intro e; simp [slices_Equal_LPair_Pair_1_ex] at e, env.code (its := [b1, .pre p39, b1, .sel [4] []]) (.c h3 (.c h4 (.c h5 (.c h6 .n)))) (by kernel_rfl)⟩
  ·injection h with h; subst h
   exact env.code (its := [b1, .pre p39, b0, .sel [0, 1, 12, 13] []]) (.c h3 (.c h4 (.c h5 (.c h6 .n)))) (by kernel_rfl)
 ·injection h with h; subst h
  exact ⟨by intro e; simp [slices_Equal_LPair_Pair_1_ex] at e, env.code (its := [b0, .sel [] []]) (.c h3 .n) (by kernel_rfl)⟩
theorem slices_Equal_LPair_Pair_1_ok (x0 : List (T18c3)) (x1 : List (T18c3)) (x2 : Int) (x3 : Int) (o : (Bool) ⊕ (Unit)) (h : slices_Equal_LPair_Pair_1 x0 x1 x2 x3 = some o) : CodeOK prog (codeAt (bodyOf f57) [1, 1, 0, 1, 0]) (slices_Equal_LPair_Pair_1_in x0 x1 x2 x3) (slices_Equal_LPair_Pair_1_ex o) (slices_Equal_LPair_Pair_1_st o) :=
 LoopOK.of_step (st := fun s => slices_Equal_LPair_Pair_1_in x0 x1 x2 s) (ex := slices_Equal_LPair_Pair_1_ex) (stO := slices_Equal_LPair_Pair_1_st) (fun s s2 hs => slices_Equal_LPair_Pair_1_body x0 x1 x2 s (.inl s2) hs) (fun s r hs => slices_Equal_LPair_Pair_1_body x0 x1 x2 s (.inr r) hs) _ o h
def slices_Equal_LPair_Pair_R (a0 : List (T18c3)) (a1 : List (T18c3)) (u : Bool) : Slot := (.v .bool u)
def slices_Equal_LPair_Pair_O (a0 : List (T18c3)) (a1 : List (T18c3)) (u : Bool) : List AObj := []
theorem slices_Equal_LPair_Pair_ok (a0 : List (T18c3)) (a1 : List (T18c3)) (u : Bool) (h : slices_Equal_LPair_Pair a0 a1 = some u) : CallC prog 57 [(.v (.slice Y18c3) a0), (.v (.slice Y18c3) a1)] [] (slices_Equal_LPair_Pair_R a0 a1 u) (slices_Equal_LPair_Pair_O a0 a1 u) := by
 unfold slices_Equal_LPair_Pair at h
 rcases fork_some h with ⟨h1, h⟩ | ⟨h1, h⟩
 ·injection h with h; subst h
  exact env.fun func57 can57 (its := [b1]) (pos := [.sel []]) (.c h1 .n) (by kernel_rfl)
 ·obtain ⟨o7, h8, h⟩ := andThen_some h
  rcases o7 with o9 | o10
  ·injection h with h; subst h
   exact env.fun func57 can57 (its := [b0, .dive, .sel [0, 1, 12, 13] [], .part (slices_Equal_LPair_Pair_1_ex (.inl o9)) (slices_Equal_LPair_Pair_1_st (.inl o9))]) (pos := [.sel []]) (.c h1 (.c (slices_Equal_LPair_Pair_1_ok a0 a1 (List.length a0 : Int) (0 : Int) (.inl o9) h8) .n)) (by kernel_rfl)
  ·injection h with h; subst h
   exact env.fun func57 can57 (its := [b0, .dive, .sel [0, 1, 12, 13] [], .part (slices_Equal_LPair_Pair_1_ex (.inr o10)) (slices_Equal_LPair_Pair_1_st (.inr o10))]) (pos := [.sel []]) (.c h1 (.c (slices_Equal_LPair_Pair_1_ok a0 a1 (List.length a0 : Int) (0 : Int) (.inr o10) h8) .n)) (by kernel_rfl)
theorem can27 : Callable prog 27 := ⟨_, func27, by kernel_rfl, by kernel_rfl⟩
def kv_Get_R (a0 : List (T18c3)) (a1 : B8) (u : B8 × Bool) : Slot := (.tup (.v .str u.1) (.tup (.v .bool u.2) .tnil))
def kv_Get_O (a0 : List (T18c3)) (a1 : B8) (u : B8 × Bool) : List AObj := []
theorem kv_Get_ok (a0 : List (T18c3)) (a1 : B8) (u : B8 × Bool) (h : kv_Get a0 a1 = some u) : CallC prog 27 [(.v (.slice Y18c3) a0), (.v .str a1)] [] (kv_Get_R a0 a1 u) (kv_Get_O a0 a1 u) := by
 unfold kv_Get at h
 obtain ⟨u1, h2, h⟩ := andThen_some h
 rcases fork_some h with ⟨h3, h⟩ | ⟨h3, h⟩
 ·injection h with h; subst h
  exact env.fun func27 can27 (its := [.call [none, none] [] [] true (kv_place_R a0 a1 u1) (kv_place_O a0 a1 u1), b1]) (pos := [.sel []]) (.c (kv_place_ok a0 a1 u1 h2) (.c h3 .n)) (by kernel_rfl)
 ·obtain ⟨h4, h⟩ := need_some h
  injection h with h; subst h
  exact env.fun func27 can27 (its := [.call [none, none] [] [] true (kv_place_R a0 a1 u1) (kv_place_O a0 a1 u1), b0]) (pos := [.sel []]) (.c (kv_place_ok a0 a1 u1 h2) (.c h3 (.c h4 .n))) (by kernel_rfl)
theorem can15 : Callable prog 15 := ⟨_, func15, by kernel_rfl, by kernel_rfl⟩
def check_Absent_R (a0 : B8) (a1 : B8) (a2 : T20c7) (u : Bool) : Slot := (.v .bool u)
def check_Absent_O (a0 : B8) (a1 : B8) (a2 : T20c7) (u : Bool) : List AObj := []
theorem check_Absent_ok (a0 : B8) (a1 : B8) (a2 : T20c7) (u : Bool) (h : check_Absent a0 a1 a2 = some u) : CallC prog 15 [(.v (.arr 32 (.int .u8)) a0), (.v .str a1), (.v Y20c7 a2)] [] (check_Absent_R a0 a1 a2 u) (check_Absent_O a0 a1 a2 u) := by
 unfold check_Absent at h
 obtain ⟨u1, h2, h⟩ := andThen_some h
 rcases fork_some h with ⟨h3, h⟩ | ⟨h3, h⟩
 ·injection h with h; subst h
  exact env.fun func15 can15 (its := [.call [none, none, none, none] [] [] false (check_Range_R a0 a1 a1 a2 u1) (check_Range_O a0 a1 a1 a2 u1), b1]) (pos := [.sel []]) (.c (check_Range_ok a0 a1 a1 a2 u1 h2) (.c h3 .n)) (by kernel_rfl)
 ·obtain ⟨u4, h5, h⟩ := andThen_some h
  injection h with h; subst h
  exact env.fun func15 can15 (its := [.call [none, none, none, none] [] [] false (check_Range_R a0 a1 a1 a2 u1) (check_Range_O a0 a1 a1 a2 u1), b0, .call [none, none] [] [] true (kv_Get_R a2.2.2.1 a1 u4) (kv_Get_O a2.2.2.1 a1 u4)]) (pos := [.sel []]) (.c (check_Range_ok a0 a1 a1 a2 u1 h2) (.c h3 (.c (kv_Get_ok a2.2.2.1 a1 u4 h5) .n))) (by kernel_rfl)
theorem can40 : Callable prog 40 := ⟨_, func40, by kernel_rfl, by kernel_rfl⟩
def check_Exist_R (a0 : B8) (a1 : T18c3) (a2 : T20c7) (u : Bool) : Slot := (.v .bool u)
def check_Exist_O (a0 : B8) (a1 : T18c3) (a2 : T20c7) (u : Bool) : List AObj := []
theorem check_Exist_ok (a0 : B8) (a1 : T18c3) (a2 : T20c7) (u : Bool) (h : check_Exist a0 a1 a2 = some u) : CallC prog 40 [(.v (.arr 32 (.int .u8)) a0), (.v Y18c3 a1), (.v Y20c7 a2)] [] (check_Exist_R a0 a1 a2 u) (check_Exist_O a0 a1 a2 u) := by
 unfold check_Exist at h
 obtain ⟨u1, h2, h⟩ := andThen_some h
 rcases fork_some h with ⟨h3, h⟩ | ⟨h3, h⟩
 ·obtain ⟨u4, h5, h⟩ := andThen_some h
  injection h with h; subst h
  exact env.fun func40 can40 (its := [.call [none, none] [] [] true (check_Sound_R a0 a2 u1) (check_Sound_O a0 a2 u1), b1, b1, b1, b1, b1, .call [none, none] [] [3] true (slices_Equal_LPair_Pair_R a2.2.2.1 ([a1] : List (T18c3)) u4) (slices_Equal_LPair_Pair_O a2.2.2.1 ([a1] : List (T18c3)) u4), b1]) (pos := [.sel []]) (.c (check_Sound_ok a0 a2 u1 h2) (.c h3 (.c h3 (.c h3 (.c h3 (.c h3 (.c (slices_Equal_LPair_Pair_ok a2.2.2.1 ([a1] : List (T18c3)) u4 h5) (.c h3 .n)))))))) (by kernel_rfl)
 ·injection h with h; subst h
  exact env.fun func40 can40 (its := [.call [none, none] [] [] true (check_Sound_R a0 a2 u1) (check_Sound_O a0 a2 u1), b0, b0, b0, b0, b0, b0]) (pos := [.sel []]) (.c (check_Sound_ok a0 a2 u1 h2) (.c h3 (.c h3 (.c h3 (.c h3 (.c h3 (.c h3 .n))))))) (by kernel_rfl)
theorem can24 : Callable prog 24 := ⟨_, func24, by kernel_rfl, by kernel_rfl⟩
def admit_Check_R (a0 : T011a) (a1 : B8) (a2 : T1f7e) (u : Int) : Slot := (.v (.int .i64) u)
def admit_Check_O (a0 : T011a) (a1 : B8) (a2 : T1f7e) (u : Int) : List AObj := []
theorem admit_Check_ok (a0 : T011a) (a1 : B8) (a2 : T1f7e) (u : Int) (h : admit_Check a0 a1 a2 = some u) : CallC prog 24 [(.v Y011a a0), (.v (.arr 32 (.int .u8)) a1), (.v Y1f7e a2)] [] (admit_Check_R a0 a1 a2 u) (admit_Check_O a0 a1 a2 u) := by
 unfold admit_Check at h
 obtain ⟨u1, h2, h⟩ := andThen_some h
 rcases fork_some h with ⟨h3, h⟩ | ⟨h3, h⟩
 ·injection h with h; subst h
  exact env.fun func24 can24 (its := [.call [none] [] [] true (admit_Right_R a2 u1) (admit_Right_O a2 u1), b1]) (pos := [.sel []]) (.c (admit_Right_ok a2 u1 h2) (.c h3 .n)) (by kernel_rfl)
 ·rcases fork_some h with ⟨h4, h⟩ | ⟨h4, h⟩
  ·obtain ⟨u5, h6, h⟩ := andThen_some h
   rcases fork_some h with ⟨h7, h⟩ | ⟨h7, h⟩
   ·injection h with h; subst h
    exact env.fun func24 can24 (its := [.call [none] [] [] true (admit_Right_R a2 u1) (admit_Right_O a2 u1), b0, b1, .call [none, none, none, none] [] [] false (check_Range_R a1 a0.2.1 a0.2.2.1 a2.2.2.2.1 u5) (check_Range_O a1 a0.2.1 a0.2.2.1 a2.2.2.2.1 u5), b1, b1, b1, b1, b1, b1, b1]) (pos := [.sel []]) (.c (admit_Right_ok a2 u1 h2) (.c h3 (.c h4 (.c (check_Range_ok a1 a0.2.1 a0.2.2.1 a2.2.2.2.1 u5 h6) (.c h7 (.c h7 (.c h7 (.c h7 (.c h7 (.c h7 (.c r1 .n))))))))))) (by kernel_rfl)
   ·obtain ⟨u8, h9, h⟩ := andThen_some h
    rcases fork_some h with ⟨h10, h⟩ | ⟨h10, h⟩
    ·injection h with h; subst h
     exact env.fun func24 can24 (its := [.call [none] [] [] true (admit_Right_R a2 u1) (admit_Right_O a2 u1), b0, b1, .call [none, none, none, none] [] [] false (check_Range_R a1 a0.2.1 a0.2.2.1 a2.2.2.2.1 u5) (check_Range_O a1 a0.2.1 a0.2.2.1 a2.2.2.2.1 u5), b0, b0, b0, b0, .call [none, none] [] [] true (slices_Equal_LPair_Pair_R u5.1 a2.2.2.1 u8) (slices_Equal_LPair_Pair_O u5.1 a2.2.2.1 u8), b0, b0, b1]) (pos := [.sel []]) (.c (admit_Right_ok a2 u1 h2) (.c h3 (.c h4 (.c (check_Range_ok a1 a0.2.1 a0.2.2.1 a2.2.2.2.1 u5 h6) (.c h7 (.c h7 (.c h7 (.c h7 (.c (slices_Equal_LPair_Pair_ok u5.1 a2.2.2.1 u8 h9) (.c h7 (.c h7 (.c h10 .n)))))))))))) (by kernel_rfl)
    ·injection h with h; subst h
     exact env.fun func24 can24 (its := [.call [none] [] [] true (admit_Right_R a2 u1) (admit_Right_O a2 u1), b0, b1, .call [none, none, none, none] [] [] false (check_Range_R a1 a0.2.1 a0.2.2.1 a2.2.2.2.1 u5) (check_Range_O a1 a0.2.1 a0.2.2.1 a2.2.2.2.1 u5), b0, b0, b0, b0, .call [none, none] [] [] true (slices_Equal_LPair_Pair_R u5.1 a2.2.2.1 u8) (slices_Equal_LPair_Pair_O u5.1 a2.2.2.1 u8), b0, b0, b0]) (pos := [.sel []]) (.c (admit_Right_ok a2 u1 h2) (.c h3 (.c h4 (.c (check_Range_ok a1 a0.2.1 a0.2.2.1 a2.2.2.2.1 u5 h6) (.c h7 (.c h7 (.c h7 (.c h7 (.c (slices_Equal_LPair_Pair_ok u5.1 a2.2.2.1 u8 h9) (.c h7 (.c h7 (.c h10 .n)))))))))))) (by kernel_rfl)
  ·rcases fork_some h with ⟨h11, h⟩ | ⟨h11, h⟩
   ·obtain ⟨u12, h13, h⟩ := andThen_some h
    rcases fork_some h with ⟨h14, h⟩ | ⟨h14, h⟩
    ·injection h with h; subst h
     exact env.fun func24 can24 (its := [.call [none] [] [] true (admit_Right_R a2 u1) (admit_Right_O a2 u1), b0, b0, b1, .call [none, none, none] [] [] true (check_Absent_R a1 a0.2.1 a2.2.2.2.1 u12) (check_Absent_O a1 a0.2.1 a2.2.2.2.1 u12), b1]) (pos := [.sel []]) (.c (admit_Right_ok a2 u1 h2) (.c h3 (.c h4 (.c h11 (.c (check_Absent_ok a1 a0.2.1 a2.2.2.2.1 u12 h13) (.c h14 .n)))))) (by kernel_rfl)
    ·injection h with h; subst h
     exact env.fun func24 can24 (its := [.call [none] [] [] true (admit_Right_R a2 u1) (admit_Right_O a2 u1), b0, b0, b1, .call [none, none, none] [] [] true (check_Absent_R a1 a0.2.1 a2.2.2.2.1 u12) (check_Absent_O a1 a0.2.1 a2.2.2.2.1 u12), b0]) (pos := [.sel []]) (.c (admit_Right_ok a2 u1 h2) (.c h3 (.c h4 (.c h11 (.c (check_Absent_ok a1 a0.2.1 a2.2.2.2.1 u12 h13) (.c h14 .n)))))) (by kernel_rfl)
   ·rcases fork_some h with ⟨h15, h⟩ | ⟨h15, h⟩
    ·obtain ⟨h16, h⟩ := need_some h
     rcases fork_some h with ⟨h17, h⟩ | ⟨h17, h⟩
     ·obtain ⟨u18, h19, h⟩ := andThen_some h
      rcases fork_some h with ⟨h20, h⟩ | ⟨h20, h⟩
      ·injection h with h; subst h
       exact env.fun func24 can24 (its := [.call [none] [] [] true (admit_Right_R a2 u1) (admit_Right_O a2 u1), b0, b0, b0, b1, .pre p40, b1, b1, b1, b1, b1, b1, b1, b1, .asis, .call [none, none, none] [] [] true (check_Exist_R a1 (List.getD a2.2.2.1 (Int.toNat (0 : Int)) Z18c3) a2.2.2.2.1 u18) (check_Exist_O a1 (List.getD a2.2.2.1 (Int.toNat (0 : Int)) Z18c3) a2.2.2.2.1 u18), b1, b1]) (pos := [.sel []]) (.c (admit_Right_ok a2 u1 h2) (.c h3 (.c h4 (.c h11 (.c h15 (.c h16 (.c h17 (.c h17 (.c h17 (.c h17 (.c h16 (.c h17 (.c h17 (.c h17 (.c h17 (.c rn (.c (check_Exist_ok a1 (List.getD a2.2.2.1 (Int.toNat (0 : Int)) Z18c3) a2.2.2.2.1 u18 h19) (.c h17 (.c h20 .n))))))))))))))))))) (by kernel_rfl)
      ·injection h with h; subst h
       exact env.fun func24 can24 (its := [.call [none] [] [] true (admit_Right_R a2 u1) (admit_Right_O a2 u1), b0, b0, b0, b1, .pre p40, b1, b1, b1, b1, b1, b1, b1, b1, .asis, .call [none, none, none] [] [] true (check_Exist_R a1 (List.getD a2.2.2.1 (Int.toNat (0 : Int)) Z18c3) a2.2.2.2.1 u18) (check_Exist_O a1 (List.getD a2.2.2.1 (Int.toNat (0 : Int)) Z18c3) a2.2.2.2.1 u18), b1, b0]) (pos := [.sel []]) (.c (admit_Right_ok a2 u1 h2) (.c h3 (.c h4 (.c h11 (.c h15 (.c h16 (.c h17 (.c h17 (.c h17 (.c h17 (.c h16 (.c h17 (.c h17 (.c h17 (.c h17 (.c rn (.c (check_Exist_ok a1 (List.getD a2.2.2.1 (Int.toNat (0 : Int)) Z18c3) a2.2.2.2.1 u18 h19) (.c h17 (.c h20 .n))))))))))))))))))) (by kernel_rfl)
     ·injection h with h; subst h
      exact env.fun func24 can24 (its := [.call [none] [] [] true (admit_Right_R a2 u1) (admit_Right_O a2 u1), b0, b0, b0, b1, .pre p40, b0, b0, b0, b0, b0, b0, b0, b0, b0, b0]) (pos := [.sel []]) (.c (admit_Right_ok a2 u1 h2) (.c h3 (.c h4 (.c h11 (.c h15 (.c h16 (.c h17 (.c h17 (.c h17 (.c h17 (.c h17 (.c h17 (.c h17 (.c h17 (.c h17 (.c r0 .n)))))))))))))))) (by kernel_rfl)
    ·injection h with h; subst h
     exact env.fun func24 can24 (its := [.call [none] [] [] true (admit_Right_R a2 u1) (admit_Right_O a2 u1), b0, b0, b0, b0]) (pos := [.sel []]) (.c (admit_Right_ok a2 u1 h2) (.c h3 (.c h4 (.c h11 (.c h15 .n))))) (by kernel_rfl)
theorem can64 : Callable prog 64 := ⟨_, func64, by kernel_rfl, by kernel_rfl⟩
def affiantref1_Up_R (a0 : B8) (a1 : Int) (a2 : Int) (a3 : List (B8)) (u : B8 × Bool) : Slot := (.tup (.v (.arr 32 (.int .u8)) u.1) (.tup (.v .bool u.2) .tnil))
def affiantref1_Up_O (a0 : B8) (a1 : Int) (a2 : Int) (a3 : List (B8)) (u : B8 × Bool) : List AObj := []
theorem affiantref1_Up_f_ok : ∀ (k : Nat) (a0 : B8) (a1 : Int) (a2 : Int) (a3 : List (B8)) (u : B8 × Bool) (h : affiantref1_Up_f k a0 a1 a2 a3 = some u), CallC prog 64 [(.v (.slice (.int .u8)) a0), (.v (.int .i64) a1), (.v (.int .i64) a2), (.v (.slice (.arr 32 (.int .u8))) a3)] [] (affiantref1_Up_R a0 a1 a2 a3 u) (affiantref1_Up_O a0 a1 a2 a3 u)
 | 0, a0, a1, a2, a3, u, h => by cases h
 | k + 1, a0, a1, a2, a3, u, h => by
  unfold affiantref1_Up_f at h
  rcases fork_some h with ⟨h1, h⟩ | ⟨h1, h⟩
  ·injection h with h; subst h
   exact env.fun func64 can64 (its := [b1, b1, b1, b1, b1, b1, b1, b1]) (pos := [.sel []]) (.c h1 (.c h1 (.c h1 (.c h1 (.c r1 (.c r1 (.c r1 (.c r1 .n)))))))) (by kernel_rfl)
  ·rcases fork_some h with ⟨h2, h⟩ | ⟨h2, h⟩
   ·injection h with h; subst h
    exact env.fun func64 can64 (its := [b0, b0, b0, b0, b1, b1, b1, b1]) (pos := [.sel []]) (.c h1 (.c h1 (.c h1 (.c h1 (.c h2 (.c h2 (.c h2 (.c r1 .n)))))))) (by kernel_rfl)
   ·rcases fork_some h with ⟨h3, h⟩ | ⟨h3, h⟩
    ·injection h with h; subst h
     exact env.fun func64 can64 (its := [b0, b0, b0, b0, b0, b0, b0, b1]) (pos := [.sel []]) (.c h1 (.c h1 (.c h1 (.c h1 (.c h2 (.c h2 (.c h2 (.c h3 .n)))))))) (by kernel_rfl)
    ·rcases fork_some h with ⟨h4, h⟩ | ⟨h4, h⟩
     ·obtain ⟨u5, h6, h⟩ := andThen_some h
      injection h with h; subst h
      exact env.fun func64 can64 (its := [b0, b0, b0, b0, b0, b0, b0, b0, b1, .call [none, none] [] [1] true (affiantref1_Tagged_R (0 : UInt8) ([a0] : List (B8)) u5) (affiantref1_Tagged_O (0 : UInt8) ([a0] : List (B8)) u5)]) (pos := [.sel []]) (.c h1 (.c h1 (.c h1 (.c h1 (.c h2 (.c h2 (.c h2 (.c h3 (.c h4 (.c (affiantref1_Tagged_ok (0 : UInt8) ([a0] : List (B8)) u5 h6) .n)))))))))) (by kernel_rfl)
     ·rcases fork_some h with ⟨h7, h⟩ | ⟨h7, h⟩
      ·injection h with h; subst h
       exact env.fun func64 can64 (its := [b0, b0, b0, b0, b0, b0, b0, b0, b0, b1]) (pos := [.sel []]) (.c h1 (.c h1 (.c h1 (.c h1 (.c h2 (.c h2 (.c h2 (.c h3 (.c h4 (.c h7 .n)))))))))) (by kernel_rfl)
      ·obtain ⟨u8, h9, h⟩ := andThen_some h
       obtain ⟨h10, h⟩ := need_some h
       rcases fork_some h with ⟨h11, h⟩ | ⟨h11, h⟩
       ·obtain ⟨h12, h⟩ := need_some h
        obtain ⟨u13, h14, h⟩ := andThen_some h
        obtain ⟨u15, h16, h⟩ := andThen_some h
        injection h with h; subst h
        exact env.fun func64 can64 (its := [b0, b0, b0, b0, b0, b0, b0, b0, b0, b0, .pre p41, .asis, .call [none] [] [] true (affiantref1_half_R a2 u8) (affiantref1_half_O a2 u8), b1, b0, .call [none, none, none, none] [] [] true (affiantref1_Up_R a0 a1 u8 (cutL a3 (0 : Int) (w64 ((List.length a3 : Int) - (1 : Int)))) u13) (affiantref1_Up_O a0 a1 u8 (cutL a3 (0 : Int) (w64 ((List.length a3 : Int) - (1 : Int)))) u13), .pre p42, b1, b1, .asis, .call [none, none] [] [0] true (affiantref1_Tagged_R (1 : UInt8) ([u13.1, (List.getD a3 (Int.toNat (w64 ((List.length a3 : Int) - (1 : Int)))) Z32)] : List (B8)) u15) (affiantref1_Tagged_O (1 : UInt8) ([u13.1, (List.getD a3 (Int.toNat (w64 ((List.length a3 : Int) - (1 : Int)))) Z32)] : List (B8)) u15)]) (pos := [.sel []]) (.c h1 (.c h1 (.c h1 (.c h1 (.c h2 (.c h2 (.c h2 (.c h3 (.c h4 (.c h7 (.c rn (.c (affiantref1_half_ok a2 u8 h9) (.c h10 (.c h11 (.c h12 (.c (affiantref1_Up_f_ok k a0 a1 u8 (cutL a3 (0 : Int) (w64 ((List.length a3 : Int) - (1 : Int)))) u13 h14) (.c (rfl : ([.row (.slice (.int .u8)) ([u13.1, (List.getD a3 (Int.toNat (w64 ((List.length a3 : Int) - (1 : Int)))) Z32)] : List (B8)) true] : List AObj) = [.row (.slice (.int .u8)) ([u13.1, (List.getD a3 (Int.toNat (w64 ((List.length a3 : Int) - (1 : Int)))) Z32)] : List (B8)) true]) (.c (affiantref1_Tagged_ok (1 : UInt8) ([u13.1, (List.getD a3 (Int.toNat (w64 ((List.length a3 : Int) - (1 : Int)))) Z32)] : List (B8)) u15 h16) .n)))))))))))))))))) (by kernel_rfl)
       ·obtain ⟨h17, h⟩ := need_some h
        obtain ⟨u18, h19, h⟩ := andThen_some h
        obtain ⟨u20, h21, h⟩ := andThen_some h
        injection h with h; subst h
        exact env.fun func64 can64 (its := [b0, b0, b0, b0, b0, b0, b0, b0, b0, b0, .pre p41, .asis, .call [none] [] [] true (affiantref1_half_R a2 u8) (affiantref1_half_O a2 u8), b0, b0, .call [none, none, none, none] [] [] true (affiantref1_Up_R a0 (w64 (a1 - u8)) (w64 (a2 - u8)) (cutL a3 (0 : Int) (w64 ((List.length a3 : Int) - (1 : Int)))) u18) (affiantref1_Up_O a0 (w64 (a1 - u8)) (w64 (a2 - u8)) (cutL a3 (0 : Int) (w64 ((List.length a3 : Int) - (1 : Int)))) u18), .pre p42, b1, b1, .asis, .call [none, none] [] [0] true (affiantref1_Tagged_R (1 : UInt8) ([(List.getD a3 (Int.toNat (w64 ((List.length a3 : Int) - (1 : Int)))) Z32), u18.1] : List (B8)) u20) (affiantref1_Tagged_O (1 : UInt8) ([(List.getD a3 (Int.toNat (w64 ((List.length a3 : Int) - (1 : Int)))) Z32), u18.1] : List (B8)) u20)]) (pos := [.sel []]) (.c h1 (.c h1 (.c h1 (.c h1 (.c h2 (.c h2 (.c h2 (.c h3 (.c h4 (.c h7 (.c rn (.c (affiantref1_half_ok a2 u8 h9) (.c h10 (.c h11 (.c h17 (.c (affiantref1_Up_f_ok k a0 (w64 (a1 - u8)) (w64 (a2 - u8)) (cutL a3 (0 : Int) (w64 ((List.length a3 : Int) - (1 : Int)))) u18 h19) (.c (rfl : ([.row (.slice (.int .u8)) ([(List.getD a3 (Int.toNat (w64 ((List.length a3 : Int) - (1 : Int)))) Z32), u18.1] : List (B8)) true] : List AObj) = [.row (.slice (.int .u8)) ([(List.getD a3 (Int.toNat (w64 ((List.length a3 : Int) - (1 : Int)))) Z32), u18.1] : List (B8)) true]) (.c (affiantref1_Tagged_ok (1 : UInt8) ([(List.getD a3 (Int.toNat (w64 ((List.length a3 : Int) - (1 : Int)))) Z32), u18.1] : List (B8)) u20 h21) .n)))))))))))))))))) (by kernel_rfl)
theorem affiantref1_Up_ok (a0 : B8) (a1 : Int) (a2 : Int) (a3 : List (B8)) (u : B8 × Bool) (h : affiantref1_Up a0 a1 a2 a3 = some u) : CallC prog 64 [(.v (.slice (.int .u8)) a0), (.v (.int .i64) a1), (.v (.int .i64) a2), (.v (.slice (.arr 32 (.int .u8))) a3)] [] (affiantref1_Up_R a0 a1 a2 a3 u) (affiantref1_Up_O a0 a1 a2 a3 u) := affiantref1_Up_f_ok 64 a0 a1 a2 a3 u h
theorem can89 : Callable prog 89 := ⟨_, func89, by kernel_rfl, by kernel_rfl⟩
def affiantref1_Sound_1_in (x0 : List (T18c3)) (x1 : Int) (x2 : Int) (x3 : B8) (x4 : T20c7) : St := ⟨[(2, (.ptr 0 [])), (3, (.ptr 1 [])), (61, (.v (.slice Y18c3) x0)), (62, (.v (.int .i64) x1)), (63, (.v (.int .i64) x2))], [.box (.arr 32 (.int .u8)) (.v (.arr 32 (.int .u8)) x3) true, .box Y20c7 (.v Y20c7 x4) true], 100, 0⟩
def affiantref1_Sound_1_ex (o : (Bool) ⊕ (T20c7)) : Exit := match o with | (.inl o) => .ret | (.inr o) => (.exit 0)
def affiantref1_Sound_1_st (o : (Bool) ⊕ (T20c7)) : St := match o with | (.inl o) => ⟨[(4, (.v .bool o))], [], 100, 0⟩ | (.inr o) => ⟨[(3, (.ptr 0 []))], [.box Y20c7 (.v Y20c7 o) true], 100, 0⟩
theorem affiantref1_Sound_1_body (x0 : List (T18c3)) (x1 : Int) (x2 : Int) (x3 : B8) (x4 : T20c7) : ∀ r, affiantref1_Sound_1_step x0 x1 x2 x3 x4 = some r → (match r with | .inl s => CodeOK prog (codeAt (bodyOf f89) [1, 1, 1, 0, 1, 0, 0]) (affiantref1_Sound_1_in x0 x1 x2 x3 x4) .normal (affiantref1_Sound_1_in x0 x1 s x3 x4) | .inr o => affiantref1_Sound_1_ex o ≠ .normal ∧ CodeOK prog (codeAt (bodyOf f89) [1, 1, 1, 0, 1, 0, 0]) (affiantref1_Sound_1_in x0 x1 x2 x3 x4) (affiantref1_Sound_1_ex o) (affiantref1_Sound_1_st o)) := by
 intro r h
 unfold affiantref1_Sound_1_step at h
 rcases fork_some h with ⟨h16, h⟩ | ⟨h16, h⟩
 ·obtain ⟨h17, h⟩ := need_some h
  obtain ⟨u18, h19, h⟩ := andThen_some h
  obtain ⟨h20, h⟩ := need_some h
  obtain ⟨u21, h22, h⟩ := andThen_some h
  rcases fork_some h with ⟨h23, h⟩ | ⟨h23, h⟩
  ·injection h with h; subst h
   exact ⟨by intro e; simp [affiantref1_Sound_1_ex] at e, env.code (its := [b1, .pre p36, .call [none] [] [] true (affiantref1_Leaf_R (List.getD x0 (Int.toNat x2) Z18c3) u18) (affiantref1_Leaf_O (List.getD x0 (Int.toNat x2) Z18c3) u18), .asis, .call [none, none, none, none] [] [0] true (affiantref1_Up_R u18 (w64 (x4.2.1 + x2)) x4.1 (List.getD x4.2.2.2.1 (Int.toNat x2) ([] : List (B8))) u21) (affiantref1_Up_O u18 (w64 (x4.2.1 + x2)) x4.1 (List.getD x4.2.2.2.1 (Int.toNat x2) ([] : List (B8))) u21), .pre p37, b1, b1, b1, b1, b1, b1, b1, b1, .sel [4] []]) (.c h16 (.c h17 (.c (affiantref1_Leaf_ok (List.getD x0 (Int.toNat x2) Z18c3) u18 h19) (.c h20 (.c (rfl : ([.row (.int .u8) u18 true] : List AObj) = [.row (.int .u8) u18 true]) (.c (affiantref1_Up_ok u18 (w64 (x4.2.1 + x2)) x4.1 (List.getD x4.2.2.2.1 (Int.toNat x2) ([] : List (B8))) u21 h22) (.c h23 (.c h23 (.c h23 (.c h23 (.c h23 (.c h23 (.c h23 (.c r1 .n)))))))))))))) (by kernel_rfl)⟩
  ·obtain ⟨u24, h25, h⟩ := andThen_some h
   rcases fork_some h with ⟨h26, h⟩ | ⟨h26, h⟩
   ·injection h with h; subst h
    exact ⟨by intro e; simp [affiantref1_Sound_1_ex] at e, env.code (its := [b1, .pre p36, .call [none] [] [] true (affiantref1_Leaf_R (List.getD x0 (Int.toNat x2) Z18c3) u18) (affiantref1_Leaf_O (List.getD x0 (Int.toNat x2) Z18c3) u18), .asis, .call [none, none, none, none] [] [0] true (affiantref1_Up_R u18 (w64 (x4.2.1 + x2)) x4.1 (List.getD x4.2.2.2.1 (Int.toNat x2) ([] : List (B8))) u21) (affiantref1_Up_O u18 (w64 (x4.2.1 + x2)) x4.1 (List.getD x4.2.2.2.1 (Int.toNat x2) ([] : List (B8))) u21), .pre p37, b0, b0, b0, b0, .asis, .call [none, none] [] [] true (affiantref1_Bound_R x4.1 u21.1 u24) (affiantref1_Bound_O x4.1 u21.1 u24), b0, b0, b0, b1, .sel [4] []]) (.c h16 (.c h17 (.c (affiantref1_Leaf_ok (List.getD x0 (Int.toNat x2) Z18c3) u18 h19) (.c h20 (.c (rfl : ([.row (.int .u8) u18 true] : List AObj) = [.row (.int .u8) u18 true]) (.c (affiantref1_Up_ok u18 (w64 (x4.2.1 + x2)) x4.1 (List.getD x4.2.2.2.1 (Int.toNat x2) ([] : List (B8))) u21 h22) (.c h23 (.c h23 (.c h23 (.c h23 (.c rn (.c (affiantref1_Bound_ok x4.1 u21.1 u24 h25) (.c h23 (.c h23 (.c h23 (.c h26 .n)))))))))))))))) (by kernel_rfl)⟩
   ·injection h with h; subst h
    exact env.code (its := [b1, .pre p36, .call [none] [] [] true (affiantref1_Leaf_R (List.getD x0 (Int.toNat x2) Z18c3) u18) (affiantref1_Leaf_O (List.getD x0 (Int.toNat x2) Z18c3) u18), .asis, .call [none, none, none, none] [] [0] true (affiantref1_Up_R u18 (w64 (x4.2.1 + x2)) x4.1 (List.getD x4.2.2.2.1 (Int.toNat x2) ([] : List (B8))) u21) (affiantref1_Up_O u18 (w64 (x4.2.1 + x2)) x4.1 (List.getD x4.2.2.2.1 (Int.toNat x2) ([] : List (B8))) u21), .pre p37, b0, b0, b0, b0, .asis, .call [none, none] [] [] true (affiantref1_Bound_R x4.1 u21.1 u24) (affiantref1_Bound_O x4.1 u21.1 u24), b0, b0, b0, b0, .sel [2, 3, 61, 62, 63] [0, 1]]) (.c h16 (.c h17 (.c (affiantref1_Leaf_ok (List.getD x0 (Int.toNat x2) Z18c3) u18 h19) (.c h20 (.c (rfl : ([.row (.int .u8) u18 true] : List AObj) = [.row (.int .u8) u18 true]) (.c (affiantref1_Up_ok u18 (w64 (x4.2.1 + x2)) x4.1 (List.getD x4.2.2.2.1 (Int.toNat x2) ([] : List (B8))) u21 h22) (.c h23 (.c h23 (.c h23 (.c h23 (.c rn (.c (affiantref1_Bound_ok x4.1 u21.1 u24 h25) (.c h23 (.c h23 (.c h23 (.c h26 .n)))))))))))))))) (by kernel_rfl)
 ·injection h with h; subst h
  exact ⟨by intro e; simp [affiantref1_Sound_1_ex] at e, env.code (its := [b0, .sel [3] [1]]) (.c h16 .n) (by kernel_rfl)⟩
theorem affiantref1_Sound_1_ok (x0 : List (T18c3)) (x1 : Int) (x2 : Int) (x3 : B8) (x4 : T20c7) (o : (Bool) ⊕ (T20c7)) (h : affiantref1_Sound_1 x0 x1 x2 x3 x4 = some o) : CodeOK prog (codeAt (bodyOf f89) [1, 1, 1, 0, 1, 0]) (affiantref1_Sound_1_in x0 x1 x2 x3 x4) (affiantref1_Sound_1_ex o) (affiantref1_Sound_1_st o) :=
 LoopOK.of_step (st := fun s => affiantref1_Sound_1_in x0 x1 s x3 x4) (ex := affiantref1_Sound_1_ex) (stO := affiantref1_Sound_1_st) (fun s s2 hs => affiantref1_Sound_1_body x0 x1 s x3 x4 (.inl s2) hs) (fun s r hs => affiantref1_Sound_1_body x0 x1 s x3 x4 (.inr r) hs) _ o h
def affiantref1_Sound_R (a0 : B8) (a1 : T20c7) (u : Bool) : Slot := (.v .bool u)
def affiantref1_Sound_O (a0 : B8) (a1 : T20c7) (u : Bool) : List AObj := []
theorem affiantref1_Sound_ok (a0 : B8) (a1 : T20c7) (u : Bool) (h : affiantref1_Sound a0 a1 = some u) : CallC prog 89 [(.v (.arr 32 (.int .u8)) a0), (.v Y20c7 a1)] [] (affiantref1_Sound_R a0 a1 u) (affiantref1_Sound_O a0 a1 u) := by
 unfold affiantref1_Sound at h
 rcases fork_some h with ⟨h1, h⟩ | ⟨h1, h⟩
 ·injection h with h; subst h
  exact env.fun func89 can89 (its := [b1, b1, b1, b1, b1, b1, b1, b1, b1, b1, b1, b1, b1, b1, b1, b1, b1, b1, b1, b1, b1, b1, b1, b1, b1, b1, b1, b1, b1, b1, b1, b1]) (pos := [.sel []]) (.c h1 (.c h1 (.c h1 (.c h1 (.c r1 (.c r1 (.c r1 (.c r1 (.c r1 (.c r1 (.c r1 (.c r1 (.c r1 (.c r1 (.c r1 (.c r1 (.c r1 (.c r1 (.c r1 (.c r1 (.c r1 (.c r1 (.c r1 (.c r1 (.c r1 (.c r1 (.c r1 (.c r1 (.c r1 (.c r1 (.c r1 (.c r1 .n)))))))))))))))))))))))))))))))) (by kernel_rfl)
 ·rcases fork_some h with ⟨h2, h⟩ | ⟨h2, h⟩
  ·injection h with h; subst h
   exact env.fun func89 can89 (its := [b0, b0, b0, b0, b1, b1, b1, b1, b1, b1, b1, b1, b1, b1, b1, b1, b1, b1, b1, b1, b1, b1, b1, b1, b1, b1, b1, b1, b1, b1, b1, b1]) (pos := [.sel []]) (.c h1 (.c h1 (.c h1 (.c h1 (.c h2 (.c h2 (.c h2 (.c h2 (.c h2 (.c h2 (.c h2 (.c h2 (.c r1 (.c r1 (.c r1 (.c r1 (.c r1 (.c r1 (.c r1 (.c r1 (.c r1 (.c r1 (.c r1 (.c r1 (.c r1 (.c r1 (.c r1 (.c r1 (.c r1 (.c r1 (.c r1 (.c r1 .n)))))))))))))))))))))))))))))))) (by kernel_rfl)
  ·rcases fork_some h with ⟨h3, h⟩ | ⟨h3, h⟩
   ·injection h with h; subst h
    exact env.fun func89 can89 (its := [b0, b0, b0, b0, b0, b0, b0, b0, b0, b0, b0, b0, b1, b1, b1, b1, b1, b1, b1, b1, b1, b1, b1, b1, b1, b1, b1, b1, b1, b1, b1, b1]) (pos := [.sel []]) (.c h1 (.c h1 (.c h1 (.c h1 (.c h2 (.c h2 (.c h2 (.c h2 (.c h2 (.c h2 (.c h2 (.c h2 (.c h3 (.c h3 (.c h3 (.c h3 (.c h3 (.c r1 (.c r1 (.c r1 (.c r1 (.c r1 (.c r1 (.c r1 (.c r1 (.c r1 (.c r1 (.c r1 (.c r1 (.c r1 (.c r1 (.c r1 .n)))))))))))))))))))))))))))))))) (by kernel_rfl)
   ·obtain ⟨u4, h5, h⟩ := andThen_some h
    rcases fork_some h with ⟨h6, h⟩ | ⟨h6, h⟩
    ·injection h with h; subst h
     exact env.fun func89 can89 (its := [b0, b0, b0, b0, b0, b0, b0, b0, b0, b0, b0, b0, b0, b0, b0, .call [none] [] [] true (affiantref1_RightPairs_R a1.2.2.1 u4) (affiantref1_RightPairs_O a1.2.2.1 u4), b0, b0, b1, b1, b1, b1, b1, b1, b1, b1, b1, b1, b1, b1, b1, b1, b1]) (pos := [.sel []]) (.c h1 (.c h1 (.c h1 (.c h1 (.c h2 (.c h2 (.c h2 (.c h2 (.c h2 (.c h2 (.c h2 (.c h2 (.c h3 (.c h3 (.c h3 (.c (affiantref1_RightPairs_ok a1.2.2.1 u4 h5) (.c h3 (.c h3 (.c h6 (.c h6 (.c h6 (.c h6 (.c r1 (.c r1 (.c r1 (.c r1 (.c r1 (.c r1 (.c r1 (.c r1 (.c r1 (.c r1 (.c r1 .n))))))))))))))))))))))))))))))))) (by kernel_rfl)
    ·rcases fork_some h with ⟨h7, h⟩ | ⟨h7, h⟩
     ·injection h with h; subst h
      exact env.fun func89 can89 (its := [b0, b0, b0, b0, b0, b0, b0, b0, b0, b0, b0, b0, b0, b0, b0, .call [none] [] [] true (affiantref1_RightPairs_R a1.2.2.1 u4) (affiantref1_RightPairs_O a1.2.2.1 u4), b0, b0, b0, b0, b0, b0, b1, b1, b1, b1, b1, b1, b1, b1, b1, b1, b1]) (pos := [.sel []]) (.c h1 (.c h1 (.c h1 (.c h1 (.c h2 (.c h2 (.c h2 (.c h2 (.c h2 (.c h2 (.c h2 (.c h2 (.c h3 (.c h3 (.c h3 (.c (affiantref1_RightPairs_ok a1.2.2.1 u4 h5) (.c h3 (.c h3 (.c h6 (.c h6 (.c h6 (.c h6 (.c h7 (.c h7 (.c h7 (.c h7 (.c h7 (.c h7 (.c h7 (.c h7 (.c h7 (.c h7 (.c r1 .n))))))))))))))))))))))))))))))))) (by kernel_rfl)
     ·rcases fork_some h with ⟨h8, h⟩ | ⟨h8, h⟩
      ·injection h with h; subst h
       exact env.fun func89 can89 (its := [b0, b0, b0, b0, b0, b0, b0, b0, b0, b0, b0, b0, b0, b0, b0, .call [none] [] [] true (affiantref1_RightPairs_R a1.2.2.1 u4) (affiantref1_RightPairs_O a1.2.2.1 u4), b0, b0, b0, b0, b0, b0, b0, b0, b0, b0, b0, b0, b0, b0, b0, b0, b1]) (pos := [.sel []]) (.c h1 (.c h1 (.c h1 (.c h1 (.c h2 (.c h2 (.c h2 (.c h2 (.c h2 (.c h2 (.c h2 (.c h2 (.c h3 (.c h3 (.c h3 (.c (affiantref1_RightPairs_ok a1.2.2.1 u4 h5) (.c h3 (.c h3 (.c h6 (.c h6 (.c h6 (.c h6 (.c h7 (.c h7 (.c h7 (.c h7 (.c h7 (.c h7 (.c h7 (.c h7 (.c h7 (.c h7 (.c h8 .n))))))))))))))))))))))))))))))))) (by kernel_rfl)
      ·rcases fork_some h with ⟨h9, h⟩ | ⟨h9, h⟩
       ·rcases fork_some h with ⟨h10, h⟩ | ⟨h10, h⟩
        ·obtain ⟨u11, h12, h⟩ := andThen_some h
         obtain ⟨u13, h14, h⟩ := andThen_some h
         injection h with h; subst h
         exact env.fun func89 can89 (its := [b0, b0, b0, b0, b0, b0, b0, b0, b0, b0, b0, b0, b0, b0, b0, .call [none] [] [] true (affiantref1_RightPairs_R a1.2.2.1 u4) (affiantref1_RightPairs_O a1.2.2.1 u4), b0, b0, b0, b0, b0, b0, b0, b0, b0, b0, b0, b0, b0, b0, b0, b0, b0, b1, .pre p43, b1, .asis, .call [none, (some (.slice (.int .u8)))] [] [] true (affiantref1_Tagged_R (2 : UInt8) ([] : List (B8)) u11) (affiantref1_Tagged_O (2 : UInt8) ([] : List (B8)) u11), b1, .asis, .call [none, none] [] [] true (affiantref1_Bound_R (0 : Int) u11 u13) (affiantref1_Bound_O (0 : Int) u11 u13), b1, b1, b1]) (pos := [.sel []]) (.c h1 (.c h1 (.c h1 (.c h1 (.c h2 (.c h2 (.c h2 (.c h2 (.c h2 (.c h2 (.c h2 (.c h2 (.c h3 (.c h3 (.c h3 (.c (affiantref1_RightPairs_ok a1.2.2.1 u4 h5) (.c h3 (.c h3 (.c h6 (.c h6 (.c h6 (.c h6 (.c h7 (.c h7 (.c h7 (.c h7 (.c h7 (.c h7 (.c h7 (.c h7 (.c h7 (.c h7 (.c h8 (.c h9 (.c h10 (.c rn (.c (affiantref1_Tagged_ok (2 : UInt8) ([] : List (B8)) u11 h12) (.c h10 (.c rn (.c (affiantref1_Bound_ok (0 : Int) u11 u13 h14) (.c h10 (.c h10 (.c h10 .n))))))))))))))))))))))))))))))))))))))))))) (by kernel_rfl)
        ·injection h with h; subst h
         exact env.fun func89 can89 (its := [b0, b0, b0, b0, b0, b0, b0, b0, b0, b0, b0, b0, b0, b0, b0, .call [none] [] [] true (affiantref1_RightPairs_R a1.2.2.1 u4) (affiantref1_RightPairs_O a1.2.2.1 u4), b0, b0, b0, b0, b0, b0, b0, b0, b0, b0, b0, b0, b0, b0, b0, b0, b0, b1, .pre p43, b0, b0, b0, b0, b0]) (pos := [.sel []]) (.c h1 (.c h1 (.c h1 (.c h1 (.c h2 (.c h2 (.c h2 (.c h2 (.c h2 (.c h2 (.c h2 (.c h2 (.c h3 (.c h3 (.c h3 (.c (affiantref1_RightPairs_ok a1.2.2.1 u4 h5) (.c h3 (.c h3 (.c h6 (.c h6 (.c h6 (.c h6 (.c h7 (.c h7 (.c h7 (.c h7 (.c h7 (.c h7 (.c h7 (.c h7 (.c h7 (.c h7 (.c h8 (.c h9 (.c h10 (.c h10 (.c h10 (.c h10 (.c h10 .n))))))))))))))))))))))))))))))))))))))) (by kernel_rfl)
       ·obtain ⟨o27, h28, h⟩ := andThen_some h
        rcases o27 with o29 | o30
        ·injection h with h; subst h
         exact env.fun func89 can89 (its := [b0, b0, b0, b0, b0, b0, b0, b0, b0, b0, b0, b0, b0, b0, b0, .call [none] [] [] true (affiantref1_RightPairs_R a1.2.2.1 u4) (affiantref1_RightPairs_O a1.2.2.1 u4), b0, b0, b0, b0, b0, b0, b0, b0, b0, b0, b0, b0, b0, b0, b0, b0, b0, b0, .dive, .sel [2, 3, 61, 62, 63] [0, 1], .part (affiantref1_Sound_1_ex (.inl o29)) (affiantref1_Sound_1_st (.inl o29))]) (pos := [.sel []]) (.c h1 (.c h1 (.c h1 (.c h1 (.c h2 (.c h2 (.c h2 (.c h2 (.c h2 (.c h2 (.c h2 (.c h2 (.c h3 (.c h3 (.c h3 (.c (affiantref1_RightPairs_ok a1.2.2.1 u4 h5) (.c h3 (.c h3 (.c h6 (.c h6 (.c h6 (.c h6 (.c h7 (.c h7 (.c h7 (.c h7 (.c h7 (.c h7 (.c h7 (.c h7 (.c h7 (.c h7 (.c h8 (.c h9 (.c (affiantref1_Sound_1_ok a1.2.2.1 (List.length a1.2.2.1 : Int) (0 : Int) a0 a1 (.inl o29) h28) .n))))))))))))))))))))))))))))))))))) (by kernel_rfl)
        ·injection h with h; subst h
         exact env.fun func89 can89 (its := [b0, b0, b0, b0, b0, b0, b0, b0, b0, b0, b0, b0, b0, b0, b0, .call [none] [] [] true (affiantref1_RightPairs_R a1.2.2.1 u4) (affiantref1_RightPairs_O a1.2.2.1 u4), b0, b0, b0, b0, b0, b0, b0, b0, b0, b0, b0, b0, b0, b0, b0, b0, b0, b0, .dive, .sel [2, 3, 61, 62, 63] [0, 1], .part (affiantref1_Sound_1_ex (.inr o30)) (affiantref1_Sound_1_st (.inr o30))]) (pos := [.sel []]) (.c h1 (.c h1 (.c h1 (.c h1 (.c h2 (.c h2 (.c h2 (.c h2 (.c h2 (.c h2 (.c h2 (.c h2 (.c h3 (.c h3 (.c h3 (.c (affiantref1_RightPairs_ok a1.2.2.1 u4 h5) (.c h3 (.c h3 (.c h6 (.c h6 (.c h6 (.c h6 (.c h7 (.c h7 (.c h7 (.c h7 (.c h7 (.c h7 (.c h7 (.c h7 (.c h7 (.c h7 (.c h8 (.c h9 (.c (affiantref1_Sound_1_ok a1.2.2.1 (List.length a1.2.2.1 : Int) (0 : Int) a0 a1 (.inr o30) h28) .n))))))))))))))))))))))))))))))))))) (by kernel_rfl)
theorem can69 : Callable prog 69 := ⟨_, func69, by kernel_rfl, by kernel_rfl⟩
def affiantref1_Exist_R (a0 : B8) (a1 : T18c3) (a2 : T20c7) (u : Bool) : Slot := (.v .bool u)
def affiantref1_Exist_O (a0 : B8) (a1 : T18c3) (a2 : T20c7) (u : Bool) : List AObj := []
theorem affiantref1_Exist_ok (a0 : B8) (a1 : T18c3) (a2 : T20c7) (u : Bool) (h : affiantref1_Exist a0 a1 a2 = some u) : CallC prog 69 [(.v (.arr 32 (.int .u8)) a0), (.v Y18c3 a1), (.v Y20c7 a2)] [] (affiantref1_Exist_R a0 a1 a2 u) (affiantref1_Exist_O a0 a1 a2 u) := by
 unfold affiantref1_Exist at h
 obtain ⟨u1, h2, h⟩ := andThen_some h
 rcases fork_some h with ⟨h3, h⟩ | ⟨h3, h⟩
 ·rcases fork_some h with ⟨h4, h⟩ | ⟨h4, h⟩
  ·obtain ⟨h5, h⟩ := need_some h
   injection h with h; subst h
   exact env.fun func69 can69 (its := [.pre p44, .asis, .call [none, none] [] [] true (affiantref1_Sound_R a0 a2 u1) (affiantref1_Sound_O a0 a2 u1), b1, b1, b1, b1, b1, b1, b1, b1, b1, b1, b1, b1]) (pos := [.sel []]) (.c rn (.c (affiantref1_Sound_ok a0 a2 u1 h2) (.c h3 (.c h3 (.c h3 (.c h3 (.c h3 (.c h4 (.c h4 (.c h4 (.c h5 (.c h4 (.c h4 (.c h4 (.c h4 .n))))))))))))))) (by kernel_rfl)
  ·injection h with h; subst h
   exact env.fun func69 can69 (its := [.pre p44, .asis, .call [none, none] [] [] true (affiantref1_Sound_R a0 a2 u1) (affiantref1_Sound_O a0 a2 u1), b1, b1, b1, b1, b1, b0, b0, b0, b0, b0, b0, b0]) (pos := [.sel []]) (.c rn (.c (affiantref1_Sound_ok a0 a2 u1 h2) (.c h3 (.c h3 (.c h3 (.c h3 (.c h3 (.c h4 (.c h4 (.c h4 (.c h4 (.c h4 (.c h4 (.c h4 .n)))))))))))))) (by kernel_rfl)
 ·injection h with h; subst h
  exact env.fun func69 can69 (its := [.pre p44, .asis, .call [none, none] [] [] true (affiantref1_Sound_R a0 a2 u1) (affiantref1_Sound_O a0 a2 u1), b0, b0, b0, b0, b0, b0, b0, b0, b0, b0, b0, b0]) (pos := [.sel []]) (.c rn (.c (affiantref1_Sound_ok a0 a2 u1 h2) (.c h3 (.c h3 (.c h3 (.c h3 (.c h3 (.c r0 (.c r0 (.c r0 (.c r0 (.c r0 (.c r0 (.c r0 .n)))))))))))))) (by kernel_rfl)
theorem can70 : Callable prog 70 := ⟨_, func70, by kernel_rfl, by kernel_rfl⟩
def affiantref1_Within_1_in (x0 : B8) (x1 : B8) (x2 : List (T18c3)) (x3 : Int) (x4 : Int) (x5 : List (T18c3)) : St := ⟨[(1, (.v .str x0)), (2, (.v .str x1)), (11, (.own 0 [])), (59, (.v (.slice Y18c3) x2)), (60, (.v (.int .i64) x3)), (61, (.v (.int .i64) x4))], [.row Y18c3 x5 true], 81, 0⟩
def affiantref1_Within_1_ex (o : List (T18c3)) : Exit := (.exit 0)
def affiantref1_Within_1_st (o : List (T18c3)) : St := ⟨[(11, (.own 0 []))], [.row Y18c3 o true], 81, 0⟩
theorem affiantref1_Within_1_body (x0 : B8) (x1 : B8) (x2 : List (T18c3)) (x3 : Int) (x4 : Int) (x5 : List (T18c3)) : ∀ r, affiantref1_Within_1_step x0 x1 x2 x3 x4 x5 = some r → (match r with | .inl s => CodeOK prog (codeAt (bodyOf f70) [1, 1, 1, 1, 1, 1, 0, 1, 0, 0]) (affiantref1_Within_1_in x0 x1 x2 x3 x4 x5) .normal (affiantref1_Within_1_in x0 x1 x2 x3 s.1 s.2) | .inr o => affiantref1_Within_1_ex o ≠ .normal ∧ CodeOK prog (codeAt (bodyOf f70) [1, 1, 1, 1, 1, 1, 0, 1, 0, 0]) (affiantref1_Within_1_in x0 x1 x2 x3 x4 x5) (affiantref1_Within_1_ex o) (affiantref1_Within_1_st o)) := by
 intro r h
 unfold affiantref1_Within_1_step at h
 rcases fork_some h with ⟨h12, h⟩ | ⟨h12, h⟩
 ·obtain ⟨h13, h⟩ := need_some h
  rcases fork_some h with ⟨h14, h⟩ | ⟨h14, h⟩
  ·rcases fork_some h with ⟨h15, h⟩ | ⟨h15, h⟩
   ·obtain ⟨h16, h⟩ := need_some h
    injection h with h; subst h
    exact env.code (its := [b1, b1, b1, b1, b1, b1, b1, .sel [1, 2, 11, 59, 60, 61] [3]]) (.c h12 (.c h13 (.c h14 (.c h14 (.c h14 (.c h14 (.c h14 (.c h15 (.c h16 .n))))))))) (by kernel_rfl)
   ·injection h with h; subst h
    exact env.code (its := [b1, b1, b1, b1, b1, b1, b0, .sel [1, 2, 11, 59, 60, 61] [0]]) (.c h12 (.c h13 (.c h14 (.c h14 (.c h14 (.c h14 (.c h14 (.c h15 .n)))))))) (by kernel_rfl)
  ·injection h with h; subst h
   exact env.code (its := [b1, b0, b0, b0, b0, b0, b0, .sel [1, 2, 11, 59, 60, 61] [0]]) (.c h12 (.c h13 (.c h14 (.c h14 (.c h14 (.c h14 (.c h14 (.c r0 .n)))))))) (by kernel_rfl)
 ·injection h with h; subst h
  exact ⟨by intro e; simp [affiantref1_Within_1_ex] at e, env.code (its := [b0, .sel [11] [0]]) (.c h12 .n) (by kernel_rfl)⟩
theorem affiantref1_Within_1_ok (x0 : B8) (x1 : B8) (x2 : List (T18c3)) (x3 : Int) (x4 : Int) (x5 : List (T18c3)) (o : List (T18c3)) (h : affiantref1_Within_1 x0 x1 x2 x3 x4 x5 = some o) : CodeOK prog (codeAt (bodyOf f70) [1, 1, 1, 1, 1, 1, 0, 1, 0]) (affiantref1_Within_1_in x0 x1 x2 x3 x4 x5) (affiantref1_Within_1_ex o) (affiantref1_Within_1_st o) :=
 LoopOK.of_step (st := fun s => affiantref1_Within_1_in x0 x1 x2 x3 s.1 s.2) (ex := affiantref1_Within_1_ex) (stO := affiantref1_Within_1_st) (fun s s2 hs => affiantref1_Within_1_body x0 x1 x2 x3 s.1 s.2 (.inl s2) hs) (fun s r hs => affiantref1_Within_1_body x0 x1 x2 x3 s.1 s.2 (.inr r) hs) _ o h
def affiantref1_Within_2_in (x0 : B8) (x1 : B8) (x2 : List (T18c3)) (x3 : Int) (x4 : Int) (x5 : List (T18c3)) : St := ⟨[(1, (.v .str x0)), (2, (.v .str x1)), (11, (.own 0 [])), (59, (.v (.slice Y18c3) x2)), (60, (.v (.int .i64) x3)), (61, (.v (.int .i64) x4))], [.row Y18c3 x5 true], 81, 0⟩
def affiantref1_Within_2_ex (o : List (T18c3)) : Exit := (.exit 0)
def affiantref1_Within_2_st (o : List (T18c3)) : St := ⟨[(11, (.own 0 []))], [.row Y18c3 o true], 81, 0⟩
theorem affiantref1_Within_2_body (x0 : B8) (x1 : B8) (x2 : List (T18c3)) (x3 : Int) (x4 : Int) (x5 : List (T18c3)) : ∀ r, affiantref1_Within_2_step x0 x1 x2 x3 x4 x5 = some r → (match r with | .inl s => CodeOK prog (codeAt (bodyOf f70) [1, 1, 1, 1, 1, 1, 0, 1, 0, 0]) (affiantref1_Within_2_in x0 x1 x2 x3 x4 x5) .normal (affiantref1_Within_2_in x0 x1 x2 x3 s.1 s.2) | .inr o => affiantref1_Within_2_ex o ≠ .normal ∧ CodeOK prog (codeAt (bodyOf f70) [1, 1, 1, 1, 1, 1, 0, 1, 0, 0]) (affiantref1_Within_2_in x0 x1 x2 x3 x4 x5) (affiantref1_Within_2_ex o) (affiantref1_Within_2_st o)) := by
 intro r h
 unfold affiantref1_Within_2_step at h
 rcases fork_some h with ⟨h20, h⟩ | ⟨h20, h⟩
 ·obtain ⟨h21, h⟩ := need_some h
  rcases fork_some h with ⟨h22, h⟩ | ⟨h22, h⟩
  ·rcases fork_some h with ⟨h23, h⟩ | ⟨h23, h⟩
   ·obtain ⟨h24, h⟩ := need_some h
    injection h with h; subst h
    exact env.code (its := [b1, b1, b1, b1, b1, b1, b1, .sel [1, 2, 11, 59, 60, 61] [3]]) (.c h20 (.c h21 (.c h22 (.c h22 (.c h22 (.c h22 (.c h22 (.c h23 (.c h24 .n))))))))) (by kernel_rfl)
   ·injection h with h; subst h
    exact env.code (its := [b1, b1, b1, b1, b1, b1, b0, .sel [1, 2, 11, 59, 60, 61] [0]]) (.c h20 (.c h21 (.c h22 (.c h22 (.c h22 (.c h22 (.c h22 (.c h23 .n)))))))) (by kernel_rfl)
  ·injection h with h; subst h
   exact env.code (its := [b1, b0, b0, b0, b0, b0, b0, .sel [1, 2, 11, 59, 60, 61] [0]]) (.c h20 (.c h21 (.c h22 (.c h22 (.c h22 (.c h22 (.c h22 (.c r0 .n)))))))) (by kernel_rfl)
 ·injection h with h; subst h
  exact ⟨by intro e; simp [affiantref1_Within_2_ex] at e, env.code (its := [b0, .sel [11] [0]]) (.c h20 .n) (by kernel_rfl)⟩
theorem affiantref1_Within_2_ok (x0 : B8) (x1 : B8) (x2 : List (T18c3)) (x3 : Int) (x4 : Int) (x5 : List (T18c3)) (o : List (T18c3)) (h : affiantref1_Within_2 x0 x1 x2 x3 x4 x5 = some o) : CodeOK prog (codeAt (bodyOf f70) [1, 1, 1, 1, 1, 1, 0, 1, 0]) (affiantref1_Within_2_in x0 x1 x2 x3 x4 x5) (affiantref1_Within_2_ex o) (affiantref1_Within_2_st o) :=
 LoopOK.of_step (st := fun s => affiantref1_Within_2_in x0 x1 x2 x3 s.1 s.2) (ex := affiantref1_Within_2_ex) (stO := affiantref1_Within_2_st) (fun s s2 hs => affiantref1_Within_2_body x0 x1 x2 x3 s.1 s.2 (.inl s2) hs) (fun s r hs => affiantref1_Within_2_body x0 x1 x2 x3 s.1 s.2 (.inr r) hs) _ o h
def affiantref1_Within_3_in (x0 : B8) (x1 : B8) (x2 : List (T18c3)) (x3 : Int) (x4 : Int) (x5 : List (T18c3)) : St := ⟨[(1, (.v .str x0)), (2, (.v .str x1)), (11, (.own 0 [])), (59, (.v (.slice Y18c3) x2)), (60, (.v (.int .i64) x3)), (61, (.v (.int .i64) x4))], [.row Y18c3 x5 true], 81, 0⟩
def affiantref1_Within_3_ex (o : List (T18c3)) : Exit := (.exit 0)
def affiantref1_Within_3_st (o : List (T18c3)) : St := ⟨[(11, (.own 0 []))], [.row Y18c3 o true], 81, 0⟩
theorem affiantref1_Within_3_body (x0 : B8) (x1 : B8) (x2 : List (T18c3)) (x3 : Int) (x4 : Int) (x5 : List (T18c3)) : ∀ r, affiantref1_Within_3_step x0 x1 x2 x3 x4 x5 = some r → (match r with | .inl s => CodeOK prog (codeAt (bodyOf f70) [1, 1, 1, 1, 1, 1, 0, 1, 0, 0]) (affiantref1_Within_3_in x0 x1 x2 x3 x4 x5) .normal (affiantref1_Within_3_in x0 x1 x2 x3 s.1 s.2) | .inr o => affiantref1_Within_3_ex o ≠ .normal ∧ CodeOK prog (codeAt (bodyOf f70) [1, 1, 1, 1, 1, 1, 0, 1, 0, 0]) (affiantref1_Within_3_in x0 x1 x2 x3 x4 x5) (affiantref1_Within_3_ex o) (affiantref1_Within_3_st o)) := by
 intro r h
 unfold affiantref1_Within_3_step at h
 rcases fork_some h with ⟨h31, h⟩ | ⟨h31, h⟩
 ·obtain ⟨h32, h⟩ := need_some h
  rcases fork_some h with ⟨h33, h⟩ | ⟨h33, h⟩
  ·rcases fork_some h with ⟨h34, h⟩ | ⟨h34, h⟩
   ·obtain ⟨h35, h⟩ := need_some h
    injection h with h; subst h
    exact env.code (its := [b1, b1, b1, b1, b1, b1, b1, .sel [1, 2, 11, 59, 60, 61] [3]]) (.c h31 (.c h32 (.c h33 (.c h33 (.c h33 (.c h33 (.c h33 (.c h34 (.c h35 .n))))))))) (by kernel_rfl)
   ·injection h with h; subst h
    exact env.code (its := [b1, b1, b1, b1, b1, b1, b0, .sel [1, 2, 11, 59, 60, 61] [0]]) (.c h31 (.c h32 (.c h33 (.c h33 (.c h33 (.c h33 (.c h33 (.c h34 .n)))))))) (by kernel_rfl)
  ·injection h with h; subst h
   exact env.code (its := [b1, b0, b0, b0, b0, b0, b0, .sel [1, 2, 11, 59, 60, 61] [0]]) (.c h31 (.c h32 (.c h33 (.c h33 (.c h33 (.c h33 (.c h33 (.c r0 .n)))))))) (by kernel_rfl)
 ·injection h with h; subst h
  exact ⟨by intro e; simp [affiantref1_Within_3_ex] at e, env.code (its := [b0, .sel [11] [0]]) (.c h31 .n) (by kernel_rfl)⟩
theorem affiantref1_Within_3_ok (x0 : B8) (x1 : B8) (x2 : List (T18c3)) (x3 : Int) (x4 : Int) (x5 : List (T18c3)) (o : List (T18c3)) (h : affiantref1_Within_3 x0 x1 x2 x3 x4 x5 = some o) : CodeOK prog (codeAt (bodyOf f70) [1, 1, 1, 1, 1, 1, 0, 1, 0]) (affiantref1_Within_3_in x0 x1 x2 x3 x4 x5) (affiantref1_Within_3_ex o) (affiantref1_Within_3_st o) :=
 LoopOK.of_step (st := fun s => affiantref1_Within_3_in x0 x1 x2 x3 s.1 s.2) (ex := affiantref1_Within_3_ex) (stO := affiantref1_Within_3_st) (fun s s2 hs => affiantref1_Within_3_body x0 x1 x2 x3 s.1 s.2 (.inl s2) hs) (fun s r hs => affiantref1_Within_3_body x0 x1 x2 x3 s.1 s.2 (.inr r) hs) _ o h
def affiantref1_Within_4_in (x0 : B8) (x1 : B8) (x2 : List (T18c3)) (x3 : Int) (x4 : Int) (x5 : List (T18c3)) : St := ⟨[(1, (.v .str x0)), (2, (.v .str x1)), (11, (.own 0 [])), (59, (.v (.slice Y18c3) x2)), (60, (.v (.int .i64) x3)), (61, (.v (.int .i64) x4))], [.row Y18c3 x5 true], 81, 0⟩
def affiantref1_Within_4_ex (o : List (T18c3)) : Exit := (.exit 0)
def affiantref1_Within_4_st (o : List (T18c3)) : St := ⟨[(11, (.own 0 []))], [.row Y18c3 o true], 81, 0⟩
theorem affiantref1_Within_4_body (x0 : B8) (x1 : B8) (x2 : List (T18c3)) (x3 : Int) (x4 : Int) (x5 : List (T18c3)) : ∀ r, affiantref1_Within_4_step x0 x1 x2 x3 x4 x5 = some r → (match r with | .inl s => CodeOK prog (codeAt (bodyOf f70) [1, 1, 1, 1, 1, 1, 0, 1, 0, 0]) (affiantref1_Within_4_in x0 x1 x2 x3 x4 x5) .normal (affiantref1_Within_4_in x0 x1 x2 x3 s.1 s.2) | .inr o => affiantref1_Within_4_ex o ≠ .normal ∧ CodeOK prog (codeAt (bodyOf f70) [1, 1, 1, 1, 1, 1, 0, 1, 0, 0]) (affiantref1_Within_4_in x0 x1 x2 x3 x4 x5) (affiantref1_Within_4_ex o) (affiantref1_Within_4_st o)) := by
 intro r h
 unfold affiantref1_Within_4_step at h
 rcases fork_some h with ⟨h39, h⟩ | ⟨h39, h⟩
 ·obtain ⟨h40, h⟩ := need_some h
  rcases fork_some h with ⟨h41, h⟩ | ⟨h41, h⟩
  ·rcases fork_some h with ⟨h42, h⟩ | ⟨h42, h⟩
   ·obtain ⟨h43, h⟩ := need_some h
    injection h with h; subst h
    exact env.code (its := [b1, b1, b1, b1, b1, b1, b1, .sel [1, 2, 11, 59, 60, 61] [3]]) (.c h39 (.c h40 (.c h41 (.c h41 (.c h41 (.c h41 (.c h41 (.c h42 (.c h43 .n))))))))) (by kernel_rfl)
   ·injection h with h; subst h
    exact env.code (its := [b1, b1, b1, b1, b1, b1, b0, .sel [1, 2, 11, 59, 60, 61] [0]]) (.c h39 (.c h40 (.c h41 (.c h41 (.c h41 (.c h41 (.c h41 (.c h42 .n)))))))) (by kernel_rfl)
  ·injection h with h; subst h
   exact env.code (its := [b1, b0, b0, b0, b0, b0, b0, .sel [1, 2, 11, 59, 60, 61] [0]]) (.c h39 (.c h40 (.c h41 (.c h41 (.c h41 (.c h41 (.c h41 (.c r0 .n)))))))) (by kernel_rfl)
 ·injection h with h; subst h
  exact ⟨by intro e; simp [affiantref1_Within_4_ex] at e, env.code (its := [b0, .sel [11] [0]]) (.c h39 .n) (by kernel_rfl)⟩
theorem affiantref1_Within_4_ok (x0 : B8) (x1 : B8) (x2 : List (T18c3)) (x3 : Int) (x4 : Int) (x5 : List (T18c3)) (o : List (T18c3)) (h : affiantref1_Within_4 x0 x1 x2 x3 x4 x5 = some o) : CodeOK prog (codeAt (bodyOf f70) [1, 1, 1, 1, 1, 1, 0, 1, 0]) (affiantref1_Within_4_in x0 x1 x2 x3 x4 x5) (affiantref1_Within_4_ex o) (affiantref1_Within_4_st o) :=
 LoopOK.of_step (st := fun s => affiantref1_Within_4_in x0 x1 x2 x3 s.1 s.2) (ex := affiantref1_Within_4_ex) (stO := affiantref1_Within_4_st) (fun s s2 hs => affiantref1_Within_4_body x0 x1 x2 x3 s.1 s.2 (.inl s2) hs) (fun s r hs => affiantref1_Within_4_body x0 x1 x2 x3 s.1 s.2 (.inr r) hs) _ o h
def affiantref1_Within_R (a0 : B8) (a1 : B8) (a2 : B8) (a3 : T20c7) (u : (List (T18c3)) × Bool) : Slot := (.tup (.v (.slice Y18c3) u.1) (.tup (.v .bool u.2) .tnil))
def affiantref1_Within_O (a0 : B8) (a1 : B8) (a2 : B8) (a3 : T20c7) (u : (List (T18c3)) × Bool) : List AObj := []
theorem affiantref1_Within_ok (a0 : B8) (a1 : B8) (a2 : B8) (a3 : T20c7) (u : (List (T18c3)) × Bool) (h : affiantref1_Within a0 a1 a2 a3 = some u) : CallC prog 70 [(.v (.arr 32 (.int .u8)) a0), (.v .str a1), (.v .str a2), (.v Y20c7 a3)] [] (affiantref1_Within_R a0 a1 a2 a3 u) (affiantref1_Within_O a0 a1 a2 a3 u) := by
 unfold affiantref1_Within at h
 obtain ⟨u1, h2, h⟩ := andThen_some h
 rcases fork_some h with ⟨h3, h⟩ | ⟨h3, h⟩
 ·injection h with h; subst h
  exact env.fun func70 can70 (its := [.call [none, none] [] [] true (affiantref1_Sound_R a0 a3 u1) (affiantref1_Sound_O a0 a3 u1), b1]) (pos := [.vals (.slice Y18c3) [.bool], .sel []]) (.c (affiantref1_Sound_ok a0 a3 u1 h2) (.c h3 .n)) (by kernel_rfl)
 ·rcases fork_some h with ⟨h4, h⟩ | ⟨h4, h⟩
  ·injection h with h; subst h
   exact env.fun func70 can70 (its := [.call [none, none] [] [] true (affiantref1_Sound_R a0 a3 u1) (affiantref1_Sound_O a0 a3 u1), b0, b1]) (pos := [.vals (.slice Y18c3) [.bool], .sel []]) (.c (affiantref1_Sound_ok a0 a3 u1 h2) (.c h3 (.c h4 .n))) (by kernel_rfl)
  ·rcases fork_some h with ⟨h5, h⟩ | ⟨h5, h⟩
   ·obtain ⟨h6, h⟩ := need_some h
    rcases fork_some h with ⟨h7, h⟩ | ⟨h7, h⟩
    ·injection h with h; subst h
     exact env.fun func70 can70 (its := [.call [none, none] [] [] true (affiantref1_Sound_R a0 a3 u1) (affiantref1_Sound_O a0 a3 u1), b0, b0, b1, b1, b1, b1, b1, b1, b1, b1, b1, b1, b1, b1, b1, b1, b1, b1, b1, b1, b1]) (pos := [.vals (.slice Y18c3) [.bool], .sel []]) (.c (affiantref1_Sound_ok a0 a3 u1 h2) (.c h3 (.c h4 (.c h5 (.c h5 (.c h5 (.c h6 (.c h5 (.c h5 (.c h5 (.c h5 (.c h5 (.c h7 (.c h7 (.c h7 (.c h7 (.c h7 (.c h7 (.c h7 (.c h7 (.c h7 (.c h7 (.c r1 .n))))))))))))))))))))))) (by kernel_rfl)
    ·rcases fork_some h with ⟨h8, h⟩ | ⟨h8, h⟩
     ·obtain ⟨h9, h⟩ := need_some h
      rcases fork_some h with ⟨h10, h⟩ | ⟨h10, h⟩
      ·injection h with h; subst h
       exact env.fun func70 can70 (its := [.call [none, none] [] [] true (affiantref1_Sound_R a0 a3 u1) (affiantref1_Sound_O a0 a3 u1), b0, b0, b1, b1, b1, b1, b1, b1, b1, b1, b0, b0, b0, b0, b0, b0, b0, b0, b1, b1, b1, b1, b1, b1, b1, b1, b1, b1, b1, b0, b1, b0, b1]) (pos := [.vals (.slice Y18c3) [.bool], .sel []]) (.c (affiantref1_Sound_ok a0 a3 u1 h2) (.c h3 (.c h4 (.c h5 (.c h5 (.c h5 (.c h6 (.c h5 (.c h5 (.c h5 (.c h5 (.c h5 (.c h7 (.c h7 (.c h7 (.c h7 (.c h7 (.c h7 (.c h7 (.c h7 (.c h8 (.c h8 (.c h8 (.c h8 (.c h8 (.c h9 (.c h8 (.c h8 (.c h8 (.c h8 (.c h8 (.c h8 (.c h7 (.c h8 (.c h7 (.c h10 .n)))))))))))))))))))))))))))))))))))) (by kernel_rfl)
      ·obtain ⟨o17, h18, h⟩ := andThen_some h
       injection h with h; subst h
       exact env.fun func70 can70 (its := [.call [none, none] [] [] true (affiantref1_Sound_R a0 a3 u1) (affiantref1_Sound_O a0 a3 u1), b0, b0, b1, b1, b1, b1, b1, b1, b1, b1, b0, b0, b0, b0, b0, b0, b0, b0, b1, b1, b1, b1, b1, b1, b1, b1, b1, b1, b1, b0, b1, b0, b0, .dive, .promote 11 Y18c3, .sel [1, 2, 11, 59, 60, 61] [2], .part (affiantref1_Within_1_ex o17) (affiantref1_Within_1_st o17)]) (pos := [.vals (.slice Y18c3) [.bool], .sel []]) (.c (affiantref1_Sound_ok a0 a3 u1 h2) (.c h3 (.c h4 (.c h5 (.c h5 (.c h5 (.c h6 (.c h5 (.c h5 (.c h5 (.c h5 (.c h5 (.c h7 (.c h7 (.c h7 (.c h7 (.c h7 (.c h7 (.c h7 (.c h7 (.c h8 (.c h8 (.c h8 (.c h8 (.c h8 (.c h9 (.c h8 (.c h8 (.c h8 (.c h8 (.c h8 (.c h8 (.c h7 (.c h8 (.c h7 (.c h10 (.c (affiantref1_Within_1_ok a1 a2 a3.2.2.1 (List.length a3.2.2.1 : Int) (0 : Int) ([] : List (T18c3)) o17 h18) .n))))))))))))))))))))))))))))))))))))) (by kernel_rfl)
     ·obtain ⟨o25, h26, h⟩ := andThen_some h
      injection h with h; subst h
      exact env.fun func70 can70 (its := [.call [none, none] [] [] true (affiantref1_Sound_R a0 a3 u1) (affiantref1_Sound_O a0 a3 u1), b0, b0, b1, b1, b1, b1, b1, b1, b1, b1, b0, b0, b0, b0, b0, b0, b0, b0, b0, b0, b0, b0, b0, b0, b0, b0, b0, b0, b0, b0, b0, b0, b0, .dive, .promote 11 Y18c3, .sel [1, 2, 11, 59, 60, 61] [2], .part (affiantref1_Within_2_ex o25) (affiantref1_Within_2_st o25)]) (pos := [.vals (.slice Y18c3) [.bool], .sel []]) (.c (affiantref1_Sound_ok a0 a3 u1 h2) (.c h3 (.c h4 (.c h5 (.c h5 (.c h5 (.c h6 (.c h5 (.c h5 (.c h5 (.c h5 (.c h5 (.c h7 (.c h7 (.c h7 (.c h7 (.c h7 (.c h7 (.c h7 (.c h7 (.c h8 (.c h8 (.c h8 (.c h8 (.c h8 (.c h8 (.c h8 (.c h8 (.c h8 (.c h8 (.c h8 (.c h7 (.c h8 (.c h7 (.c r0 (.c (affiantref1_Within_2_ok a1 a2 a3.2.2.1 (List.length a3.2.2.1 : Int) (0 : Int) ([] : List (T18c3)) o25 h26) .n)))))))))))))))))))))))))))))))))))) (by kernel_rfl)
   ·rcases fork_some h with ⟨h27, h⟩ | ⟨h27, h⟩
    ·obtain ⟨h28, h⟩ := need_some h
     rcases fork_some h with ⟨h29, h⟩ | ⟨h29, h⟩
     ·injection h with h; subst h
      exact env.fun func70 can70 (its := [.call [none, none] [] [] true (affiantref1_Sound_R a0 a3 u1) (affiantref1_Sound_O a0 a3 u1), b0, b0, b0, b0, b0, b0, b0, b0, b0, b0, b0, b0, b0, b0, b0, b0, b0, b0, b1, b1, b1, b1, b1, b1, b1, b1, b1, b1, b1, b0, b1, b0, b1]) (pos := [.vals (.slice Y18c3) [.bool], .sel []]) (.c (affiantref1_Sound_ok a0 a3 u1 h2) (.c h3 (.c h4 (.c h5 (.c h5 (.c h5 (.c h5 (.c h5 (.c h5 (.c h5 (.c h5 (.c r0 (.c r0 (.c r0 (.c r0 (.c r0 (.c r0 (.c r0 (.c r0 (.c h27 (.c h27 (.c h27 (.c h27 (.c h27 (.c h28 (.c h27 (.c h27 (.c h27 (.c h27 (.c h27 (.c h27 (.c r0 (.c h27 (.c r0 (.c h29 .n))))))))))))))))))))))))))))))))))) (by kernel_rfl)
     ·obtain ⟨o36, h37, h⟩ := andThen_some h
      injection h with h; subst h
      exact env.fun func70 can70 (its := [.call [none, none] [] [] true (affiantref1_Sound_R a0 a3 u1) (affiantref1_Sound_O a0 a3 u1), b0, b0, b0, b0, b0, b0, b0, b0, b0, b0, b0, b0, b0, b0, b0, b0, b0, b0, b1, b1, b1, b1, b1, b1, b1, b1, b1, b1, b1, b0, b1, b0, b0, .dive, .promote 11 Y18c3, .sel [1, 2, 11, 59, 60, 61] [2], .part (affiantref1_Within_3_ex o36) (affiantref1_Within_3_st o36)]) (pos := [.vals (.slice Y18c3) [.bool], .sel []]) (.c (affiantref1_Sound_ok a0 a3 u1 h2) (.c h3 (.c h4 (.c h5 (.c h5 (.c h5 (.c h5 (.c h5 (.c h5 (.c h5 (.c h5 (.c r0 (.c r0 (.c r0 (.c r0 (.c r0 (.c r0 (.c r0 (.c r0 (.c h27 (.c h27 (.c h27 (.c h27 (.c h27 (.c h28 (.c h27 (.c h27 (.c h27 (.c h27 (.c h27 (.c h27 (.c r0 (.c h27 (.c r0 (.c h29 (.c (affiantref1_Within_3_ok a1 a2 a3.2.2.1 (List.length a3.2.2.1 : Int) (0 : Int) ([] : List (T18c3)) o36 h37) .n)))))))))))))))))))))))))))))))))))) (by kernel_rfl)
    ·obtain ⟨o44, h45, h⟩ := andThen_some h
     injection h with h; subst h
     exact env.fun func70 can70 (its := [.call [none, none] [] [] true (affiantref1_Sound_R a0 a3 u1) (affiantref1_Sound_O a0 a3 u1), b0, b0, b0, b0, b0, b0, b0, b0, b0, b0, b0, b0, b0, b0, b0, b0, b0, b0, b0, b0, b0, b0, b0, b0, b0, b0, b0, b0, b0, b0, b0, b0, b0, .dive, .promote 11 Y18c3, .sel [1, 2, 11, 59, 60, 61] [2], .part (affiantref1_Within_4_ex o44) (affiantref1_Within_4_st o44)]) (pos := [.vals (.slice Y18c3) [.bool], .sel []]) (.c (affiantref1_Sound_ok a0 a3 u1 h2) (.c h3 (.c h4 (.c h5 (.c h5 (.c h5 (.c h5 (.c h5 (.c h5 (.c h5 (.c h5 (.c r0 (.c r0 (.c r0 (.c r0 (.c r0 (.c r0 (.c r0 (.c r0 (.c h27 (.c h27 (.c h27 (.c h27 (.c h27 (.c h27 (.c h27 (.c h27 (.c h27 (.c h27 (.c h27 (.c r0 (.c h27 (.c r0 (.c r0 (.c (affiantref1_Within_4_ok a1 a2 a3.2.2.1 (List.length a3.2.2.1 : Int) (0 : Int) ([] : List (T18c3)) o44 h45) .n))))))))))))))))))))))))))))))))))) (by kernel_rfl)
theorem can34 : Callable prog 34 := ⟨_, func34, by kernel_rfl, by kernel_rfl⟩
def affiantref16_Admit_1_in (x0 : B8) (x1 : List (T18c3)) (x2 : Int) (x3 : Int) (x4 : T011a) (x5 : B8) (x6 : T1f7e) : St := ⟨[(3, (.ptr 0 [])), (4, (.ptr 1 [])), (5, (.ptr 2 [])), (7, (.v .str x0)), (63, (.v (.slice Y18c3) x1)), (64, (.v (.int .i64) x2)), (65, (.v (.int .i64) x3))], [.box Y011a (.v Y011a x4) true, .box (.arr 32 (.int .u8)) (.v (.arr 32 (.int .u8)) x5) true, .box Y1f7e (.v Y1f7e x6) true], 111, 0⟩
def affiantref16_Admit_1_ex (o : (Int) ⊕ (B8 × (T011a) × B8 × T1f7e)) : Exit := match o with | (.inl o) => .ret | (.inr o) => (.exit 0)
def affiantref16_Admit_1_st (o : (Int) ⊕ (B8 × (T011a) × B8 × T1f7e)) : St := match o with | (.inl o) => ⟨[(6, (.v (.int .i64) o))], [], 111, 0⟩ | (.inr o) => ⟨[(3, (.ptr 0 [])), (4, (.ptr 1 [])), (5, (.ptr 2 [])), (7, (.v .str o.1))], [.box Y011a (.v Y011a o.2.1) true, .box (.arr 32 (.int .u8)) (.v (.arr 32 (.int .u8)) o.2.2.1) true, .box Y1f7e (.v Y1f7e o.2.2.2) true], 111, 0⟩
theorem affiantref16_Admit_1_body (x0 : B8) (x1 : List (T18c3)) (x2 : Int) (x3 : Int) (x4 : T011a) (x5 : B8) (x6 : T1f7e) : ∀ r, affiantref16_Admit_1_step x0 x1 x2 x3 x4 x5 x6 = some r → (match r with | .inl s => CodeOK prog (codeAt (bodyOf f34) [1, 1, 1, 1, 0, 1, 0, 1, 1, 0, 0]) (affiantref16_Admit_1_in x0 x1 x2 x3 x4 x5 x6) .normal (affiantref16_Admit_1_in x0 x1 x2 s x4 x5 x6) | .inr o => affiantref16_Admit_1_ex o ≠ .normal ∧ CodeOK prog (codeAt (bodyOf f34) [1, 1, 1, 1, 0, 1, 0, 1, 1, 0, 0]) (affiantref16_Admit_1_in x0 x1 x2 x3 x4 x5 x6) (affiantref16_Admit_1_ex o) (affiantref16_Admit_1_st o)) := by
 intro r h
 unfold affiantref16_Admit_1_step at h
 rcases fork_some h with ⟨h14, h⟩ | ⟨h14, h⟩
 ·obtain ⟨h15, h⟩ := need_some h
  rcases fork_some h with ⟨h16, h⟩ | ⟨h16, h⟩
  ·injection h with h; subst h
   exact ⟨by intro e; simp [affiantref16_Admit_1_ex] at e, env.code (its := [b1, b1, .sel [6] []]) (.c h14 (.c h15 (.c h16 .n))) (by kernel_rfl)⟩
  ·injection h with h; subst h
   exact env.code (its := [b1, b0, .sel [3, 4, 5, 7, 63, 64, 65] [0, 1, 2]]) (.c h14 (.c h15 (.c h16 .n))) (by kernel_rfl)
 ·injection h with h; subst h
  exact ⟨by intro e; simp [affiantref16_Admit_1_ex] at e, env.code (its := [b0, .sel [3, 4, 5, 7] [0, 1, 2]]) (.c h14 .n) (by kernel_rfl)⟩
theorem affiantref16_Admit_1_ok (x0 : B8) (x1 : List (T18c3)) (x2 : Int) (x3 : Int) (x4 : T011a) (x5 : B8) (x6 : T1f7e) (o : (Int) ⊕ (B8 × (T011a) × B8 × T1f7e)) (h : affiantref16_Admit_1 x0 x1 x2 x3 x4 x5 x6 = some o) : CodeOK prog (codeAt (bodyOf f34) [1, 1, 1, 1, 0, 1, 0, 1, 1, 0]) (affiantref16_Admit_1_in x0 x1 x2 x3 x4 x5 x6) (affiantref16_Admit_1_ex o) (affiantref16_Admit_1_st o) :=
 LoopOK.of_step (st := fun s => affiantref16_Admit_1_in x0 x1 x2 s x4 x5 x6) (ex := affiantref16_Admit_1_ex) (stO := affiantref16_Admit_1_st) (fun s s2 hs => affiantref16_Admit_1_body x0 x1 x2 s x4 x5 x6 (.inl s2) hs) (fun s r hs => affiantref16_Admit_1_body x0 x1 x2 s x4 x5 x6 (.inr r) hs) _ o h
def affiantref16_Admit_2_in (x0 : List (T18c3)) (x1 : Int) (x2 : Int) (x3 : T1f7e) : St := ⟨[(5, (.ptr 0 [])), (10, (.v (.slice Y18c3) x0)), (96, (.v (.int .i64) x1)), (97, (.v (.int .i64) x2))], [.box Y1f7e (.v Y1f7e x3) true], 111, 0⟩
def affiantref16_Admit_2_ex (o : (Int) ⊕ (Unit)) : Exit := match o with | (.inl o) => .ret | (.inr o) => (.exit 2)
def affiantref16_Admit_2_st (o : (Int) ⊕ (Unit)) : St := match o with | (.inl o) => ⟨[(6, (.v (.int .i64) o))], [], 111, 0⟩ | (.inr o) => ⟨[], [], 111, 0⟩
theorem affiantref16_Admit_2_body (x0 : List (T18c3)) (x1 : Int) (x2 : Int) (x3 : T1f7e) : ∀ r, affiantref16_Admit_2_step x0 x1 x2 x3 = some r → (match r with | .inl s => CodeOK prog (codeAt (bodyOf f34) [1, 1, 1, 1, 1, 1, 1, 0, 1, 0, 0]) (affiantref16_Admit_2_in x0 x1 x2 x3) .normal (affiantref16_Admit_2_in x0 x1 s x3) | .inr o => affiantref16_Admit_2_ex o ≠ .normal ∧ CodeOK prog (codeAt (bodyOf f34) [1, 1, 1, 1, 1, 1, 1, 0, 1, 0, 0]) (affiantref16_Admit_2_in x0 x1 x2 x3) (affiantref16_Admit_2_ex o) (affiantref16_Admit_2_st o)) := by
 intro r h
 unfold affiantref16_Admit_2_step at h
 rcases fork_some h with ⟨h26, h⟩ | ⟨h26, h⟩
 ·obtain ⟨h27, h⟩ := need_some h
  obtain ⟨h28, h⟩ := need_some h
  rcases fork_some h with ⟨h29, h⟩ | ⟨h29, h⟩
  ·injection h with h; subst h
   exact ⟨by intro e; simp [affiantref16_Admit_2_ex] at e, env.code (its := [b1, .pre p45, b1, .sel [6] []]) (.c h26 (.c h27 (.c h28 (.c h29 .n)))) (by kernel_rfl)⟩
  ·injection h with h; subst h
   exact env.code (its := [b1, .pre p45, b0, .sel [5, 10, 96, 97] [0]]) (.c h26 (.c h27 (.c h28 (.c h29 .n)))) (by kernel_rfl)
 ·injection h with h; subst h
  exact ⟨by intro e; simp [affiantref16_Admit_2_ex] at e, env.code (its := [b0, .sel [] []]) (.c h26 .n) (by kernel_rfl)⟩
theorem affiantref16_Admit_2_ok (x0 : List (T18c3)) (x1 : Int) (x2 : Int) (x3 : T1f7e) (o : (Int) ⊕ (Unit)) (h : affiantref16_Admit_2 x0 x1 x2 x3 = some o) : CodeOK prog (codeAt (bodyOf f34) [1, 1, 1, 1, 1, 1, 1, 0, 1, 0]) (affiantref16_Admit_2_in x0 x1 x2 x3) (affiantref16_Admit_2_ex o) (affiantref16_Admit_2_st o) :=
 LoopOK.of_step (st := fun s => affiantref16_Admit_2_in x0 x1 s x3) (ex := affiantref16_Admit_2_ex) (stO := affiantref16_Admit_2_st) (fun s s2 hs => affiantref16_Admit_2_body x0 x1 s x3 (.inl s2) hs) (fun s r hs => affiantref16_Admit_2_body x0 x1 s x3 (.inr r) hs) _ o h
def affiantref16_Admit_3_in (x0 : List (T18c3)) (x1 : Int) (x2 : Int) (x3 : T1f7e) : St := ⟨[(5, (.ptr 0 [])), (10, (.v (.slice Y18c3) x0)), (96, (.v (.int .i64) x1)), (97, (.v (.int .i64) x2))], [.box Y1f7e (.v Y1f7e x3) true], 111, 0⟩
def affiantref16_Admit_3_ex (o : (Int) ⊕ (Unit)) : Exit := match o with | (.inl o) => .ret | (.inr o) => (.exit 2)
def affiantref16_Admit_3_st (o : (Int) ⊕ (Unit)) : St := match o with | (.inl o) => ⟨[(6, (.v (.int .i64) o))], [], 111, 0⟩ | (.inr o) => ⟨[], [], 111, 0⟩
theorem affiantref16_Admit_3_body (x0 : List (T18c3)) (x1 : Int) (x2 : Int) (x3 : T1f7e) : ∀ r, affiantref16_Admit_3_step x0 x1 x2 x3 = some r → (match r with | .inl s => CodeOK prog (codeAt (bodyOf f34) [1, 1, 1, 1, 1, 1, 1, 0, 1, 0, 0]) (affiantref16_Admit_3_in x0 x1 x2 x3) .normal (affiantref16_Admit_3_in x0 x1 s x3) | .inr o => affiantref16_Admit_3_ex o ≠ .normal ∧ CodeOK prog (codeAt (bodyOf f34) [1, 1, 1, 1, 1, 1, 1, 0, 1, 0, 0]) (affiantref16_Admit_3_in x0 x1 x2 x3) (affiantref16_Admit_3_ex o) (affiantref16_Admit_3_st o)) := by
 intro r h
 unfold affiantref16_Admit_3_step at h
 rcases fork_some h with ⟨h39, h⟩ | ⟨h39, h⟩
 ·obtain ⟨h40, h⟩ := need_some h
  obtain ⟨h41, h⟩ := need_some h
  rcases fork_some h with ⟨h42, h⟩ | ⟨h42, h⟩
  ·injection h with h; subst h
   exact ⟨by intro e; simp [affiantref16_Admit_3_ex] at e, env.code (its := [b1, .pre p45, b1, .sel [6] []]) (.c h39 (.c h40 (.c h41 (.c h42 .n)))) (by kernel_rfl)⟩
  ·injection h with h; subst h
   exact env.code (its := [b1, .pre p45, b0, .sel [5, 10, 96, 97] [0]]) (.c h39 (.c h40 (.c h41 (.c h42 .n)))) (by kernel_rfl)
 ·injection h with h; subst h
  exact ⟨by intro e; simp [affiantref16_Admit_3_ex] at e, env.code (its := [b0, .sel [] []]) (.c h39 .n) (by kernel_rfl)⟩
theorem affiantref16_Admit_3_ok (x0 : List (T18c3)) (x1 : Int) (x2 : Int) (x3 : T1f7e) (o : (Int) ⊕ (Unit)) (h : affiantref16_Admit_3 x0 x1 x2 x3 = some o) : CodeOK prog (codeAt (bodyOf f34) [1, 1, 1, 1, 1, 1, 1, 0, 1, 0]) (affiantref16_Admit_3_in x0 x1 x2 x3) (affiantref16_Admit_3_ex o) (affiantref16_Admit_3_st o) :=
 LoopOK.of_step (st := fun s => affiantref16_Admit_3_in x0 x1 s x3) (ex := affiantref16_Admit_3_ex) (stO := affiantref16_Admit_3_st) (fun s s2 hs => affiantref16_Admit_3_body x0 x1 s x3 (.inl s2) hs) (fun s r hs => affiantref16_Admit_3_body x0 x1 s x3 (.inr r) hs) _ o h
def affiantref16_Admit_R (a0 : T011a) (a1 : B8) (a2 : T1f7e) (u : Int) : Slot := (.v (.int .i64) u)
def affiantref16_Admit_O (a0 : T011a) (a1 : B8) (a2 : T1f7e) (u : Int) : List AObj := []
theorem affiantref16_Admit_ok (a0 : T011a) (a1 : B8) (a2 : T1f7e) (u : Int) (h : affiantref16_Admit a0 a1 a2 = some u) : CallC prog 34 [(.v Y011a a0), (.v (.arr 32 (.int .u8)) a1), (.v Y1f7e a2)] [] (affiantref16_Admit_R a0 a1 a2 u) (affiantref16_Admit_O a0 a1 a2 u) := by
 unfold affiantref16_Admit at h
 rcases fork_some h with ⟨h1, h⟩ | ⟨h1, h⟩
 ·injection h with h; subst h
  exact env.fun func34 can34 (its := [b1, b1, b1, b1, b1, b1, b1, b1, b1, b1]) (pos := [.sel []]) (.c h1 (.c h1 (.c h1 (.c h1 (.c r1 (.c r1 (.c r1 (.c r1 (.c r1 (.c r1 .n)))))))))) (by kernel_rfl)
 ·rcases fork_some h with ⟨h2, h⟩ | ⟨h2, h⟩
  ·injection h with h; subst h
   exact env.fun func34 can34 (its := [b0, b0, b0, b0, b1, b1, b1, b1, b1, b1]) (pos := [.sel []]) (.c h1 (.c h1 (.c h1 (.c h1 (.c h2 (.c h2 (.c h2 (.c h2 (.c h2 (.c r1 .n)))))))))) (by kernel_rfl)
  ·obtain ⟨u3, h4, h⟩ := andThen_some h
   rcases fork_some h with ⟨h5, h⟩ | ⟨h5, h⟩
   ·injection h with h; subst h
    exact env.fun func34 can34 (its := [b0, b0, b0, b0, b0, b0, b0, .call [none] [] [] true (affiantref1_RightPairs_R a2.2.2.1 u3) (affiantref1_RightPairs_O a2.2.2.1 u3), b0, b0, b1]) (pos := [.sel []]) (.c h1 (.c h1 (.c h1 (.c h1 (.c h2 (.c h2 (.c h2 (.c (affiantref1_RightPairs_ok a2.2.2.1 u3 h4) (.c h2 (.c h2 (.c h5 .n))))))))))) (by kernel_rfl)
   ·rcases fork_some h with ⟨h6, h⟩ | ⟨h6, h⟩
    ·rcases fork_some h with ⟨h7, h⟩ | ⟨h7, h⟩
     ·obtain ⟨h8, h⟩ := need_some h
      rcases fork_some h with ⟨h9, h⟩ | ⟨h9, h⟩
      ·obtain ⟨u10, h11, h⟩ := andThen_some h
       rcases fork_some h with ⟨h12, h⟩ | ⟨h12, h⟩
       ·injection h with h; subst h
        exact env.fun func34 can34 (its := [b0, b0, b0, b0, b0, b0, b0, .call [none] [] [] true (affiantref1_RightPairs_R a2.2.2.1 u3) (affiantref1_RightPairs_O a2.2.2.1 u3), b0, b0, b0, b1, b1, b1, b1, b1, b1, .pre p40, b1, b1, b1, b1, b1, b1, b1, b1, .asis, .call [none, none, none] [] [] true (affiantref1_Exist_R a1 (List.getD a2.2.2.1 (Int.toNat (0 : Int)) Z18c3) a2.2.2.2.1 u10) (affiantref1_Exist_O a1 (List.getD a2.2.2.1 (Int.toNat (0 : Int)) Z18c3) a2.2.2.2.1 u10), b1, b1]) (pos := [.sel []]) (.c h1 (.c h1 (.c h1 (.c h1 (.c h2 (.c h2 (.c h2 (.c (affiantref1_RightPairs_ok a2.2.2.1 u3 h4) (.c h2 (.c h2 (.c h5 (.c h6 (.c h6 (.c h6 (.c h6 (.c h6 (.c h7 (.c h8 (.c h9 (.c h9 (.c h9 (.c h9 (.c h8 (.c h9 (.c h9 (.c h9 (.c h9 (.c rn (.c (affiantref1_Exist_ok a1 (List.getD a2.2.2.1 (Int.toNat (0 : Int)) Z18c3) a2.2.2.2.1 u10 h11) (.c h9 (.c h12 .n))))))))))))))))))))))))))))))) (by kernel_rfl)
       ·injection h with h; subst h
        exact env.fun func34 can34 (its := [b0, b0, b0, b0, b0, b0, b0, .call [none] [] [] true (affiantref1_RightPairs_R a2.2.2.1 u3) (affiantref1_RightPairs_O a2.2.2.1 u3), b0, b0, b0, b1, b1, b1, b1, b1, b1, .pre p40, b1, b1, b1, b1, b1, b1, b1, b1, .asis, .call [none, none, none] [] [] true (affiantref1_Exist_R a1 (List.getD a2.2.2.1 (Int.toNat (0 : Int)) Z18c3) a2.2.2.2.1 u10) (affiantref1_Exist_O a1 (List.getD a2.2.2.1 (Int.toNat (0 : Int)) Z18c3) a2.2.2.2.1 u10), b1, b0]) (pos := [.sel []]) (.c h1 (.c h1 (.c h1 (.c h1 (.c h2 (.c h2 (.c h2 (.c (affiantref1_RightPairs_ok a2.2.2.1 u3 h4) (.c h2 (.c h2 (.c h5 (.c h6 (.c h6 (.c h6 (.c h6 (.c h6 (.c h7 (.c h8 (.c h9 (.c h9 (.c h9 (.c h9 (.c h8 (.c h9 (.c h9 (.c h9 (.c h9 (.c rn (.c (affiantref1_Exist_ok a1 (List.getD a2.2.2.1 (Int.toNat (0 : Int)) Z18c3) a2.2.2.2.1 u10 h11) (.c h9 (.c h12 .n))))))))))))))))))))))))))))))) (by kernel_rfl)
      ·injection h with h; subst h
       exact env.fun func34 can34 (its := [b0, b0, b0, b0, b0, b0, b0, .call [none] [] [] true (affiantref1_RightPairs_R a2.2.2.1 u3) (affiantref1_RightPairs_O a2.2.2.1 u3), b0, b0, b0, b1, b1, b1, b1, b1, b1, .pre p40, b0, b0, b0, b0, b0, b0, b0, b0, b0, b0]) (pos := [.sel []]) (.c h1 (.c h1 (.c h1 (.c h1 (.c h2 (.c h2 (.c h2 (.c (affiantref1_RightPairs_ok a2.2.2.1 u3 h4) (.c h2 (.c h2 (.c h5 (.c h6 (.c h6 (.c h6 (.c h6 (.c h6 (.c h7 (.c h8 (.c h9 (.c h9 (.c h9 (.c h9 (.c h9 (.c h9 (.c h9 (.c h9 (.c h9 (.c r0 .n)))))))))))))))))))))))))))) (by kernel_rfl)
     ·obtain ⟨o17, h18, h⟩ := andThen_some h
      rcases o17 with o19 | o20
      ·injection h with h; subst h
       exact env.fun func34 can34 (its := [b0, b0, b0, b0, b0, b0, b0, .call [none] [] [] true (affiantref1_RightPairs_R a2.2.2.1 u3) (affiantref1_RightPairs_O a2.2.2.1 u3), b0, b0, b0, b1, b1, b1, b1, b1, b0, b1, .dive, .sel [3, 4, 5, 7, 63, 64, 65] [0, 1, 2], .part (affiantref16_Admit_1_ex (.inl o19)) (affiantref16_Admit_1_st (.inl o19))]) (pos := [.sel []]) (.c h1 (.c h1 (.c h1 (.c h1 (.c h2 (.c h2 (.c h2 (.c (affiantref1_RightPairs_ok a2.2.2.1 u3 h4) (.c h2 (.c h2 (.c h5 (.c h6 (.c h6 (.c h6 (.c h6 (.c h6 (.c h7 (.c h6 (.c (affiantref16_Admit_1_ok a0.2.1 a2.2.2.2.1.2.2.1 (List.length a2.2.2.2.1.2.2.1 : Int) (0 : Int) a0 a1 a2 (.inl o19) h18) .n))))))))))))))))))) (by kernel_rfl)
      ·obtain ⟨u21, h22, h⟩ := andThen_some h
       rcases fork_some h with ⟨h23, h⟩ | ⟨h23, h⟩
       ·injection h with h; subst h
        exact env.fun func34 can34 (its := [b0, b0, b0, b0, b0, b0, b0, .call [none] [] [] true (affiantref1_RightPairs_R a2.2.2.1 u3) (affiantref1_RightPairs_O a2.2.2.1 u3), b0, b0, b0, b1, b1, b1, b1, b1, b0, b1, .dive, .sel [3, 4, 5, 7, 63, 64, 65] [0, 1, 2], .part (affiantref16_Admit_1_ex (.inr o20)) (affiantref16_Admit_1_st (.inr o20)), .call [none, none, none, none] [] [] false (affiantref1_Within_R o20.2.2.1 o20.2.1.2.1 o20.1 o20.2.2.2.2.2.2.1 u21) (affiantref1_Within_O o20.2.2.1 o20.2.1.2.1 o20.1 o20.2.2.2.2.2.2.1 u21), b1, b1, b1, b1, b1, b1, b1, b1]) (pos := [.sel []]) (.c h1 (.c h1 (.c h1 (.c h1 (.c h2 (.c h2 (.c h2 (.c (affiantref1_RightPairs_ok a2.2.2.1 u3 h4) (.c h2 (.c h2 (.c h5 (.c h6 (.c h6 (.c h6 (.c h6 (.c h6 (.c h7 (.c h6 (.c (affiantref16_Admit_1_ok a0.2.1 a2.2.2.2.1.2.2.1 (List.length a2.2.2.2.1.2.2.1 : Int) (0 : Int) a0 a1 a2 (.inr o20) h18) (.c (affiantref1_Within_ok o20.2.2.1 o20.2.1.2.1 o20.1 o20.2.2.2.2.2.2.1 u21 h22) (.c h23 (.c h23 (.c h23 (.c h23 (.c h23 (.c h23 (.c h23 (.c r1 .n)))))))))))))))))))))))))))) (by kernel_rfl)
       ·rcases fork_some h with ⟨h24, h⟩ | ⟨h24, h⟩
        ·injection h with h; subst h
         exact env.fun func34 can34 (its := [b0, b0, b0, b0, b0, b0, b0, .call [none] [] [] true (affiantref1_RightPairs_R a2.2.2.1 u3) (affiantref1_RightPairs_O a2.2.2.1 u3), b0, b0, b0, b1, b1, b1, b1, b1, b0, b1, .dive, .sel [3, 4, 5, 7, 63, 64, 65] [0, 1, 2], .part (affiantref16_Admit_1_ex (.inr o20)) (affiantref16_Admit_1_st (.inr o20)), .call [none, none, none, none] [] [] false (affiantref1_Within_R o20.2.2.1 o20.2.1.2.1 o20.1 o20.2.2.2.2.2.2.1 u21) (affiantref1_Within_O o20.2.2.1 o20.2.1.2.1 o20.1 o20.2.2.2.2.2.2.1 u21), b0, b0, b0, b0, b0, b0, b0, b1]) (pos := [.sel []]) (.c h1 (.c h1 (.c h1 (.c h1 (.c h2 (.c h2 (.c h2 (.c (affiantref1_RightPairs_ok a2.2.2.1 u3 h4) (.c h2 (.c h2 (.c h5 (.c h6 (.c h6 (.c h6 (.c h6 (.c h6 (.c h7 (.c h6 (.c (affiantref16_Admit_1_ok a0.2.1 a2.2.2.2.1.2.2.1 (List.length a2.2.2.2.1.2.2.1 : Int) (0 : Int) a0 a1 a2 (.inr o20) h18) (.c (affiantref1_Within_ok o20.2.2.1 o20.2.1.2.1 o20.1 o20.2.2.2.2.2.2.1 u21 h22) (.c h23 (.c h23 (.c h23 (.c h23 (.c h23 (.c h23 (.c h23 (.c h24 .n)))))))))))))))))))))))))))) (by kernel_rfl)
        ·obtain ⟨o30, h31, h⟩ := andThen_some h
         rcases o30 with o32 | o33
         ·injection h with h; subst h
          exact env.fun func34 can34 (its := [b0, b0, b0, b0, b0, b0, b0, .call [none] [] [] true (affiantref1_RightPairs_R a2.2.2.1 u3) (affiantref1_RightPairs_O a2.2.2.1 u3), b0, b0, b0, b1, b1, b1, b1, b1, b0, b1, .dive, .sel [3, 4, 5, 7, 63, 64, 65] [0, 1, 2], .part (affiantref16_Admit_1_ex (.inr o20)) (affiantref16_Admit_1_st (.inr o20)), .call [none, none, none, none] [] [] false (affiantref1_Within_R o20.2.2.1 o20.2.1.2.1 o20.1 o20.2.2.2.2.2.2.1 u21) (affiantref1_Within_O o20.2.2.1 o20.2.1.2.1 o20.1 o20.2.2.2.2.2.2.1 u21), b0, b0, b0, b0, b0, b0, b0, b0, .dive, .sel [5, 10, 96, 97] [2], .part (affiantref16_Admit_2_ex (.inl o32)) (affiantref16_Admit_2_st (.inl o32))]) (pos := [.sel []]) (.c h1 (.c h1 (.c h1 (.c h1 (.c h2 (.c h2 (.c h2 (.c (affiantref1_RightPairs_ok a2.2.2.1 u3 h4) (.c h2 (.c h2 (.c h5 (.c h6 (.c h6 (.c h6 (.c h6 (.c h6 (.c h7 (.c h6 (.c (affiantref16_Admit_1_ok a0.2.1 a2.2.2.2.1.2.2.1 (List.length a2.2.2.2.1.2.2.1 : Int) (0 : Int) a0 a1 a2 (.inr o20) h18) (.c (affiantref1_Within_ok o20.2.2.1 o20.2.1.2.1 o20.1 o20.2.2.2.2.2.2.1 u21 h22) (.c h23 (.c h23 (.c h23 (.c h23 (.c h23 (.c h23 (.c h23 (.c h24 (.c (affiantref16_Admit_2_ok u21.1 (List.length u21.1 : Int) (0 : Int) o20.2.2.2 (.inl o32) h31) .n))))))))))))))))))))))))))))) (by kernel_rfl)
         ·injection h with h; subst h
          exact env.fun func34 can34 (its := [b0, b0, b0, b0, b0, b0, b0, .call [none] [] [] true (affiantref1_RightPairs_R a2.2.2.1 u3) (affiantref1_RightPairs_O a2.2.2.1 u3), b0, b0, b0, b1, b1, b1, b1, b1, b0, b1, .dive, .sel [3, 4, 5, 7, 63, 64, 65] [0, 1, 2], .part (affiantref16_Admit_1_ex (.inr o20)) (affiantref16_Admit_1_st (.inr o20)), .call [none, none, none, none] [] [] false (affiantref1_Within_R o20.2.2.1 o20.2.1.2.1 o20.1 o20.2.2.2.2.2.2.1 u21) (affiantref1_Within_O o20.2.2.1 o20.2.1.2.1 o20.1 o20.2.2.2.2.2.2.1 u21), b0, b0, b0, b0, b0, b0, b0, b0, .dive, .sel [5, 10, 96, 97] [2], .part (affiantref16_Admit_2_ex (.inr o33)) (affiantref16_Admit_2_st (.inr o33))]) (pos := [.sel []]) (.c h1 (.c h1 (.c h1 (.c h1 (.c h2 (.c h2 (.c h2 (.c (affiantref1_RightPairs_ok a2.2.2.1 u3 h4) (.c h2 (.c h2 (.c h5 (.c h6 (.c h6 (.c h6 (.c h6 (.c h6 (.c h7 (.c h6 (.c (affiantref16_Admit_1_ok a0.2.1 a2.2.2.2.1.2.2.1 (List.length a2.2.2.2.1.2.2.1 : Int) (0 : Int) a0 a1 a2 (.inr o20) h18) (.c (affiantref1_Within_ok o20.2.2.1 o20.2.1.2.1 o20.1 o20.2.2.2.2.2.2.1 u21 h22) (.c h23 (.c h23 (.c h23 (.c h23 (.c h23 (.c h23 (.c h23 (.c h24 (.c (affiantref16_Admit_2_ok u21.1 (List.length u21.1 : Int) (0 : Int) o20.2.2.2 (.inr o33) h31) .n))))))))))))))))))))))))))))) (by kernel_rfl)
    ·obtain ⟨u34, h35, h⟩ := andThen_some h
     rcases fork_some h with ⟨h36, h⟩ | ⟨h36, h⟩
     ·injection h with h; subst h
      exact env.fun func34 can34 (its := [b0, b0, b0, b0, b0, b0, b0, .call [none] [] [] true (affiantref1_RightPairs_R a2.2.2.1 u3) (affiantref1_RightPairs_O a2.2.2.1 u3), b0, b0, b0, b0, b0, b0, b0, b0, b0, b0, .call [none, none, none, none] [] [] false (affiantref1_Within_R a1 a0.2.1 a0.2.2.1 a2.2.2.2.1 u34) (affiantref1_Within_O a1 a0.2.1 a0.2.2.1 a2.2.2.2.1 u34), b1, b1, b1, b1, b1, b1, b1, b1]) (pos := [.sel []]) (.c h1 (.c h1 (.c h1 (.c h1 (.c h2 (.c h2 (.c h2 (.c (affiantref1_RightPairs_ok a2.2.2.1 u3 h4) (.c h2 (.c h2 (.c h5 (.c h6 (.c h6 (.c h6 (.c h6 (.c h6 (.c r0 (.c h6 (.c (affiantref1_Within_ok a1 a0.2.1 a0.2.2.1 a2.2.2.2.1 u34 h35) (.c h36 (.c h36 (.c h36 (.c h36 (.c h36 (.c h36 (.c h36 (.c r1 .n))))))))))))))))))))))))))) (by kernel_rfl)
     ·rcases fork_some h with ⟨h37, h⟩ | ⟨h37, h⟩
      ·injection h with h; subst h
       exact env.fun func34 can34 (its := [b0, b0, b0, b0, b0, b0, b0, .call [none] [] [] true (affiantref1_RightPairs_R a2.2.2.1 u3) (affiantref1_RightPairs_O a2.2.2.1 u3), b0, b0, b0, b0, b0, b0, b0, b0, b0, b0, .call [none, none, none, none] [] [] false (affiantref1_Within_R a1 a0.2.1 a0.2.2.1 a2.2.2.2.1 u34) (affiantref1_Within_O a1 a0.2.1 a0.2.2.1 a2.2.2.2.1 u34), b0, b0, b0, b0, b0, b0, b0, b1]) (pos := [.sel []]) (.c h1 (.c h1 (.c h1 (.c h1 (.c h2 (.c h2 (.c h2 (.c (affiantref1_RightPairs_ok a2.2.2.1 u3 h4) (.c h2 (.c h2 (.c h5 (.c h6 (.c h6 (.c h6 (.c h6 (.c h6 (.c r0 (.c h6 (.c (affiantref1_Within_ok a1 a0.2.1 a0.2.2.1 a2.2.2.2.1 u34 h35) (.c h36 (.c h36 (.c h36 (.c h36 (.c h36 (.c h36 (.c h36 (.c h37 .n))))))))))))))))))))))))))) (by kernel_rfl)
      ·obtain ⟨o43, h44, h⟩ := andThen_some h
       rcases o43 with o45 | o46
       ·injection h with h; subst h
        exact env.fun func34 can34 (its := [b0, b0, b0, b0, b0, b0, b0, .call [none] [] [] true (affiantref1_RightPairs_R a2.2.2.1 u3) (affiantref1_RightPairs_O a2.2.2.1 u3), b0, b0, b0, b0, b0, b0, b0, b0, b0, b0, .call [none, none, none, none] [] [] false (affiantref1_Within_R a1 a0.2.1 a0.2.2.1 a2.2.2.2.1 u34) (affiantref1_Within_O a1 a0.2.1 a0.2.2.1 a2.2.2.2.1 u34), b0, b0, b0, b0, b0, b0, b0, b0, .dive, .sel [5, 10, 96, 97] [2], .part (affiantref16_Admit_3_ex (.inl o45)) (affiantref16_Admit_3_st (.inl o45))]) (pos := [.sel []]) (.c h1 (.c h1 (.c h1 (.c h1 (.c h2 (.c h2 (.c h2 (.c (affiantref1_RightPairs_ok a2.2.2.1 u3 h4) (.c h2 (.c h2 (.c h5 (.c h6 (.c h6 (.c h6 (.c h6 (.c h6 (.c r0 (.c h6 (.c (affiantref1_Within_ok a1 a0.2.1 a0.2.2.1 a2.2.2.2.1 u34 h35) (.c h36 (.c h36 (.c h36 (.c h36 (.c h36 (.c h36 (.c h36 (.c h37 (.c (affiantref16_Admit_3_ok u34.1 (List.length u34.1 : Int) (0 : Int) a2 (.inl o45) h44) .n)))))))))))))))))))))))))))) (by kernel_rfl)
       ·injection h with h; subst h
        exact env.fun func34 can34 (its := [b0, b0, b0, b0, b0, b0, b0, .call [none] [] [] true (affiantref1_RightPairs_R a2.2.2.1 u3) (affiantref1_RightPairs_O a2.2.2.1 u3), b0, b0, b0, b0, b0, b0, b0, b0, b0, b0, .call [none, none, none, none] [] [] false (affiantref1_Within_R a1 a0.2.1 a0.2.2.1 a2.2.2.2.1 u34) (affiantref1_Within_O a1 a0.2.1 a0.2.2.1 a2.2.2.2.1 u34), b0, b0, b0, b0, b0, b0, b0, b0, .dive, .sel [5, 10, 96, 97] [2], .part (affiantref16_Admit_3_ex (.inr o46)) (affiantref16_Admit_3_st (.inr o46))]) (pos := [.sel []]) (.c h1 (.c h1 (.c h1 (.c h1 (.c h2 (.c h2 (.c h2 (.c (affiantref1_RightPairs_ok a2.2.2.1 u3 h4) (.c h2 (.c h2 (.c h5 (.c h6 (.c h6 (.c h6 (.c h6 (.c h6 (.c r0 (.c h6 (.c (affiantref1_Within_ok a1 a0.2.1 a0.2.2.1 a2.2.2.2.1 u34 h35) (.c h36 (.c h36 (.c h36 (.c h36 (.c h36 (.c h36 (.c h36 (.c h37 (.c (affiantref16_Admit_3_ok u34.1 (List.length u34.1 : Int) (0 : Int) a2 (.inr o46) h44) .n)))))))))))))))))))))))))))) (by kernel_rfl)
theorem can36 : Callable prog 36 := ⟨_, func36, by kernel_rfl, by kernel_rfl⟩
def admit_Cost_R (a0 : T1f7e) (u : Int) : Slot := (.v (.int .i64) u)
def admit_Cost_O (a0 : T1f7e) (u : Int) : List AObj := []
theorem admit_Cost_ok (a0 : T1f7e) (u : Int) (h : admit_Cost a0 = some u) : CallC prog 36 [(.v Y1f7e a0)] [] (admit_Cost_R a0 u) (admit_Cost_O a0 u) := by
 unfold admit_Cost at h
 obtain ⟨u1, h2, h⟩ := andThen_some h
 rcases fork_some h with ⟨h3, h⟩ | ⟨h3, h⟩
 ·injection h with h; subst h
  exact env.fun func36 can36 (its := [.call [none] [] [] true (admit_Right_R a0 u1) (admit_Right_O a0 u1), b1]) (pos := [.sel []]) (.c (admit_Right_ok a0 u1 h2) (.c h3 .n)) (by kernel_rfl)
 ·obtain ⟨u4, h5, h⟩ := andThen_some h
  injection h with h; subst h
  exact env.fun func36 can36 (its := [.call [none] [] [] true (admit_Right_R a0 u1) (admit_Right_O a0 u1), b0, .call [none] [] [] true (check_Cost_R a0.2.2.2.1 u4) (check_Cost_O a0.2.2.2.1 u4)]) (pos := [.sel []]) (.c (admit_Right_ok a0 u1 h2) (.c h3 (.c (check_Cost_ok a0.2.2.2.1 u4 h5) .n))) (by kernel_rfl)
theorem can26 : Callable prog 26 := ⟨_, func26, by kernel_rfl, by kernel_rfl⟩
def affiantlaw17_AdmitRuns_R  (u : Bool) : Slot := (.v .bool u)
def affiantlaw17_AdmitRuns_O  (u : Bool) : List AObj := []
theorem affiantlaw17_AdmitRuns_ok  (u : Bool) (h : affiantlaw17_AdmitRuns  = some u) : CallC prog 26 [] [] (affiantlaw17_AdmitRuns_R u) (affiantlaw17_AdmitRuns_O u) := by
 unfold affiantlaw17_AdmitRuns at h
 obtain ⟨u1, h2, h⟩ := andThen_some h
 obtain ⟨u3, h4, h⟩ := andThen_some h
 obtain ⟨u5, h6, h⟩ := andThen_some h
 rcases fork_some h with ⟨h7, h⟩ | ⟨h7, h⟩
 ·obtain ⟨u8, h9, h⟩ := andThen_some h
  obtain ⟨u10, h11, h⟩ := andThen_some h
  rcases fork_some h with ⟨h12, h⟩ | ⟨h12, h⟩
  ·obtain ⟨u13, h14, h⟩ := andThen_some h
   obtain ⟨u15, h16, h⟩ := andThen_some h
   injection h with h; subst h
   exact env.fun func26 can26 (its := [.call [none, none, none, none] [] [0] false (affiantref16_Answer_R (1 : Int) ((1 : Int), ([97] : B8), ([] : B8), (0 : Int), (1 : Int), ()) (1 : Int) ([(([97] : B8), ([49] : B8), ())] : List (T18c3)) u1) (affiantref16_Answer_O (1 : Int) ((1 : Int), ([97] : B8), ([] : B8), (0 : Int), (1 : Int), ()) (1 : Int) ([(([97] : B8), ([49] : B8), ())] : List (T18c3)) u1), .pre p46, .asis, .call [none] [] [0] true (store_Root_R ([(([97] : B8), ([49] : B8), ())] : List (T18c3)) u3) (store_Root_O ([(([97] : B8), ([49] : B8), ())] : List (T18c3)) u3), .asis, .call [none, none, none] [] [] true (admit_Check_R ((1 : Int), ([97] : B8), ([] : B8), (0 : Int), (1 : Int), ()) u3 u1 u5) (admit_Check_O ((1 : Int), ([97] : B8), ([] : B8), (0 : Int), (1 : Int), ()) u3 u1 u5), b1, b1, b1, .asis, .call [none] [] [0] true (store_Root_R ([(([97] : B8), ([49] : B8), ())] : List (T18c3)) u8) (store_Root_O ([(([97] : B8), ([49] : B8), ())] : List (T18c3)) u8), b1, b1, .asis, .call [none, none, none] [] [] true (admit_Check_R ((1 : Int), ([97] : B8), ([] : B8), (0 : Int), (1 : Int), ()) u8 (u1.1, u1.2.1, ([(([97] : B8), ([50] : B8), ())] : List (T18c3)), u1.2.2.2.1, ()) u10) (admit_Check_O ((1 : Int), ([97] : B8), ([] : B8), (0 : Int), (1 : Int), ()) u8 (u1.1, u1.2.1, ([(([97] : B8), ([50] : B8), ())] : List (T18c3)), u1.2.2.2.1, ()) u10), b1, b1, b1, b1, b1, .asis, .call [none] [] [0] true (store_Root_R ([(([97] : B8), ([49] : B8), ())] : List (T18c3)) u13) (store_Root_O ([(([97] : B8), ([49] : B8), ())] : List (T18c3)) u13), b1, b1, .asis, .call [none, none, none] [] [] true (admit_Check_R ((1 : Int), ([97] : B8), ([] : B8), (0 : Int), (1 : Int), ()) u13 Z1f7e u15) (admit_Check_O ((1 : Int), ([97] : B8), ([] : B8), (0 : Int), (1 : Int), ()) u13 Z1f7e u15), b1, b1]) (pos := [.sel []]) (.c (affiantref16_Answer_ok (1 : Int) ((1 : Int), ([97] : B8), ([] : B8), (0 : Int), (1 : Int), ()) (1 : Int) ([(([97] : B8), ([49] : B8), ())] : List (T18c3)) u1 h2) (.c (rfl : ([.row Y18c3 ([(([97] : B8), ([49] : B8), ())] : List (T18c3)) false] : List AObj) = [.row Y18c3 ([(([97] : B8), ([49] : B8), ())] : List (T18c3)) false]) (.c (store_Root_ok ([(([97] : B8), ([49] : B8), ())] : List (T18c3)) u3 h4) (.c rn (.c (admit_Check_ok ((1 : Int), ([97] : B8), ([] : B8), (0 : Int), (1 : Int), ()) u3 u1 u5 h6) (.c h7 (.c h7 (.c h7 (.c (rfl : ([.row Y18c3 ([(([97] : B8), ([49] : B8), ())] : List (T18c3)) false] : List AObj) = [.row Y18c3 ([(([97] : B8), ([49] : B8), ())] : List (T18c3)) false]) (.c (store_Root_ok ([(([97] : B8), ([49] : B8), ())] : List (T18c3)) u8 h9) (.c h7 (.c h7 (.c rn (.c (admit_Check_ok ((1 : Int), ([97] : B8), ([] : B8), (0 : Int), (1 : Int), ()) u8 (u1.1, u1.2.1, ([(([97] : B8), ([50] : B8), ())] : List (T18c3)), u1.2.2.2.1, ()) u10 h11) (.c h7 (.c h7 (.c h12 (.c h12 (.c h12 (.c (rfl : ([.row Y18c3 ([(([97] : B8), ([49] : B8), ())] : List (T18c3)) false] : List AObj) = [.row Y18c3 ([(([97] : B8), ([49] : B8), ())] : List (T18c3)) false]) (.c (store_Root_ok ([(([97] : B8), ([49] : B8), ())] : List (T18c3)) u13 h14) (.c h12 (.c h12 (.c rn (.c (admit_Check_ok ((1 : Int), ([97] : B8), ([] : B8), (0 : Int), (1 : Int), ()) u13 Z1f7e u15 h16) (.c h12 (.c h12 .n))))))))))))))))))))))))))) (by kernel_rfl)
  ·cases h
 ·cases h
theorem can7 : Callable prog 7 := ⟨_, func7, by kernel_rfl, by kernel_rfl⟩
def affiantlaw17_AdmitTells_R (a0 : List Int) (a1 : T1a67) (a2 : T1a67) (a3 : Int) (a4 : Int) (a5 : Int) (a6 : T1f7e) (a7 : Bool) (u : Bool) : Slot := (.v .bool u)
def affiantlaw17_AdmitTells_O (a0 : List Int) (a1 : T1a67) (a2 : T1a67) (a3 : Int) (a4 : Int) (a5 : Int) (a6 : T1f7e) (a7 : Bool) (u : Bool) : List AObj := []
theorem affiantlaw17_AdmitTells_ok (a0 : List Int) (a1 : T1a67) (a2 : T1a67) (a3 : Int) (a4 : Int) (a5 : Int) (a6 : T1f7e) (a7 : Bool) (u : Bool) (h : affiantlaw17_AdmitTells a0 a1 a2 a3 a4 a5 a6 a7 = some u) : CallC prog 7 [(.v (.slice (.int .i64)) a0), (.v Y1a67 a1), (.v Y1a67 a2), (.v (.int .i64) a3), (.v (.int .i64) a4), (.v (.int .i64) a5), (.v Y1f7e a6), (.v .bool a7)] [] (affiantlaw17_AdmitTells_R a0 a1 a2 a3 a4 a5 a6 a7 u) (affiantlaw17_AdmitTells_O a0 a1 a2 a3 a4 a5 a6 a7 u) := by
 unfold affiantlaw17_AdmitTells at h
 obtain ⟨u1, h2, h⟩ := andThen_some h
 obtain ⟨u3, h4, h⟩ := andThen_some h
 obtain ⟨u5, h6, h⟩ := andThen_some h
 obtain ⟨u7, h8, h⟩ := andThen_some h
 obtain ⟨u9, h10, h⟩ := andThen_some h
 obtain ⟨u11, h12, h⟩ := andThen_some h
 rcases fork_some h with ⟨h13, h⟩ | ⟨h13, h⟩
 ·obtain ⟨u14, h15, h⟩ := andThen_some h
  obtain ⟨u16, h17, h⟩ := andThen_some h
  rcases fork_some h with ⟨h18, h⟩ | ⟨h18, h⟩
  ·rcases fork_some h with ⟨h19, h⟩ | ⟨h19, h⟩
   ·obtain ⟨u20, h21, h⟩ := andThen_some h
    rcases fork_some h with ⟨h22, h⟩ | ⟨h22, h⟩
    ·obtain ⟨u23, h24, h⟩ := andThen_some h
     obtain ⟨u25, h26, h⟩ := andThen_some h
     obtain ⟨u27, h28, h⟩ := andThen_some h
     rcases fork_some h with ⟨h29, h⟩ | ⟨h29, h⟩
     ·obtain ⟨u30, h31, h⟩ := andThen_some h
      obtain ⟨u32, h33, h⟩ := andThen_some h
      rcases fork_some h with ⟨h34, h⟩ | ⟨h34, h⟩
      ·obtain ⟨u35, h36, h⟩ := andThen_some h
       rcases fork_some h with ⟨h37, h⟩ | ⟨h37, h⟩
       ·obtain ⟨u38, h39, h⟩ := andThen_some h
        injection h with h; subst h
        exact env.fun func7 can7 (its := [.call [none] [] [] true (affiantkeep_Pairs_R a0 u1) (affiantkeep_Pairs_O a0 u1), .pre p47, .asis, .call [none] [] [] true (affiantkeep_Query_Query_R a1 u3) (affiantkeep_Query_Query_O a1 u3), .asis, .call [none] [] [] true (affiantkeep_Query_Query_R a2 u5) (affiantkeep_Query_Query_O a2 u5), .pre p48, .call [none, none, none, none] [] [0] false (affiantref16_Answer_R (1 : Int) u3 (3 : Int) u1 u7) (affiantref16_Answer_O (1 : Int) u3 (3 : Int) u1 u7), .asis, .call [none, none, none, none] [] [0] false (affiantref16_Answer_R (1 : Int) u5 (3 : Int) u1 u9) (affiantref16_Answer_O (1 : Int) u5 (3 : Int) u1 u9), .asis, .call [none, none, none, none, none] [] [] false (affiantkeep_Response_R u7 u9 a3 a4 a5 u11) (affiantkeep_Response_O u7 u9 a3 a4 a5 u11), b1, .call [none] [] [] false (affiantkeep_Tame_R a6 u14) (affiantkeep_Tame_O a6 u14), .call [none] [] [3] true (affiantref1_StoreRoot_R u1 u16) (affiantref1_StoreRoot_O u1 u16), b1, b1, b1, b1, b1, b1, b1, .call [none] [] [] true (affiantref1_RightPairs_R u14.2.2.1 u20) (affiantref1_RightPairs_O u14.2.2.1 u20), b1, b1, .call [none] [] [] true (check_Cost_R u14.2.2.2.1 u23) (check_Cost_O u14.2.2.2.1 u23), .pre p49, .asis, .call [none, none, none] [] [] true (admit_Check_R u3 u16 u14 u25) (admit_Check_O u3 u16 u14 u25), .asis, .call [none, none, none] [] [] true (affiantref16_Admit_R u3 u16 u14 u27) (affiantref16_Admit_O u3 u16 u14 u27), b1, b1, .asis, .call [none] [] [] true (admit_Right_R u14 u30) (admit_Right_O u14 u30), b1, b1, b1, b1, b1, b1, b1, b1, b1, b1, b1, b1, b1, .asis, .call [none] [] [] true (affiantref1_RightPairs_R u14.2.2.1 u32) (affiantref1_RightPairs_O u14.2.2.1 u32), b1, b1, b1, b1, b1, b1, .asis, .call [none] [] [] true (admit_Cost_R u14 u35) (admit_Cost_O u14 u35), b1, b1, b1, b1, .asis, .call [] [] [] true (affiantlaw17_AdmitRuns_R u38) (affiantlaw17_AdmitRuns_O u38), b1]) (pos := [.sel []]) (.c (affiantkeep_Pairs_ok a0 u1 h2) (.c rn (.c (affiantkeep_Query_Query_ok a1 u3 h4) (.c rn (.c (affiantkeep_Query_Query_ok a2 u5 h6) (.c (affiantref16_Answer_ok (1 : Int) u3 (3 : Int) u1 u7 h8) (.c (rfl : ([.row Y18c3 u1 false] : List AObj) = [.row Y18c3 u1 false]) (.c (affiantref16_Answer_ok (1 : Int) u5 (3 : Int) u1 u9 h10) (.c rn (.c (affiantkeep_Response_ok u7 u9 a3 a4 a5 u11 h12) (.c h13 (.c (affiantkeep_Tame_ok a6 u14 h15) (.c (affiantref1_StoreRoot_ok u1 u16 h17) (.c h18 (.c h18 (.c h18 (.c h18 (.c h19 (.c h19 (.c h19 (.c (affiantref1_RightPairs_ok u14.2.2.1 u20 h21) (.c h19 (.c h22 (.c (check_Cost_ok u14.2.2.2.1 u23 h24) (.c rn (.c (admit_Check_ok u3 u16 u14 u25 h26) (.c rn (.c (affiantref16_Admit_ok u3 u16 u14 u27 h28) (.c h29 (.c h29 (.c rn (.c (admit_Right_ok u14 u30 h31) (.c h29 (.c h29 (.c h29 (.c h29 (.c h18 (.c h18 (.c h18 (.c h29 (.c h18 (.c h29 (.c h19 (.c h19 (.c h19 (.c rn (.c (affiantref1_RightPairs_ok u14.2.2.1 u32 h33) (.c h29 (.c h19 (.c h29 (.c h29 (.c h34 (.c h34 (.c rn (.c (admit_Cost_ok u14 u35 h36) (.c h34 (.c h34 (.c h34 (.c h37 (.c rn (.c (affiantlaw17_AdmitRuns_ok u38 h39) (.c h37 .n)))))))))))))))))))))))))))))))))))))))))))))))))))))))))))))) (by kernel_rfl)
       ·cases h
      ·cases h
     ·cases h
    ·obtain ⟨u40, h41, h⟩ := andThen_some h
     obtain ⟨u42, h43, h⟩ := andThen_some h
     rcases fork_some h with ⟨h44, h⟩ | ⟨h44, h⟩
     ·obtain ⟨u45, h46, h⟩ := andThen_some h
      obtain ⟨u47, h48, h⟩ := andThen_some h
      rcases fork_some h with ⟨h49, h⟩ | ⟨h49, h⟩
      ·obtain ⟨u50, h51, h⟩ := andThen_some h
       rcases fork_some h with ⟨h52, h⟩ | ⟨h52, h⟩
       ·obtain ⟨u53, h54, h⟩ := andThen_some h
        injection h with h; subst h
        exact env.fun func7 can7 (its := [.call [none] [] [] true (affiantkeep_Pairs_R a0 u1) (affiantkeep_Pairs_O a0 u1), .pre p47, .asis, .call [none] [] [] true (affiantkeep_Query_Query_R a1 u3) (affiantkeep_Query_Query_O a1 u3), .asis, .call [none] [] [] true (affiantkeep_Query_Query_R a2 u5) (affiantkeep_Query_Query_O a2 u5), .pre p48, .call [none, none, none, none] [] [0] false (affiantref16_Answer_R (1 : Int) u3 (3 : Int) u1 u7) (affiantref16_Answer_O (1 : Int) u3 (3 : Int) u1 u7), .asis, .call [none, none, none, none] [] [0] false (affiantref16_Answer_R (1 : Int) u5 (3 : Int) u1 u9) (affiantref16_Answer_O (1 : Int) u5 (3 : Int) u1 u9), .asis, .call [none, none, none, none, none] [] [] false (affiantkeep_Response_R u7 u9 a3 a4 a5 u11) (affiantkeep_Response_O u7 u9 a3 a4 a5 u11), b1, .call [none] [] [] false (affiantkeep_Tame_R a6 u14) (affiantkeep_Tame_O a6 u14), .call [none] [] [3] true (affiantref1_StoreRoot_R u1 u16) (affiantref1_StoreRoot_O u1 u16), b1, b1, b1, b1, b1, b1, b1, .call [none] [] [] true (affiantref1_RightPairs_R u14.2.2.1 u20) (affiantref1_RightPairs_O u14.2.2.1 u20), b1, b0, .pre p49, .asis, .call [none, none, none] [] [] true (admit_Check_R u3 u16 u14 u40) (admit_Check_O u3 u16 u14 u40), .asis, .call [none, none, none] [] [] true (affiantref16_Admit_R u3 u16 u14 u42) (affiantref16_Admit_O u3 u16 u14 u42), b1, b1, .asis, .call [none] [] [] true (admit_Right_R u14 u45) (admit_Right_O u14 u45), b1, b1, b1, b1, b1, b1, b1, b1, b1, b1, b1, b1, b1, .asis, .call [none] [] [] true (affiantref1_RightPairs_R u14.2.2.1 u47) (affiantref1_RightPairs_O u14.2.2.1 u47), b1, b1, b1, b1, b1, b1, .asis, .call [none] [] [] true (admit_Cost_R u14 u50) (admit_Cost_O u14 u50), b1, b1, b1, b1, .asis, .call [] [] [] true (affiantlaw17_AdmitRuns_R u53) (affiantlaw17_AdmitRuns_O u53), b1]) (pos := [.sel []]) (.c (affiantkeep_Pairs_ok a0 u1 h2) (.c rn (.c (affiantkeep_Query_Query_ok a1 u3 h4) (.c rn (.c (affiantkeep_Query_Query_ok a2 u5 h6) (.c (affiantref16_Answer_ok (1 : Int) u3 (3 : Int) u1 u7 h8) (.c (rfl : ([.row Y18c3 u1 false] : List AObj) = [.row Y18c3 u1 false]) (.c (affiantref16_Answer_ok (1 : Int) u5 (3 : Int) u1 u9 h10) (.c rn (.c (affiantkeep_Response_ok u7 u9 a3 a4 a5 u11 h12) (.c h13 (.c (affiantkeep_Tame_ok a6 u14 h15) (.c (affiantref1_StoreRoot_ok u1 u16 h17) (.c h18 (.c h18 (.c h18 (.c h18 (.c h19 (.c h19 (.c h19 (.c (affiantref1_RightPairs_ok u14.2.2.1 u20 h21) (.c h19 (.c h22 (.c rn (.c (admit_Check_ok u3 u16 u14 u40 h41) (.c rn (.c (affiantref16_Admit_ok u3 u16 u14 u42 h43) (.c h44 (.c h44 (.c rn (.c (admit_Right_ok u14 u45 h46) (.c h44 (.c h44 (.c h44 (.c h44 (.c h18 (.c h18 (.c h18 (.c h44 (.c h18 (.c h44 (.c h19 (.c h19 (.c h19 (.c rn (.c (affiantref1_RightPairs_ok u14.2.2.1 u47 h48) (.c h44 (.c h19 (.c h44 (.c h44 (.c h49 (.c h49 (.c rn (.c (admit_Cost_ok u14 u50 h51) (.c h49 (.c h49 (.c h49 (.c h52 (.c rn (.c (affiantlaw17_AdmitRuns_ok u53 h54) (.c h52 .n))))))))))))))))))))))))))))))))))))))))))))))))))))))))))))) (by kernel_rfl)
       ·cases h
      ·cases h
     ·cases h
   ·obtain ⟨u55, h56, h⟩ := andThen_some h
    obtain ⟨u57, h58, h⟩ := andThen_some h
    rcases fork_some h with ⟨h59, h⟩ | ⟨h59, h⟩
    ·obtain ⟨u60, h61, h⟩ := andThen_some h
     rcases fork_some h with ⟨h62, h⟩ | ⟨h62, h⟩
     ·obtain ⟨u63, h64, h⟩ := andThen_some h
      rcases fork_some h with ⟨h65, h⟩ | ⟨h65, h⟩
      ·obtain ⟨u66, h67, h⟩ := andThen_some h
       injection h with h; subst h
       exact env.fun func7 can7 (its := [.call [none] [] [] true (affiantkeep_Pairs_R a0 u1) (affiantkeep_Pairs_O a0 u1), .pre p47, .asis, .call [none] [] [] true (affiantkeep_Query_Query_R a1 u3) (affiantkeep_Query_Query_O a1 u3), .asis, .call [none] [] [] true (affiantkeep_Query_Query_R a2 u5) (affiantkeep_Query_Query_O a2 u5), .pre p48, .call [none, none, none, none] [] [0] false (affiantref16_Answer_R (1 : Int) u3 (3 : Int) u1 u7) (affiantref16_Answer_O (1 : Int) u3 (3 : Int) u1 u7), .asis, .call [none, none, none, none] [] [0] false (affiantref16_Answer_R (1 : Int) u5 (3 : Int) u1 u9) (affiantref16_Answer_O (1 : Int) u5 (3 : Int) u1 u9), .asis, .call [none, none, none, none, none] [] [] false (affiantkeep_Response_R u7 u9 a3 a4 a5 u11) (affiantkeep_Response_O u7 u9 a3 a4 a5 u11), b1, .call [none] [] [] false (affiantkeep_Tame_R a6 u14) (affiantkeep_Tame_O a6 u14), .call [none] [] [3] true (affiantref1_StoreRoot_R u1 u16) (affiantref1_StoreRoot_O u1 u16), b1, b1, b1, b1, b0, b0, b0, b0, b0, .pre p49, .asis, .call [none, none, none] [] [] true (admit_Check_R u3 u16 u14 u55) (admit_Check_O u3 u16 u14 u55), .asis, .call [none, none, none] [] [] true (affiantref16_Admit_R u3 u16 u14 u57) (affiantref16_Admit_O u3 u16 u14 u57), b1, b1, .asis, .call [none] [] [] true (admit_Right_R u14 u60) (admit_Right_O u14 u60), b1, b1, b1, b1, b1, b1, b1, b1, b1, b1, b0, b0, b0, b1, b0, b1, b1, b1, b1, .asis, .call [none] [] [] true (admit_Cost_R u14 u63) (admit_Cost_O u14 u63), b1, b1, b1, b1, .asis, .call [] [] [] true (affiantlaw17_AdmitRuns_R u66) (affiantlaw17_AdmitRuns_O u66), b1]) (pos := [.sel []]) (.c (affiantkeep_Pairs_ok a0 u1 h2) (.c rn (.c (affiantkeep_Query_Query_ok a1 u3 h4) (.c rn (.c (affiantkeep_Query_Query_ok a2 u5 h6) (.c (affiantref16_Answer_ok (1 : Int) u3 (3 : Int) u1 u7 h8) (.c (rfl : ([.row Y18c3 u1 false] : List AObj) = [.row Y18c3 u1 false]) (.c (affiantref16_Answer_ok (1 : Int) u5 (3 : Int) u1 u9 h10) (.c rn (.c (affiantkeep_Response_ok u7 u9 a3 a4 a5 u11 h12) (.c h13 (.c (affiantkeep_Tame_ok a6 u14 h15) (.c (affiantref1_StoreRoot_ok u1 u16 h17) (.c h18 (.c h18 (.c h18 (.c h18 (.c h19 (.c h19 (.c h19 (.c h19 (.c r0 (.c rn (.c (admit_Check_ok u3 u16 u14 u55 h56) (.c rn (.c (affiantref16_Admit_ok u3 u16 u14 u57 h58) (.c h59 (.c h59 (.c rn (.c (admit_Right_ok u14 u60 h61) (.c h59 (.c h59 (.c h59 (.c h59 (.c h18 (.c h18 (.c h18 (.c h59 (.c h18 (.c h59 (.c h19 (.c h19 (.c h19 (.c h59 (.c h19 (.c h59 (.c h59 (.c h62 (.c h62 (.c rn (.c (admit_Cost_ok u14 u63 h64) (.c h62 (.c h62 (.c h62 (.c h65 (.c rn (.c (affiantlaw17_AdmitRuns_ok u66 h67) (.c h65 .n)))))))))))))))))))))))))))))))))))))))))))))))))))))))))) (by kernel_rfl)
      ·cases h
     ·cases h
    ·cases h
  ·obtain ⟨u68, h69, h⟩ := andThen_some h
   obtain ⟨u70, h71, h⟩ := andThen_some h
   rcases fork_some h with ⟨h72, h⟩ | ⟨h72, h⟩
   ·obtain ⟨u73, h74, h⟩ := andThen_some h
    rcases fork_some h with ⟨h75, h⟩ | ⟨h75, h⟩
    ·obtain ⟨u76, h77, h⟩ := andThen_some h
     rcases fork_some h with ⟨h78, h⟩ | ⟨h78, h⟩
     ·obtain ⟨u79, h80, h⟩ := andThen_some h
      injection h with h; subst h
      exact env.fun func7 can7 (its := [.call [none] [] [] true (affiantkeep_Pairs_R a0 u1) (affiantkeep_Pairs_O a0 u1), .pre p47, .asis, .call [none] [] [] true (affiantkeep_Query_Query_R a1 u3) (affiantkeep_Query_Query_O a1 u3), .asis, .call [none] [] [] true (affiantkeep_Query_Query_R a2 u5) (affiantkeep_Query_Query_O a2 u5), .pre p48, .call [none, none, none, none] [] [0] false (affiantref16_Answer_R (1 : Int) u3 (3 : Int) u1 u7) (affiantref16_Answer_O (1 : Int) u3 (3 : Int) u1 u7), .asis, .call [none, none, none, none] [] [0] false (affiantref16_Answer_R (1 : Int) u5 (3 : Int) u1 u9) (affiantref16_Answer_O (1 : Int) u5 (3 : Int) u1 u9), .asis, .call [none, none, none, none, none] [] [] false (affiantkeep_Response_R u7 u9 a3 a4 a5 u11) (affiantkeep_Response_O u7 u9 a3 a4 a5 u11), b1, .call [none] [] [] false (affiantkeep_Tame_R a6 u14) (affiantkeep_Tame_O a6 u14), .call [none] [] [3] true (affiantref1_StoreRoot_R u1 u16) (affiantref1_StoreRoot_O u1 u16), b0, b0, b0, b0, b0, b0, b0, b0, b0, .pre p49, .asis, .call [none, none, none] [] [] true (admit_Check_R u3 u16 u14 u68) (admit_Check_O u3 u16 u14 u68), .asis, .call [none, none, none] [] [] true (affiantref16_Admit_R u3 u16 u14 u70) (affiantref16_Admit_O u3 u16 u14 u70), b1, b1, .asis, .call [none] [] [] true (admit_Right_R u14 u73) (admit_Right_O u14 u73), b1, b1, b1, b1, b0, b0, b0, b1, b0, b1, b0, b0, b0, b1, b0, b1, b1, b1, b1, .asis, .call [none] [] [] true (admit_Cost_R u14 u76) (admit_Cost_O u14 u76), b1, b1, b1, b1, .asis, .call [] [] [] true (affiantlaw17_AdmitRuns_R u79) (affiantlaw17_AdmitRuns_O u79), b1]) (pos := [.sel []]) (.c (affiantkeep_Pairs_ok a0 u1 h2) (.c rn (.c (affiantkeep_Query_Query_ok a1 u3 h4) (.c rn (.c (affiantkeep_Query_Query_ok a2 u5 h6) (.c (affiantref16_Answer_ok (1 : Int) u3 (3 : Int) u1 u7 h8) (.c (rfl : ([.row Y18c3 u1 false] : List AObj) = [.row Y18c3 u1 false]) (.c (affiantref16_Answer_ok (1 : Int) u5 (3 : Int) u1 u9 h10) (.c rn (.c (affiantkeep_Response_ok u7 u9 a3 a4 a5 u11 h12) (.c h13 (.c (affiantkeep_Tame_ok a6 u14 h15) (.c (affiantref1_StoreRoot_ok u1 u16 h17) (.c h18 (.c h18 (.c h18 (.c h18 (.c r0 (.c r0 (.c r0 (.c r0 (.c r0 (.c rn (.c (admit_Check_ok u3 u16 u14 u68 h69) (.c rn (.c (affiantref16_Admit_ok u3 u16 u14 u70 h71) (.c h72 (.c h72 (.c rn (.c (admit_Right_ok u14 u73 h74) (.c h72 (.c h72 (.c h72 (.c h72 (.c h18 (.c h18 (.c h18 (.c h72 (.c h18 (.c h72 (.c r0 (.c r0 (.c r0 (.c h72 (.c r0 (.c h72 (.c h72 (.c h75 (.c h75 (.c rn (.c (admit_Cost_ok u14 u76 h77) (.c h75 (.c h75 (.c h75 (.c h78 (.c rn (.c (affiantlaw17_AdmitRuns_ok u79 h80) (.c h78 .n)))))))))))))))))))))))))))))))))))))))))))))))))))))))))) (by kernel_rfl)
     ·cases h
    ·cases h
   ·cases h
 ·obtain ⟨u81, h82, h⟩ := andThen_some h
  rcases fork_some h with ⟨h83, h⟩ | ⟨h83, h⟩
  ·rcases fork_some h with ⟨h84, h⟩ | ⟨h84, h⟩
   ·obtain ⟨u85, h86, h⟩ := andThen_some h
    rcases fork_some h with ⟨h87, h⟩ | ⟨h87, h⟩
    ·obtain ⟨u88, h89, h⟩ := andThen_some h
     obtain ⟨u90, h91, h⟩ := andThen_some h
     obtain ⟨u92, h93, h⟩ := andThen_some h
     rcases fork_some h with ⟨h94, h⟩ | ⟨h94, h⟩
     ·obtain ⟨u95, h96, h⟩ := andThen_some h
      obtain ⟨u97, h98, h⟩ := andThen_some h
      rcases fork_some h with ⟨h99, h⟩ | ⟨h99, h⟩
      ·obtain ⟨u100, h101, h⟩ := andThen_some h
       rcases fork_some h with ⟨h102, h⟩ | ⟨h102, h⟩
       ·obtain ⟨u103, h104, h⟩ := andThen_some h
        injection h with h; subst h
        exact env.fun func7 can7 (its := [.call [none] [] [] true (affiantkeep_Pairs_R a0 u1) (affiantkeep_Pairs_O a0 u1), .pre p47, .asis, .call [none] [] [] true (affiantkeep_Query_Query_R a1 u3) (affiantkeep_Query_Query_O a1 u3), .asis, .call [none] [] [] true (affiantkeep_Query_Query_R a2 u5) (affiantkeep_Query_Query_O a2 u5), .pre p48, .call [none, none, none, none] [] [0] false (affiantref16_Answer_R (1 : Int) u3 (3 : Int) u1 u7) (affiantref16_Answer_O (1 : Int) u3 (3 : Int) u1 u7), .asis, .call [none, none, none, none] [] [0] false (affiantref16_Answer_R (1 : Int) u5 (3 : Int) u1 u9) (affiantref16_Answer_O (1 : Int) u5 (3 : Int) u1 u9), .asis, .call [none, none, none, none, none] [] [] false (affiantkeep_Response_R u7 u9 a3 a4 a5 u11) (affiantkeep_Response_O u7 u9 a3 a4 a5 u11), b0, .call [none] [] [3] true (affiantref1_StoreRoot_R u1 u81) (affiantref1_StoreRoot_O u1 u81), b1, b1, b1, b1, b1, b1, b1, .call [none] [] [] true (affiantref1_RightPairs_R u11.2.2.1 u85) (affiantref1_RightPairs_O u11.2.2.1 u85), b1, b1, .call [none] [] [] true (check_Cost_R u11.2.2.2.1 u88) (check_Cost_O u11.2.2.2.1 u88), .pre p49, .asis, .call [none, none, none] [] [] true (admit_Check_R u3 u81 u11 u90) (admit_Check_O u3 u81 u11 u90), .asis, .call [none, none, none] [] [] true (affiantref16_Admit_R u3 u81 u11 u92) (affiantref16_Admit_O u3 u81 u11 u92), b1, b1, .asis, .call [none] [] [] true (admit_Right_R u11 u95) (admit_Right_O u11 u95), b1, b1, b1, b1, b1, b1, b1, b1, b1, b1, b1, b1, b1, .asis, .call [none] [] [] true (affiantref1_RightPairs_R u11.2.2.1 u97) (affiantref1_RightPairs_O u11.2.2.1 u97), b1, b1, b1, b1, b1, b1, .asis, .call [none] [] [] true (admit_Cost_R u11 u100) (admit_Cost_O u11 u100), b1, b1, b1, b1, .asis, .call [] [] [] true (affiantlaw17_AdmitRuns_R u103) (affiantlaw17_AdmitRuns_O u103), b1]) (pos := [.sel []]) (.c (affiantkeep_Pairs_ok a0 u1 h2) (.c rn (.c (affiantkeep_Query_Query_ok a1 u3 h4) (.c rn (.c (affiantkeep_Query_Query_ok a2 u5 h6) (.c (affiantref16_Answer_ok (1 : Int) u3 (3 : Int) u1 u7 h8) (.c (rfl : ([.row Y18c3 u1 false] : List AObj) = [.row Y18c3 u1 false]) (.c (affiantref16_Answer_ok (1 : Int) u5 (3 : Int) u1 u9 h10) (.c rn (.c (affiantkeep_Response_ok u7 u9 a3 a4 a5 u11 h12) (.c h13 (.c (affiantref1_StoreRoot_ok u1 u81 h82) (.c h83 (.c h83 (.c h83 (.c h83 (.c h84 (.c h84 (.c h84 (.c (affiantref1_RightPairs_ok u11.2.2.1 u85 h86) (.c h84 (.c h87 (.c (check_Cost_ok u11.2.2.2.1 u88 h89) (.c rn (.c (admit_Check_ok u3 u81 u11 u90 h91) (.c rn (.c (affiantref16_Admit_ok u3 u81 u11 u92 h93) (.c h94 (.c h94 (.c rn (.c (admit_Right_ok u11 u95 h96) (.c h94 (.c h94 (.c h94 (.c h94 (.c h83 (.c h83 (.c h83 (.c h94 (.c h83 (.c h94 (.c h84 (.c h84 (.c h84 (.c rn (.c (affiantref1_RightPairs_ok u11.2.2.1 u97 h98) (.c h94 (.c h84 (.c h94 (.c h94 (.c h99 (.c h99 (.c rn (.c (admit_Cost_ok u11 u100 h101) (.c h99 (.c h99 (.c h99 (.c h102 (.c rn (.c (affiantlaw17_AdmitRuns_ok u103 h104) (.c h102 .n))))))))))))))))))))))))))))))))))))))))))))))))))))))))))))) (by kernel_rfl)
       ·cases h
      ·cases h
     ·cases h
    ·obtain ⟨u105, h106, h⟩ := andThen_some h
     obtain ⟨u107, h108, h⟩ := andThen_some h
     rcases fork_some h with ⟨h109, h⟩ | ⟨h109, h⟩
     ·obtain ⟨u110, h111, h⟩ := andThen_some h
      obtain ⟨u112, h113, h⟩ := andThen_some h
      rcases fork_some h with ⟨h114, h⟩ | ⟨h114, h⟩
      ·obtain ⟨u115, h116, h⟩ := andThen_some h
       rcases fork_some h with ⟨h117, h⟩ | ⟨h117, h⟩
       ·obtain ⟨u118, h119, h⟩ := andThen_some h
        injection h with h; subst h
        exact env.fun func7 can7 (its := [.call [none] [] [] true (affiantkeep_Pairs_R a0 u1) (affiantkeep_Pairs_O a0 u1), .pre p47, .asis, .call [none] [] [] true (affiantkeep_Query_Query_R a1 u3) (affiantkeep_Query_Query_O a1 u3), .asis, .call [none] [] [] true (affiantkeep_Query_Query_R a2 u5) (affiantkeep_Query_Query_O a2 u5), .pre p48, .call [none, none, none, none] [] [0] false (affiantref16_Answer_R (1 : Int) u3 (3 : Int) u1 u7) (affiantref16_Answer_O (1 : Int) u3 (3 : Int) u1 u7), .asis, .call [none, none, none, none] [] [0] false (affiantref16_Answer_R (1 : Int) u5 (3 : Int) u1 u9) (affiantref16_Answer_O (1 : Int) u5 (3 : Int) u1 u9), .asis, .call [none, none, none, none, none] [] [] false (affiantkeep_Response_R u7 u9 a3 a4 a5 u11) (affiantkeep_Response_O u7 u9 a3 a4 a5 u11), b0, .call [none] [] [3] true (affiantref1_StoreRoot_R u1 u81) (affiantref1_StoreRoot_O u1 u81), b1, b1, b1, b1, b1, b1, b1, .call [none] [] [] true (affiantref1_RightPairs_R u11.2.2.1 u85) (affiantref1_RightPairs_O u11.2.2.1 u85), b1, b0, .pre p49, .asis, .call [none, none, none] [] [] true (admit_Check_R u3 u81 u11 u105) (admit_Check_O u3 u81 u11 u105), .asis, .call [none, none, none] [] [] true (affiantref16_Admit_R u3 u81 u11 u107) (affiantref16_Admit_O u3 u81 u11 u107), b1, b1, .asis, .call [none] [] [] true (admit_Right_R u11 u110) (admit_Right_O u11 u110), b1, b1, b1, b1, b1, b1, b1, b1, b1, b1, b1, b1, b1, .asis, .call [none] [] [] true (affiantref1_RightPairs_R u11.2.2.1 u112) (affiantref1_RightPairs_O u11.2.2.1 u112), b1, b1, b1, b1, b1, b1, .asis, .call [none] [] [] true (admit_Cost_R u11 u115) (admit_Cost_O u11 u115), b1, b1, b1, b1, .asis, .call [] [] [] true (affiantlaw17_AdmitRuns_R u118) (affiantlaw17_AdmitRuns_O u118), b1]) (pos := [.sel []]) (.c (affiantkeep_Pairs_ok a0 u1 h2) (.c rn (.c (affiantkeep_Query_Query_ok a1 u3 h4) (.c rn (.c (affiantkeep_Query_Query_ok a2 u5 h6) (.c (affiantref16_Answer_ok (1 : Int) u3 (3 : Int) u1 u7 h8) (.c (rfl : ([.row Y18c3 u1 false] : List AObj) = [.row Y18c3 u1 false]) (.c (affiantref16_Answer_ok (1 : Int) u5 (3 : Int) u1 u9 h10) (.c rn (.c (affiantkeep_Response_ok u7 u9 a3 a4 a5 u11 h12) (.c h13 (.c (affiantref1_StoreRoot_ok u1 u81 h82) (.c h83 (.c h83 (.c h83 (.c h83 (.c h84 (.c h84 (.c h84 (.c (affiantref1_RightPairs_ok u11.2.2.1 u85 h86) (.c h84 (.c h87 (.c rn (.c (admit_Check_ok u3 u81 u11 u105 h106) (.c rn (.c (affiantref16_Admit_ok u3 u81 u11 u107 h108) (.c h109 (.c h109 (.c rn (.c (admit_Right_ok u11 u110 h111) (.c h109 (.c h109 (.c h109 (.c h109 (.c h83 (.c h83 (.c h83 (.c h109 (.c h83 (.c h109 (.c h84 (.c h84 (.c h84 (.c rn (.c (affiantref1_RightPairs_ok u11.2.2.1 u112 h113) (.c h109 (.c h84 (.c h109 (.c h109 (.c h114 (.c h114 (.c rn (.c (admit_Cost_ok u11 u115 h116) (.c h114 (.c h114 (.c h114 (.c h117 (.c rn (.c (affiantlaw17_AdmitRuns_ok u118 h119) (.c h117 .n)))))))))))))))))))))))))))))))))))))))))))))))))))))))))))) (by kernel_rfl)
       ·cases h
      ·cases h
     ·cases h
   ·obtain ⟨u120, h121, h⟩ := andThen_some h
    obtain ⟨u122, h123, h⟩ := andThen_some h
    rcases fork_some h with ⟨h124, h⟩ | ⟨h124, h⟩
    ·obtain ⟨u125, h126, h⟩ := andThen_some h
     rcases fork_some h with ⟨h127, h⟩ | ⟨h127, h⟩
     ·obtain ⟨u128, h129, h⟩ := andThen_some h
      rcases fork_some h with ⟨h130, h⟩ | ⟨h130, h⟩
      ·obtain ⟨u131, h132, h⟩ := andThen_some h
       injection h with h; subst h
       exact env.fun func7 can7 (its := [.call [none] [] [] true (affiantkeep_Pairs_R a0 u1) (affiantkeep_Pairs_O a0 u1), .pre p47, .asis, .call [none] [] [] true (affiantkeep_Query_Query_R a1 u3) (affiantkeep_Query_Query_O a1 u3), .asis, .call [none] [] [] true (affiantkeep_Query_Query_R a2 u5) (affiantkeep_Query_Query_O a2 u5), .pre p48, .call [none, none, none, none] [] [0] false (affiantref16_Answer_R (1 : Int) u3 (3 : Int) u1 u7) (affiantref16_Answer_O (1 : Int) u3 (3 : Int) u1 u7), .asis, .call [none, none, none, none] [] [0] false (affiantref16_Answer_R (1 : Int) u5 (3 : Int) u1 u9) (affiantref16_Answer_O (1 : Int) u5 (3 : Int) u1 u9), .asis, .call [none, none, none, none, none] [] [] false (affiantkeep_Response_R u7 u9 a3 a4 a5 u11) (affiantkeep_Response_O u7 u9 a3 a4 a5 u11), b0, .call [none] [] [3] true (affiantref1_StoreRoot_R u1 u81) (affiantref1_StoreRoot_O u1 u81), b1, b1, b1, b1, b0, b0, b0, b0, b0, .pre p49, .asis, .call [none, none, none] [] [] true (admit_Check_R u3 u81 u11 u120) (admit_Check_O u3 u81 u11 u120), .asis, .call [none, none, none] [] [] true (affiantref16_Admit_R u3 u81 u11 u122) (affiantref16_Admit_O u3 u81 u11 u122), b1, b1, .asis, .call [none] [] [] true (admit_Right_R u11 u125) (admit_Right_O u11 u125), b1, b1, b1, b1, b1, b1, b1, b1, b1, b1, b0, b0, b0, b1, b0, b1, b1, b1, b1, .asis, .call [none] [] [] true (admit_Cost_R u11 u128) (admit_Cost_O u11 u128), b1, b1, b1, b1, .asis, .call [] [] [] true (affiantlaw17_AdmitRuns_R u131) (affiantlaw17_AdmitRuns_O u131), b1]) (pos := [.sel []]) (.c (affiantkeep_Pairs_ok a0 u1 h2) (.c rn (.c (affiantkeep_Query_Query_ok a1 u3 h4) (.c rn (.c (affiantkeep_Query_Query_ok a2 u5 h6) (.c (affiantref16_Answer_ok (1 : Int) u3 (3 : Int) u1 u7 h8) (.c (rfl : ([.row Y18c3 u1 false] : List AObj) = [.row Y18c3 u1 false]) (.c (affiantref16_Answer_ok (1 : Int) u5 (3 : Int) u1 u9 h10) (.c rn (.c (affiantkeep_Response_ok u7 u9 a3 a4 a5 u11 h12) (.c h13 (.c (affiantref1_StoreRoot_ok u1 u81 h82) (.c h83 (.c h83 (.c h83 (.c h83 (.c h84 (.c h84 (.c h84 (.c h84 (.c r0 (.c rn (.c (admit_Check_ok u3 u81 u11 u120 h121) (.c rn (.c (affiantref16_Admit_ok u3 u81 u11 u122 h123) (.c h124 (.c h124 (.c rn (.c (admit_Right_ok u11 u125 h126) (.c h124 (.c h124 (.c h124 (.c h124 (.c h83 (.c h83 (.c h83 (.c h124 (.c h83 (.c h124 (.c h84 (.c h84 (.c h84 (.c h124 (.c h84 (.c h124 (.c h124 (.c h127 (.c h127 (.c rn (.c (admit_Cost_ok u11 u128 h129) (.c h127 (.c h127 (.c h127 (.c h130 (.c rn (.c (affiantlaw17_AdmitRuns_ok u131 h132) (.c h130 .n))))))))))))))))))))))))))))))))))))))))))))))))))))))))) (by kernel_rfl)
      ·cases h
     ·cases h
    ·cases h
  ·obtain ⟨u133, h134, h⟩ := andThen_some h
   obtain ⟨u135, h136, h⟩ := andThen_some h
   rcases fork_some h with ⟨h137, h⟩ | ⟨h137, h⟩
   ·obtain ⟨u138, h139, h⟩ := andThen_some h
    rcases fork_some h with ⟨h140, h⟩ | ⟨h140, h⟩
    ·obtain ⟨u141, h142, h⟩ := andThen_some h
     rcases fork_some h with ⟨h143, h⟩ | ⟨h143, h⟩
     ·obtain ⟨u144, h145, h⟩ := andThen_some h
      injection h with h; subst h
      exact env.fun func7 can7 (its := [.call [none] [] [] true (affiantkeep_Pairs_R a0 u1) (affiantkeep_Pairs_O a0 u1), .pre p47, .asis, .call [none] [] [] true (affiantkeep_Query_Query_R a1 u3) (affiantkeep_Query_Query_O a1 u3), .asis, .call [none] [] [] true (affiantkeep_Query_Query_R a2 u5) (affiantkeep_Query_Query_O a2 u5), .pre p48, .call [none, none, none, none] [] [0] false (affiantref16_Answer_R (1 : Int) u3 (3 : Int) u1 u7) (affiantref16_Answer_O (1 : Int) u3 (3 : Int) u1 u7), .asis, .call [none, none, none, none] [] [0] false (affiantref16_Answer_R (1 : Int) u5 (3 : Int) u1 u9) (affiantref16_Answer_O (1 : Int) u5 (3 : Int) u1 u9), .asis, .call [none, none, none, none, none] [] [] false (affiantkeep_Response_R u7 u9 a3 a4 a5 u11) (affiantkeep_Response_O u7 u9 a3 a4 a5 u11), b0, .call [none] [] [3] true (affiantref1_StoreRoot_R u1 u81) (affiantref1_StoreRoot_O u1 u81), b0, b0, b0, b0, b0, b0, b0, b0, b0, .pre p49, .asis, .call [none, none, none] [] [] true (admit_Check_R u3 u81 u11 u133) (admit_Check_O u3 u81 u11 u133), .asis, .call [none, none, none] [] [] true (affiantref16_Admit_R u3 u81 u11 u135) (affiantref16_Admit_O u3 u81 u11 u135), b1, b1, .asis, .call [none] [] [] true (admit_Right_R u11 u138) (admit_Right_O u11 u138), b1, b1, b1, b1, b0, b0, b0, b1, b0, b1, b0, b0, b0, b1, b0, b1, b1, b1, b1, .asis, .call [none] [] [] true (admit_Cost_R u11 u141) (admit_Cost_O u11 u141), b1, b1, b1, b1, .asis, .call [] [] [] true (affiantlaw17_AdmitRuns_R u144) (affiantlaw17_AdmitRuns_O u144), b1]) (pos := [.sel []]) (.c (affiantkeep_Pairs_ok a0 u1 h2) (.c rn (.c (affiantkeep_Query_Query_ok a1 u3 h4) (.c rn (.c (affiantkeep_Query_Query_ok a2 u5 h6) (.c (affiantref16_Answer_ok (1 : Int) u3 (3 : Int) u1 u7 h8) (.c (rfl : ([.row Y18c3 u1 false] : List AObj) = [.row Y18c3 u1 false]) (.c (affiantref16_Answer_ok (1 : Int) u5 (3 : Int) u1 u9 h10) (.c rn (.c (affiantkeep_Response_ok u7 u9 a3 a4 a5 u11 h12) (.c h13 (.c (affiantref1_StoreRoot_ok u1 u81 h82) (.c h83 (.c h83 (.c h83 (.c h83 (.c r0 (.c r0 (.c r0 (.c r0 (.c r0 (.c rn (.c (admit_Check_ok u3 u81 u11 u133 h134) (.c rn (.c (affiantref16_Admit_ok u3 u81 u11 u135 h136) (.c h137 (.c h137 (.c rn (.c (admit_Right_ok u11 u138 h139) (.c h137 (.c h137 (.c h137 (.c h137 (.c h83 (.c h83 (.c h83 (.c h137 (.c h83 (.c h137 (.c r0 (.c r0 (.c r0 (.c h137 (.c r0 (.c h137 (.c h137 (.c h140 (.c h140 (.c rn (.c (admit_Cost_ok u11 u141 h142) (.c h140 (.c h140 (.c h140 (.c h143 (.c rn (.c (affiantlaw17_AdmitRuns_ok u144 h145) (.c h143 .n))))))))))))))))))))))))))))))))))))))))))))))))))))))))) (by kernel_rfl)
     ·cases h
    ·cases h
   ·cases h
end
end Go.Proofs.Ytmgmncfhldelfaa.admitTells
