/-
  The functions, walked through: each call comes to what the pure text says.
-/
import Derived.Test.YtdiacaflcfiomaaProg
import Derived.Test.YtdiacaflcfiomaaAxC
import Derived.Test.YtdiacaflcfiomaaCStoreRunsP
namespace Go.Proofs.Ytdiacaflcfiomaa.storeRuns
open Go.Ax Go.Ax.V Go.Proofs.Try
set_option maxRecDepth 100000
set_option linter.unusedVariables false
noncomputable section
abbrev Y18c3 : Ty := (.fld .str (.fld .str .unit))
abbrev Z18c3 := (([] : B8), ([] : B8), ())
abbrev Y484d : Ty := (.fld .str (.fld (.int .i64) (.fld (.arr 32 (.int .u8)) .unit)))
abbrev Y5e52 : Ty := (.fld (.slice Y18c3) (.fld (.int .i64) (.fld (.slice (.slice Y18c3)) .unit)))
abbrev Y20c7 : Ty := (.fld (.int .i64) (.fld (.int .i64) (.fld (.slice Y18c3) (.fld (.slice (.slice (.arr 32 (.int .u8)))) .unit))))
abbrev rg := List.range
abbrev b0 : It := .br false
abbrev b1 : It := .br true
theorem r0 : (false : Bool) = false := rfl
theorem r1 : (true : Bool) = true := rfl
theorem rn : ([] : List AObj) = [] := rfl
abbrev p0 : List (List Nat) := [[], [], [0, 1], [], [3], [], [], [6], [5, 6, 7], (rg 9), (rg 10), (rg 11), (rg 12)]
abbrev p1 : List (List Nat) := [[], [], [0, 1], [], [3], [], [], [5, 6], (rg 8), (rg 9), (rg 10), (rg 11)]
abbrev p2 : List (List Nat) := [[], [0], [0, 1], [0, 1, 2], [], (rg 5), (rg 6), (rg 7), (rg 7), (rg 8), (rg 10)]
abbrev p3 : List (List Nat) := [[], [], [0, 1], [], [], [4], [3, 4, 5], (rg 7), (rg 8), (rg 9)]
abbrev p4 : List (List Nat) := [[], [0], [0, 1], [0, 1, 2], [], [4], [4, 5], [4, 5, 6], [4, 5, 6, 7], (rg 9), (rg 10), (rg 11)]
abbrev p5 : List (List Nat) := [[], [0], [0, 1], [0, 1, 2], [], [], [5], [4, 5, 6], (rg 8), (rg 9), (rg 10), (rg 11), (rg 12)]
def T : Tab := [(3, (.int .i64), 8), (4, .bool, 1), (5, (.int .u8), 1), (9, .str, 16), (22, .ptr, 8), (26, Y18c3, 32), (29, (.slice Y18c3), 24), (33, (.slice Y484d), 24), (34, (.slice (.int .i64)), 24), (37, (.slice .str), 24), (38, .mp, 8), (40, (.arr 32 (.int .u8)), 32), (42, Y484d, 56), (46, .cplx, 16), (50, .flt, 8), (56, (.slice (.slice (.arr 32 (.int .u8)))), 24), (58, Y20c7, 64), (66, (.slice (.arr 32 (.int .u8))), 24), (68, (.slice (.slice (.int .u8))), 24), (76, (.slice (.slice Y18c3)), 24), (78, Y5e52, 56), (87, (.slice (.int .u8)), 24), (97, .mp, 8), (109, (.int .u64), 8), (116, (.int .u32), 4), (117, (.arr 8 (.int .u32)), 32), (119, (.arr 64 (.int .u32)), 256), (125, (.slice (.int .u32)), 24), (127, (.int .u64), 8)]
theorem tab : TabOK prog T := tab_of_b (by kernel_rfl)
theorem bytes : bytesB T = true := by kernel_rfl
theorem mix : prog.follows .mixedOrders = true := by kernel_rfl
theorem eqs : eqTypes prog T [26, 40, 42] = true := by kernel_rfl
theorem env : Env prog T [26, 40, 42] := ⟨tab, eqs, mix⟩
theorem can11 : Callable prog 11 := ⟨_, func11, by kernel_rfl, by kernel_rfl⟩
def store_New_R  (u : T5e52) : Slot := (.ptr 0 [])
def store_New_O  (u : T5e52) : List AObj := [.box Y5e52 (.v Y5e52 u) true]
theorem store_New_ok  (u : T5e52) (h : store_New  = some u) : CallC prog 11 [] [] (store_New_R u) (store_New_O u) := by
 unfold store_New at h
 injection h with h; subst h
 exact env.fun func11 can11 (its := []) (pos := [.sel [0]]) .n (by kernel_rfl)
def bytealg_cmpstring_R (a0 a1 : B8) (u : Int) : Slot := .v (.int .i64) u
def bytealg_cmpstring_O (a0 a1 : B8) (u : Int) : List AObj := []
theorem bytealg_cmpstring_ok (a0 a1 : B8) (u : Int) (h : bytealg_cmpstring a0 a1 = some u) : CallC prog 102 [.v .str a0, .v .str a1] [] (bytealg_cmpstring_R a0 a1 u) (bytealg_cmpstring_O a0 a1 u) := by
 injection h with h; subst h
 exact CallC.cmp ⟨func102, by kernel_rfl, by kernel_rfl, by kernel_rfl, by kernel_rfl⟩ a0 a1
theorem can97 : Callable prog 97 := ⟨_, func97, by kernel_rfl, by kernel_rfl⟩
def bytealg_CompareString_R (a0 : B8) (a1 : B8) (u : Int) : Slot := (.v (.int .i64) u)
def bytealg_CompareString_O (a0 : B8) (a1 : B8) (u : Int) : List AObj := []
theorem bytealg_CompareString_ok (a0 : B8) (a1 : B8) (u : Int) (h : bytealg_CompareString a0 a1 = some u) : CallC prog 97 [(.v .str a0), (.v .str a1)] [] (bytealg_CompareString_R a0 a1 u) (bytealg_CompareString_O a0 a1 u) := by
 unfold bytealg_CompareString at h
 obtain ⟨u1, h2, h⟩ := andThen_some h
 injection h with h; subst h
 exact env.fun func97 can97 (its := [.call [none, none] [] [] true (bytealg_cmpstring_R a0 a1 u1) (bytealg_cmpstring_O a0 a1 u1)]) (pos := [.sel []]) (.c (bytealg_cmpstring_ok a0 a1 u1 h2) .n) (by kernel_rfl)
theorem can89 : Callable prog 89 := ⟨_, func89, by kernel_rfl, by kernel_rfl⟩
def strings_Compare_R (a0 : B8) (a1 : B8) (u : Int) : Slot := (.v (.int .i64) u)
def strings_Compare_O (a0 : B8) (a1 : B8) (u : Int) : List AObj := []
theorem strings_Compare_ok (a0 : B8) (a1 : B8) (u : Int) (h : strings_Compare a0 a1 = some u) : CallC prog 89 [(.v .str a0), (.v .str a1)] [] (strings_Compare_R a0 a1 u) (strings_Compare_O a0 a1 u) := by
 unfold strings_Compare at h
 obtain ⟨u1, h2, h⟩ := andThen_some h
 injection h with h; subst h
 exact env.fun func89 can89 (its := [.call [none, none] [] [] true (bytealg_CompareString_R a0 a1 u1) (bytealg_CompareString_O a0 a1 u1)]) (pos := [.sel []]) (.c (bytealg_CompareString_ok a0 a1 u1 h2) .n) (by kernel_rfl)
theorem can88 : Callable prog 88 := ⟨_, func88, by kernel_rfl, by kernel_rfl⟩
def kv_placeF1_R (a0 : T18c3) (a1 : B8) (u : Int) : Slot := (.v (.int .i64) u)
def kv_placeF1_O (a0 : T18c3) (a1 : B8) (u : Int) : List AObj := []
theorem kv_placeF1_ok (a0 : T18c3) (a1 : B8) (u : Int) (h : kv_placeF1 a0 a1 = some u) : CallC prog 88 [(.v Y18c3 a0), (.v .str a1)] [] (kv_placeF1_R a0 a1 u) (kv_placeF1_O a0 a1 u) := by
 unfold kv_placeF1 at h
 obtain ⟨u1, h2, h⟩ := andThen_some h
 injection h with h; subst h
 exact env.fun func88 can88 (its := [.call [none, none] [] [] true (strings_Compare_R a0.1 a1 u1) (strings_Compare_O a0.1 a1 u1)]) (pos := [.sel []]) (.c (strings_Compare_ok a0.1 a1 u1 h2) .n) (by kernel_rfl)
theorem can87 : Callable prog 87 := ⟨_, func87, by kernel_rfl, by kernel_rfl⟩
def slices_BinarySearchFunc_LPair_Pair_string_1a7a_1_in (x0 : List (T18c3)) (x1 : B8) (x2 : Int) (x3 : Int) (x4 : Int) : St := ⟨[(0, (.v (.slice Y18c3) x0)), (1, (.v .str x1)), (2, (.fn 88 .tnil)), (8, (.v (.int .i64) x2)), (9, (.v (.int .i64) x3)), (10, (.v (.int .i64) x4))], [], 49, 0⟩
def slices_BinarySearchFunc_LPair_Pair_string_1a7a_1_ex (o : (List (T18c3)) × B8 × Int × Int) : Exit := (.exit 0)
def slices_BinarySearchFunc_LPair_Pair_string_1a7a_1_st (o : (List (T18c3)) × B8 × Int × Int) : St := ⟨[(0, (.v (.slice Y18c3) o.1)), (1, (.v .str o.2.1)), (2, (.fn 88 .tnil)), (8, (.v (.int .i64) o.2.2.1)), (9, (.v (.int .i64) o.2.2.2))], [], 49, 0⟩
theorem slices_BinarySearchFunc_LPair_Pair_string_1a7a_1_body (x0 : List (T18c3)) (x1 : B8) (x2 : Int) (x3 : Int) (x4 : Int) : ∀ r, slices_BinarySearchFunc_LPair_Pair_string_1a7a_1_step x0 x1 x2 x3 x4 = some r → (match r with | .inl s => CodeOK prog (codeAt (bodyOf f87) [1, 1, 1, 0, 0, 0]) (slices_BinarySearchFunc_LPair_Pair_string_1a7a_1_in x0 x1 x2 x3 x4) .normal (slices_BinarySearchFunc_LPair_Pair_string_1a7a_1_in x0 x1 x2 s.1 s.2) | .inr o => slices_BinarySearchFunc_LPair_Pair_string_1a7a_1_ex o ≠ .normal ∧ CodeOK prog (codeAt (bodyOf f87) [1, 1, 1, 0, 0, 0]) (slices_BinarySearchFunc_LPair_Pair_string_1a7a_1_in x0 x1 x2 x3 x4) (slices_BinarySearchFunc_LPair_Pair_string_1a7a_1_ex o) (slices_BinarySearchFunc_LPair_Pair_string_1a7a_1_st o)) := by
 intro r h
 unfold slices_BinarySearchFunc_LPair_Pair_string_1a7a_1_step at h
 rcases fork_some h with ⟨h2, h⟩ | ⟨h2, h⟩
 ·obtain ⟨h3, h⟩ := need_some h
  obtain ⟨u4, h5, h⟩ := andThen_some h
  rcases fork_some h with ⟨h6, h⟩ | ⟨h6, h⟩
  ·injection h with h; subst h
   exact env.code (its := [b1, .call [none, none] [] [] true (kv_placeF1_R (List.getD x0 (Int.toNat (w64 ((UInt64.toNat (UInt64.ofNat (UInt64.toNat (UInt64.ofNat (Int.toNat ((w64 (x3 + x4)) % 18446744073709551616))) >>> (Int.toNat (1 : Int)))) : Nat) : Int))) Z18c3) x1 u4) (kv_placeF1_O (List.getD x0 (Int.toNat (w64 ((UInt64.toNat (UInt64.ofNat (UInt64.toNat (UInt64.ofNat (Int.toNat ((w64 (x3 + x4)) % 18446744073709551616))) >>> (Int.toNat (1 : Int)))) : Nat) : Int))) Z18c3) x1 u4), b1, .sel [0, 1, 2, 8, 9, 10] []]) (.c h2 (.c (of_decide_eq_true (p := (0 ≤ (1 : Int))) (by kernel_rfl)) (.c h3 (.c (kv_placeF1_ok (List.getD x0 (Int.toNat (w64 ((UInt64.toNat (UInt64.ofNat (UInt64.toNat (UInt64.ofNat (Int.toNat ((w64 (x3 + x4)) % 18446744073709551616))) >>> (Int.toNat (1 : Int)))) : Nat) : Int))) Z18c3) x1 u4 h5) (.c h6 .n))))) (by kernel_rfl)
  ·injection h with h; subst h
   exact env.code (its := [b1, .call [none, none] [] [] true (kv_placeF1_R (List.getD x0 (Int.toNat (w64 ((UInt64.toNat (UInt64.ofNat (UInt64.toNat (UInt64.ofNat (Int.toNat ((w64 (x3 + x4)) % 18446744073709551616))) >>> (Int.toNat (1 : Int)))) : Nat) : Int))) Z18c3) x1 u4) (kv_placeF1_O (List.getD x0 (Int.toNat (w64 ((UInt64.toNat (UInt64.ofNat (UInt64.toNat (UInt64.ofNat (Int.toNat ((w64 (x3 + x4)) % 18446744073709551616))) >>> (Int.toNat (1 : Int)))) : Nat) : Int))) Z18c3) x1 u4), b0, .sel [0, 1, 2, 8, 9, 10] []]) (.c h2 (.c (of_decide_eq_true (p := (0 ≤ (1 : Int))) (by kernel_rfl)) (.c h3 (.c (kv_placeF1_ok (List.getD x0 (Int.toNat (w64 ((UInt64.toNat (UInt64.ofNat (UInt64.toNat (UInt64.ofNat (Int.toNat ((w64 (x3 + x4)) % 18446744073709551616))) >>> (Int.toNat (1 : Int)))) : Nat) : Int))) Z18c3) x1 u4 h5) (.c h6 .n))))) (by kernel_rfl)
 ·injection h with h; subst h
  exact ⟨by intro e; simp [slices_BinarySearchFunc_LPair_Pair_string_1a7a_1_ex] at e, env.code (its := [b0, .sel [0, 1, 2, 8, 9] []]) (.c h2 .n) (by kernel_rfl)⟩
theorem slices_BinarySearchFunc_LPair_Pair_string_1a7a_1_ok (x0 : List (T18c3)) (x1 : B8) (x2 : Int) (x3 : Int) (x4 : Int) (o : (List (T18c3)) × B8 × Int × Int) (h : slices_BinarySearchFunc_LPair_Pair_string_1a7a_1 x0 x1 x2 x3 x4 = some o) : CodeOK prog (codeAt (bodyOf f87) [1, 1, 1, 0, 0]) (slices_BinarySearchFunc_LPair_Pair_string_1a7a_1_in x0 x1 x2 x3 x4) (slices_BinarySearchFunc_LPair_Pair_string_1a7a_1_ex o) (slices_BinarySearchFunc_LPair_Pair_string_1a7a_1_st o) :=
 LoopOK.of_step (st := fun s => slices_BinarySearchFunc_LPair_Pair_string_1a7a_1_in x0 x1 x2 s.1 s.2) (ex := slices_BinarySearchFunc_LPair_Pair_string_1a7a_1_ex) (stO := slices_BinarySearchFunc_LPair_Pair_string_1a7a_1_st) (fun s s2 hs => slices_BinarySearchFunc_LPair_Pair_string_1a7a_1_body x0 x1 x2 s.1 s.2 (.inl s2) hs) (fun s r hs => slices_BinarySearchFunc_LPair_Pair_string_1a7a_1_body x0 x1 x2 s.1 s.2 (.inr r) hs) _ o h
def slices_BinarySearchFunc_LPair_Pair_string_1a7a_R (a0 : List (T18c3)) (a1 : B8) (u : Int × Bool) : Slot := (.tup (.v (.int .i64) u.1) (.tup (.v .bool u.2) .tnil))
def slices_BinarySearchFunc_LPair_Pair_string_1a7a_O (a0 : List (T18c3)) (a1 : B8) (u : Int × Bool) : List AObj := []
theorem slices_BinarySearchFunc_LPair_Pair_string_1a7a_ok (a0 : List (T18c3)) (a1 : B8) (u : Int × Bool) (h : slices_BinarySearchFunc_LPair_Pair_string_1a7a a0 a1 = some u) : CallC prog 87 [(.v (.slice Y18c3) a0), (.v .str a1), (.fn 88 .tnil)] [] (slices_BinarySearchFunc_LPair_Pair_string_1a7a_R a0 a1 u) (slices_BinarySearchFunc_LPair_Pair_string_1a7a_O a0 a1 u) := by
 unfold slices_BinarySearchFunc_LPair_Pair_string_1a7a at h
 obtain ⟨o7, h8, h⟩ := andThen_some h
 rcases fork_some h with ⟨h9, h⟩ | ⟨h9, h⟩
 ·obtain ⟨h10, h⟩ := need_some h
  obtain ⟨u11, h12, h⟩ := andThen_some h
  injection h with h; subst h
  exact env.fun func87 can87 (its := [.dive, .sel [0, 1, 2, 8, 9, 10] [], .part (slices_BinarySearchFunc_LPair_Pair_string_1a7a_1_ex o7) (slices_BinarySearchFunc_LPair_Pair_string_1a7a_1_st o7), b1, b1, b1, b1, b1, b1, b1, .call [none, none] [] [] true (kv_placeF1_R (List.getD o7.1 (Int.toNat o7.2.2.2) Z18c3) o7.2.1 u11) (kv_placeF1_O (List.getD o7.1 (Int.toNat o7.2.2.2) Z18c3) o7.2.1 u11), b1, b1]) (pos := [.sel []]) (.c (slices_BinarySearchFunc_LPair_Pair_string_1a7a_1_ok a0 a1 (List.length a0 : Int) (0 : Int) (List.length a0 : Int) o7 h8) (.c h9 (.c h9 (.c h9 (.c h9 (.c h10 (.c h9 (.c h9 (.c h9 (.c (kv_placeF1_ok (List.getD o7.1 (Int.toNat o7.2.2.2) Z18c3) o7.2.1 u11 h12) (.c h9 (.c h9 .n)))))))))))) (by kernel_rfl)
 ·injection h with h; subst h
  exact env.fun func87 can87 (its := [.dive, .sel [0, 1, 2, 8, 9, 10] [], .part (slices_BinarySearchFunc_LPair_Pair_string_1a7a_1_ex o7) (slices_BinarySearchFunc_LPair_Pair_string_1a7a_1_st o7), b0, b0, b0, b0, b0, b0, b0, b0, b0]) (pos := [.sel []]) (.c (slices_BinarySearchFunc_LPair_Pair_string_1a7a_1_ok a0 a1 (List.length a0 : Int) (0 : Int) (List.length a0 : Int) o7 h8) (.c h9 (.c h9 (.c h9 (.c h9 (.c h9 (.c h9 (.c h9 (.c h9 (.c h9 .n)))))))))) (by kernel_rfl)
theorem can75 : Callable prog 75 := ⟨_, func75, by kernel_rfl, by kernel_rfl⟩
def kv_place_R (a0 : List (T18c3)) (a1 : B8) (u : Int × Bool) : Slot := (.tup (.v (.int .i64) u.1) (.tup (.v .bool u.2) .tnil))
def kv_place_O (a0 : List (T18c3)) (a1 : B8) (u : Int × Bool) : List AObj := []
theorem kv_place_ok (a0 : List (T18c3)) (a1 : B8) (u : Int × Bool) (h : kv_place a0 a1 = some u) : CallC prog 75 [(.v (.slice Y18c3) a0), (.v .str a1)] [] (kv_place_R a0 a1 u) (kv_place_O a0 a1 u) := by
 unfold kv_place at h
 obtain ⟨u1, h2, h⟩ := andThen_some h
 injection h with h; subst h
 exact env.fun func75 can75 (its := [.call [none, none, none] [] [] true (slices_BinarySearchFunc_LPair_Pair_string_1a7a_R a0 a1 u1) (slices_BinarySearchFunc_LPair_Pair_string_1a7a_O a0 a1 u1)]) (pos := [.sel []]) (.c (slices_BinarySearchFunc_LPair_Pair_string_1a7a_ok a0 a1 u1 h2) .n) (by kernel_rfl)
theorem can76 : Callable prog 76 := ⟨_, func76, by kernel_rfl, by kernel_rfl⟩
def kv_may_R (a0 : T18c3) (u : Bool) : Slot := (.v .bool u)
def kv_may_O (a0 : T18c3) (u : Bool) : List AObj := []
theorem kv_may_ok (a0 : T18c3) (u : Bool) (h : kv_may a0 = some u) : CallC prog 76 [(.v Y18c3 a0)] [] (kv_may_R a0 u) (kv_may_O a0 u) := by
 unfold kv_may at h
 rcases fork_some h with ⟨h1, h⟩ | ⟨h1, h⟩
 ·rcases fork_some h with ⟨h2, h⟩ | ⟨h2, h⟩
  ·injection h with h; subst h
   exact env.fun func76 can76 (its := [b1, b1, b1, b1, b1, b1, b1, b1, b1, b1]) (pos := [.sel []]) (.c h1 (.c h1 (.c h1 (.c h1 (.c h1 (.c h2 (.c h2 (.c h2 (.c h2 (.c h2 .n)))))))))) (by kernel_rfl)
  ·injection h with h; subst h
   exact env.fun func76 can76 (its := [b1, b1, b1, b1, b1, b0, b0, b0, b0, b0]) (pos := [.sel []]) (.c h1 (.c h1 (.c h1 (.c h1 (.c h1 (.c h2 (.c h2 (.c h2 (.c h2 (.c h2 .n)))))))))) (by kernel_rfl)
 ·injection h with h; subst h
  exact env.fun func76 can76 (its := [b0, b0, b0, b0, b0, b0, b0, b0, b0, b0]) (pos := [.sel []]) (.c h1 (.c h1 (.c h1 (.c h1 (.c h1 (.c r0 (.c r0 (.c r0 (.c r0 (.c r0 .n)))))))))) (by kernel_rfl)
theorem can90 : Callable prog 90 := ⟨_, func90, by kernel_rfl, by kernel_rfl⟩
def slices_Grow_LPair_Pair_f4c0_R (a0 : Int) (u : List (T18c3)) : Slot := (.own 0 [])
def slices_Grow_LPair_Pair_f4c0_O (a0 : Int) (u : List (T18c3)) : List AObj := [.row Y18c3 u true]
theorem slices_Grow_LPair_Pair_f4c0_ok (a0 : Int) (u : List (T18c3)) (h : slices_Grow_LPair_Pair_f4c0 a0 = some u) : CallC prog 90 [.nil, (.v (.int .i64) a0)] [] (slices_Grow_LPair_Pair_f4c0_R a0 u) (slices_Grow_LPair_Pair_f4c0_O a0 u) := by
 unfold slices_Grow_LPair_Pair_f4c0 at h
 rcases fork_some h with ⟨h1, h⟩ | ⟨h1, h⟩
 ·cases h
 ·rcases fork_some h with ⟨h2, h⟩ | ⟨h2, h⟩
  ·obtain ⟨h3, h⟩ := need_some h
   obtain ⟨h4, h⟩ := need_some h
   obtain ⟨h5, h⟩ := need_some h
   obtain ⟨h6, h⟩ := need_some h
   injection h with h; subst h
   exact env.fun func90 can90 (its := [b0, b1, b1, b1]) (pos := [.sel [1]]) (.c h1 (.c h2 (.c h3 (.c h4 (.c h5 (.c h6 .n)))))) (by kernel_rfl)
  ·injection h with h; subst h
   exact env.fun func90 can90 (its := [b0, b0]) (pos := [.promote Y18c3, .sel [0]]) (.c h1 (.c h2 .n)) (by kernel_rfl)
theorem can77 : Callable prog 77 := ⟨_, func77, by kernel_rfl, by kernel_rfl⟩
def slices_Concat_LPair_Pair_1_in (x0 : List (List (T18c3))) (x1 : Int) (x2 : List (List (T18c3))) (x3 : Int) (x4 : Int) : St := ⟨[(0, (.v (.slice (.slice Y18c3)) x0)), (3, (.v (.int .i64) x1)), (9, (.v (.slice (.slice Y18c3)) x2)), (10, (.v (.int .i64) x3)), (11, (.v (.int .i64) x4))], [], 36, 0⟩
def slices_Concat_LPair_Pair_1_ex (o : (List (List (T18c3))) × Int) : Exit := (.exit 0)
def slices_Concat_LPair_Pair_1_st (o : (List (List (T18c3))) × Int) : St := ⟨[(0, (.v (.slice (.slice Y18c3)) o.1)), (3, (.v (.int .i64) o.2))], [], 36, 0⟩
theorem slices_Concat_LPair_Pair_1_body (x0 : List (List (T18c3))) (x1 : Int) (x2 : List (List (T18c3))) (x3 : Int) (x4 : Int) : ∀ r, slices_Concat_LPair_Pair_1_step x0 x1 x2 x3 x4 = some r → (match r with | .inl s => CodeOK prog (codeAt (bodyOf f77) [1, 1, 0, 1, 0, 0]) (slices_Concat_LPair_Pair_1_in x0 x1 x2 x3 x4) .normal (slices_Concat_LPair_Pair_1_in x0 s.1 x2 x3 s.2) | .inr o => slices_Concat_LPair_Pair_1_ex o ≠ .normal ∧ CodeOK prog (codeAt (bodyOf f77) [1, 1, 0, 1, 0, 0]) (slices_Concat_LPair_Pair_1_in x0 x1 x2 x3 x4) (slices_Concat_LPair_Pair_1_ex o) (slices_Concat_LPair_Pair_1_st o)) := by
 intro r h
 unfold slices_Concat_LPair_Pair_1_step at h
 rcases fork_some h with ⟨h2, h⟩ | ⟨h2, h⟩
 ·obtain ⟨h3, h⟩ := need_some h
  rcases fork_some h with ⟨h4, h⟩ | ⟨h4, h⟩
  ·cases h
  ·injection h with h; subst h
   exact env.code (its := [b1, b0, .sel [0, 3, 9, 10, 11] []]) (.c h2 (.c h3 (.c h4 .n))) (by kernel_rfl)
 ·injection h with h; subst h
  exact ⟨by intro e; simp [slices_Concat_LPair_Pair_1_ex] at e, env.code (its := [b0, .sel [0, 3] []]) (.c h2 .n) (by kernel_rfl)⟩
theorem slices_Concat_LPair_Pair_1_ok (x0 : List (List (T18c3))) (x1 : Int) (x2 : List (List (T18c3))) (x3 : Int) (x4 : Int) (o : (List (List (T18c3))) × Int) (h : slices_Concat_LPair_Pair_1 x0 x1 x2 x3 x4 = some o) : CodeOK prog (codeAt (bodyOf f77) [1, 1, 0, 1, 0]) (slices_Concat_LPair_Pair_1_in x0 x1 x2 x3 x4) (slices_Concat_LPair_Pair_1_ex o) (slices_Concat_LPair_Pair_1_st o) :=
 LoopOK.of_step (st := fun s => slices_Concat_LPair_Pair_1_in x0 s.1 x2 x3 s.2) (ex := slices_Concat_LPair_Pair_1_ex) (stO := slices_Concat_LPair_Pair_1_st) (fun s s2 hs => slices_Concat_LPair_Pair_1_body x0 s.1 x2 x3 s.2 (.inl s2) hs) (fun s r hs => slices_Concat_LPair_Pair_1_body x0 s.1 x2 x3 s.2 (.inr r) hs) _ o h
def slices_Concat_LPair_Pair_2_in (x0 : List (List (T18c3))) (x1 : Int) (x2 : Int) (x3 : List (T18c3)) : St := ⟨[(6, (.own 0 [])), (25, (.v (.slice (.slice Y18c3)) x0)), (26, (.v (.int .i64) x1)), (27, (.v (.int .i64) x2))], [.row Y18c3 x3 true], 36, 0⟩
def slices_Concat_LPair_Pair_2_ex (o : List (T18c3)) : Exit := (.exit 2)
def slices_Concat_LPair_Pair_2_st (o : List (T18c3)) : St := ⟨[(6, (.own 0 []))], [.row Y18c3 o true], 36, 0⟩
theorem slices_Concat_LPair_Pair_2_body (x0 : List (List (T18c3))) (x1 : Int) (x2 : Int) (x3 : List (T18c3)) : ∀ r, slices_Concat_LPair_Pair_2_step x0 x1 x2 x3 = some r → (match r with | .inl s => CodeOK prog (codeAt (bodyOf f77) [1, 1, 1, 1, 0, 1, 0, 0]) (slices_Concat_LPair_Pair_2_in x0 x1 x2 x3) .normal (slices_Concat_LPair_Pair_2_in x0 x1 s.1 s.2) | .inr o => slices_Concat_LPair_Pair_2_ex o ≠ .normal ∧ CodeOK prog (codeAt (bodyOf f77) [1, 1, 1, 1, 0, 1, 0, 0]) (slices_Concat_LPair_Pair_2_in x0 x1 x2 x3) (slices_Concat_LPair_Pair_2_ex o) (slices_Concat_LPair_Pair_2_st o)) := by
 intro r h
 unfold slices_Concat_LPair_Pair_2_step at h
 rcases fork_some h with ⟨h10, h⟩ | ⟨h10, h⟩
 ·obtain ⟨h11, h⟩ := need_some h
  obtain ⟨h12, h⟩ := need_some h
  injection h with h; subst h
  exact env.code (its := [b1, .dive, .sel [6, 25, 26, 27] [1]]) (.c h10 (.c h11 (.c h12 .n))) (by kernel_rfl)
 ·injection h with h; subst h
  exact ⟨by intro e; simp [slices_Concat_LPair_Pair_2_ex] at e, env.code (its := [b0, .sel [6] [0]]) (.c h10 .n) (by kernel_rfl)⟩
theorem slices_Concat_LPair_Pair_2_ok (x0 : List (List (T18c3))) (x1 : Int) (x2 : Int) (x3 : List (T18c3)) (o : List (T18c3)) (h : slices_Concat_LPair_Pair_2 x0 x1 x2 x3 = some o) : CodeOK prog (codeAt (bodyOf f77) [1, 1, 1, 1, 0, 1, 0]) (slices_Concat_LPair_Pair_2_in x0 x1 x2 x3) (slices_Concat_LPair_Pair_2_ex o) (slices_Concat_LPair_Pair_2_st o) :=
 LoopOK.of_step (st := fun s => slices_Concat_LPair_Pair_2_in x0 x1 s.1 s.2) (ex := slices_Concat_LPair_Pair_2_ex) (stO := slices_Concat_LPair_Pair_2_st) (fun s s2 hs => slices_Concat_LPair_Pair_2_body x0 x1 s.1 s.2 (.inl s2) hs) (fun s r hs => slices_Concat_LPair_Pair_2_body x0 x1 s.1 s.2 (.inr r) hs) _ o h
def slices_Concat_LPair_Pair_R (a0 : List (List (T18c3))) (u : List (T18c3)) : Slot := (.own 0 [])
def slices_Concat_LPair_Pair_O (a0 : List (List (T18c3))) (u : List (T18c3)) : List AObj := [.row Y18c3 u true]
theorem slices_Concat_LPair_Pair_ok (a0 : List (List (T18c3))) (u : List (T18c3)) (h : slices_Concat_LPair_Pair a0 = some u) : CallC prog 77 [(.v (.slice (.slice Y18c3)) a0)] [] (slices_Concat_LPair_Pair_R a0 u) (slices_Concat_LPair_Pair_O a0 u) := by
 unfold slices_Concat_LPair_Pair at h
 obtain ⟨o5, h6, h⟩ := andThen_some h
 obtain ⟨u7, h8, h⟩ := andThen_some h
 obtain ⟨o13, h14, h⟩ := andThen_some h
 injection h with h; subst h
 exact env.fun func77 can77 (its := [.dive, .sel [0, 3, 9, 10, 11] [], .part (slices_Concat_LPair_Pair_1_ex o5) (slices_Concat_LPair_Pair_1_st o5), .call [none, none] [] [] true (slices_Grow_LPair_Pair_f4c0_R o5.2 u7) (slices_Grow_LPair_Pair_f4c0_O o5.2 u7), .dive, .sel [6, 25, 26, 27] [0], .part (slices_Concat_LPair_Pair_2_ex o13) (slices_Concat_LPair_Pair_2_st o13)]) (pos := [.sel [0]]) (.c (slices_Concat_LPair_Pair_1_ok a0 (0 : Int) a0 (List.length a0 : Int) (0 : Int) o5 h6) (.c (slices_Grow_LPair_Pair_f4c0_ok o5.2 u7 h8) (.c (slices_Concat_LPair_Pair_2_ok o5.1 (List.length o5.1 : Int) (0 : Int) u7 o13 h14) .n))) (by kernel_rfl)
theorem can46 : Callable prog 46 := ⟨_, func46, by kernel_rfl, by kernel_rfl⟩
def kv_Set_R (a0 : List (T18c3)) (a1 : T18c3) (u : (List (T18c3)) × Bool) : Slot := (.tup (.v (.slice Y18c3) u.1) (.tup (.v .bool u.2) .tnil))
def kv_Set_O (a0 : List (T18c3)) (a1 : T18c3) (u : (List (T18c3)) × Bool) : List AObj := []
theorem kv_Set_ok (a0 : List (T18c3)) (a1 : T18c3) (u : (List (T18c3)) × Bool) (h : kv_Set a0 a1 = some u) : CallC prog 46 [(.v (.slice Y18c3) a0), (.v Y18c3 a1)] [] (kv_Set_R a0 a1 u) (kv_Set_O a0 a1 u) := by
 unfold kv_Set at h
 obtain ⟨u1, h2, h⟩ := andThen_some h
 obtain ⟨u3, h4, h⟩ := andThen_some h
 rcases fork_some h with ⟨h5, h⟩ | ⟨h5, h⟩
 ·injection h with h; subst h
  exact env.fun func46 can46 (its := [.call [none, none] [] [] true (kv_place_R a0 a1.1 u1) (kv_place_O a0 a1.1 u1), .call [none] [] [] true (kv_may_R a1 u3) (kv_may_O a1 u3), b1, b1, b1, b1, b1, b1]) (pos := [.sel []]) (.c (kv_place_ok a0 a1.1 u1 h2) (.c (kv_may_ok a1 u3 h4) (.c h5 (.c h5 (.c h5 (.c h5 (.c h5 (.c r1 .n)))))))) (by kernel_rfl)
 ·rcases fork_some h with ⟨h6, h⟩ | ⟨h6, h⟩
  ·rcases fork_some h with ⟨h7, h⟩ | ⟨h7, h⟩
   ·injection h with h; subst h
    exact env.fun func46 can46 (its := [.call [none, none] [] [] true (kv_place_R a0 a1.1 u1) (kv_place_O a0 a1.1 u1), .call [none] [] [] true (kv_may_R a1 u3) (kv_may_O a1 u3), b0, b0, b0, b1, b1, b1, b0, b1, b0, b1]) (pos := [.sel []]) (.c (kv_place_ok a0 a1.1 u1 h2) (.c (kv_may_ok a1 u3 h4) (.c h5 (.c h5 (.c h5 (.c h6 (.c h6 (.c h6 (.c h5 (.c h6 (.c h5 (.c h7 .n)))))))))))) (by kernel_rfl)
   ·rcases fork_some h with ⟨h8, h⟩ | ⟨h8, h⟩
    ·obtain ⟨h9, h⟩ := need_some h
     obtain ⟨h10, h⟩ := need_some h
     obtain ⟨u11, h12, h⟩ := andThen_some h
     injection h with h; subst h
     exact env.fun func46 can46 (its := [.call [none, none] [] [] true (kv_place_R a0 a1.1 u1) (kv_place_O a0 a1.1 u1), .call [none] [] [] true (kv_may_R a1 u3) (kv_may_O a1 u3), b0, b0, b0, b1, b1, b1, b0, b1, b0, b0, b1, .pre p0, b0, b0, .call [none] [] [0] true (slices_Concat_LPair_Pair_R ([(cutL a0 (0 : Int) u1.1), ([a1] : List (T18c3)), (cutL a0 (w64 (u1.1 + (1 : Int))) (List.length a0 : Int))] : List (List (T18c3))) u11) (slices_Concat_LPair_Pair_O ([(cutL a0 (0 : Int) u1.1), ([a1] : List (T18c3)), (cutL a0 (w64 (u1.1 + (1 : Int))) (List.length a0 : Int))] : List (List (T18c3))) u11)]) (pos := [.vals (.slice Y18c3) [.bool], .sel []]) (.c (kv_place_ok a0 a1.1 u1 h2) (.c (kv_may_ok a1 u3 h4) (.c h5 (.c h5 (.c h5 (.c h6 (.c h6 (.c h6 (.c h5 (.c h6 (.c h5 (.c h7 (.c h8 (.c h9 (.c h10 (.c (slices_Concat_LPair_Pair_ok ([(cutL a0 (0 : Int) u1.1), ([a1] : List (T18c3)), (cutL a0 (w64 (u1.1 + (1 : Int))) (List.length a0 : Int))] : List (List (T18c3))) u11 h12) .n)))))))))))))))) (by kernel_rfl)
    ·obtain ⟨h13, h⟩ := need_some h
     obtain ⟨h14, h⟩ := need_some h
     obtain ⟨u15, h16, h⟩ := andThen_some h
     injection h with h; subst h
     exact env.fun func46 can46 (its := [.call [none, none] [] [] true (kv_place_R a0 a1.1 u1) (kv_place_O a0 a1.1 u1), .call [none] [] [] true (kv_may_R a1 u3) (kv_may_O a1 u3), b0, b0, b0, b1, b1, b1, b0, b1, b0, b0, b0, .pre p1, b0, b0, .call [none] [] [0] true (slices_Concat_LPair_Pair_R ([(cutL a0 (0 : Int) u1.1), ([a1] : List (T18c3)), (cutL a0 u1.1 (List.length a0 : Int))] : List (List (T18c3))) u15) (slices_Concat_LPair_Pair_O ([(cutL a0 (0 : Int) u1.1), ([a1] : List (T18c3)), (cutL a0 u1.1 (List.length a0 : Int))] : List (List (T18c3))) u15)]) (pos := [.vals (.slice Y18c3) [.bool], .sel []]) (.c (kv_place_ok a0 a1.1 u1 h2) (.c (kv_may_ok a1 u3 h4) (.c h5 (.c h5 (.c h5 (.c h6 (.c h6 (.c h6 (.c h5 (.c h6 (.c h5 (.c h7 (.c h8 (.c h13 (.c h14 (.c (slices_Concat_LPair_Pair_ok ([(cutL a0 (0 : Int) u1.1), ([a1] : List (T18c3)), (cutL a0 u1.1 (List.length a0 : Int))] : List (List (T18c3))) u15 h16) .n)))))))))))))))) (by kernel_rfl)
  ·rcases fork_some h with ⟨h17, h⟩ | ⟨h17, h⟩
   ·obtain ⟨h18, h⟩ := need_some h
    obtain ⟨h19, h⟩ := need_some h
    obtain ⟨u20, h21, h⟩ := andThen_some h
    injection h with h; subst h
    exact env.fun func46 can46 (its := [.call [none, none] [] [] true (kv_place_R a0 a1.1 u1) (kv_place_O a0 a1.1 u1), .call [none] [] [] true (kv_may_R a1 u3) (kv_may_O a1 u3), b0, b0, b0, b0, b0, b0, b0, b0, b0, b0, b1, .pre p0, b0, b0, .call [none] [] [0] true (slices_Concat_LPair_Pair_R ([(cutL a0 (0 : Int) u1.1), ([a1] : List (T18c3)), (cutL a0 (w64 (u1.1 + (1 : Int))) (List.length a0 : Int))] : List (List (T18c3))) u20) (slices_Concat_LPair_Pair_O ([(cutL a0 (0 : Int) u1.1), ([a1] : List (T18c3)), (cutL a0 (w64 (u1.1 + (1 : Int))) (List.length a0 : Int))] : List (List (T18c3))) u20)]) (pos := [.vals (.slice Y18c3) [.bool], .sel []]) (.c (kv_place_ok a0 a1.1 u1 h2) (.c (kv_may_ok a1 u3 h4) (.c h5 (.c h5 (.c h5 (.c h6 (.c h6 (.c h6 (.c h5 (.c h6 (.c h5 (.c r0 (.c h17 (.c h18 (.c h19 (.c (slices_Concat_LPair_Pair_ok ([(cutL a0 (0 : Int) u1.1), ([a1] : List (T18c3)), (cutL a0 (w64 (u1.1 + (1 : Int))) (List.length a0 : Int))] : List (List (T18c3))) u20 h21) .n)))))))))))))))) (by kernel_rfl)
   ·obtain ⟨h22, h⟩ := need_some h
    obtain ⟨h23, h⟩ := need_some h
    obtain ⟨u24, h25, h⟩ := andThen_some h
    injection h with h; subst h
    exact env.fun func46 can46 (its := [.call [none, none] [] [] true (kv_place_R a0 a1.1 u1) (kv_place_O a0 a1.1 u1), .call [none] [] [] true (kv_may_R a1 u3) (kv_may_O a1 u3), b0, b0, b0, b0, b0, b0, b0, b0, b0, b0, b0, .pre p1, b0, b0, .call [none] [] [0] true (slices_Concat_LPair_Pair_R ([(cutL a0 (0 : Int) u1.1), ([a1] : List (T18c3)), (cutL a0 u1.1 (List.length a0 : Int))] : List (List (T18c3))) u24) (slices_Concat_LPair_Pair_O ([(cutL a0 (0 : Int) u1.1), ([a1] : List (T18c3)), (cutL a0 u1.1 (List.length a0 : Int))] : List (List (T18c3))) u24)]) (pos := [.vals (.slice Y18c3) [.bool], .sel []]) (.c (kv_place_ok a0 a1.1 u1 h2) (.c (kv_may_ok a1 u3 h4) (.c h5 (.c h5 (.c h5 (.c h6 (.c h6 (.c h6 (.c h5 (.c h6 (.c h5 (.c r0 (.c h17 (.c h22 (.c h23 (.c (slices_Concat_LPair_Pair_ok ([(cutL a0 (0 : Int) u1.1), ([a1] : List (T18c3)), (cutL a0 u1.1 (List.length a0 : Int))] : List (List (T18c3))) u24 h25) .n)))))))))))))))) (by kernel_rfl)
theorem can12 : Callable prog 12 := ⟨_, func12, by kernel_rfl, by kernel_rfl⟩
def store_Store_Set_fb44_R (a0 : T18c3) (a1 : T5e52) (u : Bool × T5e52) : Slot := (.v .bool u.1)
def store_Store_Set_fb44_O (a0 : T18c3) (a1 : T5e52) (u : Bool × T5e52) : List AObj := [.box Y5e52 (.v Y5e52 u.2) true]
theorem store_Store_Set_fb44_ok (a0 : T18c3) (a1 : T5e52) (u : Bool × T5e52) (h : store_Store_Set_fb44 a0 a1 = some u) : CallC prog 12 [(.ptr 0 []), (.v Y18c3 a0)] [.box Y5e52 (.v Y5e52 a1) true] (store_Store_Set_fb44_R a0 a1 u) (store_Store_Set_fb44_O a0 a1 u) := by
 unfold store_Store_Set_fb44 at h
 obtain ⟨u1, h2, h⟩ := andThen_some h
 injection h with h; subst h
 exact env.fun func12 can12 (its := [.pre p2, .asis, .call [none, none] [] [] false (kv_Set_R a1.1 a0 u1) (kv_Set_O a1.1 a0 u1)]) (pos := [.sel [0]]) (.c rn (.c (kv_Set_ok a1.1 a0 u1 h2) .n)) (by kernel_rfl)
theorem can47 : Callable prog 47 := ⟨_, func47, by kernel_rfl, by kernel_rfl⟩
def slices_Clone_LPair_LPair_R (a0 : List (List (T18c3))) (u : List (List (T18c3))) : Slot := .own 0 []
def slices_Clone_LPair_LPair_O (a0 : List (List (T18c3))) (u : List (List (T18c3))) : List AObj := [.row (.slice Y18c3) u true]
theorem slices_Clone_LPair_LPair_ok (a0 : List (List (T18c3))) (u : List (List (T18c3))) (h : slices_Clone_LPair_LPair a0 = some u) : CallC prog 47 [.v (.slice (.slice Y18c3)) a0] [] (slices_Clone_LPair_LPair_R a0 u) (slices_Clone_LPair_LPair_O a0 u) := by
 unfold slices_Clone_LPair_LPair at h
 obtain ⟨h1, h⟩ := need_some h
 injection h with h; subst h
 rcases a0 with _ | ⟨x0, a0⟩
 ·exact env.funAny (r0 := codeAt (bodyOf f47) [0]) (r1 := codeAt (bodyOf f47) [1, 0, 0]) (x := codeAt (bodyOf f47) [1, 0, 1, 0]) (z := codeAt (bodyOf f47) [1, 1]) (t := 4) (r := (.own 0 [])) func47 can47 (i0 := [.sel [0] []]) (i1 := [.sel [0, 4] []]) (i2 := [.promote 2 (.slice Y18c3), .sel [2] [0]]) (i3 := [.sel [2] [1]]) (pos := [.sel [0]]) (st1 := ⟨[(0, (.v (.slice (.slice Y18c3)) ([] : List (List (T18c3)))))], [], 8, 0⟩) (st2 := ⟨[(0, (.v (.slice (.slice Y18c3)) ([] : List (List (T18c3))))), (4, .anyb)], [], 8, 0⟩) (st3 := ⟨[(2, (.own 0 []))], [.row (.slice Y18c3) ([] : List (List (T18c3))) true], 8, 0⟩) (by kernel_rfl) (by kernel_rfl) (by kernel_rfl) (by kernel_rfl) (by kernel_rfl) (by kernel_rfl) (.c (show List.length ([] : List (List (T18c3))) + List.length ([] : List (List (T18c3))) ≤ 2147483648 from by first | decide | (simp at h1 ⊢; try omega)) .n) (by kernel_rfl) (by kernel_rfl) (by kernel_rfl)
 ·exact env.fun func47 can47 (its := [b0]) (pos := [.sel [1]]) (.c r0 (.c (show List.length ([] : List (List (T18c3))) + List.length (x0 :: a0) ≤ 2147483648 from by first | decide | (simp at h1 ⊢; try omega)) .n)) (by kernel_rfl)
theorem can51 : Callable prog 51 := ⟨_, func51, by kernel_rfl, by kernel_rfl⟩
def slices_Clone_LPair_Pair_R (a0 : List (T18c3)) (u : List (T18c3)) : Slot := .own 0 []
def slices_Clone_LPair_Pair_O (a0 : List (T18c3)) (u : List (T18c3)) : List AObj := [.row Y18c3 u true]
theorem slices_Clone_LPair_Pair_ok (a0 : List (T18c3)) (u : List (T18c3)) (h : slices_Clone_LPair_Pair a0 = some u) : CallC prog 51 [.v (.slice Y18c3) a0] [] (slices_Clone_LPair_Pair_R a0 u) (slices_Clone_LPair_Pair_O a0 u) := by
 unfold slices_Clone_LPair_Pair at h
 obtain ⟨h1, h⟩ := need_some h
 injection h with h; subst h
 rcases a0 with _ | ⟨x0, a0⟩
 ·exact env.funAny (r0 := codeAt (bodyOf f51) [0]) (r1 := codeAt (bodyOf f51) [1, 0, 0]) (x := codeAt (bodyOf f51) [1, 0, 1, 0]) (z := codeAt (bodyOf f51) [1, 1]) (t := 4) (r := (.own 0 [])) func51 can51 (i0 := [.sel [0] []]) (i1 := [.sel [0, 4] []]) (i2 := [.promote 2 Y18c3, .sel [2] [0]]) (i3 := [.sel [2] [1]]) (pos := [.sel [0]]) (st1 := ⟨[(0, (.v (.slice Y18c3) ([] : List (T18c3))))], [], 8, 0⟩) (st2 := ⟨[(0, (.v (.slice Y18c3) ([] : List (T18c3)))), (4, .anyb)], [], 8, 0⟩) (st3 := ⟨[(2, (.own 0 []))], [.row Y18c3 ([] : List (T18c3)) true], 8, 0⟩) (by kernel_rfl) (by kernel_rfl) (by kernel_rfl) (by kernel_rfl) (by kernel_rfl) (by kernel_rfl) (.c (show List.length ([] : List (T18c3)) + List.length ([] : List (T18c3)) ≤ 2147483648 from by first | decide | (simp at h1 ⊢; try omega)) .n) (by kernel_rfl) (by kernel_rfl) (by kernel_rfl)
 ·exact env.fun func51 can51 (its := [b0]) (pos := [.sel [1]]) (.c r0 (.c (show List.length ([] : List (T18c3)) + List.length (x0 :: a0) ≤ 2147483648 from by first | decide | (simp at h1 ⊢; try omega)) .n)) (by kernel_rfl)
theorem can48 : Callable prog 48 := ⟨_, func48, by kernel_rfl, by kernel_rfl⟩
def store_Store_Now_57df_R (a0 : T5e52) (u : List (T18c3)) : Slot := (.own 1 [])
def store_Store_Now_57df_O (a0 : T5e52) (u : List (T18c3)) : List AObj := [.box Y5e52 (.v Y5e52 a0) true, .row Y18c3 u true]
theorem store_Store_Now_57df_ok (a0 : T5e52) (u : List (T18c3)) (h : store_Store_Now_57df a0 = some u) : CallC prog 48 [(.ptr 0 [])] [.box Y5e52 (.v Y5e52 a0) true] (store_Store_Now_57df_R a0 u) (store_Store_Now_57df_O a0 u) := by
 unfold store_Store_Now_57df at h
 obtain ⟨u1, h2, h⟩ := andThen_some h
 injection h with h; subst h
 exact env.fun func48 can48 (its := [.call [none] [] [] true (slices_Clone_LPair_Pair_R a0.1 u1) (slices_Clone_LPair_Pair_O a0.1 u1)]) (pos := [.sel [0, 1]]) (.c (slices_Clone_LPair_Pair_ok a0.1 u1 h2) .n) (by kernel_rfl)
theorem can13 : Callable prog 13 := ⟨_, func13, by kernel_rfl, by kernel_rfl⟩
def store_Store_Commit_57df_R (a0 : T5e52) (u : Int × T5e52) : Slot := (.v (.int .i64) u.1)
def store_Store_Commit_57df_O (a0 : T5e52) (u : Int × T5e52) : List AObj := [.box Y5e52 (.v Y5e52 u.2) true]
theorem store_Store_Commit_57df_ok (a0 : T5e52) (u : Int × T5e52) (h : store_Store_Commit_57df a0 = some u) : CallC prog 13 [(.ptr 0 [])] [.box Y5e52 (.v Y5e52 a0) true] (store_Store_Commit_57df_R a0 u) (store_Store_Commit_57df_O a0 u) := by
 unfold store_Store_Commit_57df at h
 rcases fork_some h with ⟨h1, h⟩ | ⟨h1, h⟩
 ·injection h with h; subst h
  exact env.fun func13 can13 (its := [b1]) (pos := [.sel [0]]) (.c h1 .n) (by kernel_rfl)
 ·obtain ⟨u2, h3, h⟩ := andThen_some h
  obtain ⟨u4, h5, h⟩ := andThen_some h
  obtain ⟨h6, h⟩ := need_some h
  rcases fork_some h with ⟨h7, h⟩ | ⟨h7, h⟩
  ·obtain ⟨h8, h⟩ := need_some h
   injection h with h; subst h
   exact env.fun func13 can13 (its := [b0, .call [none] [] [] false (slices_Clone_LPair_LPair_R a0.2.2.1 u2) (slices_Clone_LPair_LPair_O a0.2.2.1 u2), .call [none] [0] [] false (store_Store_Now_57df_R (a0.1, (w64 (a0.2.1 + (1 : Int))), a0.2.2.1, ()) u4) (store_Store_Now_57df_O (a0.1, (w64 (a0.2.1 + (1 : Int))), a0.2.2.1, ()) u4), b1, b0]) (pos := [.valObj 0 [], .sel [0]]) (.c h1 (.c (slices_Clone_LPair_LPair_ok a0.2.2.1 u2 h3) (.c (store_Store_Now_57df_ok (a0.1, (w64 (a0.2.1 + (1 : Int))), a0.2.2.1, ()) u4 h5) (.c h6 (.c h7 (.c h8 .n)))))) (by kernel_rfl)
  ·injection h with h; subst h
   exact env.fun func13 can13 (its := [b0, .call [none] [] [] false (slices_Clone_LPair_LPair_R a0.2.2.1 u2) (slices_Clone_LPair_LPair_O a0.2.2.1 u2), .call [none] [0] [] false (store_Store_Now_57df_R (a0.1, (w64 (a0.2.1 + (1 : Int))), a0.2.2.1, ()) u4) (store_Store_Now_57df_O (a0.1, (w64 (a0.2.1 + (1 : Int))), a0.2.2.1, ()) u4), b0]) (pos := [.valObj 0 [], .sel [0]]) (.c h1 (.c (slices_Clone_LPair_LPair_ok a0.2.2.1 u2 h3) (.c (store_Store_Now_57df_ok (a0.1, (w64 (a0.2.1 + (1 : Int))), a0.2.2.1, ()) u4 h5) (.c h6 (.c h7 .n))))) (by kernel_rfl)
theorem can49 : Callable prog 49 := ⟨_, func49, by kernel_rfl, by kernel_rfl⟩
def kv_Del_R (a0 : List (T18c3)) (a1 : B8) (u : List (T18c3)) : Slot := (.v (.slice Y18c3) u)
def kv_Del_O (a0 : List (T18c3)) (a1 : B8) (u : List (T18c3)) : List AObj := []
theorem kv_Del_ok (a0 : List (T18c3)) (a1 : B8) (u : List (T18c3)) (h : kv_Del a0 a1 = some u) : CallC prog 49 [(.v (.slice Y18c3) a0), (.v .str a1)] [] (kv_Del_R a0 a1 u) (kv_Del_O a0 a1 u) := by
 unfold kv_Del at h
 obtain ⟨u1, h2, h⟩ := andThen_some h
 rcases fork_some h with ⟨h3, h⟩ | ⟨h3, h⟩
 ·injection h with h; subst h
  exact env.fun func49 can49 (its := [.call [none, none] [] [] true (kv_place_R a0 a1 u1) (kv_place_O a0 a1 u1), b1]) (pos := [.sel []]) (.c (kv_place_ok a0 a1 u1 h2) (.c h3 .n)) (by kernel_rfl)
 ·obtain ⟨h4, h⟩ := need_some h
  obtain ⟨h5, h⟩ := need_some h
  obtain ⟨u6, h7, h⟩ := andThen_some h
  injection h with h; subst h
  exact env.fun func49 can49 (its := [.call [none, none] [] [] true (kv_place_R a0 a1 u1) (kv_place_O a0 a1 u1), b0, .pre p3, b0, b0, .call [none] [] [0] true (slices_Concat_LPair_Pair_R ([(cutL a0 (0 : Int) u1.1), (cutL a0 (w64 (u1.1 + (1 : Int))) (List.length a0 : Int))] : List (List (T18c3))) u6) (slices_Concat_LPair_Pair_O ([(cutL a0 (0 : Int) u1.1), (cutL a0 (w64 (u1.1 + (1 : Int))) (List.length a0 : Int))] : List (List (T18c3))) u6)]) (pos := [.val (.slice Y18c3), .sel []]) (.c (kv_place_ok a0 a1 u1 h2) (.c h3 (.c h4 (.c h5 (.c (slices_Concat_LPair_Pair_ok ([(cutL a0 (0 : Int) u1.1), (cutL a0 (w64 (u1.1 + (1 : Int))) (List.length a0 : Int))] : List (List (T18c3))) u6 h7) .n))))) (by kernel_rfl)
theorem can14 : Callable prog 14 := ⟨_, func14, by kernel_rfl, by kernel_rfl⟩
def store_Store_Del_71d6_R (a0 : B8) (a1 : T5e52) (u : T5e52) : Slot := .tnil
def store_Store_Del_71d6_O (a0 : B8) (a1 : T5e52) (u : T5e52) : List AObj := [.box Y5e52 (.v Y5e52 u) true]
theorem store_Store_Del_71d6_ok (a0 : B8) (a1 : T5e52) (u : T5e52) (h : store_Store_Del_71d6 a0 a1 = some u) : CallC prog 14 [(.ptr 0 []), (.v .str a0)] [.box Y5e52 (.v Y5e52 a1) true] (store_Store_Del_71d6_R a0 a1 u) (store_Store_Del_71d6_O a0 a1 u) := by
 unfold store_Store_Del_71d6 at h
 obtain ⟨u1, h2, h⟩ := andThen_some h
 injection h with h; subst h
 exact env.fun func14 can14 (its := [.call [none, none] [] [] false (kv_Del_R a1.1 a0 u1) (kv_Del_O a1.1 a0 u1)]) (pos := [.sel [0]]) (.c (kv_Del_ok a1.1 a0 u1 h2) .n) (by kernel_rfl)
theorem can50 : Callable prog 50 := ⟨_, func50, by kernel_rfl, by kernel_rfl⟩
def store_Store_lowest_57df_R (a0 : T5e52) (u : Int) : Slot := (.v (.int .i64) u)
def store_Store_lowest_57df_O (a0 : T5e52) (u : Int) : List AObj := [.box Y5e52 (.v Y5e52 a0) true]
theorem store_Store_lowest_57df_ok (a0 : T5e52) (u : Int) (h : store_Store_lowest_57df a0 = some u) : CallC prog 50 [(.ptr 0 [])] [.box Y5e52 (.v Y5e52 a0) true] (store_Store_lowest_57df_R a0 u) (store_Store_lowest_57df_O a0 u) := by
 unfold store_Store_lowest_57df at h
 injection h with h; subst h
 exact env.fun func50 can50 (its := [.pre p4]) (pos := [.sel [0]]) .n (by kernel_rfl)
theorem can15 : Callable prog 15 := ⟨_, func15, by kernel_rfl, by kernel_rfl⟩
def store_Store_At_79c2_R (a0 : Int) (a1 : T5e52) (u : (List (T18c3)) × Bool) : Slot := (.tup (.v (.slice Y18c3) u.1) (.tup (.v .bool u.2) .tnil))
def store_Store_At_79c2_O (a0 : Int) (a1 : T5e52) (u : (List (T18c3)) × Bool) : List AObj := [.box Y5e52 (.v Y5e52 a1) true]
theorem store_Store_At_79c2_ok (a0 : Int) (a1 : T5e52) (u : (List (T18c3)) × Bool) (h : store_Store_At_79c2 a0 a1 = some u) : CallC prog 15 [(.ptr 0 []), (.v (.int .i64) a0)] [.box Y5e52 (.v Y5e52 a1) true] (store_Store_At_79c2_R a0 a1 u) (store_Store_At_79c2_O a0 a1 u) := by
 unfold store_Store_At_79c2 at h
 obtain ⟨u1, h2, h⟩ := andThen_some h
 rcases fork_some h with ⟨h3, h⟩ | ⟨h3, h⟩
 ·injection h with h; subst h
  exact env.fun func15 can15 (its := [.call [none] [0] [] false (store_Store_lowest_57df_R a1 u1) (store_Store_lowest_57df_O a1 u1), b1, b1, b1, b1, b1, b1, b1, b1]) (pos := [.vals (.slice Y18c3) [.bool], .sel [0]]) (.c (store_Store_lowest_57df_ok a1 u1 h2) (.c h3 (.c h3 (.c h3 (.c h3 (.c h3 (.c h3 (.c h3 (.c r1 .n))))))))) (by kernel_rfl)
 ·rcases fork_some h with ⟨h4, h⟩ | ⟨h4, h⟩
  ·injection h with h; subst h
   exact env.fun func15 can15 (its := [.call [none] [0] [] false (store_Store_lowest_57df_R a1 u1) (store_Store_lowest_57df_O a1 u1), b0, b0, b0, b0, b0, b0, b0, b1]) (pos := [.vals (.slice Y18c3) [.bool], .sel [0]]) (.c (store_Store_lowest_57df_ok a1 u1 h2) (.c h3 (.c h3 (.c h3 (.c h3 (.c h3 (.c h3 (.c h3 (.c h4 .n))))))))) (by kernel_rfl)
  ·obtain ⟨u5, h6, h⟩ := andThen_some h
   obtain ⟨h7, h⟩ := need_some h
   obtain ⟨u8, h9, h⟩ := andThen_some h
   injection h with h; subst h
   exact env.fun func15 can15 (its := [.call [none] [0] [] false (store_Store_lowest_57df_R a1 u1) (store_Store_lowest_57df_O a1 u1), b0, b0, b0, b0, b0, b0, b0, b0, .pre p5, .asis, .call [none] [0] [] false (store_Store_lowest_57df_R a1 u5) (store_Store_lowest_57df_O a1 u5), .call [none] [] [] true (slices_Clone_LPair_Pair_R (List.getD a1.2.2.1 (Int.toNat (w64 (a0 - u5))) ([] : List (T18c3))) u8) (slices_Clone_LPair_Pair_O (List.getD a1.2.2.1 (Int.toNat (w64 (a0 - u5))) ([] : List (T18c3))) u8)]) (pos := [.vals (.slice Y18c3) [.bool], .sel [0]]) (.c (store_Store_lowest_57df_ok a1 u1 h2) (.c h3 (.c h3 (.c h3 (.c h3 (.c h3 (.c h3 (.c h3 (.c h4 (.c (rfl : ([.box Y5e52 (.v Y5e52 a1) true] : List AObj) = [.box Y5e52 (.v Y5e52 a1) true]) (.c (store_Store_lowest_57df_ok a1 u5 h6) (.c h7 (.c (slices_Clone_LPair_Pair_ok (List.getD a1.2.2.1 (Int.toNat (w64 (a0 - u5))) ([] : List (T18c3))) u8 h9) .n))))))))))))) (by kernel_rfl)
theorem can16 : Callable prog 16 := ⟨_, func16, by kernel_rfl, by kernel_rfl⟩
def store_Store_Height_57df_R (a0 : T5e52) (u : Int) : Slot := (.v (.int .i64) u)
def store_Store_Height_57df_O (a0 : T5e52) (u : Int) : List AObj := [.box Y5e52 (.v Y5e52 a0) true]
theorem store_Store_Height_57df_ok (a0 : T5e52) (u : Int) (h : store_Store_Height_57df a0 = some u) : CallC prog 16 [(.ptr 0 [])] [.box Y5e52 (.v Y5e52 a0) true] (store_Store_Height_57df_R a0 u) (store_Store_Height_57df_O a0 u) := by
 unfold store_Store_Height_57df at h
 injection h with h; subst h
 exact env.fun func16 can16 (its := []) (pos := [.sel [0]]) .n (by kernel_rfl)
theorem can3 : Callable prog 3 := ⟨_, func3, by kernel_rfl, by kernel_rfl⟩
def affiantlaw7_StoreRuns_R  (u : Bool) : Slot := (.v .bool u)
def affiantlaw7_StoreRuns_O  (u : Bool) : List AObj := []
theorem affiantlaw7_StoreRuns_ok  (u : Bool) (h : affiantlaw7_StoreRuns  = some u) : CallC prog 3 [] [] (affiantlaw7_StoreRuns_R u) (affiantlaw7_StoreRuns_O u) := by
 unfold affiantlaw7_StoreRuns at h
 obtain ⟨u1, h2, h⟩ := andThen_some h
 obtain ⟨u3, h4, h⟩ := andThen_some h
 obtain ⟨u5, h6, h⟩ := andThen_some h
 obtain ⟨u7, h8, h⟩ := andThen_some h
 obtain ⟨u9, h10, h⟩ := andThen_some h
 obtain ⟨u11, h12, h⟩ := andThen_some h
 obtain ⟨u13, h14, h⟩ := andThen_some h
 rcases fork_some h with ⟨h15, h⟩ | ⟨h15, h⟩
 ·rcases fork_some h with ⟨h16, h⟩ | ⟨h16, h⟩
  ·rcases fork_some h with ⟨h17, h⟩ | ⟨h17, h⟩
   ·rcases fork_some h with ⟨h18, h⟩ | ⟨h18, h⟩
    ·rcases fork_some h with ⟨h19, h⟩ | ⟨h19, h⟩
     ·rcases fork_some h with ⟨h20, h⟩ | ⟨h20, h⟩
      ·obtain ⟨u21, h22, h⟩ := andThen_some h
       injection h with h; subst h
       exact env.fun func3 can3 (its := [.call [] [] [] false (store_New_R u1) (store_New_O u1), b0, .call [none, none] [0] [] false (store_Store_Set_fb44_R (([97] : B8), ([] : B8), ()) u1 u3) (store_Store_Set_fb44_O (([97] : B8), ([] : B8), ()) u1 u3), .call [none] [0] [] false (store_Store_Commit_57df_R u3.2 u5) (store_Store_Commit_57df_O u3.2 u5), .call [none, none] [0] [] false (store_Store_Del_71d6_R ([97] : B8) u5.2 u7) (store_Store_Del_71d6_O ([97] : B8) u5.2 u7), .call [none] [0] [] false (store_Store_Commit_57df_R u7 u9) (store_Store_Commit_57df_O u7 u9), .call [none, none] [0] [] false (store_Store_At_79c2_R (1 : Int) u9.2 u11) (store_Store_At_79c2_O (1 : Int) u9.2 u11), .call [none, none] [0] [] false (store_Store_At_79c2_R (2 : Int) u9.2 u13) (store_Store_At_79c2_O (2 : Int) u9.2 u13), b1, b1, b1, b1, b1, b1, b1, b1, b1, b1, b1, b1, b1, b1, b1, b1, b1, .call [none] [0] [] false (store_Store_Height_57df_R u9.2 u21) (store_Store_Height_57df_O u9.2 u21), b1, b1]) (pos := [.sel []]) (.c (store_New_ok u1 h2) (.c r0 (.c (store_Store_Set_fb44_ok (([97] : B8), ([] : B8), ()) u1 u3 h4) (.c (store_Store_Commit_57df_ok u3.2 u5 h6) (.c (store_Store_Del_71d6_ok ([97] : B8) u5.2 u7 h8) (.c (store_Store_Commit_57df_ok u7 u9 h10) (.c (store_Store_At_79c2_ok (1 : Int) u9.2 u11 h12) (.c (store_Store_At_79c2_ok (2 : Int) u9.2 u13 h14) (.c h15 (.c h15 (.c h15 (.c h16 (.c h16 (.c h16 (.c h16 (.c h17 (.c h17 (.c h18 (.c h18 (.c h18 (.c h18 (.c h19 (.c h19 (.c h20 (.c h20 (.c (store_Store_Height_57df_ok u9.2 u21 h22) (.c h20 (.c h20 .n)))))))))))))))))))))))))))) (by kernel_rfl)
      ·cases h
     ·cases h
    ·cases h
   ·cases h
  ·cases h
 ·cases h
end
end Go.Proofs.Ytdiacaflcfiomaa.storeRuns
