/-
  Chapter 7: full it takes no more, but another value; heights end; a store that isn't set anything has empty heights.
-/
import Derived.Test.YtanhbdkimbljeaaCStoreFullLStoreRuns
import Derived.Test.YtanhbdkimbljeaaCStoreFullLStore2
namespace Go.Ax.V
open Go.Ax
set_option linter.unusedVariables false
set_option linter.unusedSimpArgs false
theorem f1_step (x0 : Int) (x1 : Int) (x2 : (List Pr) × Int × (List (List Pr)) × Unit) : affiantlaw7_StoreFull_1_step x0 x1 x2 =
  (fork (decide (x1 < (31 : Int))) (andThen (store_Store_Set_fb44 (([(107 : UInt8), (UInt8.ofNat (Int.toNat ((w64 ((97 : Int) + (w64 (Int.tdiv x1 (26 : Int))))) % 256))), (UInt8.ofNat (Int.toNat ((w64 ((97 : Int) + (Int.tmod x1 (26 : Int)))) % 256)))] : List (UInt8)), ([] : List UInt8), ()) x2) (fun u5 => fork (!(u5.1 == (decide (x1 < (30 : Int))))) (some (.inr (.inl false))) (some (.inl ((w64 (x1 + (1 : Int))), u5.2))))) (some (.inr (.inr (x0, x2)))) : Option ((Int × (List Pr) × Int × (List (List Pr)) × Unit) ⊕ ((Bool) ⊕ (Int × (List Pr) × Int × (List (List Pr)) × Unit)))) := rfl
theorem f2_step (x0 : Int) (x1 : Int) (x2 : (List Pr) × Int × (List (List Pr)) × Unit) : affiantlaw7_StoreFull_2_step x0 x1 x2 =
  (fork (decide (x1 ≤ (17 : Int))) (andThen (store_Store_Commit_57df x2) (fun u29 => fork (!decide (u29.1 = x1)) (fork (decide (x1 ≤ (16 : Int))) (some (.inr (.inl false))) (fork (!decide (u29.1 = (0 : Int))) (fork (decide ((16 : Int) < x1)) (some (.inr (.inl false))) (some (.inl ((w64 (x1 + (1 : Int))), u29.2)))) (some (.inl ((w64 (x1 + (1 : Int))), u29.2))))) (fork (!decide (u29.1 = (0 : Int))) (fork (decide ((16 : Int) < x1)) (some (.inr (.inl false))) (some (.inl ((w64 (x1 + (1 : Int))), u29.2)))) (some (.inl ((w64 (x1 + (1 : Int))), u29.2)))))) (some (.inr (.inr (x0, x2)))) : Option ((Int × (List Pr) × Int × (List (List Pr)) × Unit) ⊕ ((Bool) ⊕ (Int × (List Pr) × Int × (List (List Pr)) × Unit)))) := rfl
def keyP (i : Nat) : Pr := (([(107 : UInt8), (UInt8.ofNat (Int.toNat ((w64 ((97 : Int) + (w64 (Int.tdiv (i : Int) (26 : Int))))) % 256))), (UInt8.ofNat (Int.toNat ((w64 ((97 : Int) + (Int.tmod (i : Int) (26 : Int)))) % 256)))] : List (UInt8)), ([] : List UInt8), ())
def nowF (i : Nat) : List Pr := (List.range (min i 30)).map keyP
theorem full_set : ((List.range 31).all fun i => decide (setP (nowF i) (keyP i) = (nowF (i + 1), decide (i < 30)))) = true := by kernel_rfl
theorem full_row (i : Nat) (hi : i ≤ 31) : RowB (nowF i) := by
 induction i with
 | zero => exact rowB_nil
 | succ i ih =>
  have := List.all_eq_true.1 full_set i (List.mem_range.2 (by omega))
  rw [decide_eq_true_eq] at this
  have h := setP_row (ih (by omega)) (keyP i)
  rw [this] at h
  exact h
theorem full_loop1 (x : Int) : affiantlaw7_StoreFull_1 x 0 ([], 0, [], ()) = some (.inr (x, (nowF 30, 0, [], ()))) := by
 unfold affiantlaw7_StoreFull_1
 have := loop_for (step := fun (s : Int × Stt) => affiantlaw7_StoreFull_1_step x s.1 s.2) (fun i (_ : Unit) => ((i : Int), (nowF i, 0, [], ()))) (fun _ _ => ()) (fun _ => .inr (x, (nowF 30, 0, [], ()))) 31 (fun _ _ => True) (fun i w hi _ => ⟨?_, trivial⟩) (fun w _ => ?_) 31 0 () (by omega) trivial
 ·exact this
 ·show affiantlaw7_StoreFull_1_step x (i : Int) (nowF i, 0, [], ()) = _
  have hs := List.all_eq_true.1 full_set i (List.mem_range.2 hi)
  rw [decide_eq_true_eq] at hs
  have k0 : StOk (nowF i, 0, [], ()) := st_now (full_row i (by omega))
  have e := stSet_eq _ k0 (keyP i)
  dsimp only at e
  rw [hs] at e
  have hd : decide ((i : Int) < 30) = decide (i < 30) := decide_eq_decide.2 (by omega)
  rw [f1_step, fork_t (by omega)]
  show andThen (store_Store_Set_fb44 (keyP i) (nowF i, 0, [], ())) _ = _
  rw [e, andThen_mk]
  dsimp only
  rw [hd, beq_self_eq_true, Bool.not_true, fork_ff, w64_eq (by omega) (by omega)]
  rfl
 ·show affiantlaw7_StoreFull_1_step x ((31 : Nat) : Int) (nowF 31, 0, [], ()) = _
  rw [f1_step, fork_f (by omega)]; rfl
def emptyE : Nat → Stt
 | 0 => ([], 0, [], ())
 | n + 1 => (commitS (emptyE n)).2
theorem empty_ok : ∀ n, StOk (emptyE n)
 | 0 => st_new
 | n + 1 => st_commit (empty_ok n)
theorem empty_num : ((List.range 17).all fun i => decide ((commitS (emptyE i)).1 = if i < 16 then (i : Int) + 1 else 0)) = true := by kernel_rfl
theorem full_loop2 (x : Int) : affiantlaw7_StoreFull_2 x 1 ([], 0, [], ()) = some (.inr (x, emptyE 17)) := by
 unfold affiantlaw7_StoreFull_2
 have := loop_for (step := fun (s : Int × Stt) => affiantlaw7_StoreFull_2_step x s.1 s.2) (fun i (_ : Unit) => (((i + 1 : Nat) : Int), emptyE i)) (fun _ _ => ()) (fun _ => .inr (x, emptyE 17)) 17 (fun _ _ => True) (fun i w hi _ => ⟨?_, trivial⟩) (fun w _ => ?_) 17 0 () (by omega) trivial
 ·exact this
 ·show affiantlaw7_StoreFull_2_step x ((i + 1 : Nat) : Int) (emptyE i) = _
  have hs := List.all_eq_true.1 empty_num i (List.mem_range.2 hi)
  rw [decide_eq_true_eq] at hs
  rw [f2_step, fork_t (by omega), stCommit_eq _ (empty_ok i), andThen_mk, hs, w64_eq (by omega) (by omega)]
  by_cases c : i < 16
  ·rw [if_pos c, fork_nt (by omega), fork_nf (by omega), fork_f (by omega)]; rfl
  ·rw [if_neg c, fork_nf (by omega), fork_f (by omega), fork_nt rfl]; rfl
 ·show affiantlaw7_StoreFull_2_step x ((17 + 1 : Nat) : Int) (emptyE 17) = _
  rw [f2_step, fork_f (by omega)]
theorem empty_all : ((List.range 6).all fun u => decide (atS (emptyE 17) (16 - (u : Int)) = ([], true))) = true := by kernel_rfl
theorem empty_at (u : Nat) (h : u < 6) : atS (emptyE 17) (16 - (u : Int)) = ([], true) := by
 have := List.all_eq_true.1 empty_all u (List.mem_range.2 h)
 rw [decide_eq_true_eq] at this; exact this
theorem law_StoreFull (y0 : Int) (w0 : Wf (.int .i64) y0) : affiantlaw7_StoreFull y0 = some true := by
 have k0 : StOk (nowF 30, 0, [], ()) := st_now (full_row 30 (by omega))
 have a1 := stSet_eq _ k0 ([107, 97, 97], [110, 101, 119], ())
 have k1 := st_set k0 ([107, 97, 97], [110, 101, 119], ())
 have b1 : (setP (nowF 30) ([107, 97, 97], [110, 101, 119], ())).2 = true := by kernel_rfl
 have c1 : (setP (nowF 30) ([107, 97, 97], [110, 101, 119], ())).1.length = 30 := by kernel_rfl
 have a2 := stSet_eq _ k1 zPr
 have mz : mayP zPr = false := rfl
 have q2 : ∀ l, setP l zPr = (l, false) := fun l => by unfold setP; rw [mz, Bool.false_and, if_neg (by simp)]
 dsimp only at a1 a2 k1
 rw [q2] at a2
 have q3 : ∀ l, setP l ([107, 97, 98], List.replicate (Int.toNat 25) 0, ()) = (l, false) := fun l => by
  have : mayP ([107, 97, 98], List.replicate (Int.toNat 25) 0, ()) = false := by decide
  unfold setP; rw [this, Bool.false_and, if_neg (by simp)]
 have a3 := stSet_eq _ k1 ([107, 97, 98], List.replicate (Int.toNat 25) 0, ())
 dsimp only at a3
 rw [q3] at a3
 rw [b1] at a1
 generalize (setP (nowF 30) ([107, 97, 97], [110, 101, 119], ())).1 = l at a1 a2 a3 c1 k1
 obtain ⟨u, eu, u1, u2⟩ := within_eq y0 0 5 (by omega) (by omega) (by omega)
 have ea := empty_at u.toNat (by omega)
 rw [show ((u.toNat : Nat) : Int) = u from by omega] at ea
 have er := stRoot_eq _ (empty_ok 17) (16 - u)
 rw [ea] at er
 have rk : KvOk ([] : List Pr) := ⟨by simp, by simp⟩
 have eh : store_Store_Height_57df (emptyE 17) = some 16 := by
  have : (emptyE 17).2.1 = 16 := by decide
  exact congrArg some this
 unfold affiantlaw7_StoreFull store_New
 rw [andThen_mk, full_loop1, andThen_mk]
 dsimp only
 rw [a1, andThen_mk]
 dsimp only
 rw [Bool.not_true, fork_ff]
 show andThen (store_Store_Set_fb44 zPr _) _ = _
 rw [a2, andThen_mk]
 dsimp only
 rw [fork_ff, need_true (by omega), a3, andThen_mk]
 dsimp only
 rw [fork_ff, stNow_eq _ (by show l.length ≤ _; omega), andThen_mk, fork_nt (by show ((l.length : Nat) : Int) = 30; omega), andThen_mk, full_loop2, andThen_mk]
 dsimp only
 rw [eu, andThen_mk, w64_eq (by omega) (by omega), er, andThen_mk, if_pos rfl]
 dsimp only
 rw [fork_tt, stroot_eq [] rk, andThen_mk, beq_hash, fork_tt, eh, andThen_mk, fork_t rfl, law_StoreRuns]
 rfl
end Go.Ax.V
