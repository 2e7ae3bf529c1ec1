/-
  Chapter 7: what is kept of a height is what was there then, whatever is done later; older ones go, one by one.
-/
import Derived.Test.YtanhbdkimbljeaaCStoreOldLStoreRuns
import Derived.Test.YtanhbdkimbljeaaCStoreOldLStore2
namespace Go.Ax.V
open Go.Ax
set_option linter.unusedVariables false
set_option linter.unusedSimpArgs false
theorem o1_step (x0 : List Int) (x1 : Int) (x2 : Int) (x3 : Int) (x4 : (List Pr) × Int × (List (List Pr)) × Unit) (x5 : List (List Pr)) : affiantlaw7_StoreOld_1_step x0 x1 x2 x3 x4 x5 =
  (fork (decide (x3 < (List.length x0 : Int))) (fork (decide (x3 < (w64 (x2 + (4 : Int))))) (need (0 ≤ x3 ∧ x3 < (List.length x0 : Int)) (fork (decide ((Int.tmod (List.getD x0 (Int.toNat x3) (0 : Int)) (3 : Int)) = (0 : Int))) (andThen (affiantkeep_Key (List.getD x0 (Int.toNat x3) (0 : Int))) (fun u12 => andThen (store_Store_Del_71d6 u12 x4) (fun u14 => some (.inl ((w64 (x3 + (1 : Int))), u14))))) (andThen (affiantkeep_Key (List.getD x0 (Int.toNat x3) (0 : Int))) (fun u16 => andThen (affiantkeep_Text (w64 (Int.tdiv (List.getD x0 (Int.toNat x3) (0 : Int)) (7 : Int)))) (fun u18 => andThen (store_Store_Set_fb44 (u16, u18, ()) x4) (fun u20 => some (.inl ((w64 (x3 + (1 : Int))), u20.2)))))))) (some (.inr (x0, x1, x2, x4, x5)))) (some (.inr (x0, x1, x2, x4, x5))) : Option ((Int × (List Pr) × Int × (List (List Pr)) × Unit) ⊕ (List Int × Int × Int × Stt × List (List Pr)))) := rfl
theorem o2_step (x0 : List Int) (x1 : Int) (x2 : Int) (x3 : (List Pr) × Int × (List (List Pr)) × Unit) (x4 : List (List Pr)) : affiantlaw7_StoreOld_2_step x0 x1 x2 x3 x4 =
  (fork (decide (x2 ≤ x1)) (andThen (affiantlaw7_StoreOld_1 x0 x1 x2 x2 x3 x4) (fun o22 => andThen (store_Store_Now_57df o22.2.2.2.1) (fun u24 => need (List.length o22.2.2.2.2 + List.length ([u24] : List (List Pr)) ≤ 2147483648) (andThen (store_Store_Commit_57df o22.2.2.2.1) (fun u27 => fork (!decide (u27.1 = o22.2.2.1)) (some (.inr (.inl false))) (some (.inl (o22.1, o22.2.1, (w64 (o22.2.2.1 + (1 : Int))), u27.2, (o22.2.2.2.2 ++ ([u24] : List (List Pr))))))))))) (some (.inr (.inr (x1, x3, x4)))) : Option ((List Int × Int × Int × Stt × List (List Pr)) ⊕ ((Bool) ⊕ (Int × Stt × List (List Pr))))) := rfl
theorem o3_step (x0 : Int) (x1 : Int) (x2 : Int) (x3 : (List Pr) × Int × (List (List Pr)) × Unit) (x4 : List (List Pr)) : affiantlaw7_StoreOld_3_step x0 x1 x2 x3 x4 =
  (fork (decide (x2 < x1)) (need (0 ≤ x2 ∧ x2 < (List.length x4 : Int)) (andThen (store_Store_At_79c2 (w64 (x2 + (1 : Int))) x3) (fun u37 => andThen (store_Store_Root_79c2 (w64 (x2 + (1 : Int))) x3) (fun u39 => fork (!(u37.2 == (decide ((w64 (x0 - (6 : Int))) < (w64 (x2 + (1 : Int))))))) (some (.inr (.inl false))) (fork (!(u39.2 == (decide ((w64 (x0 - (6 : Int))) < (w64 (x2 + (1 : Int))))))) (some (.inr (.inl false))) (fork (decide ((w64 (x0 - (6 : Int))) < (w64 (x2 + (1 : Int))))) (andThen (affiantbook_Same_Pair u37.1 (List.getD x4 (Int.toNat x2) ([] : List Pr))) (fun u44 => fork (!u44) (some (.inr (.inl false))) (andThen (store_Root (List.getD x4 (Int.toNat x2) ([] : List Pr))) (fun u47 => fork (!(Ty.beq (.arr 32 (.int .u8)) u39.1 u47)) (some (.inr (.inl false))) (some (.inl (w64 (x2 + (1 : Int))))))))) (some (.inl (w64 (x2 + (1 : Int))))))))))) (some (.inr (.inr (x0, x3)))) : Option ((Int) ⊕ ((Bool) ⊕ (Int × (List Pr) × Int × (List (List Pr)) × Unit)))) := rfl
theorem so_loop1 (ns : List Int) (hns : ns.length ≤ 140737488355328) (k : Int) (h : Nat) (hh : h ≤ 20) (st : Stt) (hst : StOk st) (rows : List (List Pr)) :
  ∃ r, affiantlaw7_StoreOld_1 ns k (h : Int) (h : Int) st rows = some r ∧ ∃ st', r = (ns, k, (h : Int), st', rows) ∧ StOk st' ∧ st'.2 = st.2 := by
 unfold affiantlaw7_StoreOld_1
 refine loop_ex (step := fun (s : Int × Stt) => affiantlaw7_StoreOld_1_step ns k (h : Int) s.1 s.2 rows) (fun m s => ∃ (i : Nat), s.1 = (i : Int) ∧ i + m = h + 4 ∧ StOk s.2 ∧ s.2.2 = st.2) (fun r => ∃ st', r = (ns, k, (h : Int), st', rows) ∧ StOk st' ∧ st'.2 = st.2) (fun m s hs => ?_) 4 ((h : Int), st) ⟨h, rfl, rfl, hst, rfl⟩
 obtain ⟨i, e, hm, hk, he⟩ := hs
 obtain ⟨a, s⟩ := s
 dsimp only at e hk he
 subst e
 by_cases c : i < ns.length
 ·by_cases c2 : i < h + 4
  ·right
   obtain ⟨j, hj, ej⟩ := key_eq (ns.getD i 0)
   obtain ⟨x, ex, hx⟩ := text_eq (w64 (Int.tdiv (ns.getD i 0) 7))
   by_cases c3 : Int.tmod (ns.getD i 0) 3 = 0
   ·refine ⟨m - 1, (((i + 1 : Nat) : Int), (cutP s.1 (keys12.getD j []), s.2.1, s.2.2.1, ())), by omega, ?_, i + 1, rfl, by omega, st_del hk _, he⟩
    show affiantlaw7_StoreOld_1_step ns k (h : Int) (i : Int) s rows = _
    rw [o1_step, w64_eq (n := (h : Int) + 4) (by omega) (by omega), fork_t (by omega), fork_t (by omega), need_true (by omega), Int.toNat_natCast, fork_t c3, ej, andThen_mk, stDel_eq s hk, andThen_mk, w64_eq (by omega) (by omega)]; rfl
   ·refine ⟨m - 1, (((i + 1 : Nat) : Int), ((setP s.1 (keys12.getD j [], x, ())).1, s.2.1, s.2.2.1, ())), by omega, ?_, i + 1, rfl, by omega, st_set hk _, he⟩
    show affiantlaw7_StoreOld_1_step ns k (h : Int) (i : Int) s rows = _
    rw [o1_step, w64_eq (n := (h : Int) + 4) (by omega) (by omega), fork_t (by omega), fork_t (by omega), need_true (by omega), Int.toNat_natCast, fork_f c3, ej, andThen_mk, ex, andThen_mk, stSet_eq s hk, andThen_mk, w64_eq (by omega) (by omega)]; rfl
  ·left
   refine ⟨_, ?_, s, rfl, hk, he⟩
   show affiantlaw7_StoreOld_1_step ns k (h : Int) (i : Int) s rows = _
   rw [o1_step, w64_eq (n := (h : Int) + 4) (by omega) (by omega), fork_t (by omega), fork_f (by omega)]
 ·left
  refine ⟨_, ?_, s, rfl, hk, he⟩
  show affiantlaw7_StoreOld_1_step ns k (h : Int) (i : Int) s rows = _
  rw [o1_step, fork_f (by omega)]
def last6 (rows : List (List Pr)) : List (List Pr) := rows.drop (rows.length - 6)
theorem keep_last6 (rows : List (List Pr)) (l : List Pr) : keepS (last6 rows) l = last6 (rows ++ [l]) := by
 have e : (last6 rows).length = min rows.length 6 := by unfold last6; rw [List.length_drop]; omega
 unfold keepS
 rw [e]
 unfold last6
 rw [List.length_append, List.length_singleton]
 by_cases c : 6 < min rows.length 6 + 1
 ·rw [if_pos c, ← List.drop_append_of_le_length (by omega : rows.length - 6 ≤ rows.length), List.drop_drop]
  congr 1; omega
 ·rw [if_neg c, show rows.length - 6 = 0 from by omega, show rows.length + 1 - 6 = 0 from by omega]; rfl
def HistOk (st : Stt) (rows : List (List Pr)) : Prop := StOk st ∧ st.2.1 = (rows.length : Int) ∧ st.2.2.1 = last6 rows ∧ rows.length ≤ 16 ∧ ∀ l ∈ rows, RowB l
theorem hist_commit {st : Stt} {rows : List (List Pr)} (h : HistOk st rows) (c : rows.length < 16) : commitS st = ((rows.length : Int) + 1, (st.1, (rows.length : Int) + 1, last6 (rows ++ [st.1]), ())) ∧ HistOk (commitS st).2 (rows ++ [st.1]) := by
 obtain ⟨h1, h2, h3, h4, h5⟩ := h
 have e : commitS st = ((rows.length : Int) + 1, (st.1, (rows.length : Int) + 1, last6 (rows ++ [st.1]), ())) := by
  unfold commitS
  rw [if_neg (by omega), h2, h3, keep_last6]
 refine ⟨e, st_commit h1, ?_, ?_, ?_, fun l hl => ?_⟩
 ·rw [e, List.length_append, List.length_singleton]; show (rows.length : Int) + 1 = _; omega
 ·rw [e]
 ·rw [List.length_append, List.length_singleton]; omega
 ·rcases List.mem_append.1 hl with hl | hl
  ·exact h5 l hl
  ·rw [List.mem_singleton] at hl; subst hl; exact h1.1
theorem hist_at {st : Stt} {rows : List (List Pr)} (h : HistOk st rows) (n : Int) : atS st n = if 1 ≤ n ∧ n ≤ (rows.length : Int) ∧ (rows.length : Int) - 6 < n then (rows.getD (n - 1).toNat [], true) else ([], false) := by
 obtain ⟨h1, h2, h3, h4, h5⟩ := h
 have e : (last6 rows).length = min rows.length 6 := by unfold last6; rw [List.length_drop]; omega
 unfold atS lowS
 rw [h2, h3, e]
 by_cases c : 1 ≤ n ∧ n ≤ (rows.length : Int) ∧ (rows.length : Int) - 6 < n
 ·rw [if_pos c, if_neg (by omega)]
  congr 1
  unfold last6
  rw [List.getD_eq_getElem?_getD, List.getD_eq_getElem?_getD, List.getElem?_drop]
  congr 2; omega
 ·rw [if_neg c, if_pos (by omega)]
theorem so_loop2 (ns : List Int) (hns : ns.length ≤ 140737488355328) (k : Nat) (hk : 1 ≤ k ∧ k ≤ 16) : ∃ r, affiantlaw7_StoreOld_2 ns (k : Int) 1 ([], 0, [], ()) [] = some r ∧ ∃ st rows, r = .inr ((k : Int), st, rows) ∧ HistOk st rows ∧ rows.length = k := by
 unfold affiantlaw7_StoreOld_2
 refine loop_ex (step := fun (s : List Int × Int × Int × Stt × List (List Pr)) => affiantlaw7_StoreOld_2_step s.1 s.2.1 s.2.2.1 s.2.2.2.1 s.2.2.2.2) (fun m s => ∃ (h : Nat) (st : Stt) (rows : List (List Pr)), s = (ns, (k : Int), ((h + 1 : Nat) : Int), st, rows) ∧ h + m = k ∧ HistOk st rows ∧ rows.length = h) (fun r => ∃ st rows, r = .inr ((k : Int), st, rows) ∧ HistOk st rows ∧ rows.length = k) (fun m s hs => ?_) k (ns, (k : Int), 1, ([], 0, [], ()), []) ⟨0, _, [], rfl, by omega, ⟨st_new, rfl, rfl, by simp, by simp⟩, rfl⟩
 obtain ⟨h, st, rows, rfl, hm, hh, hl⟩ := hs
 by_cases c : h < k
 ·right
  obtain ⟨_, e1, st', rfl, hst', he⟩ := so_loop1 ns hns (k : Int) (h + 1) (by omega) st hh.1 rows
  have hh' : HistOk st' rows := ⟨hst', by rw [he]; exact hh.2.1, by rw [he]; exact hh.2.2.1, hh.2.2.2⟩
  obtain ⟨ec, hc⟩ := hist_commit hh' (by omega)
  have hb := hst'.1.2.1
  refine ⟨m - 1, (ns, (k : Int), ((h + 1 + 1 : Nat) : Int), (commitS st').2, rows ++ [st'.1]), by omega, ?_, h + 1, _, _, rfl, by omega, hc, by rw [List.length_append, List.length_singleton]; omega⟩
  show affiantlaw7_StoreOld_2_step ns (k : Int) ((h + 1 : Nat) : Int) st rows = _
  rw [o2_step, fork_t (by omega), e1, andThen_mk]
  dsimp only
  rw [stNow_eq _ (by omega), andThen_mk, need_true (by simp only [List.length_cons, List.length_nil]; omega), stCommit_eq _ hst', andThen_mk, ec]
  dsimp only
  rw [fork_nt (by omega), w64_eq (by omega) (by omega)]
  rfl
 ·left
  refine ⟨_, ?_, st, rows, rfl, hh, by omega⟩
  show affiantlaw7_StoreOld_2_step ns (k : Int) ((h + 1 : Nat) : Int) st rows = _
  rw [o2_step, fork_f (by omega)]
theorem so_loop3 (st : Stt) (rows : List (List Pr)) (h : HistOk st rows) : affiantlaw7_StoreOld_3 (rows.length : Int) (rows.length : Int) 0 st rows = some (.inr ((rows.length : Int), st)) := by
 have h4 := h.2.2.2.1
 unfold affiantlaw7_StoreOld_3
 have := loop_for (step := fun (s : Int) => affiantlaw7_StoreOld_3_step (rows.length : Int) (rows.length : Int) s st rows) (fun i (_ : Unit) => (i : Int)) (fun _ _ => ()) (fun _ => .inr ((rows.length : Int), st)) rows.length (fun _ _ => True) (fun i w hi _ => ⟨?_, trivial⟩) (fun w _ => ?_) rows.length 0 () (by omega) trivial
 ·exact this
 ·show affiantlaw7_StoreOld_3_step (rows.length : Int) (rows.length : Int) (i : Int) st rows = _
  have ha := hist_at h ((i : Int) + 1)
  have hb : RowB (rows.getD i []) := h.2.2.2.2 _ (getD_mem hi)
  rw [show ((i : Int) + 1 - 1).toNat = i from by omega] at ha
  rw [o3_step, fork_t (by omega), need_true (by omega), w64_eq (n := (i : Int) + 1) (by omega) (by omega), stAt_eq st h.1, andThen_mk, stRoot_eq st h.1, andThen_mk, w64_eq (n := (rows.length : Int) - 6) (by omega) (by omega), ha, Int.toNat_natCast]
  by_cases c : (rows.length : Int) - 6 < (i : Int) + 1
  ·rw [if_pos ⟨by omega, by omega, c⟩]
   dsimp only
   rw [if_pos rfl, decide_eq_true c]
   dsimp only
   rw [beq_self_eq_true, Bool.not_true, fork_ff, fork_ff, fork_tt, samePair_refl _ (by have := hb.2.1; omega), andThen_mk, Bool.not_true, fork_ff, stroot_eq _ (rowB_kv hb), andThen_mk, beq_hash, Bool.not_true, fork_ff]
   rfl
  ·rw [if_neg (fun q => c q.2.2)]
   dsimp only
   rw [if_neg (by simp), decide_eq_false c]
   dsimp only
   rw [beq_self_eq_true, Bool.not_true, fork_ff, fork_ff, fork_ff]
   rfl
 ·show affiantlaw7_StoreOld_3_step (rows.length : Int) (rows.length : Int) (rows.length : Int) st rows = _
  rw [o3_step, fork_f (by omega)]
theorem law_StoreOld (y0 : List Int) (y1 : Int) (w0 : Wf (.slice (.int .i64)) y0) (w1 : Wf (.int .i64) y1) : affiantlaw7_StoreOld y0 y1 = some true := by
 have e8 : tyBytes (.int .i64) = 8 := rfl
 have hp0 : y0.length ≤ 140737488355328 := by have := w0.1; rw [e8] at this; omega
 obtain ⟨k, ek, k1, k2⟩ := within_eq y1 1 16 (by omega) (by omega) (by omega)
 have hk : k = ((k.toNat : Nat) : Int) := by omega
 generalize k.toNat = K at hk
 subst hk
 obtain ⟨_, e2, st, rows, rfl, hh, hl⟩ := so_loop2 y0 hp0 K (by omega)
 have e3 := so_loop3 st rows hh
 rw [hl] at e3
 have hkept : (keptS st).length = min K 6 := by
  unfold keptS
  rw [List.length_map, List.length_range, hh.2.2.1]
  unfold last6
  rw [List.length_drop]; omega
 have eh : store_Store_Height_57df st = some (K : Int) := by
  have := hh.2.1
  rw [hl] at this
  exact congrArg some this
 unfold affiantlaw7_StoreOld store_New
 rw [andThen_mk, ek, andThen_mk, e2, andThen_mk]
 dsimp only
 rw [hl, e3, andThen_mk]
 dsimp only
 rw [kept_eq st hh.1, andThen_mk]
 dsimp only
 rw [hkept, fork_t (by omega), eh, andThen_mk, fork_t rfl, law_StoreRuns]
 rfl
end Go.Ax.V
