/-
  Chapter 7: any pairs: the root; in whatever order they were set, and whatever was there between.
-/
import Derived.Test.YtanhbdkimbljeaaCStoreRootsLStoreRuns
import Derived.Test.YtanhbdkimbljeaaCStoreRootsLStore2
namespace Go.Ax.V
open Go.Ax
set_option linter.unusedVariables false
set_option linter.unusedSimpArgs false
theorem s1_step (x0 : List Int) (x1 : Int) (x2 : List Pr) (x3 : (List Pr) × Int × (List (List Pr)) × Unit) (x4 : List Pr) : affiantlaw7_StoreRoots_1_step x0 x1 x2 x3 x4 =
  (fork (decide (x1 < (List.length x0 : Int))) (fork (decide ((1 : Int) < (List.length x4 : Int))) (need (0 ≤ x1 ∧ x1 < (List.length x0 : Int)) (andThen (affiantbook_Within (List.getD x0 (Int.toNat x1) (0 : Int)) (0 : Int) (w64 ((List.length x4 : Int) - (1 : Int)))) (fun u10 => need (0 ≤ u10 ∧ u10 < (List.length x4 : Int)) (need (List.length ([] : List Pr) + List.length ([(List.getD x4 (Int.toNat u10) zPr)] : List Pr) ≤ 2147483648) (need (0 ≤ (0 : Int) ∧ (0 : Int) ≤ u10 ∧ u10 ≤ (List.length x4 : Int)) (need (List.length (([] : List Pr) ++ ([(List.getD x4 (Int.toNat u10) zPr)] : List Pr)) + List.length (cutL x4 (0 : Int) u10) ≤ 2147483648) (need (0 ≤ (w64 (u10 + (1 : Int))) ∧ (w64 (u10 + (1 : Int))) ≤ (List.length x4 : Int) ∧ (List.length x4 : Int) ≤ (List.length x4 : Int)) (need (List.length ((([] : List Pr) ++ ([(List.getD x4 (Int.toNat u10) zPr)] : List Pr)) ++ (cutL x4 (0 : Int) u10)) + List.length (cutL x4 (w64 (u10 + (1 : Int))) (List.length x4 : Int)) ≤ 2147483648) (some (.inl ((w64 (x1 + (1 : Int))), (((([] : List Pr) ++ ([(List.getD x4 (Int.toNat u10) zPr)] : List Pr)) ++ (cutL x4 (0 : Int) u10)) ++ (cutL x4 (w64 (u10 + (1 : Int))) (List.length x4 : Int)))))))))))))) (some (.inr (x2, x3, x4)))) (some (.inr (x2, x3, x4))) : Option ((Int × List Pr) ⊕ ((List Pr) × Stt × List Pr))) := rfl
theorem s2_step (x0 : Int) (x1 : Int) (x2 : List Pr) (x3 : (List Pr) × Int × (List (List Pr)) × Unit) (x4 : List Pr) : affiantlaw7_StoreRoots_2_step x0 x1 x2 x3 x4 =
  (fork (decide (x1 < x0)) (need (0 ≤ x1 ∧ x1 < (List.length x4 : Int)) (andThen (store_Store_Set_fb44 (([116, 109, 112] : List UInt8), ([] : List UInt8), ()) x3) (fun u23 => andThen (store_Store_Set_fb44 ((List.getD x4 (Int.toNat x1) zPr).1, ([111, 116, 104, 101, 114] : List UInt8), ()) u23.2) (fun u25 => andThen (store_Store_Set_fb44 (List.getD x4 (Int.toNat x1) zPr) u25.2) (fun u27 => andThen (store_Store_Del_71d6 ([116, 109, 112] : List UInt8) u27.2) (fun u29 => some (.inl ((w64 (x1 + (1 : Int))), u29)))))))) (some (.inr (x2, x3))) : Option ((Int × (List Pr) × Int × (List (List Pr)) × Unit) ⊕ ((List Pr) × (List Pr) × Int × (List (List Pr)) × Unit))) := rfl
theorem sr_loop1 (ns : List Int) (hns : ns.length ≤ 140737488355328) (l : List Pr) (hl : l.length ≤ 12) (st : Stt) : ∃ r, affiantlaw7_StoreRoots_1 ns 0 l st l = some r ∧ ∃ t, r = (l, st, t) ∧ t.Perm l := by
 unfold affiantlaw7_StoreRoots_1
 refine loop_ex (step := fun (s : Int × List Pr) => affiantlaw7_StoreRoots_1_step ns s.1 l st s.2) (fun k s => ∃ i : Nat, s.1 = (i : Int) ∧ i + k = ns.length ∧ s.2.Perm l) (fun r => ∃ t, r = (l, st, t) ∧ t.Perm l) (fun k s hs => ?_) ns.length ((0 : Int), l) ⟨0, rfl, by omega, List.Perm.refl _⟩
 obtain ⟨i, e, hk, hp⟩ := hs
 obtain ⟨a, t⟩ := s
 dsimp only at e hp
 subst e
 have hlen := hp.length_eq
 by_cases c : i < ns.length
 ·by_cases c2 : 1 < t.length
  ·right
   obtain ⟨u, eu, u1, u2⟩ := within_eq (ns.getD i 0) 0 ((t.length : Int) - 1) (by omega) (by omega) (by omega)
   refine ⟨k - 1, (((i + 1 : Nat) : Int), t.getD u.toNat zPr :: (t.take u.toNat ++ t.drop (u.toNat + 1))), by omega, ?_, i + 1, rfl, by omega, ?_⟩
   ·show affiantlaw7_StoreRoots_1_step ns (i : Int) l st t = _
    have e2 : cutL t (u + 1) (t.length : Int) = t.drop (u.toNat + 1) := by rw [cut_from]; congr 1; omega
    rw [s1_step, fork_t (by omega), fork_t (by omega), need_true (by omega), Int.toNat_natCast, w64_eq (n := (t.length : Int) - 1) (by omega) (by omega), eu, andThen_mk, need_true (by omega), need_true (by simp), need_true (by omega), cut_to, need_true (by rw [List.nil_append, List.length_singleton, List.length_take]; omega), w64_eq (n := u + 1) (by omega) (by omega), need_true (by omega), e2, need_true (by rw [List.nil_append, List.length_append, List.length_singleton, List.length_take, List.length_drop]; omega), w64_eq (by omega) (by omega)]
    rfl
   ·show (t.getD u.toNat zPr :: (t.take u.toNat ++ t.drop (u.toNat + 1))).Perm l
    refine List.Perm.trans ?_ hp
    have := List.perm_middle (a := t.getD u.toNat zPr) (l₁ := t.take u.toNat) (l₂ := t.drop (u.toNat + 1))
    rw [← split_at (by omega : u.toNat < t.length)] at this
    exact this.symm
  ·left
   refine ⟨(l, st, t), ?_, t, rfl, hp⟩
   show affiantlaw7_StoreRoots_1_step ns (i : Int) l st t = _
   rw [s1_step, fork_t (by omega), fork_f (by omega)]
 ·left
  refine ⟨(l, st, t), ?_, t, rfl, hp⟩
  show affiantlaw7_StoreRoots_1_step ns (i : Int) l st t = _
  rw [s1_step, fork_f (by omega)]
theorem setP_ok {l : List Pr} {p : Pr} (h : mayP p = true) (hl : l.length < 30) : setP l p = (putP l p, true) := by
 unfold setP
 rw [h, decide_eq_true hl, Bool.or_true, Bool.and_true, if_pos rfl]
theorem may_of {p : Pr} (h1 : 1 ≤ p.1.length) (h2 : p.1.length ≤ 16) (h3 : p.2.1.length ≤ 24) : mayP p = true := by
 unfold mayP
 have : p.1 ≠ [] := fun e => by rw [e] at h1; simp at h1
 simp only [Bool.and_eq_true, Bool.not_eq_true', decide_eq_true_eq, decide_eq_false_iff_not]
 exact ⟨this, by omega, by omega⟩
def tmpP : Pr := ([116, 109, 112], [], ())
theorem tmp_not : tmpP.1 ∉ keys12 := by decide
theorem rise_ne {l : List Pr} (h : Rise l) : l.Pairwise (fun a b => a.1 ≠ b.1) := h.imp fun {a b} hab => sless_ne hab
def bySet (now : List Pr) (p : Pr) : List Pr := cutP (putP (putP (putP now tmpP) (p.1, [111, 116, 104, 101, 114], ())) p) tmpP.1
theorem bySet_mem {now : List Pr} (hr : Rise now) {p : Pr} (hp : p.1 ∈ keys12) (hk : ∀ q ∈ now, q.1 ∈ keys12 ∧ q.1 ≠ p.1) (q : Pr) : q ∈ bySet now p ↔ q ∈ now ∨ q = p := by
 have r1 := putP_rise hr tmpP
 have r2 := putP_rise r1 (p.1, [111, 116, 104, 101, 114], ())
 have r3 := putP_rise r2 p
 have ht : p.1 ≠ tmpP.1 := fun e => tmp_not (e ▸ hp)
 unfold bySet
 rw [mem_cut r3, mem_put r2, mem_put r1, mem_put hr]
 constructor
 ·rintro ⟨rfl | ⟨rfl | ⟨rfl | ⟨h, _⟩, _⟩, h2⟩, h3⟩
  ·exact .inr rfl
  ·exact absurd rfl h2
  ·exact absurd rfl h3
  ·exact .inl h
 ·rintro (h | rfl)
  ·obtain ⟨a, b⟩ := hk q h
   have : q.1 ≠ tmpP.1 := fun e => tmp_not (e ▸ a)
   exact ⟨.inr ⟨.inr ⟨.inr ⟨h, this⟩, b⟩, b⟩, this⟩
  ·exact ⟨.inl rfl, ht⟩
theorem bySet_len {now : List Pr} (hr : Rise now) {p : Pr} (hp : p.1 ∈ keys12) (hk : ∀ q ∈ now, q.1 ∈ keys12) : (bySet now p).length ≤ now.length + 1 ∧ (putP now tmpP).length ≤ now.length + 1 ∧ (putP (putP now tmpP) (p.1, [111, 116, 104, 101, 114], ())).length ≤ now.length + 2 ∧ (putP (putP (putP now tmpP) (p.1, [111, 116, 104, 101, 114], ())) p).length ≤ now.length + 2 := by
 have r1 := putP_rise hr tmpP
 have r2 := putP_rise r1 (p.1, [111, 116, 104, 101, 114], ())
 have r3 := putP_rise r2 p
 have ht : tmpP.1 ≠ p.1 := fun e => tmp_not (e ▸ hp)
 have l1 : (putP now tmpP).length ≤ now.length + 1 := by rw [putP_len]; split <;> omega
 have l2 : (putP (putP now tmpP) (p.1, [111, 116, 104, 101, 114], ())).length ≤ now.length + 2 := by rw [putP_len]; split <;> omega
 have a3 : isAt (putP (putP now tmpP) (p.1, [111, 116, 104, 101, 114], ())) p.1 = true := (isAt_iff r2 _).2 ⟨_, (mem_put r1 _ _).2 (.inl rfl), rfl⟩
 have l3 : (putP (putP (putP now tmpP) (p.1, [111, 116, 104, 101, 114], ())) p).length ≤ now.length + 2 := by rw [putP_len, if_pos a3]; exact l2
 have a4 : isAt (putP (putP (putP now tmpP) (p.1, [111, 116, 104, 101, 114], ())) p) tmpP.1 = true :=
  (isAt_iff r3 _).2 ⟨tmpP, (mem_put r2 _ _).2 (.inr ⟨(mem_put r1 _ _).2 (.inr ⟨(mem_put hr _ _).2 (.inl rfl), ht⟩), ht⟩), rfl⟩
 refine ⟨?_, l1, l2, l3⟩
 unfold bySet
 rw [cutP_len_at a4]; omega
theorem sr_loop2 (l : List Pr) (hrow : RowOk l) (t : List Pr) (hp : t.Perm l) : ∃ r, affiantlaw7_StoreRoots_2 (t.length : Int) 0 l ([], 0, [], ()) t = some r ∧ r = (l, (l, 0, [], ())) := by
 have hlen := hp.length_eq
 have hl := hrow.2.1
 have hne : t.Pairwise (fun a b => a.1 ≠ b.1) := (hp.pairwise_iff (fun {x y} h => Ne.symm h)).2 (rise_ne hrow.1)
 unfold affiantlaw7_StoreRoots_2
 refine loop_ex (step := fun (s : Int × Stt) => affiantlaw7_StoreRoots_2_step (t.length : Int) s.1 l s.2 t) (fun k s => ∃ (i : Nat) (now : List Pr), s = ((i : Int), (now, 0, [], ())) ∧ i + k = t.length ∧ RowB now ∧ now.length ≤ i ∧ ∀ q, q ∈ now ↔ q ∈ t.take i) (fun r => r = (l, (l, 0, [], ()))) (fun k s hs => ?_) t.length ((0 : Int), ([], 0, [], ())) ⟨0, [], rfl, by omega, rowB_nil, by simp, by simp⟩
 obtain ⟨i, now, rfl, hk, hb, hnl, hm⟩ := hs
 have hkeys : ∀ q ∈ t, q.1 ∈ keys12 ∧ q.2.1.length ≤ 8 := fun q hq => ⟨hrow.2.2.1 q (hp.mem_iff.1 hq), hrow.2.2.2 q (hp.mem_iff.1 hq)⟩
 by_cases c : i < t.length
 ·right
  have hpt : t.getD i zPr ∈ t := getD_mem c
  obtain ⟨hpk, hpv⟩ := hkeys _ hpt
  have hpl := keys_b _ hpk
  have hnow : ∀ q ∈ now, q.1 ∈ keys12 ∧ q.1 ≠ (t.getD i zPr).1 := fun q hq => by
   have h1 := (hm q).1 hq
   refine ⟨(hkeys q (List.mem_of_mem_take h1)).1, ?_⟩
   obtain ⟨j, hj, rfl⟩ := List.getElem_of_mem h1
   rw [List.length_take] at hj
   rw [List.getElem_take, List.getD_eq_getElem?_getD, List.getElem?_eq_getElem c]
   exact List.pairwise_iff_getElem.1 hne j i (by omega) c (by omega)
  obtain ⟨b1, b2, b3, b4⟩ := bySet_len hb.1 hpk (fun q hq => (hnow q hq).1)
  have k0 : StOk (now, 0, [], ()) := st_now (hb)
  have m1 : mayP tmpP = true := by decide
  have m2 : mayP ((t.getD i zPr).1, [111, 116, 104, 101, 114], ()) = true := may_of hpl.1 (by show (t.getD i zPr).1.length ≤ 16; omega) (by simp)
  have m3 : mayP (t.getD i zPr) = true := may_of hpl.1 (by omega) (by omega)
  have e1 := stSet_eq _ k0 tmpP
  have k1 := st_set k0 tmpP
  rw [setP_ok m1 (by show now.length < 30; omega)] at e1 k1
  have e2 := stSet_eq _ k1 ((t.getD i zPr).1, [111, 116, 104, 101, 114], ())
  have k2 := st_set k1 ((t.getD i zPr).1, [111, 116, 104, 101, 114], ())
  rw [setP_ok m2 (by show (putP now tmpP).length < 30; omega)] at e2 k2
  have e3 := stSet_eq _ k2 (t.getD i zPr)
  have k3 := st_set k2 (t.getD i zPr)
  rw [setP_ok m3 (by show (putP (putP now tmpP) _).length < 30; omega)] at e3 k3
  have e4 := stDel_eq _ k3 tmpP.1
  have k4 := st_del k3 tmpP.1
  refine ⟨k - 1, (((i + 1 : Nat) : Int), (bySet now (t.getD i zPr), 0, [], ())), by omega, ?_, i + 1, bySet now (t.getD i zPr), rfl, by omega, k4.1, by omega, fun q => ?_⟩
  ·show affiantlaw7_StoreRoots_2_step (t.length : Int) (i : Int) l (now, 0, [], ()) t = _
   rw [s2_step, fork_t (by omega), need_true (by omega), Int.toNat_natCast]
   show andThen (store_Store_Set_fb44 tmpP (now, 0, [], ())) _ = _
   rw [e1, andThen_mk]
   dsimp only
   rw [e2, andThen_mk]
   dsimp only
   rw [e3, andThen_mk]
   dsimp only
   show andThen (store_Store_Del_71d6 tmpP.1 _) _ = _
   rw [e4, andThen_mk, w64_eq (by omega) (by omega)]
   rfl
  ·rw [bySet_mem hb.1 hpk hnow, List.take_add_one, List.mem_append, hm q, List.getElem?_eq_getElem c, List.getD_eq_getElem?_getD, List.getElem?_eq_getElem c]
   simp
 ·left
  have e : now = l := rise_ext hb.1 hrow.1 fun q => by rw [hm q, List.take_of_length_le (by omega), hp.mem_iff]
  refine ⟨(l, (l, 0, [], ())), ?_, rfl⟩
  show affiantlaw7_StoreRoots_2_step (t.length : Int) (i : Int) l (now, 0, [], ()) t = _
  rw [s2_step, fork_f (by omega), e]
theorem law_StoreRoots (y0 y1 : List Int) (w0 : Wf (.slice (.int .i64)) y0) (w1 : Wf (.slice (.int .i64)) y1) : affiantlaw7_StoreRoots y0 y1 = some true := by
 have e8 : tyBytes (.int .i64) = 8 := rfl
 have hp0 : y0.length ≤ 140737488355328 := by have := w0.1; rw [e8] at this; omega
 have hp1 : y1.length ≤ 140737488355328 := by have := w1.1; rw [e8] at this; omega
 obtain ⟨l, el, hrow⟩ := pairs_eq y0 hp0
 have hl := hrow.2.1
 have hb := row_B hrow
 obtain ⟨_, e1, t, rfl, hp⟩ := sr_loop1 y1 hp1 l hl ([], 0, [], ())
 obtain ⟨_, e2, rfl⟩ := sr_loop2 l hrow t hp
 have k0 : StOk (l, 0, [], ()) := st_now (hb)
 have k1 := st_commit k0
 have ec := stCommit_eq _ k0
 have cc : commitS (l, 0, [], ()) = (1, (l, 1, [l], ())) := rfl
 rw [cc] at ec k1
 have er := stRoot_eq _ k1 1
 have ea : atS (l, 1, [l], ()) 1 = (l, true) := rfl
 rw [ea] at er
 unfold affiantlaw7_StoreRoots store_New
 rw [el, andThen_mk, andThen_mk, need_true (by rw [List.length_nil]; omega), List.nil_append, e1, andThen_mk]
 dsimp only
 rw [e2, andThen_mk]
 dsimp only
 rw [ec, andThen_mk]
 dsimp only
 rw [er, andThen_mk, if_pos rfl]
 dsimp only
 rw [fork_tt, stroot_eq l (rowB_kv hb), andThen_mk, beq_hash, fork_tt, rstroot_eq l (rowB_kv hb), andThen_mk, beq_hash, fork_tt, stNow_eq _ (by show l.length ≤ _; omega), andThen_mk, samePair_refl _ (by show l.length ≤ _; omega), andThen_mk, fork_tt, law_StoreRuns]
 rfl
end Go.Ax.V
