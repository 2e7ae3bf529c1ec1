/-
  Chapter 17: any store, any query, a response as it is, turned, of another query, or raw: the answer, the cost.
-/
import Derived.Test.YtmgmncfhldelfaaCAdmitTellsLAdmitRuns
namespace Go.Ax.V
open Go.Ax
set_option linter.unusedVariables false
set_option linter.unusedSimpArgs false
theorem within_def (a0 : List UInt8) (a1 : List UInt8) (a2 : List UInt8) (a3 : Prf) : affiantref1_Within a0 a1 a2 a3 =
  (andThen (affiantref1_Sound a0 a3) (fun u1 => fork (!u1) (some (([] : List Pr), false)) (fork (decide (a3.1 = (0 : Int))) (some (([] : List Pr), true)) (fork (decide ((0 : Int) < a3.2.1)) (need (0 ≤ (0 : Int) ∧ (0 : Int) < (List.length a3.2.2.1 : Int)) (fork (!sless (List.getD a3.2.2.1 (Int.toNat (0 : Int)) zPr).1 a1) (some (([] : List Pr), false)) (fork (decide ((w64 (a3.2.1 + (List.length a3.2.2.1 : Int))) < a3.1)) (need (0 ≤ (w64 ((List.length a3.2.2.1 : Int) - (1 : Int))) ∧ (w64 ((List.length a3.2.2.1 : Int) - (1 : Int))) < (List.length a3.2.2.1 : Int)) (fork (sless (List.getD a3.2.2.1 (Int.toNat (w64 ((List.length a3.2.2.1 : Int) - (1 : Int)))) zPr).1 (maxS a1 a2)) (some (([] : List Pr), false)) (andThen (affiantref1_Within_1 a1 a2 a3.2.2.1 (List.length a3.2.2.1 : Int) (0 : Int) ([] : List Pr)) (fun o17 => some (o17, true))))) (andThen (affiantref1_Within_2 a1 a2 a3.2.2.1 (List.length a3.2.2.1 : Int) (0 : Int) ([] : List Pr)) (fun o25 => some (o25, true)))))) (fork (decide ((w64 (a3.2.1 + (List.length a3.2.2.1 : Int))) < a3.1)) (need (0 ≤ (w64 ((List.length a3.2.2.1 : Int) - (1 : Int))) ∧ (w64 ((List.length a3.2.2.1 : Int) - (1 : Int))) < (List.length a3.2.2.1 : Int)) (fork (sless (List.getD a3.2.2.1 (Int.toNat (w64 ((List.length a3.2.2.1 : Int) - (1 : Int)))) zPr).1 (maxS a1 a2)) (some (([] : List Pr), false)) (andThen (affiantref1_Within_3 a1 a2 a3.2.2.1 (List.length a3.2.2.1 : Int) (0 : Int) ([] : List Pr)) (fun o36 => some (o36, true))))) (andThen (affiantref1_Within_4 a1 a2 a3.2.2.1 (List.length a3.2.2.1 : Int) (0 : Int) ([] : List Pr)) (fun o44 => some (o44, true))))))) : Option ((List Pr) × Bool)) := rfl
theorem wi_step (x0 : List UInt8) (x1 : List UInt8) (x2 : List Pr) (x3 : Int) (x4 : Int) (x5 : List Pr) : affiantref1_Within_1_step x0 x1 x2 x3 x4 x5 =
  (fork (decide (x4 < x3)) (need (0 ≤ x4 ∧ x4 < (List.length x2 : Int)) (fork (!sless (List.getD x2 (Int.toNat x4) zPr).1 x0) (fork (sless (List.getD x2 (Int.toNat x4) zPr).1 x1) (need (List.length x5 + List.length ([(List.getD x2 (Int.toNat x4) zPr)] : List Pr) ≤ 2147483648) (some (.inl ((w64 (x4 + (1 : Int))), (x5 ++ ([(List.getD x2 (Int.toNat x4) zPr)] : List Pr)))))) (some (.inl ((w64 (x4 + (1 : Int))), x5)))) (some (.inl ((w64 (x4 + (1 : Int))), x5))))) (some (.inr x5)) : Option ((Int × List Pr) ⊕ (List Pr))) := rfl
theorem same_wi2 : @affiantref1_Within_2 = @affiantref1_Within_1 := rfl
theorem same_wi3 : @affiantref1_Within_3 = @affiantref1_Within_1 := rfl
theorem same_wi4 : @affiantref1_Within_4 = @affiantref1_Within_1 := rfl
theorem wi_loop (l : List Pr) (hl : l.length ≤ 1000000) (a b : List UInt8) : affiantref1_Within_1 a b l (l.length : Int) 0 [] = some (rangeF l a b) := by
 unfold affiantref1_Within_1
 have := loop_for (step := fun (s : Int × List Pr) => affiantref1_Within_1_step a b l (l.length : Int) s.1 s.2) (fun k (_ : Unit) => ((k : Int), (l.take k).filter (inR a b))) (fun _ _ => ()) (fun _ => rangeF l a b) l.length (fun _ _ => True) (fun k w hi _ => ⟨?_, trivial⟩) (fun w _ => ?_) l.length 0 () (by omega) trivial
 ·exact this
 ·show affiantref1_Within_1_step a b l (l.length : Int) (k : Int) ((l.take k).filter (inR a b)) = some (.inl (((k + 1 : Nat) : Int), (l.take (k + 1)).filter (inR a b)))
  have hb : ((l.take k).filter (inR a b)).length ≤ k := Nat.le_trans (List.length_filter_le _ _) (by rw [List.length_take]; omega)
  have t := filter_take_succ l (inR a b) hi
  have hin : inR a b (l.getD k zPr) = (!sless (l.getD k zPr).1 a && sless (l.getD k zPr).1 b) := rfl
  rw [wi_step, fork_t (by omega), need_true (by omega), Int.toNat_natCast, w64_eq (by omega) (by omega), t, hin]
  cases sless (l.getD k zPr).1 a with
  | true => rw [if_neg (by simp), List.append_nil]; rfl
  | false =>
   cases sless (l.getD k zPr).1 b with
   | false => rw [if_neg (by simp), List.append_nil]; rfl
   | true =>
    rw [Bool.not_false, fork_tt, fork_tt, need_true (by rw [List.length_singleton]; omega), if_pos (by simp)]; rfl
 ·show affiantref1_Within_1_step a b l (l.length : Int) (l.length : Int) ((l.take l.length).filter (inR a b)) = _
  rw [wi_step, fork_f (by omega), List.take_of_length_le (Nat.le_refl _)]; rfl
theorem rwithin_eq (root a b : List UInt8) (p : Prf) (h : PrfOk p) : affiantref1_Within root a b p = some (rangeS root a b p) := by
 rw [within_def, same_wi2, same_wi3, same_wi4, rsound_eq root p h, andThen_mk]
 unfold rangeS
 cases hs : soundS root p with
 | false => rfl
 | true =>
  obtain ⟨hk, hr⟩ := sound_kv hs
  have hl := hk.1
  obtain ⟨n1, n2, n3, n4, n5⟩ := sound_num hs
  rw [Bool.not_true, fork_ff, if_pos rfl, wi_loop _ (by omega), andThen_mk]
  by_cases c : p.2.2.1.length = 0
  ·rw [fork_t (n5.1 c), if_pos c]
  have c' : ¬ p.1 = 0 := fun q => c (n5.2 q)
  rw [fork_f c', if_neg c, w64_eq (n := p.2.1 + _) (by omega) (by omega), w64_eq (by omega) (by omega), need_true (by omega), need_true (by omega), show Int.toNat ((p.2.2.1.length : Int) - 1) = p.2.2.1.length - 1 from by omega, show Int.toNat (0 : Int) = 0 from rfl]
  unfold beginsS endsS
  by_cases c1 : p.2.1 = 0
  ·rw [fork_f (by omega), decide_eq_true c1, Bool.true_or, Bool.true_and]
   by_cases c2 : p.2.1 + (p.2.2.1.length : Int) = p.1
   ·rw [fork_f (by omega), decide_eq_true c2]; rfl
   ·rw [fork_t (by omega), decide_eq_false c2, Bool.false_or]
    show fork (sless (p.2.2.1.getD (p.2.2.1.length - 1) zPr).1 (maxS a b)) _ _ = _
    cases sless (p.2.2.1.getD (p.2.2.1.length - 1) zPr).1 (maxS a b) <;> rfl
  ·rw [fork_t (by omega), decide_eq_false c1, Bool.false_or]
   by_cases c2 : p.2.1 + (p.2.2.1.length : Int) = p.1
   ·rw [fork_f (by omega), decide_eq_true c2, Bool.true_or, Bool.and_true]
    show fork (!sless (p.2.2.1.getD 0 zPr).1 a) _ _ = _
    cases sless (p.2.2.1.getD 0 zPr).1 a <;> rfl
   ·rw [fork_t (by omega), decide_eq_false c2, Bool.false_or]
    show fork (!sless (p.2.2.1.getD 0 zPr).1 a) _ (fork (sless (p.2.2.1.getD (p.2.2.1.length - 1) zPr).1 (maxS a b)) _ _) = _
    cases sless (p.2.2.1.getD 0 zPr).1 a <;> cases sless (p.2.2.1.getD (p.2.2.1.length - 1) zPr).1 (maxS a b) <;> rfl
theorem rexist_eq (root : List UInt8) (x : Pr) (p : Prf) (h : PrfOk p) : affiantref1_Exist root x p = some (existS root x p) := by
 unfold affiantref1_Exist existS
 rw [rsound_eq root p h, andThen_mk]
 cases soundS root p with
 | false => rfl
 | true =>
  rw [fork_tt, Bool.true_and]
  match p.2.2.1 with
  | [] => rfl
  | [y] =>
   rw [fork_t (by rfl), need_true (by simp)]
   show some (Ty.beq PT y x) = _
   rw [pbeq]
   congr 1
   rw [Bool.eq_iff_iff, decide_eq_true_eq, decide_eq_true_eq]
   constructor
   ·intro e; rw [e]
   ·intro e; injection e
  | y :: z :: t =>
   rw [fork_f (by simp only [List.length_cons]; omega)]
   congr 1
   exact (decide_eq_false (by intro e; injection e with _ e; cases e)).symm
theorem radmit_def (a0 : Qry) (a1 : List UInt8) (a2 : Rsp) : affiantref16_Admit a0 a1 a2 =
  (fork (decide (a2.2.1 < (1 : Int))) (some (1 : Int)) (fork (decide ((16 : Int) < a2.2.1)) (some (1 : Int)) (andThen (affiantref1_RightPairs a2.2.2.1) (fun u3 => fork (!u3) (some (1 : Int)) (fork (decide (a0.1 = (1 : Int))) (fork (decide ((List.length a2.2.2.1 : Int) = (1 : Int))) (need (0 ≤ (0 : Int) ∧ (0 : Int) < (List.length a2.2.2.1 : Int)) (fork (decide ((List.getD a2.2.2.1 (Int.toNat (0 : Int)) zPr).1 = a0.2.1)) (andThen (affiantref1_Exist a1 (List.getD a2.2.2.1 (Int.toNat (0 : Int)) zPr) a2.2.2.2.1) (fun u10 => fork u10 (some (0 : Int)) (some (2 : Int)))) (some (2 : Int)))) (andThen (affiantref16_Admit_1 a0.2.1 a2.2.2.2.1.2.2.1 (List.length a2.2.2.2.1.2.2.1 : Int) (0 : Int) a0 a1 a2) (fun o17 => (match o17 with | .inl o19 => some o19 | .inr o20 => andThen (affiantref1_Within o20.2.2.1 o20.2.1.2.1 o20.1 o20.2.2.2.2.2.2.1) (fun u21 => fork (!u21.2) (some (2 : Int)) (fork (!decide ((List.length u21.1 : Int) = (List.length o20.2.2.2.2.2.1 : Int))) (some (2 : Int)) (andThen (affiantref16_Admit_2 u21.1 (List.length u21.1 : Int) (0 : Int) o20.2.2.2) (fun o30 => (match o30 with | .inl o32 => some o32 | .inr o33 => some (0 : Int)))))))))) (andThen (affiantref1_Within a1 a0.2.1 a0.2.2.1 a2.2.2.2.1) (fun u34 => fork (!u34.2) (some (2 : Int)) (fork (!decide ((List.length u34.1 : Int) = (List.length a2.2.2.1 : Int))) (some (2 : Int)) (andThen (affiantref16_Admit_3 u34.1 (List.length u34.1 : Int) (0 : Int) a2) (fun o43 => (match o43 with | .inl o45 => some o45 | .inr o46 => some (0 : Int))))))))))) : Option (Int)) := rfl
theorem a1_step (x0 : List UInt8) (x1 : List Pr) (x2 : Int) (x3 : Int) (x4 : Qry) (x5 : List UInt8) (x6 : Rsp) : affiantref16_Admit_1_step x0 x1 x2 x3 x4 x5 x6 =
  (fork (decide (x3 < x2)) (need (0 ≤ x3 ∧ x3 < (List.length x1 : Int)) (fork (decide ((List.getD x1 (Int.toNat x3) zPr).1 = x4.2.1)) (some (.inr (.inl (2 : Int)))) (some (.inl (w64 (x3 + (1 : Int))))))) (some (.inr (.inr (x0, x4, x5, x6)))) : Option ((Int) ⊕ ((Int) ⊕ (List UInt8 × Qry × List UInt8 × Int × Int × (List Pr) × Prf × Unit)))) := rfl
theorem a2_step (x0 : List Pr) (x1 : Int) (x2 : Int) (x3 : Rsp) : affiantref16_Admit_2_step x0 x1 x2 x3 =
  (fork (decide (x2 < x1)) (need (0 ≤ x2 ∧ x2 < (List.length x0 : Int)) (need (0 ≤ x2 ∧ x2 < (List.length x3.2.2.1 : Int)) (fork (!(Ty.beq (.fld .str (.fld .str .unit)) (List.getD x0 (Int.toNat x2) zPr) (List.getD x3.2.2.1 (Int.toNat x2) zPr))) (some (.inr (.inl (2 : Int)))) (some (.inl (w64 (x2 + (1 : Int)))))))) (some (.inr (.inr ()))) : Option ((Int) ⊕ ((Int) ⊕ (Unit)))) := rfl
theorem same_a3 : @affiantref16_Admit_3 = @affiantref16_Admit_2 := rfl
def hasKey (l : List Pr) (k : List UInt8) : Bool := l.any fun p => decide (p.1 = k)
theorem a1_loop (root : List UInt8) (l : List Pr) (hl : l.length ≤ 1000000) (q : Qry) (e : List UInt8) (r : Rsp) : affiantref16_Admit_1 root l (l.length : Int) 0 q e r = some (if hasKey l q.2.1 then .inl 2 else .inr (root, q, e, r)) := by
 have m : affiantref16_Admit_1 root l (l.length : Int) 0 q e r = some (scan (fun i => if !decide ((l.getD i zPr).1 = q.2.1) then none else some (.inl 2)) (.inr (root, q, e, r)) 0 l.length) := by
  unfold affiantref16_Admit_1
  refine loop_scan (step := fun (s : Int) => affiantref16_Admit_1_step root l (l.length : Int) s q e r) (fun i => (i : Int)) _ _ l.length (fun i hi h => ?_) (fun i x hi h => ?_) ?_ l.length 0 (by omega)
  ·rw [a1_step, fork_t (by omega), need_true (by omega), Int.toNat_natCast, w64_eq (by omega) (by omega)]
   by_cases c : (l.getD i zPr).1 = q.2.1
   ·rw [decide_eq_true c, if_neg (by simp)] at h; cases h
   ·rw [fork_f c]; rfl
  ·rw [a1_step, fork_t (by omega), need_true (by omega), Int.toNat_natCast]
   by_cases c : (l.getD i zPr).1 = q.2.1
   ·rw [decide_eq_true c, if_neg (by simp)] at h; injection h with h; subst h; rw [fork_t c]
   ·rw [decide_eq_false c, if_pos (by simp)] at h; cases h
  ·rw [a1_step, fork_f (by omega)]
 rw [m, scan_all (fun i => !decide ((l.getD i zPr).1 = q.2.1))]
 have e : (List.range l.length).all (fun i => !decide ((l.getD i zPr).1 = q.2.1)) = !hasKey l q.2.1 := by
  unfold hasKey
  rw [Bool.eq_iff_iff, List.all_eq_true, Bool.not_eq_true', List.any_eq_false]
  constructor
  ·intro h p hp
   obtain ⟨i, hi, rfl⟩ := List.getElem_of_mem hp
   have := h i (List.mem_range.2 hi)
   rw [List.getD_eq_getElem?_getD, List.getElem?_eq_getElem hi] at this
   simpa using this
  ·intro h i hi
   have := h _ (getD_mem (z := zPr) (List.mem_range.1 hi))
   simpa using this
 rw [e]
 cases hasKey l q.2.1 <;> rfl
theorem a2_loop (u : List Pr) (r : Rsp) (h : u.length = r.2.2.1.length) (hl : u.length ≤ 1000000) : affiantref16_Admit_2 u (u.length : Int) 0 r = some (if u = r.2.2.1 then .inr () else .inl 2) := by
 have m : affiantref16_Admit_2 u (u.length : Int) 0 r = some (scan (fun i => if u.getD i zPr = r.2.2.1.getD i zPr then none else some (.inl 2)) (.inr ()) 0 u.length) := by
  unfold affiantref16_Admit_2
  refine loop_scan (step := fun (s : Int) => affiantref16_Admit_2_step u (u.length : Int) s r) (fun i => (i : Int)) _ _ u.length (fun i hi h => ?_) (fun i x hi h => ?_) ?_ u.length 0 (by omega)
  ·rw [a2_step, fork_t (by omega), need_true (by omega), need_true (by omega), Int.toNat_natCast, pbeq, w64_eq (by omega) (by omega)]
   by_cases e : u.getD i zPr = r.2.2.1.getD i zPr
   ·rw [fork_nt e]; rfl
   ·rw [if_neg e] at h; cases h
  ·rw [a2_step, fork_t (by omega), need_true (by omega), need_true (by omega), Int.toNat_natCast, pbeq]
   by_cases e : u.getD i zPr = r.2.2.1.getD i zPr
   ·rw [if_pos e] at h; cases h
   ·rw [if_neg e] at h; injection h with h; subst h; rw [fork_nf e]
  ·rw [a2_step, fork_f (by omega)]
 rw [m, pscan_same u r.2.2.1 h _ _ (by simp)]
theorem rangeF_self (l : List Pr) (k : List UInt8) : rangeF l k k = [] := by
 unfold rangeF
 rw [List.filter_eq_nil_iff]
 intro p _
 unfold inR
 cases sless p.1 k <;> simp
theorem rangeS_self (root k : List UInt8) (p : Prf) : (rangeS root k k p).1 = [] := by
 unfold rangeS
 split
 ·split
  ·rfl
  ·split
   ·exact rangeF_self _ _
   ·rfl
 ·rfl
def RspB (r : Rsp) : Prop := PrfOk r.2.2.2.1 ∧ r.2.2.1.length ≤ 1000 ∧ r.2.2.2.1.2.2.1.length ≤ 1000
theorem radmit_eq (q : Qry) (hq : q.1 = 1 ∨ q.1 = 2) (root : List UInt8) (r : Rsp) (h : RspB r) : affiantref16_Admit q root r = some (admS q root r) := by
 obtain ⟨h1, h2, h3⟩ := h
 rw [radmit_def, same_a3]
 unfold admS admR
 by_cases c1 : r.2.1 < 1
 ·rw [fork_t c1, decide_eq_false (by omega : ¬ (1 : Int) ≤ r.2.1), Bool.false_and, if_neg (by simp)]
 rw [fork_f c1, decide_eq_true (by omega : (1 : Int) ≤ r.2.1), Bool.true_and]
 by_cases c2 : 16 < r.2.1
 ·rw [fork_t c2, decide_eq_false (by omega : ¬ r.2.1 ≤ (16 : Int)), Bool.false_and, if_neg (by simp)]
 rw [fork_f c2, decide_eq_true (by omega : r.2.1 ≤ (16 : Int)), Bool.true_and, rpairs_eq _ (by omega), andThen_mk]
 cases rightP r.2.2.1 with
 | false => rfl
 | true =>
  rw [Bool.not_true, fork_ff, if_pos rfl]
  rcases hq with c | c
  ·rw [fork_t c, if_neg (by omega)]
   by_cases l1 : r.2.2.1.length = 1
   ·rw [fork_t (by omega), need_true (by omega), if_neg (by omega), if_pos l1]
    show fork (decide ((r.2.2.1.getD 0 zPr).1 = q.2.1)) (andThen (affiantref1_Exist root (r.2.2.1.getD 0 zPr) r.2.2.2.1) _) _ = _
    rw [rexist_eq _ _ _ h1, andThen_mk]
    cases decide ((r.2.2.1.getD 0 zPr).1 = q.2.1) with
    | false => rfl
    | true =>
     rw [fork_tt, Bool.true_and]
     cases existS root (r.2.2.1.getD 0 zPr) r.2.2.2.1 <;> rfl
   ·rw [fork_f (by omega), a1_loop _ _ (by omega), andThen_mk, if_neg l1]
    by_cases l0 : r.2.2.1.length = 0
    ·rw [if_pos l0]
     have hz : r.2.2.1 = [] := List.length_eq_zero_iff.1 l0
     unfold absS
     cases hk : hasKey r.2.2.2.1.2.2.1 q.2.1 with
     | true =>
      rw [if_pos rfl]
      dsimp only
      congr 1
      cases hs : (rangeS root q.2.1 q.2.1 r.2.2.2.1).2 with
      | false => rfl
      | true =>
       obtain ⟨_, hr⟩ := sound_kv (rangeS_sound hs)
       have hat : isAt r.2.2.2.1.2.2.1 q.2.1 = true := by
        rw [isAt_iff hr]
        obtain ⟨p, hp, hpk⟩ := List.any_eq_true.1 hk
        exact ⟨p, hp, of_decide_eq_true hpk⟩
       rw [hat]; rfl
     | false =>
      rw [if_neg (by simp)]
      dsimp only
      rw [rwithin_eq _ _ _ _ h1, andThen_mk]
      cases hs : (rangeS root q.2.1 q.2.1 r.2.2.2.1).2 with
      | false => rfl
      | true =>
       obtain ⟨_, hr⟩ := sound_kv (rangeS_sound hs)
       have hat : isAt r.2.2.2.1.2.2.1 q.2.1 = false := by
        cases hv : isAt r.2.2.2.1.2.2.1 q.2.1 with
        | false => rfl
        | true =>
         obtain ⟨p, hp, hpk⟩ := (isAt_iff hr _).1 hv
         have := List.any_eq_false.1 hk p hp
         exact absurd (decide_eq_true hpk) this
       have a2 := a2_loop [] r (by rw [hz]) (by simp)
       rw [hz, if_pos rfl] at a2
       rw [hat, Bool.not_true, fork_ff, rangeS_self, hz, fork_nt (by rfl)]
       show andThen (affiantref16_Admit_2 [] (([] : List Pr).length : Int) 0 r) _ = _
       rw [a2, andThen_mk]
       rfl
    ·rw [if_neg l0]
     cases hasKey r.2.2.2.1.2.2.1 q.2.1 with
     | true => rfl
     | false =>
      rw [if_neg (by simp)]
      dsimp only
      rw [rwithin_eq _ _ _ _ h1, andThen_mk]
      cases (rangeS root q.2.1 q.2.1 r.2.2.2.1).2 with
      | false => rfl
      | true => rw [Bool.not_true, fork_ff, rangeS_self, fork_nf (by simp only [List.length_nil]; omega)]
  ·have hrl := rangeS_len (root := root) (a := q.2.1) (b := q.2.2.1) h1
   rw [fork_f (by omega), if_pos c, rwithin_eq _ _ _ _ h1, andThen_mk]
   cases (rangeS root q.2.1 q.2.2.1 r.2.2.2.1).2 with
   | false => rfl
   | true =>
    rw [Bool.not_true, fork_ff, Bool.true_and]
    by_cases e : (rangeS root q.2.1 q.2.2.1 r.2.2.2.1).1.length = r.2.2.1.length
    ·rw [fork_nt (by omega), a2_loop _ r e (by omega), andThen_mk]
     by_cases e2 : (rangeS root q.2.1 q.2.2.1 r.2.2.2.1).1 = r.2.2.1
     ·rw [if_pos e2, decide_eq_true e2]; rfl
     ·rw [if_neg e2, decide_eq_false e2]; rfl
    ·rw [fork_nf (by omega), decide_eq_false (fun e2 => e (by rw [e2]))]; rfl
theorem tells_core (l : List Pr) (hrow : RowOk l) (q : Qry) (hq : q.1 = 1 ∨ q.1 = 2) (r : Rsp) (hr : RspB r) : (andThen (affiantref1_StoreRoot l) (fun u16 => fork (decide ((1 : Int) ≤ r.2.1)) (fork (decide (r.2.1 ≤ (16 : Int))) (andThen (affiantref1_RightPairs r.2.2.1) (fun u20 => fork u20 (andThen (check_Cost r.2.2.2.1) (fun u23 => andThen (admit_Check q u16 r) (fun u25 => andThen (affiantref16_Admit q u16 r) (fun u27 => fork (decide (u25 = u27)) (andThen (admit_Right r) (fun u30 => andThen (affiantref1_RightPairs r.2.2.1) (fun u32 => fork (u30 == u32) (andThen (admit_Cost r) (fun u35 => fork (decide (u35 = u23)) (andThen (affiantlaw17_AdmitRuns) (fun u38 => some u38)) (none))) (none)))) (none))))) (andThen (admit_Check q u16 r) (fun u40 => andThen (affiantref16_Admit q u16 r) (fun u42 => fork (decide (u40 = u42)) (andThen (admit_Right r) (fun u45 => andThen (affiantref1_RightPairs r.2.2.1) (fun u47 => fork (u45 == u47) (andThen (admit_Cost r) (fun u50 => fork (decide (u50 = (0 : Int))) (andThen (affiantlaw17_AdmitRuns) (fun u53 => some u53)) (none))) (none)))) (none)))))) (andThen (admit_Check q u16 r) (fun u55 => andThen (affiantref16_Admit q u16 r) (fun u57 => fork (decide (u55 = u57)) (andThen (admit_Right r) (fun u60 => fork (u60 == false) (andThen (admit_Cost r) (fun u63 => fork (decide (u63 = (0 : Int))) (andThen (affiantlaw17_AdmitRuns) (fun u66 => some u66)) (none))) (none))) (none))))) (andThen (admit_Check q u16 r) (fun u68 => andThen (affiantref16_Admit q u16 r) (fun u70 => fork (decide (u68 = u70)) (andThen (admit_Right r) (fun u73 => fork (u73 == false) (andThen (admit_Cost r) (fun u76 => fork (decide (u76 = (0 : Int))) (andThen (affiantlaw17_AdmitRuns) (fun u79 => some u79)) (none))) (none))) (none)))))) = some true := by
 have hk := row_kv hrow
 obtain ⟨h1, h2, h3⟩ := hr
 have e1 := admCheck_eq q (rootL l) r h1 (by omega)
 have e2 := radmit_eq q hq (rootL l) r ⟨h1, h2, h3⟩
 have e3 := admRight_eq r (by omega)
 have e4 := admCost_eq r h1 (by omega)
 have e5 := checkCost_eq r.2.2.2.1 h1
 have e6 := rpairs_eq r.2.2.1 (by omega)
 have hR : admR r = (decide (1 ≤ r.2.1) && (decide (r.2.1 ≤ 16) && rightP r.2.2.1)) := rfl
 rw [rstroot_eq l hk, andThen_mk]
 by_cases c1 : (1 : Int) ≤ r.2.1
 ·rw [decide_eq_true c1, Bool.true_and] at hR
  rw [fork_t c1]
  by_cases c2 : r.2.1 ≤ 16
  ·rw [decide_eq_true c2, Bool.true_and] at hR
   rw [fork_t c2, e6, andThen_mk]
   cases c3 : rightP r.2.2.1 with
   | true =>
    rw [c3] at hR
    rw [hR] at e3 e4
    rw [if_pos rfl] at e4
    rw [fork_tt, e5, andThen_mk, e1, andThen_mk, e2, andThen_mk, fork_t rfl, e3, andThen_mk, andThen_mk, beq_self_eq_true, fork_tt, e4, andThen_mk, fork_t rfl, law_AdmitRuns]
    rfl
   | false =>
    rw [c3] at hR
    rw [hR] at e3 e4
    rw [if_neg (by simp)] at e4
    rw [fork_ff, e1, andThen_mk, e2, andThen_mk, fork_t rfl, e3, andThen_mk, andThen_mk, beq_self_eq_true, fork_tt, e4, andThen_mk, fork_t rfl, law_AdmitRuns]
    rfl
  ·rw [decide_eq_false c2, Bool.false_and] at hR
   rw [hR] at e3 e4
   rw [if_neg (by simp)] at e4
   rw [fork_f c2, e1, andThen_mk, e2, andThen_mk, fork_t rfl, e3, andThen_mk, beq_self_eq_true, fork_tt, e4, andThen_mk, fork_t rfl, law_AdmitRuns]
   rfl
 ·rw [decide_eq_false c1, Bool.false_and] at hR
  rw [hR] at e3 e4
  rw [if_neg (by simp)] at e4
  rw [fork_f c1, e1, andThen_mk, e2, andThen_mk, fork_t rfl, e3, andThen_mk, beq_self_eq_true, fork_tt, e4, andThen_mk, fork_t rfl, law_AdmitRuns]
  rfl
theorem rb {id h : Int} {l : List Pr} {c f : Int} {pl : List Pr} {pt : List (List (List UInt8))} (hpt : ∀ x ∈ pt, x.length ≤ 1000 ∧ ∀ h ∈ x, h.length = 32) (h1 : l.length ≤ 1000) (h2 : pl.length ≤ 1000) (h3 : pt.length ≤ 1000000) : RspB (id, h, l, (c, f, pl, pt, ()), ()) := ⟨⟨hpt, by show pl.length ≤ 1000000; omega, h3⟩, h1, h2⟩
theorem response_ok (r o : Rsp) (hr : RspB r) (ho : RspB o) (hlen : r.2.2.2.1.2.2.2.1.length = r.2.2.2.1.2.2.1.length) (a b c : Int) : ∃ x, affiantkeep_Response r o a b c = some x ∧ RspB x := by
 obtain ⟨⟨h1, h2, h3⟩, h4, h5⟩ := hr
 obtain ⟨⟨g1, g2, g3⟩, g4, g5⟩ := ho
 obtain ⟨w, ew, w1, w2⟩ := within_eq a 0 13 (by omega) (by omega) (by omega)
 obtain ⟨tx, et, _⟩ := text_eq c
 unfold affiantkeep_Response
 simp only [List.nil_append]
 rw [need_true (by rw [List.length_nil]; omega), need_true (by rw [List.length_nil]; omega), need_true (by rw [List.length_nil]; omega), ew, andThen_mk]
 by_cases c0 : w = 0
 ·rw [fork_t c0]; exact ⟨_, rfl, rb h1 g4 h5 h3⟩
 rw [fork_f c0]
 by_cases c1 : w = 1
 ·rw [fork_t c1]; exact ⟨_, rfl, ⟨g1, g2, g3⟩, h4, g5⟩
 rw [fork_f c1]
 by_cases c2 : w = 2
 ·rw [fork_t c2]
  by_cases n0 : (0 : Int) < (r.2.2.1.length : Int)
  ·obtain ⟨i, ei, i1, i2⟩ := within_eq b 0 ((r.2.2.1.length : Int) - 1) (by omega) (by omega) (by omega)
   rw [fork_t n0, w64_eq (by omega) (by omega), ei, andThen_mk, et, andThen_mk, need_true (by omega)]
   exact ⟨_, rfl, rb h1 (by rw [List.length_set]; exact h4) h5 h3⟩
  ·rw [fork_f n0]; exact ⟨_, rfl, rb h1 h4 h5 h3⟩
 rw [fork_f c2]
 by_cases c3 : w = 3
 ·rw [fork_t c3]
  by_cases n0 : (0 : Int) < (r.2.2.1.length : Int)
  ·rw [fork_t n0]
   simp only [show w64 ((r.2.2.1.length : Int) - 1) = (r.2.2.1.length : Int) - 1 from w64_eq (by omega) (by omega)]
   rw [need_true (by omega)]
   exact ⟨_, rfl, rb h1 (by rw [cut_to, List.length_take]; omega) h5 h3⟩
  ·rw [fork_f n0]; exact ⟨_, rfl, rb h1 h4 h5 h3⟩
 rw [fork_f c3]
 by_cases c4 : w = 4
 ·rw [fork_t c4]
  by_cases n0 : (0 : Int) < (r.2.2.2.1.2.2.1.length : Int)
  ·obtain ⟨i, ei, i1, i2⟩ := within_eq b 0 ((r.2.2.2.1.2.2.1.length : Int) - 1) (by omega) (by omega) (by omega)
   rw [fork_t n0, w64_eq (by omega) (by omega), ei, andThen_mk, et, andThen_mk, need_true (by omega)]
   exact ⟨_, rfl, rb h1 h4 (by rw [List.length_set]; exact h5) h3⟩
  ·rw [fork_f n0]; exact ⟨_, rfl, rb h1 h4 h5 h3⟩
 rw [fork_f c4]
 by_cases c5 : w = 5
 ·rw [fork_t c5]
  by_cases n0 : (0 : Int) < (r.2.2.2.1.2.2.1.length : Int)
  ·rw [fork_t n0, need_true (by omega), need_true (by omega), cut_from, cut_from]
   exact ⟨_, rfl, rb (fun x hx => h1 x (List.mem_of_mem_drop hx)) h4 (by rw [List.length_drop]; omega) (by rw [List.length_drop]; omega)⟩
  ·rw [fork_f n0]; exact ⟨_, rfl, rb h1 h4 h5 h3⟩
 rw [fork_f c5]
 by_cases c6 : w = 6
 ·rw [fork_t c6]
  by_cases n0 : (0 : Int) < (r.2.2.2.1.2.2.1.length : Int)
  ·rw [fork_t n0]
   simp only [show w64 ((r.2.2.2.1.2.2.1.length : Int) - 1) = (r.2.2.2.1.2.2.1.length : Int) - 1 from w64_eq (by omega) (by omega)]
   rw [need_true (by omega), need_true (by omega), cut_to, cut_to]
   exact ⟨_, rfl, rb (fun x hx => h1 x (List.mem_of_mem_take hx)) h4 (by rw [List.length_take]; omega) (by rw [List.length_take]; omega)⟩
  ·rw [fork_f n0]; exact ⟨_, rfl, rb h1 h4 h5 h3⟩
 rw [fork_f c6]
 by_cases c7 : w = 7
 ·obtain ⟨i, ei, _, _⟩ := within_eq c 0 17 (by omega) (by omega) (by omega)
  rw [fork_t c7, ei, andThen_mk]; exact ⟨_, rfl, rb h1 h4 h5 h3⟩
 rw [fork_f c7]
 by_cases c8 : w = 8
 ·obtain ⟨i, ei, _, _⟩ := within_eq c (-2) 2 (by omega) (by omega) (by omega)
  rw [fork_t c8, ei, andThen_mk]; exact ⟨_, rfl, rb h1 h4 h5 h3⟩
 rw [fork_f c8]
 by_cases c9 : w = 9
 ·obtain ⟨i, ei, _, _⟩ := within_eq c 0 9 (by omega) (by omega) (by omega)
  rw [fork_t c9, ei, andThen_mk]; exact ⟨_, rfl, rb h1 h4 h5 h3⟩
 rw [fork_f c9]
 exact ⟨_, rfl, rb h1 h4 h5 h3⟩
theorem ta_step (x0 : Int) (x1 : Int) (x2 : Rsp) (x3 : Int) (x4 : Int) (x5 : Int) (x6 : Int) (x7 : Unit) (x8 : Unit) (x9 : List (List (List UInt8))) : affiantkeep_Tame_1_step x0 x1 x2 x3 x4 x5 x6 x7 x8 x9 =
  (fork (decide (x1 < x0)) (need (0 ≤ x1 ∧ x1 < (List.length x9 : Int)) (need (0 ≤ (0 : Int) ∧ (0 : Int) ≤ (min (List.length (List.getD x9 (Int.toNat x1) ([] : List (List UInt8))) : Int) (5 : Int)) ∧ (min (List.length (List.getD x9 (Int.toNat x1) ([] : List (List UInt8))) : Int) (5 : Int)) ≤ (List.length (List.getD x9 (Int.toNat x1) ([] : List (List UInt8))) : Int)) (some (.inl ((w64 (x1 + (1 : Int))), (List.set x9 (Int.toNat x1) (cutL (List.getD x9 (Int.toNat x1) ([] : List (List UInt8))) (0 : Int) (min (List.length (List.getD x9 (Int.toNat x1) ([] : List (List UInt8))) : Int) (5 : Int))))))))) (some (.inr (x2, x3, x4, x5, x6, x7, x8, x9))) : Option ((Int × List (List (List UInt8))) ⊕ (Rsp × Int × Int × Int × Int × Unit × Unit × List (List (List UInt8))))) := rfl
abbrev HT : Ty := .arr 32 (.int .u8)
abbrev RspT : Ty := .fld (.int .i64) (.fld (.int .i64) (.fld (.slice PT) (.fld (.fld (.int .i64) (.fld (.int .i64) (.fld (.slice PT) (.fld (.slice (.slice HT)) .unit)))) .unit)))
theorem tame_loop (n : Nat) (hn : n ≤ 1000) (r : Rsp) (a b c d : Int) (u v : Unit) (ps : List (List (List UInt8))) (hp : ps.length = n) (hps : ∀ x ∈ ps, ∀ h ∈ x, h.length = 32) :
  ∃ o, affiantkeep_Tame_1 (n : Int) 0 r a b c d u v ps = some o ∧ ∃ qs, o = (r, a, b, c, d, u, v, qs) ∧ qs.length = n ∧ ∀ x ∈ qs, x.length ≤ 1000 ∧ ∀ h ∈ x, h.length = 32 := by
 unfold affiantkeep_Tame_1
 refine loop_ex (step := fun (s : Int × List (List (List UInt8))) => affiantkeep_Tame_1_step (n : Int) s.1 r a b c d u v s.2) (fun k s => ∃ i : Nat, s.1 = (i : Int) ∧ i + k = n ∧ s.2.length = n ∧ (∀ x ∈ s.2, ∀ h ∈ x, h.length = 32) ∧ ∀ j, j < i → (s.2.getD j []).length ≤ 5) (fun o => ∃ qs, o = (r, a, b, c, d, u, v, qs) ∧ qs.length = n ∧ ∀ x ∈ qs, x.length ≤ 1000 ∧ ∀ h ∈ x, h.length = 32) (fun k s hs => ?_) n ((0 : Int), ps) ⟨0, rfl, by omega, hp, hps, fun j hj => by omega⟩
 obtain ⟨i, e, hk, h1, h2, h3⟩ := hs
 obtain ⟨x, s⟩ := s
 dsimp only at e h1 h2 h3
 subst e
 by_cases cc : i < n
 ·right
  have hm : ∀ h ∈ s.getD i [], h.length = 32 := h2 _ (getD_mem (by omega))
  refine ⟨k - 1, (((i + 1 : Nat) : Int), s.set i (cutL (s.getD i []) 0 (min ((s.getD i []).length : Int) 5))), by omega, ?_, i + 1, rfl, by omega, by rw [List.length_set]; exact h1, fun x hx h hh => ?_, fun j hj => ?_⟩
  ·show affiantkeep_Tame_1_step (n : Int) (i : Int) r a b c d u v s = _
   rw [ta_step, fork_t (by omega), need_true (by omega), Int.toNat_natCast, need_true (by omega), w64_eq (by omega) (by omega)]; rfl
  ·rcases List.mem_or_eq_of_mem_set hx with hx | rfl
   ·exact h2 x hx h hh
   ·rw [cut_to] at hh
    exact hm h (List.mem_of_mem_take hh)
  ·by_cases ej : j = i
   ·subst ej
    rw [List.getD_eq_getElem?_getD, List.getElem?_set_self (by omega)]
    show (cutL _ _ _).length ≤ 5
    rw [cut_to, List.length_take]; omega
   ·have := h3 j (by omega)
    rw [List.getD_eq_getElem?_getD] at this ⊢
    rw [List.getElem?_set_ne (by omega)]; exact this
 ·left
  refine ⟨_, ?_, s, rfl, h1, fun x hx => ⟨?_, h2 x hx⟩⟩
  ·show affiantkeep_Tame_1_step (n : Int) (i : Int) r a b c d u v s = _
   rw [ta_step, fork_f (by omega)]
  ·obtain ⟨j, hj, rfl⟩ := List.getElem_of_mem hx
   have := h3 j (by omega)
   rw [List.getD_eq_getElem?_getD, List.getElem?_eq_getElem hj] at this
   have t : (s[j]).length ≤ 5 := this
   omega
theorem tame_ok (r : Rsp) (w : Wf RspT r) : ∃ x, affiantkeep_Tame r = some x ∧ RspB x := by
 have hw : ∀ x ∈ r.2.2.2.1.2.2.2.1, ∀ h ∈ x, h.length = 32 := fun x hx h hh => ((w.2.2.2.1.2.2.2.1.2 x hx).2 h hh).1
 have hcut : cutL r.2.2.2.1.2.2.2.1 0 (min (r.2.2.2.1.2.2.2.1.length : Int) 4) = r.2.2.2.1.2.2.2.1.take (min r.2.2.2.1.2.2.2.1.length 4) := by rw [cut_to]; congr 1; omega
 have hlen : (r.2.2.2.1.2.2.2.1.take (min r.2.2.2.1.2.2.2.1.length 4)).length ≤ 4 := by rw [List.length_take]; omega
 unfold affiantkeep_Tame
 rw [need_true (by omega), need_true (by omega), need_true (by omega), hcut, need_true (by rw [List.length_nil]; omega), List.nil_append]
 obtain ⟨_, eo, qs, rfl, q1, q2⟩ := tame_loop (r.2.2.2.1.2.2.2.1.take (min r.2.2.2.1.2.2.2.1.length 4)).length (by omega) (r.1, r.2.1, (cutL r.2.2.1 (0 : Int) (min (List.length r.2.2.1 : Int) (4 : Int))), (r.2.2.2.1.1, r.2.2.2.1.2.1, (cutL r.2.2.2.1.2.2.1 (0 : Int) (min (List.length r.2.2.2.1.2.2.1 : Int) (4 : Int))), r.2.2.2.1.2.2.2.1, ()), ()) 0 0 0 0 () () _ rfl (fun x hx => hw x (List.mem_of_mem_take hx))
 rw [eo, andThen_mk]
 dsimp only
 exact ⟨_, rfl, rb q2 (by rw [cut_to, List.length_take]; omega) (by rw [cut_to, List.length_take]; omega) (by omega)⟩
theorem ans_b (q : Qry) (h : Int) (l : List Pr) (hrow : RowOk l) : RspB (ansS 1 q h l) ∧ (ansS 1 q h l).2.2.2.1.2.2.2.1.length = (ansS 1 q h l).2.2.2.1.2.2.1.length := by
 obtain ⟨o1, o2, o3, o4, o5⟩ := ans_ok 1 q h l hrow
 have hl := hrow.2.1
 have key : ∀ F T, T ≤ l.length → (someN l F T).2.2.1.length ≤ 12 ∧ (someN l F T).2.2.2.1.length = (someN l F T).2.2.1.length := fun F T hT => by
  unfold someN
  split
  ·simp
  ·obtain ⟨a, _⟩ := pathsN_b l (by omega) F (T - F)
   show ((l.drop F).take (T - F)).length ≤ 12 ∧ (pathsN l F (T - F)).length = ((l.drop F).take (T - F)).length
   rw [a, List.length_take, List.length_drop]; omega
 have hp : (ansS 1 q h l).2.2.2.1.2.2.1.length ≤ 12 ∧ (ansS 1 q h l).2.2.2.1.2.2.2.1.length = (ansS 1 q h l).2.2.2.1.2.2.1.length := by
  unfold ansS
  split
  ·rename_i c
   exact key _ _ (by have := (isAt_lt c.2).1; omega)
  ·exact key _ _ (by omega)
 exact ⟨⟨o1, by omega, by omega⟩, hp.2⟩
theorem law_AdmitTells (y0 : List Int) (y1 y2 : Int × Int × Int × Int × Int × Unit) (y3 y4 y5 : Int) (y6 : Rsp) (y7 : Bool) (w0 : Wf (.slice (.int .i64)) y0) (w1 : Wf (.fld (.int .i64) (.fld (.int .i64) (.fld (.int .i64) (.fld (.int .i64) (.fld (.int .i64) .unit))))) y1) (w2 : Wf (.fld (.int .i64) (.fld (.int .i64) (.fld (.int .i64) (.fld (.int .i64) (.fld (.int .i64) .unit))))) y2) (w3 : Wf (.int .i64) y3) (w4 : Wf (.int .i64) y4) (w5 : Wf (.int .i64) y5) (w6 : Wf RspT y6) (w7 : Wf .bool y7) : affiantlaw17_AdmitTells y0 y1 y2 y3 y4 y5 y6 y7 = some true := by
 have e8 : tyBytes (.int .i64) = 8 := rfl
 have hp0 : y0.length ≤ 140737488355328 := by have := w0.1; rw [e8] at this; omega
 obtain ⟨l, el, hrow⟩ := pairs_eq y0 hp0
 obtain ⟨q, eq, hq⟩ := query_eq y1
 obtain ⟨p, ep, hp⟩ := query_eq y2
 have hk := row_kv hrow
 obtain ⟨a1, a2⟩ := ans_b q 3 l hrow
 obtain ⟨b1, b2⟩ := ans_b p 3 l hrow
 obtain ⟨x, ex, hx⟩ := response_ok _ _ a1 b1 a2 y3 y4 y5
 obtain ⟨t, et, ht⟩ := tame_ok y6 w6
 unfold affiantlaw17_AdmitTells
 rw [el, andThen_mk, eq, andThen_mk, ep, andThen_mk, answer_eq 1 q 3 l hk, andThen_mk, answer_eq 1 p 3 l hk, andThen_mk, ex, andThen_mk]
 cases y7 with
 | false =>
  rw [Bool.not_false, fork_tt, et, andThen_mk]
  exact tells_core l hrow q hq t ht
 | true =>
  rw [Bool.not_true, fork_ff]
  exact tells_core l hrow q hq x hx
end Go.Ax.V
