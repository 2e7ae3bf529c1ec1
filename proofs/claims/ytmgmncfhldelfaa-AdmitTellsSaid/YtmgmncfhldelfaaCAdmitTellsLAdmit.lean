/-
  What a response is told, and an honest one.
-/
import Derived.Test.YtmgmncfhldelfaaCAdmitTellsLCheckHonest
namespace Go.Ax.V
open Go.Ax
set_option linter.unusedVariables false
set_option linter.unusedSimpArgs false
abbrev Rsp := Int × Int × List Pr × Prf × Unit
abbrev Qry := Int × List UInt8 × List UInt8 × Int × Int × Unit
def admR (r : Rsp) : Bool := decide (1 ≤ r.2.1) && (decide (r.2.1 ≤ 16) && rightP r.2.2.1)
theorem admRight_eq (r : Rsp) (h : r.2.2.1.length ≤ 1073741824) : admit_Right r = some (admR r) := by
 unfold admit_Right admR
 rw [kright_eq _ h]
 cases decide (1 ≤ r.2.1) <;> cases decide (r.2.1 ≤ 16) <;> rfl
noncomputable def admS (q : Qry) (root : List UInt8) (r : Rsp) : Int :=
 if admR r then
  if q.1 = 2 then (if (rangeS root q.2.1 q.2.2.1 r.2.2.2.1).2 && decide ((rangeS root q.2.1 q.2.2.1 r.2.2.2.1).1 = r.2.2.1) then 0 else 2)
  else if r.2.2.1.length = 0 then (if absS root q.2.1 r.2.2.2.1 then 0 else 2)
  else if r.2.2.1.length = 1 then (if decide ((r.2.2.1.getD 0 zPr).1 = q.2.1) && existS root (r.2.2.1.getD 0 zPr) r.2.2.2.1 then 0 else 2)
  else 2
 else 1
theorem rangeS_len {root a b : List UInt8} {p : Prf} (h : PrfOk p) : (rangeS root a b p).1.length ≤ 1000000 := by
 have := h.2.1
 unfold rangeS
 split
 ·split
  ·simp
  ·split
   ·exact Nat.le_trans (List.length_filter_le _ _) this
   ·simp
 ·simp
theorem admCheck_eq (q : Qry) (root : List UInt8) (r : Rsp) (h : PrfOk r.2.2.2.1) (hl : r.2.2.1.length ≤ 1073741824) : admit_Check q root r = some (admS q root r) := by
 unfold admit_Check admS
 rw [admRight_eq r hl, andThen_mk]
 cases admR r with
 | false => rfl
 | true =>
  rw [Bool.not_true, fork_ff, if_pos rfl]
  by_cases c : q.1 = 2
  ·have hrl := rangeS_len (root := root) (a := q.2.1) (b := q.2.2.1) h
   rw [fork_t c, if_pos c, checkRange_eq _ _ _ _ h, andThen_mk]
   cases (rangeS root q.2.1 q.2.2.1 r.2.2.2.1).2 with
   | false => rfl
   | true =>
    rw [Bool.not_true, fork_ff, pequal_eq _ _ (by omega), andThen_mk, Bool.true_and]
    cases decide ((rangeS root q.2.1 q.2.2.1 r.2.2.2.1).1 = r.2.2.1) <;> rfl
  ·rw [fork_f c, if_neg c]
   by_cases c0 : r.2.2.1.length = 0
   ·rw [fork_t (by omega), if_pos c0, checkAbsent_eq _ _ _ h, andThen_mk]
    cases absS root q.2.1 r.2.2.2.1 <;> rfl
   ·rw [fork_f (by omega), if_neg c0]
    by_cases c1 : r.2.2.1.length = 1
    ·rw [fork_t (by omega), if_pos c1, need_true (by omega)]
     show fork (decide ((r.2.2.1.getD 0 zPr).1 = q.2.1)) (andThen (check_Exist root (r.2.2.1.getD 0 zPr) r.2.2.2.1) _) _ = _
     rw [checkExist_eq _ _ _ h, andThen_mk]
     cases decide ((r.2.2.1.getD 0 zPr).1 = q.2.1) with
     | false => rfl
     | true =>
      rw [fork_tt, Bool.true_and]
      cases existS root (r.2.2.1.getD 0 zPr) r.2.2.2.1 <;> rfl
    ·rw [fork_f (by omega), if_neg c1]
theorem admCost_eq (r : Rsp) (h : PrfOk r.2.2.2.1) (hl : r.2.2.1.length ≤ 1073741824) : admit_Cost r = some (if admR r then costS r.2.2.2.1 else 0) := by
 unfold admit_Cost
 rw [admRight_eq r hl, andThen_mk]
 cases admR r with
 | false => rfl
 | true => rw [Bool.not_true, fork_ff, checkCost_eq _ h, andThen_mk]; rfl
theorem answer_def (a0 : Int) (a1 : Qry) (a2 : Int) (a3 : List Pr) : affiantref16_Answer a0 a1 a2 a3 =
  (andThen (affiantref1_First a3 a1.2.1) (fun u1 => fork (decide (a1.1 = (1 : Int))) (fork (decide (u1 < (List.length a3 : Int))) (need (0 ≤ u1 ∧ u1 < (List.length a3 : Int)) (fork (decide ((List.getD a3 (Int.toNat u1) zPr).1 = a1.2.1)) (need (0 ≤ u1 ∧ u1 ≤ (w64 (u1 + (1 : Int))) ∧ (w64 (u1 + (1 : Int))) ≤ (List.length a3 : Int)) (andThen (affiantref1_Prove a3 u1 (w64 (u1 + (1 : Int)))) (fun u8 => some (a0, a2, (cutL a3 u1 (w64 (u1 + (1 : Int)))), u8, ())))) (andThen (affiantref16_Answer_1 a3 a1.2.1 a3 (List.length a3 : Int) (0 : Int) a1 (0 : Int) (0 : Int) (0 : Int) (0 : Int) (()) (()) a0 a2 (((0 : Int), (0 : Int), ([] : List Pr), ([] : List (List (List UInt8))), ()), ()) ([] : List Pr)) (fun o17 => andThen (affiantref1_Cover o17.1 o17.2.2.1.2.1 o17.2.1) (fun u19 => some (o17.2.2.2.2.2.2.2.2.2.1, o17.2.2.2.2.2.2.2.2.2.2.1, o17.2.2.2.2.2.2.2.2.2.2.2.2, u19, ())))))) (andThen (affiantref16_Answer_2 a3 a1.2.1 a3 (List.length a3 : Int) (0 : Int) a1 (0 : Int) (0 : Int) (0 : Int) (0 : Int) (()) (()) a0 a2 (((0 : Int), (0 : Int), ([] : List Pr), ([] : List (List (List UInt8))), ()), ()) ([] : List Pr)) (fun o28 => andThen (affiantref1_Cover o28.1 o28.2.2.1.2.1 o28.2.1) (fun u30 => some (o28.2.2.2.2.2.2.2.2.2.1, o28.2.2.2.2.2.2.2.2.2.2.1, o28.2.2.2.2.2.2.2.2.2.2.2.2, u30, ()))))) (andThen (affiantref16_Answer_3 a3 a1.2.2.1 a3 (List.length a3 : Int) (0 : Int) a1 (0 : Int) (0 : Int) (0 : Int) (0 : Int) (()) (()) a0 a2 (((0 : Int), (0 : Int), ([] : List Pr), ([] : List (List (List UInt8))), ()), ()) ([] : List Pr)) (fun o39 => andThen (affiantref1_Cover o39.1 o39.2.2.1.2.1 o39.2.1) (fun u41 => some (o39.2.2.2.2.2.2.2.2.2.1, o39.2.2.2.2.2.2.2.2.2.2.1, o39.2.2.2.2.2.2.2.2.2.2.2.2, u41, ()))))) : Option Rsp) := rfl
theorem an_step (x0 : List Pr) (x1 : List UInt8) (x2 : List Pr) (x3 : Int) (x4 : Int) (x5 : Qry) (x6 : Int) (x7 : Int) (x8 : Int) (x9 : Int) (x10 : Unit) (x11 : Unit) (x12 : Int) (x13 : Int) (x14 : Prf × Unit) (x15 : List Pr) : affiantref16_Answer_1_step x0 x1 x2 x3 x4 x5 x6 x7 x8 x9 x10 x11 x12 x13 x14 x15 =
  (fork (decide (x4 < x3)) (need (0 ≤ x4 ∧ x4 < (List.length x2 : Int)) (fork (!sless (List.getD x2 (Int.toNat x4) zPr).1 x5.2.1) (fork (sless (List.getD x2 (Int.toNat x4) zPr).1 x1) (need (List.length ([] : List Pr) + List.length x15 ≤ 2147483648) (need (List.length (([] : List Pr) ++ x15) + List.length ([(List.getD x2 (Int.toNat x4) zPr)] : List Pr) ≤ 2147483648) (some (.inl ((w64 (x4 + (1 : Int))), ((([] : List Pr) ++ x15) ++ ([(List.getD x2 (Int.toNat x4) zPr)] : List Pr))))))) (some (.inl ((w64 (x4 + (1 : Int))), x15)))) (some (.inl ((w64 (x4 + (1 : Int))), x15))))) (some (.inr (x0, x1, x5, x6, x7, x8, x9, x10, x11, x12, x13, x14, x15))) : Option ((Int × List Pr) ⊕ ((List Pr) × List UInt8 × Qry × Int × Int × Int × Int × Unit × Unit × Int × Int × (Prf × Unit) × List Pr))) := rfl
theorem same_an2 : @affiantref16_Answer_2 = @affiantref16_Answer_1 := rfl
theorem same_an3 : @affiantref16_Answer_3 = @affiantref16_Answer_1 := rfl
theorem an_loop (l : List Pr) (hl : l.length ≤ 1000) (e : List UInt8) (q : Qry) (a b c d : Int) (u v : Unit) (i j : Int) (z : Prf × Unit) :
  affiantref16_Answer_1 l e l (l.length : Int) 0 q a b c d u v i j z [] = some (l, e, q, a, b, c, d, u, v, i, j, z, rangeF l q.2.1 e) := by
 unfold affiantref16_Answer_1
 have := loop_for (step := fun (s : Int × List Pr) => affiantref16_Answer_1_step l e l (l.length : Int) s.1 q a b c d u v i j z s.2) (fun k (_ : Unit) => ((k : Int), (l.take k).filter (inR q.2.1 e))) (fun _ _ => ()) (fun _ => (l, e, q, a, b, c, d, u, v, i, j, z, rangeF l q.2.1 e)) l.length (fun _ _ => True) (fun k w hi _ => ⟨?_, trivial⟩) (fun w _ => ?_) l.length 0 () (by omega) trivial
 ·exact this
 ·show affiantref16_Answer_1_step l e l (l.length : Int) (k : Int) q a b c d u v i j z ((l.take k).filter (inR q.2.1 e)) = some (.inl (((k + 1 : Nat) : Int), (l.take (k + 1)).filter (inR q.2.1 e)))
  have hb : ((l.take k).filter (inR q.2.1 e)).length ≤ k := Nat.le_trans (List.length_filter_le _ _) (by rw [List.length_take]; omega)
  have t := filter_take_succ l (inR q.2.1 e) hi
  have hin : inR q.2.1 e (l.getD k zPr) = (!sless (l.getD k zPr).1 q.2.1 && sless (l.getD k zPr).1 e) := rfl
  rw [an_step, fork_t (by omega), need_true (by omega), Int.toNat_natCast, w64_eq (by omega) (by omega), List.nil_append, t, hin]
  cases sless (l.getD k zPr).1 q.2.1 with
  | true => rw [if_neg (by simp), List.append_nil]; rfl
  | false =>
   cases sless (l.getD k zPr).1 e with
   | false => rw [if_neg (by simp), List.append_nil]; rfl
   | true =>
    rw [Bool.not_false, fork_tt, fork_tt, need_true (by rw [List.length_nil]; omega), need_true (by rw [List.length_singleton]; omega), if_pos (by simp)]; rfl
 ·show affiantref16_Answer_1_step l e l (l.length : Int) (l.length : Int) q a b c d u v i j z ((l.take l.length).filter (inR q.2.1 e)) = _
  rw [an_step, fork_f (by omega), List.take_of_length_le (Nat.le_refl _)]; rfl
def endQ (q : Qry) : List UInt8 := if q.1 = 1 then q.2.1 else q.2.2.1
noncomputable def ansS (id : Int) (q : Qry) (h : Int) (l : List Pr) : Rsp :=
 if q.1 = 1 ∧ isAt l q.2.1 = true then (id, h, [l.getD (belowN l q.2.1) zPr], someN l (belowN l q.2.1) (belowN l q.2.1 + 1), ())
 else (id, h, rangeF l q.2.1 (endQ q), someN l (belowN l q.2.1 - 1) (min (belowN l (maxS q.2.1 (endQ q)) + 1) l.length), ())
theorem answer_eq (id : Int) (q : Qry) (h : Int) (l : List Pr) (hk : KvOk l) : affiantref16_Answer id q h l = some (ansS id q h l) := by
 have hl := hk.1
 have hb := below_le l q.2.1
 rw [answer_def, same_an2, same_an3, rfirst_eq l (by omega), andThen_mk, Int.toNat_natCast]
 unfold ansS endQ
 by_cases c : q.1 = 1
 ·rw [fork_t c]
  have ho : affiantref16_Answer_1 l q.2.1 l (l.length : Int) 0 q 0 0 0 0 () () id h (((0 : Int), (0 : Int), [], [], ()), ()) [] = _ := an_loop l (by omega) q.2.1 q 0 0 0 0 () () id h (((0 : Int), (0 : Int), [], [], ()), ())
  by_cases c1 : belowN l q.2.1 < l.length
  ·by_cases c2 : (l.getD (belowN l q.2.1) zPr).1 = q.2.1
   ·have ha : isAt l q.2.1 = true := by unfold isAt; rw [decide_eq_true_eq]; exact ⟨c1, c2⟩
    have e1 : cutL l (belowN l q.2.1 : Int) ((belowN l q.2.1 : Int) + 1) = [l.getD (belowN l q.2.1) zPr] := by
     have := drop_take_succ l (f := belowN l q.2.1) (n := 0) (by omega)
     unfold cutL
     rw [Int.toNat_natCast, show ((belowN l q.2.1 : Int) + 1).toNat = belowN l q.2.1 + 1 from by omega, List.drop_take, show belowN l q.2.1 + 1 - belowN l q.2.1 = 0 + 1 from by omega, this]
     rfl
    rw [fork_t (by omega), need_true (by omega), fork_t c2, w64_eq (by omega) (by omega), need_true (by omega), show (belowN l q.2.1 : Int) + 1 = ((belowN l q.2.1 + 1 : Nat) : Int) from by omega, rprove_eq l hk _ _ (by omega), andThen_mk, if_pos ⟨c, ha⟩, show ((belowN l q.2.1 + 1 : Nat) : Int) = (belowN l q.2.1 : Int) + 1 from by omega, e1]
   ·have ha : ¬ (q.1 = 1 ∧ isAt l q.2.1 = true) := by unfold isAt; rw [decide_eq_true_eq]; exact fun e => c2 e.2.2
    rw [fork_t (by omega), need_true (by omega), fork_f c2, ho, andThen_mk]
    dsimp only
    rw [rcover_eq l hk, andThen_mk, if_neg ha, if_pos c]
  ·have ha : ¬ (q.1 = 1 ∧ isAt l q.2.1 = true) := by unfold isAt; rw [decide_eq_true_eq]; exact fun e => c1 e.2.1
   rw [fork_f (by omega), ho, andThen_mk]
   dsimp only
   rw [rcover_eq l hk, andThen_mk, if_neg ha, if_pos c]
 ·have ho : affiantref16_Answer_1 l q.2.2.1 l (l.length : Int) 0 q 0 0 0 0 () () id h (((0 : Int), (0 : Int), [], [], ()), ()) [] = _ := an_loop l (by omega) q.2.2.1 q 0 0 0 0 () () id h (((0 : Int), (0 : Int), [], [], ()), ())
  rw [fork_f c, ho, andThen_mk]
  dsimp only
  rw [rcover_eq l hk, andThen_mk, if_neg (fun e => c e.1), if_neg c]
theorem ans_ok (id : Int) (q : Qry) (h : Int) (l : List Pr) (hrow : RowOk l) : PrfOk (ansS id q h l).2.2.2.1 ∧ (ansS id q h l).2.2.1.length ≤ 12 ∧ rightP (ansS id q h l).2.2.1 = true ∧ (ansS id q h l).1 = id ∧ (ansS id q h l).2.1 = h := by
 have hk := row_kv hrow
 have hl := hrow.2.1
 have hrt := row_right hrow
 have hb := below_le l q.2.1
 unfold ansS
 split
 ·rename_i c
  have := (isAt_lt c.2).1
  have hs : [l.getD (belowN l q.2.1) zPr].Sublist l := List.singleton_sublist.2 (getD_mem this)
  exact ⟨someN_ok l hk _ _ (by omega), by simp, right_sub hrt hs, rfl, rfl⟩
 ·exact ⟨someN_ok l hk _ _ (by omega), Nat.le_trans (List.length_filter_le _ _) hl, right_sub hrt List.filter_sublist, rfl, rfl⟩
theorem query_eq (k : Int × Int × Int × Int × Int × Unit) : ∃ q, affiantkeep_Query_Query k = some q ∧ (q.1 = 1 ∨ q.1 = 2) := by
 obtain ⟨a, _, ea⟩ := key_eq k.2.1
 obtain ⟨b, _, eb⟩ := key_eq k.2.2.1
 generalize keys12.getD a [] = x at ea
 generalize keys12.getD b [] = y at eb
 obtain ⟨r, er, _, _⟩ := within_eq k.2.2.2.1 0 5 (by omega) (by omega) (by omega)
 obtain ⟨s, es, _, _⟩ := within_eq k.2.2.2.2.1 1 6 (by omega) (by omega) (by omega)
 unfold affiantkeep_Query_Query
 rw [ea, andThen_mk, er, andThen_mk, es, andThen_mk, eb, andThen_mk]
 by_cases c1 : band k.1 1 = 1
 ·rw [fork_t c1]
  by_cases c3 : Int.tmod k.1 4 = 3
  ·cases sless y x with
   | true => rw [fork_tt, fork_t c3]; exact ⟨_, rfl, .inr rfl⟩
   | false => rw [fork_ff, fork_t c3]; exact ⟨_, rfl, .inr rfl⟩
  ·cases sless y x with
   | true => rw [fork_tt, fork_f c3]; exact ⟨_, rfl, .inr rfl⟩
   | false => rw [fork_ff, fork_f c3]; exact ⟨_, rfl, .inr rfl⟩
 ·rw [fork_f c1]
  by_cases c3 : Int.tmod k.1 4 = 3
  ·rw [fork_t c3]; exact ⟨_, rfl, .inr rfl⟩
  ·rw [fork_f c3]; exact ⟨_, rfl, .inl rfl⟩
end Go.Ax.V
