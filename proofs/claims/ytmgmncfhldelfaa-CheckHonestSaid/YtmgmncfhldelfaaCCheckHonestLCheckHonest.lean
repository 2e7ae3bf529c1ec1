/-
  Chapter 9: what is made of a row shows what is in it: each pair, each absence, each range, whole.
-/
import Derived.Test.YtmgmncfhldelfaaCCheckHonestLCheckRuns
namespace Go.Ax.V
open Go.Ax
set_option linter.unusedVariables false
set_option linter.unusedSimpArgs false
theorem depth_all : ((List.range 13).all fun n => (List.range n).all fun j => decide ((sidesF n j n).length ≤ 10)) = true := by kernel_rfl
theorem depth_b {n j : Nat} (hn : n ≤ 12) (hj : j < n) : (sidesF n j n).length ≤ 10 := by
 have a := List.all_eq_true.1 depth_all n (List.mem_range.2 (by omega))
 have b := List.all_eq_true.1 a j (List.mem_range.2 hj)
 exact of_decide_eq_true b
theorem honest_range (l : List Pr) (hrt : rightP l = true) (a b : List UInt8) : rangeS (rootL l) a b (someN l (belowN l a - 1) (min (belowN l (maxS a b) + 1) l.length)) = (rangeF l a b, true) := by
 have h1 := below_le l a
 have h2 := below_le l (maxS a b)
 have h3 : sless (maxS a b) a = false := by
  unfold maxS
  cases c : sless a b with
  | true =>
   show sless b a = false
   cases q : sless b a with
   | false => rfl
   | true => have := sless_trans _ _ _ c q; rw [sless_irr] at this; cases this
  | false => exact sless_irr a
 have h4 := below_mono l (maxS a b) a h3
 rw [rangeS_some l hrt _ _ _ _ (by omega), if_pos]
 by_cases c : l.length = 0
 ·exact .inl c
 ·exact .inr ⟨by omega, by omega, by omega⟩
theorem someN_one (l : List Pr) {k : Nat} (hk : k < l.length) : someN l k (k + 1) = ((l.length : Int), (k : Int), [l.getD k zPr], [pathS (leavesB l) (k : Int)], ()) := by
 unfold someN
 rw [if_neg (by omega), show k + 1 - k = 0 + 1 from by omega, drop_take_succ l (by omega), pathsN_succ]
 rfl
theorem law_CheckHonest (y0 : List Int) (y1 y2 : Int) (w0 : Wf (.slice (.int .i64)) y0) (w1 : Wf (.int .i64) y1) (w2 : Wf (.int .i64) y2) : affiantlaw9_CheckHonest y0 y1 y2 = some true := by
 have e8 : tyBytes (.int .i64) = 8 := rfl
 have hp0 : y0.length ≤ 140737488355328 := by have := w0.1; rw [e8] at this; omega
 obtain ⟨l, el, hrow⟩ := pairs_eq y0 hp0
 obtain ⟨a, _, ea⟩ := key_eq y1
 obtain ⟨b, _, eb⟩ := key_eq y2
 generalize keys12.getD a [] = x at ea
 generalize keys12.getD b [] = y at eb
 have hk := row_kv hrow
 have hrt := row_right hrow
 have hl := hrow.2.1
 have hr := hrow.1
 have h1 := below_le l x
 have hle : (rangeF l x y).length ≤ l.length := List.length_filter_le _ _
 have c1 := checkRange_eq (rootL l) x y _ (someN_ok l hk (belowN l x - 1) (min (belowN l (maxS x y) + 1) l.length) (by omega))
 rw [honest_range l hrt] at c1
 unfold affiantlaw9_CheckHonest
 rw [el, andThen_mk, stroot_eq l hk, andThen_mk, ea, andThen_mk, eb, andThen_mk, range_eq l hk hr, andThen_mk, c1, andThen_mk, kget_eq l hr (by omega), andThen_mk, exist_eq l hk hr, andThen_mk, absent_eq l hk hr, andThen_mk]
 dsimp only
 rw [fork_tt, kvRange_eq l hr (by omega), andThen_mk, samePair_refl _ (by omega), andThen_mk, fork_tt]
 cases ha : isAt l x with
 | true =>
  obtain ⟨q1, q2⟩ := isAt_lt ha
  have ok := someN_ok l hk (belowN l x) (belowN l x + 1) (by omega)
  have ce := checkExist_eq (rootL l) (x, (l.getD (belowN l x) zPr).2.1, ()) _ ok
  have he : existS (rootL l) (x, (l.getD (belowN l x) zPr).2.1, ()) (someN l (belowN l x) (belowN l x + 1)) = true := by
   unfold existS
   rw [rootL_self l hrt _ _ (by omega), decide_eq_true (show belowN l x < belowN l x + 1 by omega), Bool.or_true, Bool.true_and, decide_eq_true_eq, someN_one l q1]
   show [l.getD (belowN l x) zPr] = _
   congr 1
   exact Prod.ext q2 (Prod.ext rfl rfl)
  rw [he] at ce
  have cc := checkCost_eq _ ok
  have hc : costS (someN l (belowN l x) (belowN l x + 1)) ≤ 12 := by
   unfold costS sizeP
   rw [someN_one l q1]
   dsimp only
   have pl := pathS_len l (by omega) (belowN l x) q1
   have dd := depth_b hl q1
   rw [if_neg (by omega), List.map_cons, List.map_nil, List.sum_cons, List.sum_nil, pl, List.length_singleton]
   omega
  rw [if_pos rfl, if_pos rfl, if_pos rfl]
  dsimp only
  rw [beq_self_eq_true, fork_tt, Bool.not_true, beq_self_eq_true, fork_tt, fork_ff, ce, andThen_mk, fork_tt, fork_tt, cc, andThen_mk, fork_t hc, law_CheckRuns]
  rfl
 | false =>
  have ok := someN_ok l hk (belowN l x - 1) (min (belowN l x + 1) l.length) (by omega)
  have ca := checkAbsent_eq (rootL l) x _ ok
  have hA : absS (rootL l) x (someN l (belowN l x - 1) (min (belowN l x + 1) l.length)) = true := by
   have hh := honest_range l hrt x x
   rw [maxS_self] at hh
   unfold absS
   rw [hh, Bool.true_and, Bool.not_eq_true']
   cases q : isAt (someN l (belowN l x - 1) (min (belowN l x + 1) l.length)).2.2.1 x with
   | false => rfl
   | true =>
    exfalso
    obtain ⟨z1, z2⟩ := isAt_lt q
    have hm : (someN l (belowN l x - 1) (min (belowN l x + 1) l.length)).2.2.1.getD (belowN (someN l (belowN l x - 1) (min (belowN l x + 1) l.length)).2.2.1 x) zPr ∈ l := by
     have hm2 := getD_mem (z := zPr) z1
     generalize (someN l (belowN l x - 1) (min (belowN l x + 1) l.length)).2.2.1.getD (belowN (someN l (belowN l x - 1) (min (belowN l x + 1) l.length)).2.2.1 x) zPr = u at hm2
     unfold someN at hm2
     split at hm2
     ·cases hm2
     ·exact List.mem_of_mem_drop (List.mem_of_mem_take hm2)
    have := (isAt_iff hr x).2 ⟨_, hm, z2⟩
    rw [ha] at this; cases this
  rw [hA] at ca
  have zk : PrfOk ((0 : Int), (0 : Int), [], [], ()) := ⟨by simp, by simp, by simp⟩
  have cc := checkCost_eq _ zk
  have hc : costS ((0 : Int), (0 : Int), [], [], ()) = 2 := rfl
  rw [hc] at cc
  rw [if_neg (by simp), if_neg (by simp), if_neg (by simp)]
  dsimp only
  rw [beq_self_eq_true, fork_tt, Bool.not_false, beq_self_eq_true, fork_tt, fork_tt, fork_ff, ca, andThen_mk, fork_tt, cc, andThen_mk, fork_t (by omega), law_CheckRuns]
  rfl
end Go.Ax.V
