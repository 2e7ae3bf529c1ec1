/-
  Chapter 17: heights at their edges, pairs out of order, too long: ErrForm, at no cost; more pairs than one to a key's query: ErrProof.
-/
import Derived.Test.YtanhbdkimbljeaaCAdmitFormsLAdmitRuns
namespace Go.Ax.V
open Go.Ax
set_option linter.unusedVariables false
set_option linter.unusedSimpArgs false
def two : List Pr := [(([110, 101, 118, 101, 114] : List UInt8), ([] : List UInt8), ()), (([110, 101, 118, 101, 114, 101, 118, 101, 114] : List UInt8), ([] : List UInt8), ())]
theorem forms_tail (l : List Pr) (hrow : RowOk l) (q : Qry) (hq : q.1 = 1 ∨ q.1 = 2) (x : Rsp) (r : Rsp) (hr : r = ansS 1 q 2 l) (hx : admR x = false) (hx2 : PrfOk x.2.2.2.1) (hx3 : x.2.2.1.length ≤ 1000) : (andThen (admit_Check q (rootL l) x) (fun u14 => fork (decide (u14 = (1 : Int))) (andThen (admit_Right x) (fun u17 => fork (!u17) (andThen (admit_Cost x) (fun u20 => fork (decide (u20 = (0 : Int))) (andThen (admit_Right r) (fun u23 => fork u23 (andThen (admit_Check q (rootL l) (r.1, r.2.1, ([(([110, 101, 118, 101, 114] : List UInt8), ([] : List UInt8), ()), (([110, 101, 118, 101, 114, 101, 118, 101, 114] : List UInt8), ([] : List UInt8), ())] : List Pr), r.2.2.2.1, ())) (fun u26 => fork (decide (u26 = (2 : Int))) (andThen (affiantlaw17_AdmitRuns) (fun u29 => some u29)) (none))) (none))) (none))) (none))) (none))) = some true := by
 have hk := row_kv hrow
 have hrt := row_right hrow
 obtain ⟨o1, o2, o3, o4, o5⟩ := ans_ok 1 q 2 l hrow
 rw [← hr] at o1 o2 o3 o4 o5
 have cx := admCheck_eq q (rootL l) x hx2 (by omega)
 have hcx : admS q (rootL l) x = 1 := by
  unfold admS
  rw [hx, if_neg (by simp)]
 rw [hcx] at cx
 have rx := admRight_eq x (by omega)
 have kx := admCost_eq x hx2 (by omega)
 rw [hx] at rx kx
 have rr := admRight_eq r (by omega)
 have hrr : admR r = true := by
  unfold admR
  rw [o5, o3]; rfl
 rw [hrr] at rr
 have c2 := admCheck_eq q (rootL l) (r.1, r.2.1, two, r.2.2.2.1, ()) o1 (by simp [two])
 have h2 : admS q (rootL l) (r.1, r.2.1, two, r.2.2.2.1, ()) = 2 := by
  unfold admS
  have hR : admR (r.1, r.2.1, two, r.2.2.2.1, ()) = true := by
   unfold admR
   dsimp only
   rw [o5]; rfl
  rw [hR, if_pos rfl]
  rcases hq with c | c
  ·rw [if_neg (by omega), if_neg (by show ¬ two.length = 0; decide), if_neg (by show ¬ two.length = 1; decide)]
  ·rw [if_pos c]
   dsimp only
   have e : r.2.2.2.1 = someN l (belowN l q.2.1 - 1) (min (belowN l (maxS q.2.1 q.2.2.1) + 1) l.length) := by
    rw [hr]
    unfold ansS endQ
    rw [if_neg (by omega), if_neg (by omega)]
   rw [e, honest_range l hrt]
   have hne : rangeF l q.2.1 q.2.2.1 ≠ two := fun q0 => by
    have hm : (two.getD 0 zPr) ∈ rangeF l q.2.1 q.2.2.1 := by rw [q0]; decide
    have := hrow.2.2.1 _ ((List.mem_filter.1 hm).1)
    revert this; decide
   rw [decide_eq_false hne]; rfl
 rw [h2] at c2
 rw [cx, andThen_mk, fork_t rfl, rx, andThen_mk, Bool.not_false, fork_tt, kx, andThen_mk, if_neg (by simp), fork_t rfl, rr, andThen_mk, fork_tt]
 show andThen (admit_Check q (rootL l) (r.1, r.2.1, two, r.2.2.2.1, ())) _ = _
 rw [c2, andThen_mk, fork_t rfl, law_AdmitRuns]
 rfl
theorem law_AdmitForms (y0 : List Int) (y1 : Int × Int × Int × Int × Int × Unit) (y2 y3 : Int) (w0 : Wf (.slice (.int .i64)) y0) (w1 : Wf (.fld (.int .i64) (.fld (.int .i64) (.fld (.int .i64) (.fld (.int .i64) (.fld (.int .i64) .unit))))) y1) (w2 : Wf (.int .i64) y2) (w3 : Wf (.int .i64) y3) : affiantlaw17_AdmitForms y0 y1 y2 y3 = some true := by
 have e8 : tyBytes (.int .i64) = 8 := rfl
 have hp0 : y0.length ≤ 140737488355328 := by have := w0.1; rw [e8] at this; omega
 obtain ⟨l, el, hrow⟩ := pairs_eq y0 hp0
 obtain ⟨q, eq, hq⟩ := query_eq y1
 have hk := row_kv hrow
 obtain ⟨m, em, m1, m2⟩ := within_eq y3 0 99 (by omega) (by omega) (by omega)
 obtain ⟨w, ew, wa, wb⟩ := within_eq y2 0 4 (by omega) (by omega) (by omega)
 obtain ⟨o1, o2, o3, o4, o5⟩ := ans_ok 1 q 2 l hrow
 unfold affiantlaw17_AdmitForms
 rw [el, andThen_mk, eq, andThen_mk, stroot_eq l hk, andThen_mk, answer_eq 1 q 2 l hk, andThen_mk, em, andThen_mk, ew, andThen_mk]
 by_cases c0 : w = 0
 ·rw [fork_t c0, w64_eq (by omega) (by omega)]
  refine forms_tail l hrow q hq ((ansS 1 q 2 l).1, 0 - m, (ansS 1 q 2 l).2.2.1, (ansS 1 q 2 l).2.2.2.1, ()) _ rfl ?_ o1 (by show (ansS 1 q 2 l).2.2.1.length ≤ 1000; omega)
  unfold admR
  rw [decide_eq_false (by show ¬ (1 : Int) ≤ 0 - m; omega)]; rfl
 rw [fork_f c0]
 by_cases c1 : w = 1
 ·rw [fork_t c1, w64_eq (by omega) (by omega)]
  refine forms_tail l hrow q hq ((ansS 1 q 2 l).1, 17 + m, (ansS 1 q 2 l).2.2.1, (ansS 1 q 2 l).2.2.2.1, ()) _ rfl ?_ o1 (by show (ansS 1 q 2 l).2.2.1.length ≤ 1000; omega)
  unfold admR
  rw [decide_eq_false (p := (17 + m : Int) ≤ 16) (by omega), Bool.false_and, Bool.and_false]
 rw [fork_f c1]
 by_cases c2 : w = 2
 ·rw [fork_t c2]
  refine forms_tail l hrow q hq ((ansS 1 q 2 l).1, (ansS 1 q 2 l).2.1, [([98], [], ()), ([97], [], ())], (ansS 1 q 2 l).2.2.2.1, ()) _ rfl ?_ o1 (by simp)
  unfold admR
  rw [show rightP [([98], [], ()), ([97], [], ())] = false from by decide, Bool.and_false, Bool.and_false]
 rw [fork_f c2]
 by_cases c3 : w = 3
 ·rw [fork_t c3]
  refine forms_tail l hrow q hq ((ansS 1 q 2 l).1, (ansS 1 q 2 l).2.1, [zPr], (ansS 1 q 2 l).2.2.2.1, ()) _ rfl ?_ o1 (by simp)
  unfold admR
  rw [show rightP [zPr] = false from by decide, Bool.and_false, Bool.and_false]
 rw [fork_f c3, need_true (by omega)]
 refine forms_tail l hrow q hq ((ansS 1 q 2 l).1, (ansS 1 q 2 l).2.1, [([97], List.replicate (Int.toNat 25) 0, ())], (ansS 1 q 2 l).2.2.2.1, ()) _ rfl ?_ o1 (by simp)
 unfold admR
 rw [show rightP [([97], List.replicate (Int.toNat 25) 0, ())] = false from by decide, Bool.and_false, Bool.and_false]
end Go.Ax.V
