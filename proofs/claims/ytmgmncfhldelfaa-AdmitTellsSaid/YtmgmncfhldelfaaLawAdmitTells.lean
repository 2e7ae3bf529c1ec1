/-
  The law affiantlaw17.AdmitTells of the program holds: its statement is proved for every input, with no condition of our own.
-/
import Derived.Test.YtmgmncfhldelfaaRows
import Derived.Test.YtmgmncfhldelfaaCAdmitTellsW1
import Derived.Test.YtmgmncfhldelfaaCAdmitTellsLAdmitTells
import Derived.WalkKit
import Derived.ProofKit
import Derived.OpenShut
import Derived.ShutString
import Derived.ChangeOld
import Derived.Below
import Derived.SizedLaws
namespace Go.Proofs.Ytmgmncfhldelfaa.admitTells
open Go.ChangeShapes Go.WideShapes Go.ChangeAt Go.RowKit
open Go.ChangeMaps (open_string shut_string)
set_option linter.unusedVariables false
theorem own : ownKnob Try.prog.godebug = none := by kernel_rfl
theorem laidOut : laidOutB Try.prog = true := by kernel_rfl
set_option maxRecDepth 100000 in
theorem lifted (os : Os) (started : os.Started) (H : Type) (enc : TypeId × Value → H) :
    ReturnsInHanded {} Try.checked os 7 .any (Rows.admitTellsSpec.pre6 enc Try.prog Try.f7 Rows.admitTellsRow.domain false) (Rows.admitTellsSpec.post enc Try.prog Try.f7 false true false false) := by
  refine returnsInHanded_of_change_sized (C := Try.checked) own started (by kernel_rfl) Try.func7
    (ChangeSpec.witness6 (enc := enc) (C := Try.checked) false ⟨#[], #[.slice none 0 0, .agg #[.int .i64 0, .int .i64 0, .int .i64 0, .int .i64 0, .int .i64 0], .agg #[.int .i64 0, .int .i64 0, .int .i64 0, .int .i64 0, .int .i64 0], .int .i64 0, .int .i64 0, .int .i64 0, .agg #[.int .i64 0, .int .i64 0, .slice none 0 0, .int .i64 0, .int .i64 0, .slice none 0 0, .slice none 0 0], .bool false], []⟩ 8 (by kernel_rfl) (by kernel_rfl) (by kernel_rfl) (by kernel_rfl)) ?_
  intro W base args ds gs before hval0 hW hcnd hsz0 _
  have hsz : (DataW.weightsEach Try.prog (Try.f7.params.toList ++ Rows.admitTellsSpec.plain.varTypes Try.prog) (ds ++ gs)).all (· ≤ reachBytes) = true := hsz0
  have hval : ∀ (j : Nat) t v, Try.f7.params[j]? = some t → args[j]? = some v → Value.okWide Try.prog W .any base t v := hval0
  have hW' := hW
  obtain ⟨p, q, hA0, hV, rfl, hfz, hnd⟩ := hW
  have hA : DataW.TrodAll enc Try.prog W 0 (fun _ => true) true Try.f7.params.toList args.toList ds p := hA0
  rw [Try.params7] at hA hval hsz
  obtain ⟨v0, vs0, d0, ds0, p0, q0, hargs, rfl, rfl, h0, r0⟩ := trodAll_cons hA
  obtain ⟨v1, vs1, d1, ds1, p1, q1, rfl, rfl, rfl, h1, r1⟩ := trodAll_cons r0
  obtain ⟨v2, vs2, d2, ds2, p2, q2, rfl, rfl, rfl, h2, r2⟩ := trodAll_cons r1
  obtain ⟨v3, vs3, d3, ds3, p3, q3, rfl, rfl, rfl, h3, r3⟩ := trodAll_cons r2
  obtain ⟨v4, vs4, d4, ds4, p4, q4, rfl, rfl, rfl, h4, r4⟩ := trodAll_cons r3
  obtain ⟨v5, vs5, d5, ds5, p5, q5, rfl, rfl, rfl, h5, r5⟩ := trodAll_cons r4
  obtain ⟨v6, vs6, d6, ds6, p6, q6, rfl, rfl, rfl, h6, r6⟩ := trodAll_cons r5
  obtain ⟨v7, vs7, d7, ds7, p7, q7, rfl, rfl, rfl, h7, r7⟩ := trodAll_cons r6
  obtain ⟨rfl, rfl, rfl⟩ := trodAll_nil r7
  obtain rfl : args = #[v0, v1, v2, v3, v4, v5, v6, v7] := by cases args; simp_all
  obtain ⟨rfl, rfl⟩ := trodVars_none hV
  obtain ⟨a0, len0, cap0, rfl⟩ := okWide_slice Try.underlying22 (hval 0 22 v0 rfl rfl)
  have lt0 : ∀ x ∈ p0, x.block < W.heap.size := by obtain ⟨m, hm⟩ := h0; exact DataW.trod_lt m _ _ _ hm
  obtain ⟨y0, t0, w0⟩ := Go.Ax.open_arg (W := W) tab bytes (ty := (.slice (.int .i64))) (by kernel_rfl) (t := 22) (b := 24) (by kernel_rfl) h0 (fun n hn => of_decide_eq_true (List.all_eq_true.1 hsz n (DataW.weights_mem_each (j := 0) rfl rfl n hn))) (Go.Ax.packOne (by kernel_rfl) rfl)
  obtain ⟨a1, rfl, _⟩ := okWide_struct Try.underlying49 (hval 1 49 v1 rfl rfl)
  have lt1 : ∀ x ∈ p1, x.block < W.heap.size := by obtain ⟨m, hm⟩ := h1; exact DataW.trod_lt m _ _ _ hm
  obtain ⟨y1, t1, w1⟩ := Go.Ax.open_arg (W := W) tab bytes (ty := (.fld (.int .i64) (.fld (.int .i64) (.fld (.int .i64) (.fld (.int .i64) (.fld (.int .i64) .unit)))))) (by kernel_rfl) (t := 49) (b := 40) (by kernel_rfl) h1 (fun n hn => of_decide_eq_true (List.all_eq_true.1 hsz n (DataW.weights_mem_each (j := 1) rfl rfl n hn))) (Go.Ax.packAgg (by kernel_rfl))
  obtain ⟨a2, rfl, _⟩ := okWide_struct Try.underlying49 (hval 2 49 v2 rfl rfl)
  have lt2 : ∀ x ∈ p2, x.block < W.heap.size := by obtain ⟨m, hm⟩ := h2; exact DataW.trod_lt m _ _ _ hm
  obtain ⟨y2, t2, w2⟩ := Go.Ax.open_arg (W := W) tab bytes (ty := (.fld (.int .i64) (.fld (.int .i64) (.fld (.int .i64) (.fld (.int .i64) (.fld (.int .i64) .unit)))))) (by kernel_rfl) (t := 49) (b := 40) (by kernel_rfl) h2 (fun n hn => of_decide_eq_true (List.all_eq_true.1 hsz n (DataW.weights_mem_each (j := 2) rfl rfl n hn))) (Go.Ax.packAgg (by kernel_rfl))
  obtain ⟨a3, rfl⟩ := okWide_int Try.underlying3 (hval 3 3 v3 rfl rfl)
  have lt3 : ∀ x ∈ p3, x.block < W.heap.size := by obtain ⟨m, hm⟩ := h3; exact DataW.trod_lt m _ _ _ hm
  obtain ⟨y3, t3, w3⟩ := Go.Ax.open_arg (W := W) tab bytes (ty := (.int .i64)) (by kernel_rfl) (t := 3) (b := 8) (by kernel_rfl) h3 (fun n hn => of_decide_eq_true (List.all_eq_true.1 hsz n (DataW.weights_mem_each (j := 3) rfl rfl n hn))) (Go.Ax.packOne (by kernel_rfl) rfl)
  obtain ⟨a4, rfl⟩ := okWide_int Try.underlying3 (hval 4 3 v4 rfl rfl)
  have lt4 : ∀ x ∈ p4, x.block < W.heap.size := by obtain ⟨m, hm⟩ := h4; exact DataW.trod_lt m _ _ _ hm
  obtain ⟨y4, t4, w4⟩ := Go.Ax.open_arg (W := W) tab bytes (ty := (.int .i64)) (by kernel_rfl) (t := 3) (b := 8) (by kernel_rfl) h4 (fun n hn => of_decide_eq_true (List.all_eq_true.1 hsz n (DataW.weights_mem_each (j := 4) rfl rfl n hn))) (Go.Ax.packOne (by kernel_rfl) rfl)
  obtain ⟨a5, rfl⟩ := okWide_int Try.underlying3 (hval 5 3 v5 rfl rfl)
  have lt5 : ∀ x ∈ p5, x.block < W.heap.size := by obtain ⟨m, hm⟩ := h5; exact DataW.trod_lt m _ _ _ hm
  obtain ⟨y5, t5, w5⟩ := Go.Ax.open_arg (W := W) tab bytes (ty := (.int .i64)) (by kernel_rfl) (t := 3) (b := 8) (by kernel_rfl) h5 (fun n hn => of_decide_eq_true (List.all_eq_true.1 hsz n (DataW.weights_mem_each (j := 5) rfl rfl n hn))) (Go.Ax.packOne (by kernel_rfl) rfl)
  obtain ⟨a6, rfl, _⟩ := okWide_struct Try.underlying54 (hval 6 54 v6 rfl rfl)
  have lt6 : ∀ x ∈ p6, x.block < W.heap.size := by obtain ⟨m, hm⟩ := h6; exact DataW.trod_lt m _ _ _ hm
  obtain ⟨y6, t6, w6⟩ := Go.Ax.open_arg (W := W) tab bytes (ty := (.fld (.int .i64) (.fld (.int .i64) (.fld (.slice (.fld .str (.fld .str .unit))) (.fld (.fld (.int .i64) (.fld (.int .i64) (.fld (.slice (.fld .str (.fld .str .unit))) (.fld (.slice (.slice (.arr 32 (.int .u8)))) .unit)))) .unit))))) (by kernel_rfl) (t := 54) (b := 104) (by kernel_rfl) h6 (fun n hn => of_decide_eq_true (List.all_eq_true.1 hsz n (DataW.weights_mem_each (j := 6) rfl rfl n hn))) (Go.Ax.packAgg (by kernel_rfl))
  obtain ⟨a7, rfl⟩ := okWide_bool Try.underlying4 (hval 7 4 v7 rfl rfl)
  have lt7 : ∀ x ∈ p7, x.block < W.heap.size := by obtain ⟨m, hm⟩ := h7; exact DataW.trod_lt m _ _ _ hm
  obtain ⟨y7, t7, w7⟩ := Go.Ax.open_arg (W := W) tab bytes (ty := .bool) (by kernel_rfl) (t := 4) (b := 1) (by kernel_rfl) h7 (fun n hn => of_decide_eq_true (List.all_eq_true.1 hsz n (DataW.weights_mem_each (j := 7) rfl rfl n hn))) (Go.Ax.packOne (by kernel_rfl) rfl)
  have hc : Go.Ax.CallC Try.prog 7 [(.v (.slice (.int .i64)) y0), (.v (.fld (.int .i64) (.fld (.int .i64) (.fld (.int .i64) (.fld (.int .i64) (.fld (.int .i64) .unit))))) y1), (.v (.fld (.int .i64) (.fld (.int .i64) (.fld (.int .i64) (.fld (.int .i64) (.fld (.int .i64) .unit))))) y2), (.v (.int .i64) y3), (.v (.int .i64) y4), (.v (.int .i64) y5), (.v (.fld (.int .i64) (.fld (.int .i64) (.fld (.slice (.fld .str (.fld .str .unit))) (.fld (.fld (.int .i64) (.fld (.int .i64) (.fld (.slice (.fld .str (.fld .str .unit))) (.fld (.slice (.slice (.arr 32 (.int .u8)))) .unit)))) .unit)))) y6), (.v .bool y7)] [] (.v .bool true) [] := affiantlaw17_AdmitTells_ok y0 y1 y2 y3 y4 y5 y6 y7 true (Go.Ax.V.law_AdmitTells y0 y1 y2 y3 y4 y5 y6 y7 w0 w1 w2 w3 w4 w5 w6 w7)
  refine (hc.law can7 (Go.Ax.ARel.cons t0 (Go.Ax.ARel.cons t1 (Go.Ax.ARel.cons t2 (Go.Ax.ARel.cons t3 (Go.Ax.ARel.cons t4 (Go.Ax.ARel.cons t5 (Go.Ax.ARel.cons t6 (Go.Ax.ARel.cons t7 Go.Ax.ARel.nil))))))))).mono fun e W' ⟨he, bel⟩ => ?_
  subst he
  exact ⟨_, rfl, _, _, _, [], _, [], hW', trodAll_mk1 (shut_bool Try.underlying4 _), (trodAll_cons_mk (Below.trod laidOut (by kernel_rfl) (of_decide_eq_true (by kernel_rfl)) h0 bel lt0) (trodAll_cons_mk (Below.trod laidOut (by kernel_rfl) (of_decide_eq_true (by kernel_rfl)) h1 bel lt1) (trodAll_cons_mk (Below.trod laidOut (by kernel_rfl) (of_decide_eq_true (by kernel_rfl)) h2 bel lt2) (trodAll_cons_mk (Below.trod laidOut (by kernel_rfl) (of_decide_eq_true (by kernel_rfl)) h3 bel lt3) (trodAll_cons_mk (Below.trod laidOut (by kernel_rfl) (of_decide_eq_true (by kernel_rfl)) h4 bel lt4) (trodAll_cons_mk (Below.trod laidOut (by kernel_rfl) (of_decide_eq_true (by kernel_rfl)) h5 bel lt5) (trodAll_cons_mk (Below.trod laidOut (by kernel_rfl) (of_decide_eq_true (by kernel_rfl)) h6 bel lt6) (trodAll_cons_mk (Below.trod laidOut (by kernel_rfl) (of_decide_eq_true (by kernel_rfl)) h7 bel lt7) trodAll_mk0)))))))), rfl, bel.frame _, fun h => by cases h⟩
theorem over : Rows.admitTellsRow.holds Try.pinned (OpenSpec.ofChange Rows.admitTellsSpec) :=
  OpenClaim.holds_of_wide 7 Try.f7 rfl rfl rfl rfl rfl rfl rfl ⟨rfl, rfl, rfl, rfl, rfl⟩ rfl rfl rfl rfl rfl (by kernel_rfl) Try.func7 (by kernel_rfl)
    (of_decide_eq_true (by kernel_rfl)) (by unfold Func.isWrapper; first | (rw [if_pos (by decide +kernel)]; kernel_rfl) | (rw [if_neg (by decide +kernel)]; exact ⟨rfl, rfl⟩))
    (fun os started H enc _ => lifted os started H enc)
theorem proved : Rows.AdmitTellsSaid := over
end Go.Proofs.Ytmgmncfhldelfaa.admitTells
namespace Go.Proofs.Ytmgmncfhldelfaa
/-- The row, under a short name, for the claim. -/
theorem admitTells_holds : Rows.AdmitTellsSaid := admitTells.proved
end Go.Proofs.Ytmgmncfhldelfaa
