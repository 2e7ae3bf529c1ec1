/-
  The law affiantlaw17.AdmitBinds of the program holds: its statement is proved for every input, with no condition of our own.
-/
import Derived.Test.YtnckmagemlajeaaRows
import Derived.Test.YtnckmagemlajeaaCAdmitBindsW1
import Derived.Test.YtnckmagemlajeaaCAdmitBindsLB
import Derived.WalkKit
import Derived.ProofKit
import Derived.OpenShut
import Derived.ShutString
import Derived.ChangeOld
import Derived.Below
import Derived.SizedLaws
namespace Go.Proofs.Ytnckmagemlajeaa.admitBinds
open Go.ChangeShapes Go.WideShapes Go.ChangeAt Go.RowKit
open Go.ChangeMaps (open_string shut_string)
set_option linter.unusedVariables false
theorem own : ownKnob Try.prog.godebug = none := by kernel_rfl
theorem laidOut : laidOutB Try.prog = true := by kernel_rfl
set_option maxRecDepth 100000 in
theorem lifted (os : Os) (started : os.Started) (H : Type) (enc : TypeId × Value → H) :
    ReturnsInHanded {} Try.checked os 3 .any (Rows.admitBindsSpec.pre6 enc Try.prog Try.f3 Rows.admitBindsRow.domain false) (Rows.admitBindsSpec.post enc Try.prog Try.f3 false true false false) := by
  refine returnsInHanded_of_change_sized (C := Try.checked) own started (by kernel_rfl) Try.func3
    (ChangeSpec.witness6 (enc := enc) (C := Try.checked) false ⟨#[], #[.slice none 0 0, .agg #[.int .i64 0, .int .i64 0, .int .i64 0, .int .i64 0, .int .i64 0], .agg #[.int .i64 0, .int .i64 0, .int .i64 0, .int .i64 0, .int .i64 0], .int .i64 0, .int .i64 0, .int .i64 0, .int .i64 0], []⟩ 8 (by kernel_rfl) (by kernel_rfl) (by kernel_rfl) (by kernel_rfl)) ?_
  intro W base args ds gs before hval0 hW hcnd hsz0 _
  have hsz : (DataW.weightsEach Try.prog (Try.f3.params.toList ++ Rows.admitBindsSpec.plain.varTypes Try.prog) (ds ++ gs)).all (· ≤ reachBytes) = true := hsz0
  have hval : ∀ (j : Nat) t v, Try.f3.params[j]? = some t → args[j]? = some v → Value.okWide Try.prog W .any base t v := hval0
  have hW' := hW
  obtain ⟨p, q, hA0, hV, rfl, hfz, hnd⟩ := hW
  have hA : DataW.TrodAll enc Try.prog W 0 (fun _ => true) true Try.f3.params.toList args.toList ds p := hA0
  rw [Try.params3] at hA hval hsz
  obtain ⟨v0, vs0, d0, ds0, p0, q0, hargs, rfl, rfl, h0, r0⟩ := trodAll_cons hA
  obtain ⟨v1, vs1, d1, ds1, p1, q1, rfl, rfl, rfl, h1, r1⟩ := trodAll_cons r0
  obtain ⟨v2, vs2, d2, ds2, p2, q2, rfl, rfl, rfl, h2, r2⟩ := trodAll_cons r1
  obtain ⟨v3, vs3, d3, ds3, p3, q3, rfl, rfl, rfl, h3, r3⟩ := trodAll_cons r2
  obtain ⟨v4, vs4, d4, ds4, p4, q4, rfl, rfl, rfl, h4, r4⟩ := trodAll_cons r3
  obtain ⟨v5, vs5, d5, ds5, p5, q5, rfl, rfl, rfl, h5, r5⟩ := trodAll_cons r4
  obtain ⟨v6, vs6, d6, ds6, p6, q6, rfl, rfl, rfl, h6, r6⟩ := trodAll_cons r5
  obtain ⟨rfl, rfl, rfl⟩ := trodAll_nil r6
  obtain rfl : args = #[v0, v1, v2, v3, v4, v5, v6] := by cases args; simp_all
  obtain ⟨rfl, rfl⟩ := trodVars_none hV
  obtain ⟨a0, len0, cap0, rfl⟩ := okWide_slice Try.underlying22 (hval 0 22 v0 rfl rfl)
  have lt0 : ∀ x ∈ p0, x.block < W.heap.size := by obtain ⟨m, hm⟩ := h0; exact DataW.trod_lt m _ _ _ hm
  obtain ⟨y0, t0, w0⟩ := Go.Ax.open_arg (W := W) tab bytes (ty := (.slice (.int .i64))) (by kernel_rfl) (t := 22) (b := 24) (by kernel_rfl) h0 (fun n hn => of_decide_eq_true (List.all_eq_true.1 hsz n (DataW.weights_mem_each (j := 0) rfl rfl n hn))) (Go.Ax.packOne (by kernel_rfl) rfl)
  obtain ⟨a1, rfl, _⟩ := okWide_struct Try.underlying24 (hval 1 24 v1 rfl rfl)
  have lt1 : ∀ x ∈ p1, x.block < W.heap.size := by obtain ⟨m, hm⟩ := h1; exact DataW.trod_lt m _ _ _ hm
  obtain ⟨y1, t1, w1⟩ := Go.Ax.open_arg (W := W) tab bytes (ty := (.fld (.int .i64) (.fld (.int .i64) (.fld (.int .i64) (.fld (.int .i64) (.fld (.int .i64) .unit)))))) (by kernel_rfl) (t := 24) (b := 40) (by kernel_rfl) h1 (fun n hn => of_decide_eq_true (List.all_eq_true.1 hsz n (DataW.weights_mem_each (j := 1) rfl rfl n hn))) (Go.Ax.packAgg (by kernel_rfl))
  obtain ⟨a2, rfl, _⟩ := okWide_struct Try.underlying24 (hval 2 24 v2 rfl rfl)
  have lt2 : ∀ x ∈ p2, x.block < W.heap.size := by obtain ⟨m, hm⟩ := h2; exact DataW.trod_lt m _ _ _ hm
  obtain ⟨y2, t2, w2⟩ := Go.Ax.open_arg (W := W) tab bytes (ty := (.fld (.int .i64) (.fld (.int .i64) (.fld (.int .i64) (.fld (.int .i64) (.fld (.int .i64) .unit)))))) (by kernel_rfl) (t := 24) (b := 40) (by kernel_rfl) h2 (fun n hn => of_decide_eq_true (List.all_eq_true.1 hsz n (DataW.weights_mem_each (j := 2) rfl rfl n hn))) (Go.Ax.packAgg (by kernel_rfl))
  obtain ⟨a3, rfl⟩ := okWide_int Try.underlying3 (hval 3 3 v3 rfl rfl)
  have lt3 : ∀ x ∈ p3, x.block < W.heap.size := by obtain ⟨m, hm⟩ := h3; exact DataW.trod_lt m _ _ _ hm
  obtain ⟨y3, t3, w3⟩ := Go.Ax.open_arg (W := W) tab bytes (ty := (.int .i64)) (by kernel_rfl) (t := 3) (b := 8) (by kernel_rfl) h3 (fun n hn => of_decide_eq_true (List.all_eq_true.1 hsz n (DataW.weights_mem_each (j := 3) rfl rfl n hn))) (Go.Ax.packOne (by kernel_rfl) rfl)
  obtain ⟨a4, rfl⟩ := okWide_int Try.underlying3 (hval 4 3 v4 rfl rfl)
  have lt4 : ∀ x ∈ p4, x.block < W.heap.size := by obtain ⟨m, hm⟩ := h4; exact DataW.trod_lt m _ _ _ hm
  obtain ⟨y4, t4, w4⟩ := Go.Ax.open_arg (W := W) tab bytes (ty := (.int .i64)) (by kernel_rfl) (t := 3) (b := 8) (by kernel_rfl) h4 (fun n hn => of_decide_eq_true (List.all_eq_true.1 hsz n (DataW.weights_mem_each (j := 4) rfl rfl n hn))) (Go.Ax.packOne (by kernel_rfl) rfl)
  obtain ⟨a5, rfl⟩ := okWide_int Try.underlying3 (hval 5 3 v5 rfl rfl)
  have lt5 : ∀ x ∈ p5, x.block < W.heap.size := by obtain ⟨m, hm⟩ := h5; exact DataW.trod_lt m _ _ _ hm
  obtain ⟨y5, t5, w5⟩ := Go.Ax.open_arg (W := W) tab bytes (ty := (.int .i64)) (by kernel_rfl) (t := 3) (b := 8) (by kernel_rfl) h5 (fun n hn => of_decide_eq_true (List.all_eq_true.1 hsz n (DataW.weights_mem_each (j := 5) rfl rfl n hn))) (Go.Ax.packOne (by kernel_rfl) rfl)
  obtain ⟨a6, rfl⟩ := okWide_int Try.underlying3 (hval 6 3 v6 rfl rfl)
  have lt6 : ∀ x ∈ p6, x.block < W.heap.size := by obtain ⟨m, hm⟩ := h6; exact DataW.trod_lt m _ _ _ hm
  obtain ⟨y6, t6, w6⟩ := Go.Ax.open_arg (W := W) tab bytes (ty := (.int .i64)) (by kernel_rfl) (t := 3) (b := 8) (by kernel_rfl) h6 (fun n hn => of_decide_eq_true (List.all_eq_true.1 hsz n (DataW.weights_mem_each (j := 6) rfl rfl n hn))) (Go.Ax.packOne (by kernel_rfl) rfl)
  have hc : Go.Ax.CallC Try.prog 3 [(.v (.slice (.int .i64)) y0), (.v (.fld (.int .i64) (.fld (.int .i64) (.fld (.int .i64) (.fld (.int .i64) (.fld (.int .i64) .unit))))) y1), (.v (.fld (.int .i64) (.fld (.int .i64) (.fld (.int .i64) (.fld (.int .i64) (.fld (.int .i64) .unit))))) y2), (.v (.int .i64) y3), (.v (.int .i64) y4), (.v (.int .i64) y5), (.v (.int .i64) y6)] [] (.v .bool true) [] := affiantlaw17_AdmitBinds_ok y0 y1 y2 y3 y4 y5 y6 true (Go.Ax.V.law_AdmitBinds y0 y1 y2 y3 y4 y5 y6 w0 w1 w2 w3 w4 w5 w6)
  refine (hc.law can3 (Go.Ax.ARel.cons t0 (Go.Ax.ARel.cons t1 (Go.Ax.ARel.cons t2 (Go.Ax.ARel.cons t3 (Go.Ax.ARel.cons t4 (Go.Ax.ARel.cons t5 (Go.Ax.ARel.cons t6 Go.Ax.ARel.nil)))))))).mono fun e W' ⟨he, bel⟩ => ?_
  subst he
  exact ⟨_, rfl, _, _, _, [], _, [], hW', trodAll_mk1 (shut_bool Try.underlying4 _), (trodAll_cons_mk (Below.trod laidOut (by kernel_rfl) (of_decide_eq_true (by kernel_rfl)) h0 bel lt0) (trodAll_cons_mk (Below.trod laidOut (by kernel_rfl) (of_decide_eq_true (by kernel_rfl)) h1 bel lt1) (trodAll_cons_mk (Below.trod laidOut (by kernel_rfl) (of_decide_eq_true (by kernel_rfl)) h2 bel lt2) (trodAll_cons_mk (Below.trod laidOut (by kernel_rfl) (of_decide_eq_true (by kernel_rfl)) h3 bel lt3) (trodAll_cons_mk (Below.trod laidOut (by kernel_rfl) (of_decide_eq_true (by kernel_rfl)) h4 bel lt4) (trodAll_cons_mk (Below.trod laidOut (by kernel_rfl) (of_decide_eq_true (by kernel_rfl)) h5 bel lt5) (trodAll_cons_mk (Below.trod laidOut (by kernel_rfl) (of_decide_eq_true (by kernel_rfl)) h6 bel lt6) trodAll_mk0))))))), rfl, bel.frame _, fun h => by cases h⟩
theorem over : Rows.admitBindsRow.holds Try.pinned (OpenSpec.ofChange Rows.admitBindsSpec) :=
  OpenClaim.holds_of_wide 3 Try.f3 rfl rfl rfl rfl rfl rfl rfl ⟨rfl, rfl, rfl, rfl, rfl⟩ rfl rfl rfl rfl rfl (by kernel_rfl) Try.func3 (by kernel_rfl)
    (of_decide_eq_true (by kernel_rfl)) (by unfold Func.isWrapper; first | (rw [if_pos (by decide +kernel)]; kernel_rfl) | (rw [if_neg (by decide +kernel)]; exact ⟨rfl, rfl⟩))
    (fun os started H enc _ => lifted os started H enc)
theorem proved : Rows.AdmitBindsSaid := over
end Go.Proofs.Ytnckmagemlajeaa.admitBinds
namespace Go.Proofs.Ytnckmagemlajeaa
/-- The row, under a short name, for the claim. -/
theorem admitBinds_holds : Rows.AdmitBindsSaid := admitBinds.proved
end Go.Proofs.Ytnckmagemlajeaa
