/-
  The law affianttop.TopSlash of the program holds: its statement is proved for every input, with no condition of our own.
-/
import Derived.Test.YthhioanidhkdeaaGreatRows
import Derived.Test.YthhioanidhkdeaaGreatCTopSlashW0
import Derived.Test.YthhioanidhkdeaaGreatCTopSlashLB
import Derived.WalkKit
import Derived.ProofKit
import Derived.OpenShut
import Derived.ShutString
import Derived.ChangeOld
import Derived.Below
import Derived.SizedLaws
namespace Go.Proofs.YthhioanidhkdeaaGreat.topSlash
open Go.ChangeShapes Go.WideShapes Go.ChangeAt Go.RowKit
open Go.ChangeMaps (open_string shut_string)
set_option linter.unusedVariables false
theorem own : ownKnob Tryz.prog.godebug = none := by kernel_rfl
theorem laidOut : laidOutB Tryz.prog = true := by kernel_rfl
set_option maxRecDepth 100000 in
theorem lifted (os : Os) (started : os.Started) (H : Type) (enc : TypeId × Value → H) :
    ReturnsInHanded {} Tryz.checked os 7 .any (Rows.topSlashSpec.pre6 enc Tryz.prog Tryz.f7 Rows.topSlashRow.domain false) (Rows.topSlashSpec.post enc Tryz.prog Tryz.f7 false true false false) := by
  refine returnsInHanded_of_change_sized (C := Tryz.checked) own started (by kernel_rfl) Tryz.func7
    (ChangeSpec.witness6 (enc := enc) (C := Tryz.checked) false ⟨#[], #[.int .i64 0, .int .i64 0, .int .i64 0, .int .i64 0], []⟩ 8 (by kernel_rfl) (by kernel_rfl) (by kernel_rfl) (by kernel_rfl)) ?_
  intro W base args ds gs before hval0 hW hcnd hsz0 _
  have hsz : (DataW.weightsEach Tryz.prog (Tryz.f7.params.toList ++ Rows.topSlashSpec.plain.varTypes Tryz.prog) (ds ++ gs)).all (· ≤ reachBytes) = true := hsz0
  have hval : ∀ (j : Nat) t v, Tryz.f7.params[j]? = some t → args[j]? = some v → Value.okWide Tryz.prog W .any base t v := hval0
  have hW' := hW
  obtain ⟨p, q, hA0, hV, rfl, hfz, hnd⟩ := hW
  have hA : DataW.TrodAll enc Tryz.prog W 0 (fun _ => true) true Tryz.f7.params.toList args.toList ds p := hA0
  rw [Tryz.params7] at hA hval hsz
  obtain ⟨v0, vs0, d0, ds0, p0, q0, hargs, rfl, rfl, h0, r0⟩ := trodAll_cons hA
  obtain ⟨v1, vs1, d1, ds1, p1, q1, rfl, rfl, rfl, h1, r1⟩ := trodAll_cons r0
  obtain ⟨v2, vs2, d2, ds2, p2, q2, rfl, rfl, rfl, h2, r2⟩ := trodAll_cons r1
  obtain ⟨v3, vs3, d3, ds3, p3, q3, rfl, rfl, rfl, h3, r3⟩ := trodAll_cons r2
  obtain ⟨rfl, rfl, rfl⟩ := trodAll_nil r3
  obtain rfl : args = #[v0, v1, v2, v3] := by cases args; simp_all
  obtain ⟨rfl, rfl⟩ := trodVars_none hV
  obtain ⟨a0, rfl⟩ := okWide_int Tryz.underlying3 (hval 0 3 v0 rfl rfl)
  have lt0 : ∀ x ∈ p0, x.block < W.heap.size := by obtain ⟨m, hm⟩ := h0; exact DataW.trod_lt m _ _ _ hm
  obtain ⟨y0, t0, w0⟩ := Go.Ax.open_arg (W := W) tab bytes (ty := (.int .i64)) (by kernel_rfl) (t := 3) (b := 8) (by kernel_rfl) h0 (fun n hn => of_decide_eq_true (List.all_eq_true.1 hsz n (DataW.weights_mem_each (j := 0) rfl rfl n hn))) (Go.Ax.packOne (by kernel_rfl) rfl)
  obtain ⟨a1, rfl⟩ := okWide_int Tryz.underlying3 (hval 1 3 v1 rfl rfl)
  have lt1 : ∀ x ∈ p1, x.block < W.heap.size := by obtain ⟨m, hm⟩ := h1; exact DataW.trod_lt m _ _ _ hm
  obtain ⟨y1, t1, w1⟩ := Go.Ax.open_arg (W := W) tab bytes (ty := (.int .i64)) (by kernel_rfl) (t := 3) (b := 8) (by kernel_rfl) h1 (fun n hn => of_decide_eq_true (List.all_eq_true.1 hsz n (DataW.weights_mem_each (j := 1) rfl rfl n hn))) (Go.Ax.packOne (by kernel_rfl) rfl)
  obtain ⟨a2, rfl⟩ := okWide_int Tryz.underlying3 (hval 2 3 v2 rfl rfl)
  have lt2 : ∀ x ∈ p2, x.block < W.heap.size := by obtain ⟨m, hm⟩ := h2; exact DataW.trod_lt m _ _ _ hm
  obtain ⟨y2, t2, w2⟩ := Go.Ax.open_arg (W := W) tab bytes (ty := (.int .i64)) (by kernel_rfl) (t := 3) (b := 8) (by kernel_rfl) h2 (fun n hn => of_decide_eq_true (List.all_eq_true.1 hsz n (DataW.weights_mem_each (j := 2) rfl rfl n hn))) (Go.Ax.packOne (by kernel_rfl) rfl)
  obtain ⟨a3, rfl⟩ := okWide_int Tryz.underlying3 (hval 3 3 v3 rfl rfl)
  have lt3 : ∀ x ∈ p3, x.block < W.heap.size := by obtain ⟨m, hm⟩ := h3; exact DataW.trod_lt m _ _ _ hm
  obtain ⟨y3, t3, w3⟩ := Go.Ax.open_arg (W := W) tab bytes (ty := (.int .i64)) (by kernel_rfl) (t := 3) (b := 8) (by kernel_rfl) h3 (fun n hn => of_decide_eq_true (List.all_eq_true.1 hsz n (DataW.weights_mem_each (j := 3) rfl rfl n hn))) (Go.Ax.packOne (by kernel_rfl) rfl)
  have hc : Go.Ax.CallC Tryz.prog 7 [(.v (.int .i64) y0), (.v (.int .i64) y1), (.v (.int .i64) y2), (.v (.int .i64) y3)] [] (.v .bool true) [] := J3o_ok _ (Go.Ax.V.law_TopSlash y0 y1 y2 y3 w0 w1 w2 w3)
  refine (hc.law (Go.Ax.cn Tryz.func7).2 (Go.Ax.ARel.cons t0 (Go.Ax.ARel.cons t1 (Go.Ax.ARel.cons t2 (Go.Ax.ARel.cons t3 Go.Ax.ARel.nil))))).mono fun e W' ⟨he, bel⟩ => ?_
  subst he
  exact ⟨_, rfl, _, _, _, [], _, [], hW', trodAll_mk1 (shut_bool Tryz.underlying4 _), (trodAll_cons_mk (Below.trod laidOut (by kernel_rfl) (of_decide_eq_true (by kernel_rfl)) h0 bel lt0) (trodAll_cons_mk (Below.trod laidOut (by kernel_rfl) (of_decide_eq_true (by kernel_rfl)) h1 bel lt1) (trodAll_cons_mk (Below.trod laidOut (by kernel_rfl) (of_decide_eq_true (by kernel_rfl)) h2 bel lt2) (trodAll_cons_mk (Below.trod laidOut (by kernel_rfl) (of_decide_eq_true (by kernel_rfl)) h3 bel lt3) trodAll_mk0)))), rfl, bel.frame _, fun h => by cases h⟩
theorem both {a b : Bool} (h : a = true) (k : b = true) : (a && b) = true := by rw [h, k]; rfl
theorem fact3 : (mapsRowed Tryz.prog) = true := by kernel_rfl
theorem fact10 : (Rows.topSlashRow.inPlace == Tryz.prog.inPlace 7) = true := by kernel_rfl
theorem fact11 : (Rows.topSlashRow.unfollowed == Tryz.prog.unfollowed 7) = true := by kernel_rfl
theorem fact12 : (Rows.topSlashRow.recurses == Tryz.prog.recurses 7) = true := by kernel_rfl
theorem fact13 : (Rows.topSlashRow.named == Tryz.prog.varsNamed 7) = true := by kernel_rfl
theorem fact25 : (Tryz.prog.stopsHeard) = true := by kernel_rfl
theorem fact26 : (Tryz.prog.mayEnter) = true := by kernel_rfl
theorem fact27 : (Rows.topSlashRow.lifted == Tryz.prog.liftsFinal) = true := by kernel_rfl
theorem fact28 : (Tryz.prog.make == some Rows.topSlashRow.make) = true := by kernel_rfl
theorem closed : joinedFacts Tryz.prog 7 Tryz.f7 Rows.topSlashSpec Rows.topSlashRow = true := by unfold joinedFacts; exact (both (both (both (both (both (both (both (both (both (both (both (both (both (both (both (both (both (both (both (both (both (both (both (both (both (both (both (both (both (both (both (by kernel_rfl) laidOut) fact3) (by kernel_rfl)) (by kernel_rfl)) (by kernel_rfl)) (by kernel_rfl)) (by kernel_rfl)) (by kernel_rfl)) fact10) fact11) fact12) fact13) (by kernel_rfl)) (by kernel_rfl)) (by kernel_rfl)) (by kernel_rfl)) (by kernel_rfl)) (by kernel_rfl)) (by kernel_rfl)) (by kernel_rfl)) (by kernel_rfl)) (by kernel_rfl)) (by kernel_rfl)) fact25) fact26) fact27) fact28) (by kernel_rfl)) (by kernel_rfl)) (by kernel_rfl)) (by kernel_rfl))
theorem over : Rows.topSlashRow.holds Tryz.pinned (OpenSpec.ofChange Rows.topSlashSpec) :=
  OpenClaim.holds_of_wide 7 Tryz.f7 rfl rfl rfl rfl rfl rfl rfl ⟨rfl, rfl, rfl, rfl, rfl⟩ rfl rfl rfl rfl rfl (by kernel_rfl) Tryz.func7 (closed)
    (of_decide_eq_true (by kernel_rfl)) (by unfold Func.isWrapper; first | (rw [if_pos (by decide +kernel)]; kernel_rfl) | (rw [if_neg (by decide +kernel)]; exact ⟨rfl, rfl⟩))
    (fun os started H enc _ => lifted os started H enc)
theorem proved : Rows.TopSlashSaid := over
end Go.Proofs.YthhioanidhkdeaaGreat.topSlash
namespace Go.Proofs.YthhioanidhkdeaaGreat
/-- The row, under a short name, for the claim. -/
theorem topSlash_holds : Rows.TopSlashSaid := topSlash.proved
end Go.Proofs.YthhioanidhkdeaaGreat
