/-
  The law affianttop.TopRound of the program holds: its statement is proved for every input, with no condition of our own.
-/
import Derived.Test.YthhioanidhkdeaaGreatRows
import Derived.Test.YthhioanidhkdeaaGreatCTopRoundW0
import Derived.Test.YthhioanidhkdeaaGreatCTopRoundLB
import Derived.WalkKit
import Derived.ProofKit
import Derived.OpenShut
import Derived.ShutString
import Derived.ChangeOld
import Derived.Below
import Derived.SizedLaws
namespace Go.Proofs.YthhioanidhkdeaaGreat.topRound
open Go.ChangeShapes Go.WideShapes Go.ChangeAt Go.RowKit
open Go.ChangeMaps (open_string shut_string)
set_option linter.unusedVariables false
theorem own : ownKnob Tryz.prog.godebug = none := by kernel_rfl
theorem laidOut : laidOutB Tryz.prog = true := by kernel_rfl
set_option maxRecDepth 100000 in
theorem lifted (os : Os) (started : os.Started) (H : Type) (enc : TypeId × Value → H) : ReturnsInHanded {} Tryz.checked os 8 .any (Rows.topRoundSpec.pre6 enc Tryz.prog Tryz.f8 Rows.topRoundRow.domain false) (Rows.topRoundSpec.post enc Tryz.prog Tryz.f8 false true false false) := by
 refine returnsInHanded_of_change_sized (C := Tryz.checked) own started (by kernel_rfl) Tryz.func8 (ChangeSpec.witness6 (enc := enc) (C := Tryz.checked) false ⟨#[], #[.slice none 0 0, .slice none 0 0], []⟩ 8 (by kernel_rfl) (by kernel_rfl) (by kernel_rfl) (by kernel_rfl)) ?_;intro W base args ds gs before hval0 hW hcnd hsz0 _;have hsz : (DataW.weightsEach Tryz.prog (Tryz.f8.params.toList ++ Rows.topRoundSpec.plain.varTypes Tryz.prog) (ds ++ gs)).all (· ≤ reachBytes) = true := hsz0;have hval : ∀ (j : Nat) t v, Tryz.f8.params[j]? = some t → args[j]? = some v → Value.okWide Tryz.prog W .any base t v := hval0;have hW' := hW;obtain ⟨p, q, hA0, hV, rfl, hfz, hnd⟩ := hW;have hA : DataW.TrodAll enc Tryz.prog W 0 (fun _ => true) true Tryz.f8.params.toList args.toList ds p := hA0;rw [Tryz.params8] at hA hval hsz;obtain ⟨v0, vs0, d0, ds0, p0, q0, hargs, rfl, rfl, h0, r0⟩ := trodAll_cons hA;obtain ⟨v1, vs1, d1, ds1, p1, q1, rfl, rfl, rfl, h1, r1⟩ := trodAll_cons r0;obtain ⟨rfl, rfl, rfl⟩ := trodAll_nil r1;obtain rfl : args = #[v0, v1] := (by cases args; simp_all);obtain ⟨rfl, rfl⟩ := trodVars_none hV;obtain ⟨a0, len0, cap0, rfl⟩ := okWide_slice Tryz.underlying22 (hval 0 22 v0 rfl rfl);have lt0 : ∀ x ∈ p0, x.block < W.heap.size := (by obtain ⟨m, hm⟩ := h0; exact DataW.trod_lt m _ _ _ hm);obtain ⟨y0, t0, w0⟩ := Go.Ax.open_arg (W := W) tab bytes (ty := (.slice (.int .i64))) (by kernel_rfl) (t := 22) (b := 24) (by kernel_rfl) h0 (fun n hn => of_decide_eq_true (List.all_eq_true.1 hsz n (DataW.weights_mem_each (j := 0) rfl rfl n hn))) (Go.Ax.packOne (by kernel_rfl) rfl)
 obtain ⟨a1, len1, cap1, rfl⟩ := okWide_slice Tryz.underlying83 (hval 1 83 v1 rfl rfl);have lt1 : ∀ x ∈ p1, x.block < W.heap.size := (by obtain ⟨m, hm⟩ := h1; exact DataW.trod_lt m _ _ _ hm);obtain ⟨y1, t1, w1⟩ := Go.Ax.open_arg (W := W) tab bytes (ty := (.slice (.fld (.int .i64) (.fld (.int .i64) (.fld (.int .i64) (.fld (.int .i64) (.fld (.int .i64) (.fld (.fld (.int .i64) (.fld (.int .i64) (.fld (.int .i64) (.fld (.int .i64) (.fld (.int .i64) .unit))))) (.fld (.fld (.int .i64) (.fld (.int .i64) (.fld (.int .i64) (.fld (.int .i64) (.fld (.int .i64) .unit))))) (.fld (.fld (.int .i64) (.fld (.int .i64) (.fld (.int .i64) (.fld (.int .i64) (.fld (.int .i64) .unit))))) .unit)))))))))) (by kernel_rfl) (t := 83) (b := 24) (by kernel_rfl) h1 (fun n hn => of_decide_eq_true (List.all_eq_true.1 hsz n (DataW.weights_mem_each (j := 1) rfl rfl n hn))) (Go.Ax.packOne (by kernel_rfl) rfl)
 have hc : Go.Ax.CallC Tryz.prog 8 [(.v (.slice (.int .i64)) y0), (.v (.slice (.fld (.int .i64) (.fld (.int .i64) (.fld (.int .i64) (.fld (.int .i64) (.fld (.int .i64) (.fld (.fld (.int .i64) (.fld (.int .i64) (.fld (.int .i64) (.fld (.int .i64) (.fld (.int .i64) .unit))))) (.fld (.fld (.int .i64) (.fld (.int .i64) (.fld (.int .i64) (.fld (.int .i64) (.fld (.int .i64) .unit))))) (.fld (.fld (.int .i64) (.fld (.int .i64) (.fld (.int .i64) (.fld (.int .i64) (.fld (.int .i64) .unit))))) .unit))))))))) y1)] [] (.v .bool true) [] := Jo_ok _ (Go.Ax.V.law_TopRound y0 y1 w0 w1);refine (hc.law (Go.Ax.cn Tryz.func8).2 (Go.Ax.ARel.cons t0 (Go.Ax.ARel.cons t1 Go.Ax.ARel.nil))).mono fun e W' ⟨he, bel⟩ => ?_;subst he;exact ⟨_, rfl, _, _, _, [], _, [], hW', trodAll_mk1 (shut_bool Tryz.underlying4 _), (trodAll_cons_mk (Below.trod laidOut (by kernel_rfl) (of_decide_eq_true (by kernel_rfl)) h0 bel lt0) (trodAll_cons_mk (Below.trod laidOut (by kernel_rfl) (of_decide_eq_true (by kernel_rfl)) h1 bel lt1) trodAll_mk0)), rfl, bel.frame _, fun h => by cases h⟩
theorem both {a b : Bool} (h : a = true) (k : b = true) : (a && b) = true := by rw [h, k]; rfl
theorem fact3 : (mapsRowed Tryz.prog) = true := by kernel_rfl
theorem fact10 : (Rows.topRoundRow.inPlace == Tryz.prog.inPlace 8) = true := by kernel_rfl
theorem fact11 : (Rows.topRoundRow.unfollowed == Tryz.prog.unfollowed 8) = true := by kernel_rfl
theorem fact12 : (Rows.topRoundRow.recurses == Tryz.prog.recurses 8) = true := by kernel_rfl
theorem fact13 : (Rows.topRoundRow.named == Tryz.prog.varsNamed 8) = true := by kernel_rfl
theorem fact25 : (Tryz.prog.stopsHeard) = true := by kernel_rfl
theorem fact26 : (Tryz.prog.mayEnter) = true := by kernel_rfl
theorem fact27 : (Rows.topRoundRow.lifted == Tryz.prog.liftsFinal) = true := by kernel_rfl
theorem fact28 : (Tryz.prog.make == some Rows.topRoundRow.make) = true := by kernel_rfl
theorem closed : joinedFacts Tryz.prog 8 Tryz.f8 Rows.topRoundSpec Rows.topRoundRow = true := by unfold joinedFacts; exact (both (both (both (both (both (both (both (both (both (both (both (both (both (both (both (both (both (both (both (both (both (both (both (both (both (both (both (both (both (both (both (by kernel_rfl) laidOut) fact3) (by kernel_rfl)) (by kernel_rfl)) (by kernel_rfl)) (by kernel_rfl)) (by kernel_rfl)) (by kernel_rfl)) fact10) fact11) fact12) fact13) (by kernel_rfl)) (by kernel_rfl)) (by kernel_rfl)) (by kernel_rfl)) (by kernel_rfl)) (by kernel_rfl)) (by kernel_rfl)) (by kernel_rfl)) (by kernel_rfl)) (by kernel_rfl)) (by kernel_rfl)) fact25) fact26) fact27) fact28) (by kernel_rfl)) (by kernel_rfl)) (by kernel_rfl)) (by kernel_rfl))
theorem over : Rows.topRoundRow.holds Tryz.pinned (OpenSpec.ofChange Rows.topRoundSpec) := OpenClaim.holds_of_wide 8 Tryz.f8 rfl rfl rfl rfl rfl rfl rfl ⟨rfl, rfl, rfl, rfl, rfl⟩ rfl rfl rfl rfl rfl (by kernel_rfl) Tryz.func8 (closed) (of_decide_eq_true (by kernel_rfl)) (by unfold Func.isWrapper; first | (rw [if_pos (by decide +kernel)]; kernel_rfl) | (rw [if_neg (by decide +kernel)]; exact ⟨rfl, rfl⟩)) (fun os started H enc _ => lifted os started H enc)
theorem proved : Rows.TopRoundSaid := over
end Go.Proofs.YthhioanidhkdeaaGreat.topRound
namespace Go.Proofs.YthhioanidhkdeaaGreat
/-- The row, under a short name, for the claim. -/
theorem topRound_holds : Rows.TopRoundSaid := topRound.proved
end Go.Proofs.YthhioanidhkdeaaGreat