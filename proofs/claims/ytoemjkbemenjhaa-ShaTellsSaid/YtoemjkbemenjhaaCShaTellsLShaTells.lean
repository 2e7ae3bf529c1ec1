/-
  Chapter 2: any bytes, in any parts.
-/
import Derived.Test.YtoemjkbemenjhaaCShaTellsLShaRuns
import Derived.Test.YtoemjkbemenjhaaCShaTellsLBlk
import Derived.Test.YtoemjkbemenjhaaCShaTellsLWithin
import Derived.Test.YtoemjkbemenjhaaCShaTellsLBook
import Derived.Test.YtoemjkbemenjhaaCShaTellsLRTag
namespace Go.Ax.V
open Go.Ax
set_option linter.unusedVariables false
set_option linter.unusedSimpArgs false

theorem law_ShaTells (y0 : List UInt8) (y1 : UInt8) (y2 : Int) (w0 : Wf (.slice (.int .u8)) y0) (w1 : Wf (.int .u8) y1) (w2 : Wf (.int .i64) y2) : affiantlaw2_ShaTells y0 y1 y2 = some true := by
  unfold affiantlaw2_ShaTells
  have hc := cut_len y0 0 (min (y0.length : Int) 200) (by omega) (by omega) (by omega)
  rw [need_true (by omega)]
  simp only [List.nil_append]
  generalize cutL y0 0 (min (y0.length : Int) 200) = own at hc ⊢
  have ho : own.length ≤ 200 := by omega
  obtain ⟨c, hcc, c1, c2⟩ := within_eq y2 0 (own.length : Int) (by omega) (by omega) (by omega)
  rw [need_true (by simp; omega), hcc, andThen_mk, roomy_eq own 7 (by omega), andThen_mk]
  have hl : (own ++ List.replicate 80 (7 : UInt8)).length = own.length + 80 := by simp
  have hcut : cutL (own ++ List.replicate 80 (7 : UInt8)) 0 (own.length : Int) = own := by rw [cut_to, Int.toNat_natCast, List.take_left]
  rw [hl, need_true (by omega), hcut, sum_eq own (by omega), andThen_mk, rsum_eq own (by omega), andThen_mk, beq_hash, fork_tt, intact_eq own 7 (by omega), andThen_mk, fork_tt,
    need_true (by omega), need_true (by omega)]
  have hf : [cutL own 0 c, cutL own c (own.length : Int)].flatten = own := by
    simp only [List.flatten_cons, List.flatten_nil, List.append_nil]; exact cut_both own c
  have hf1 : [own].flatten = own := by simp
  rw [tagged_eq _ _ (by rw [hf]; omega) (by simp), andThen_mk, rtagged_eq _ _ (by rw [hf1]; omega) (by simp), andThen_mk, hf, hf1, beq_hash, fork_tt, tagged_eq _ _ (by rw [hf1]; omega) (by simp), andThen_mk,
    need_true (by simp; omega), hf1, rsum_eq _ (by simp; omega), andThen_mk]
  rw [show [y1] ++ own = y1 :: own from rfl, beq_hash, fork_tt, blocksI _ (by omega) (by omega), andThen_mk]
  rw [fork_t, law_ShaRuns, andThen_mk]
  have e : Int.tdiv ((own.length : Int) + 8) 64 = ((own.length : Int) + 8) / 64 := Int.tdiv_eq_ediv_of_nonneg (by omega)
  simp (disch := omega) only [w64_eq, e]
end Go.Ax.V
