/-
  Chapter 2: texts around the ends of blocks; a byte more; parts that are empty don't count.
-/
import Derived.Test.YtoemjkbemenjhaaCShaLongLShaRuns
import Derived.Test.YtoemjkbemenjhaaCShaLongLBlk
import Derived.Test.YtoemjkbemenjhaaCShaLongLWithin
import Derived.Test.YtoemjkbemenjhaaCShaLongLRTag
namespace Go.Ax.V
open Go.Ax
set_option linter.unusedVariables false
set_option linter.unusedSimpArgs false

theorem long_1 (c : UInt8) (k : Int) (h0 : 0 ≤ k) (h : k ≤ 260) : ∃ l : List UInt8, l.length ≤ 260 ∧ affiantlaw2_ShaLong_1 c k k 0 [] = some (c, k, l) := by
  obtain ⟨n, rfl⟩ := Int.eq_ofNat_of_zero_le h0
  refine ⟨runFor (fun i l => l ++ [c + UInt8.ofNat (Int.toNat ((i : Int) % 256))]) 0 n [], ?_, ?_⟩
  · have := runFor_inv (f := fun i (l : List UInt8) => l ++ [c + UInt8.ofNat (Int.toNat ((i : Int) % 256))]) (I := fun i l => l.length = i) (n := n) (fun i t hi ht => by simp [ht]) (k := n) (i := 0) (t := []) (by omega) rfl
    omega
  · unfold affiantlaw2_ShaLong_1
    refine loop_for (step := fun (s : Int × List UInt8) => affiantlaw2_ShaLong_1_step c (n : Int) (n : Int) s.1 s.2) (fun i l => ((i : Int), l)) _ (fun l => (c, (n : Int), l)) n (fun i l => l.length = i) (fun i l hi hl => ⟨?_, by simp [hl]⟩) (fun l hl => ?_) n 0 [] (by omega) rfl
    · unfold affiantlaw2_ShaLong_1_step
      simp (disch := omega) only [fork_t, w64_eq]
      rw [need_true (by simp; omega)]
      rfl
    · unfold affiantlaw2_ShaLong_1_step
      rw [fork_f (by omega)]
theorem law_ShaLong (y0 : Int) (y1 : UInt8) (w0 : Wf (.int .i64) y0) (w1 : Wf (.int .u8) y1) : affiantlaw2_ShaLong y0 y1 = some true := by
  unfold affiantlaw2_ShaLong
  obtain ⟨k, hk, k1, k2⟩ := within_eq y0 0 260 (by omega) (by omega) (by omega)
  obtain ⟨l, hl, h1⟩ := long_1 y1 k k1 k2
  rw [hk, andThen_mk, h1, andThen_mk]
  simp only [List.nil_append]
  have hf : [([] : List UInt8), l, []].flatten = l := by simp
  have hf1 : [l].flatten = l := by simp
  rw [sum_eq l (by omega), andThen_mk, rsum_eq l (by omega), andThen_mk, beq_hash, fork_tt, need_true (by simp; omega), need_true (by simp; omega), sum_eq _ (by simp; omega), andThen_mk, rsum_eq _ (by simp; omega), andThen_mk, beq_hash, fork_tt,
    tagged_eq _ _ (by rw [hf]; omega) (by simp), andThen_mk, tagged_eq _ _ (by rw [hf1]; omega) (by simp), andThen_mk, hf, hf1, beq_hash, fork_tt]
  simp (disch := omega) only [w64_eq, blocksI, andThen_mk, law_ShaRuns, fork_t]
end Go.Ax.V
