/-
  Chapter 3: each secret that is opened has its public part; two signatures of one seed open the same where their bits are the same.
-/
import Derived.Test.YtbpcajicbklkcaaCLamOpensLLamRuns
import Derived.Test.YtbpcajicbklkcaaCLamOpensLRLam
namespace Go.Ax.V
open Go.Ax
set_option linter.unusedVariables false
set_option linter.unusedSimpArgs false

theorem opens_1 (m n seed : List UInt8) (hm : m.length ≤ 100000) (hn : n.length ≤ 100000) : affiantlaw3_LamOpens_1 m n 0 seed (signS seed m) (signS seed n) = some (.inr (m, n, seed, signS seed m, signS seed n)) := by
  unfold affiantlaw3_LamOpens_1
  have := loop_for (step := fun (t : Int) => affiantlaw3_LamOpens_1_step m n t seed (signS seed m) (signS seed n)) (fun i (_ : Unit) => (i : Int)) (fun _ _ => ()) (fun _ => .inr (m, n, seed, signS seed m, signS seed n)) 32 (fun _ _ => True) (fun i w hi _ => ⟨?_, trivial⟩) (fun w _ => ?_) 32 0 () (by omega) trivial
  · exact this
  · unfold affiantlaw3_LamOpens_1_step
    obtain ⟨a1, a2, a3, a4⟩ := sign_len seed m
    obtain ⟨b1, b2, b3, b4⟩ := sign_len seed n
    have g1 : (signS seed m).1.getD i (List.replicate 32 0) = secS seed i (bitN (digS m) i) := getD_mapRange (fun i => secS seed i (bitN (digS m) i)) 32 i hi
    have g2 : (signS seed n).1.getD i (List.replicate 32 0) = secS seed i (bitN (digS n) i) := getD_mapRange (fun i => secS seed i (bitN (digS n) i)) 32 i hi
    have g3 : (signS seed m).2.1.getD i (List.replicate 32 0) = pubS (secS seed i (1 - bitN (digS m) i)) := getD_mapRange (fun i => pubS (secS seed i (1 - bitN (digS m) i))) 32 i hi
    have g4 : (signS seed n).2.1.getD i (List.replicate 32 0) = pubS (secS seed i (1 - bitN (digS n) i)) := getD_mapRange (fun i => pubS (secS seed i (1 - bitN (digS n) i))) 32 i hi
    have rp : ∀ s : List UInt8, s.length = 32 → affiantref1_Tagged 112 [s] = some (pubS s) := by
      intro s hs
      have hf : [s].flatten = s := by simp
      rw [rtagged_eq _ _ (by rw [hf]; omega) (by simp), hf]; rfl
    rw [fork_t (by omega), need_true (by omega), Int.toNat_natCast, g1, g2, g3, g4, rp _ (secS_len _ _ _), andThen_mk, need_true (by omega), rp _ (secS_len _ _ _), andThen_mk, Bit_eq m hm i (by omega), andThen_mk, Bit_eq n hn i (by omega), andThen_mk]
    have x1 := bitN_le (digS m) i
    have x2 := bitN_le (digS n) i
    by_cases e : bitN (digS m) i = bitN (digS n) i
    · rw [fork_t (by omega), e, beq_hash, show (!true) = false from rfl, fork_ff, need_true (by omega), need_true (by omega), beq_hash, show (!true) = false from rfl, fork_ff, w64_eq (by omega) (by omega)]
      rfl
    · rw [fork_f (by omega), need_true (by omega), show 1 - bitN (digS m) i = bitN (digS n) i from by omega, beq_hash, show (!true) = false from rfl, fork_ff, need_true (by omega), show 1 - bitN (digS n) i = bitN (digS m) i from by omega, beq_hash, show (!true) = false from rfl, fork_ff, w64_eq (by omega) (by omega)]
      rfl
  · unfold affiantlaw3_LamOpens_1_step
    rfl
theorem law_LamOpens (y0 y1 y2 : List UInt8) (w0 : Wf (.arr 32 (.int .u8)) y0) (w1 : Wf (.slice (.int .u8)) y1) (w2 : Wf (.slice (.int .u8)) y2) : affiantlaw3_LamOpens y0 y1 y2 = some true := by
  unfold affiantlaw3_LamOpens
  have hs : y0.length = 32 := w0.1
  have hc := cut_len y1 0 (min (y1.length : Int) 30) (by omega) (by omega) (by omega)
  have hc2 := cut_len y2 0 (min (y2.length : Int) 30) (by omega) (by omega) (by omega)
  rw [need_true (by omega)]
  simp only [List.nil_append]
  generalize cutL y1 0 (min (y1.length : Int) 30) = m at hc ⊢
  generalize cutL y2 0 (min (y2.length : Int) 30) = n at hc2 ⊢
  have hm : m.length ≤ 100000 := by omega
  have hn : n.length ≤ 100000 := by omega
  obtain ⟨a1, a2, a3, a4⟩ := sign_len y0 m
  obtain ⟨b1, b2, b3, b4⟩ := sign_len y0 n
  rw [need_true (by simp; omega), need_true (by omega), need_true (by simp; omega), sign_eq y0 m hs hm, andThen_mk, sign_eq y0 n hs hn, andThen_mk, fork_nt (by omega), fork_nt (by omega), fork_nt (by omega), fork_nt (by omega), opens_1 m n y0 hm hn, andThen_mk]
  simp only
  rw [Key_eq y0 hs, andThen_mk, verify_eq _ m hm _ a3 a4, who_sign, andThen_mk]
  simp only [beq_hash, Bool.and_self, fork_tt]
  rw [verify_eq _ n hn _ b3 b4, who_sign, andThen_mk]
  simp only [beq_hash, Bool.and_self, fork_tt]
  rw [need_true (by simp; omega), andThen_mk, law_LamRuns]
  rfl
end Go.Ax.V
