/-
  Chapter 3: any seed, any message: key, bits, signature; whose it is.
-/
import Derived.Test.YtbpcajicbklkcaaCLamTellsLLamRuns
import Derived.Test.YtbpcajicbklkcaaCLamTellsLRLam
import Derived.Test.YtbpcajicbklkcaaCLamTellsLSameH
import Derived.Test.YtbpcajicbklkcaaCLamTellsLWithin
namespace Go.Ax.V
open Go.Ax
set_option linter.unusedVariables false
set_option linter.unusedSimpArgs false

theorem tells_1 (c : Int) (m seed k : List UInt8) (s o : One) (hm : m.length ≤ 100000) : affiantlaw3_LamTells_1 c m 0 seed s o k (digS m) = some (.inr (c, m, seed, s, o, k)) := by
  unfold affiantlaw3_LamTells_1
  have := loop_for (step := fun (t : Int) => affiantlaw3_LamTells_1_step c m t seed s o k (digS m)) (fun i (_ : Unit) => (i : Int)) (fun _ _ => ()) (fun _ => .inr (c, m, seed, s, o, k)) 32 (fun _ _ => True) (fun i w hi _ => ⟨?_, trivial⟩) (fun w _ => ?_) 32 0 () (by omega) trivial
  · exact this
  · unfold affiantlaw3_LamTells_1_step
    rw [fork_t (by omega), Bit_eq m hm i (by omega), andThen_mk]
    have e1 : Int.tdiv (i : Int) 8 = ((i / 8 : Nat) : Int) := by rw [Int.tdiv_eq_ediv_of_nonneg (by omega)]; omega
    have r := rbit_at (digS m) i (by omega)
    rw [need_true (by rw [e1, w64_eq (by omega) (by omega)]; omega), need_true (by omega)] at r
    injection r with r
    rw [need_true (by rw [e1, w64_eq (by omega) (by omega)]; omega), need_true (by omega), fork_nt r.symm, w64_eq (by omega) (by omega)]
    rfl
  · unfold affiantlaw3_LamTells_1_step
    rfl
theorem len32_take {l : List (List UInt8)} (h : Len32 l) (n : Nat) : Len32 (l.take n) := fun x hx => h x (List.mem_of_mem_take hx)
theorem law_LamTells (y0 y1 : List UInt8) (y2 : Int) (w0 : Wf (.arr 32 (.int .u8)) y0) (w1 : Wf (.slice (.int .u8)) y1) (w2 : Wf (.int .i64) y2) : affiantlaw3_LamTells y0 y1 y2 = some true := by
  unfold affiantlaw3_LamTells
  have hs : y0.length = 32 := w0.1
  have hc := cut_len y1 0 (min (y1.length : Int) 60) (by omega) (by omega) (by omega)
  rw [need_true (by omega)]
  simp only [List.nil_append]
  generalize cutL y1 0 (min (y1.length : Int) 60) = m at hc ⊢
  have hm : m.length ≤ 100000 := by omega
  obtain ⟨h1, h2, h3, h4⟩ := sign_len y0 m
  obtain ⟨c, e1, c1, c2⟩ := within_eq y2 0 31 (by omega) (by omega) (by omega)
  rw [need_true (by simp; omega), sign_eq y0 m hs hm, andThen_mk, rsign_eq y0 m hs hm, andThen_mk, Key_eq y0 hs, andThen_mk, rdig_eq m hm, andThen_mk, tells_1 _ _ _ _ _ _ hm, andThen_mk]
  simp only
  have k1 := cut_len (signS y0 m).1 0 c (by omega) (by omega) (by omega)
  have hn : whoS m (cutL (signS y0 m).1 0 c, (signS y0 m).2.1, ()) = (zH, false) := if_neg (fun h => by have := h.1; simp only at this; omega)
  rw [who_eq m hm _ h3 h4, andThen_mk, e1, andThen_mk, need_true (by omega), who_eq m hm (cutL (signS y0 m).1 0 c, (signS y0 m).2.1, ()) (len32_take h3 _) h4, andThen_mk, sameH_refl _ (by omega), andThen_mk, fork_tt, sameH_refl _ (by omega), andThen_mk, fork_tt, rKey_eq y0 hs, andThen_mk, beq_hash, fork_tt, who_sign, hn]
  simp only
  rw [fork_tt, beq_hash, fork_tt, verify_eq _ m hm _ h3 h4, who_sign, andThen_mk]
  simp only
  rw [beq_hash, law_LamRuns]
  rfl
end Go.Ax.V
