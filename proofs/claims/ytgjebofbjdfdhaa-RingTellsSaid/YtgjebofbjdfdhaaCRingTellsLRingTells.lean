/-
  Chapter 5: any seed, any height, any message: identity, signature; is it verified.
-/
import Derived.Test.YtgjebofbjdfdhaaCRingTellsLRingRuns
import Derived.Test.YtgjebofbjdfdhaaCRingTellsLRRing
import Derived.Test.YtgjebofbjdfdhaaCRingTellsLSameH
import Derived.Test.YtgjebofbjdfdhaaCRingTellsLWithin
namespace Go.Ax.V
open Go.Ax
set_option linter.unusedVariables false
set_option linter.unusedSimpArgs false

theorem law_RingTells (y0 : List UInt8) (y1 : Int) (y2 : List UInt8) (y3 : Int) (w0 : Wf (.arr 32 (.int .u8)) y0) (w1 : Wf (.int .i64) y1) (w2 : Wf (.slice (.int .u8)) y2) (w3 : Wf (.int .i64) y3) : affiantlaw5_RingTells y0 y1 y2 y3 = some true := by
  unfold affiantlaw5_RingTells
  have hs : y0.length = 32 := w0.1
  have hc := cut_len y2 0 (min (y2.length : Int) 40) (by omega) (by omega) (by omega)
  obtain ⟨k, e1, k1, k2⟩ := within_eq y1 1 16 (by omega) (by omega) (by omega)
  obtain ⟨j, e2, j1, j2⟩ := within_eq y3 (-1) 18 (by omega) (by omega) (by omega)
  rw [e1, andThen_mk, need_true (by omega)]
  simp only [List.nil_append]
  generalize cutL y2 0 (min (y2.length : Int) 40) = m at hc ⊢
  have hm : m.length ≤ 100000 := by omega
  have so := sig_ok y0 k k1 k2 m
  obtain ⟨s1, s2, _, _⟩ := sign_len (seedS y0 k.toNat) m
  obtain ⟨_, p1, _⟩ := path16 y0 k k1 k2
  have hsd : ring_Seed y0 k = some (seedS y0 k.toNat) := by
    have := Seed_eq y0 hs k.toNat
    rwa [show ((k.toNat : Nat) : Int) = k from by omega] at this
  have hf : affiantref1_Tagged 114 [y0, [UInt8.ofNat (Int.toNat (k % 256))]] = some (seedS y0 k.toNat) := by
    have := rSeed_eq y0 hs k.toNat
    rw [show ((k.toNat : Nat) : Int) = k from by omega] at this
    unfold affiantref1_seedOf at this
    cases hx : affiantref1_Tagged 114 [y0, [UInt8.ofNat (Int.toNat (k % 256))]] with
    | none => rw [hx] at this; cases this
    | some v => rw [hx] at this; exact this
  rw [need_true (by simp; omega), Sign_eq y0 m hs k k1 k2 hm, andThen_mk, rSealed_eq y0 m hs k k1 k2 hm, andThen_mk, Ident_eq y0 hs, andThen_mk, e2, andThen_mk, fork_t rfl, sameH_refl _ (by show (signS (seedS y0 k.toNat) m).1.length ≤ _; omega), andThen_mk, fork_tt,
    sameH_refl _ (by show (signS (seedS y0 k.toNat) m).2.1.length ≤ _; omega), andThen_mk, fork_tt, sameH_refl _ (by show (pathS (keysS y0) (k - 1)).length ≤ _; omega), andThen_mk, fork_tt, rIdent_eq y0 hs, andThen_mk, beq_hash, fork_tt, Ver_eq _ _ m hm _ so, andThen_mk]
  have hv : verS (identS y0) j m (sigS y0 k m) = decide (j = k) := by
    by_cases c : j = k
    · subst c; rw [ver_sig _ _ _ k1 k2, beq_hash, decide_eq_true rfl]
    · rw [ver_off _ _ _ _ (show k ≠ j from fun h => c h.symm), decide_eq_false c]
  rw [hv, beq_self_eq_true, fork_tt, hsd, andThen_mk, hf, andThen_mk, beq_hash, fork_tt, law_RingRuns]
  rfl
end Go.Ax.V
