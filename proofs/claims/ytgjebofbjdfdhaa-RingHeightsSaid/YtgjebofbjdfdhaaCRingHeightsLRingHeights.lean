/-
  Chapter 5: one identity signs at every height, each by its own key; the signature of one height isn't one of another; outside of heights nothing is signed.
-/
import Derived.Test.YtgjebofbjdfdhaaCRingHeightsLRingRuns
import Derived.Test.YtgjebofbjdfdhaaCRingHeightsLWithin
namespace Go.Ax.V
open Go.Ax
set_option linter.unusedVariables false
set_option linter.unusedSimpArgs false

theorem law_RingHeights (y0 : List UInt8) (y1 y2 : Int) (y3 : List UInt8) (w0 : Wf (.arr 32 (.int .u8)) y0) (w1 : Wf (.int .i64) y1) (w2 : Wf (.int .i64) y2) (w3 : Wf (.slice (.int .u8)) y3) : affiantlaw5_RingHeights y0 y1 y2 y3 = some true := by
  unfold affiantlaw5_RingHeights
  have hs : y0.length = 32 := w0.1
  have hc := cut_len y3 0 (min (y3.length : Int) 30) (by omega) (by omega) (by omega)
  obtain ⟨h, e1, h1, h2⟩ := within_eq y1 1 16 (by omega) (by omega) (by omega)
  obtain ⟨g, e2, g1, g2⟩ := within_eq y2 1 16 (by omega) (by omega) (by omega)
  rw [need_true (by omega)]
  simp only [List.nil_append]
  generalize cutL y3 0 (min (y3.length : Int) 30) = m at hc ⊢
  have hm : m.length ≤ 100000 := by omega
  have sh := sig_ok y0 h h1 h2 m
  have sg := sig_ok y0 g g1 g2 m
  have hsd : ring_Seed y0 h = some (seedS y0 h.toNat) := by
    have := Seed_eq y0 hs h.toNat
    rwa [show ((h.toNat : Nat) : Int) = h from by omega] at this
  rw [need_true (by simp; omega), e1, andThen_mk, e2, andThen_mk, Ident_eq y0 hs, andThen_mk, Sign_eq y0 m hs h h1 h2 hm, andThen_mk, Sign_eq y0 m hs g g1 g2 hm, andThen_mk, who_eq m hm _ sh.1 sh.2.1, andThen_mk, Sign_none y0 m hs 17 (by omega), andThen_mk]
  have hw : whoS m (sigS y0 h m).2.1 = (KeyS (seedS y0 h.toNat), true) := who_sign _ _
  rw [Ver_eq _ _ m hm _ sh, ver_sig _ _ _ h1 h2, andThen_mk, beq_hash, fork_tt, Ver_eq _ _ m hm _ sg, ver_sig _ _ _ g1 g2, andThen_mk, beq_hash, fork_tt, hw, hsd]
  simp only [andThen_mk]
  rw [fork_tt, Key_eq _ (seedS_len _ _), andThen_mk, beq_hash, fork_tt, fork_t (show ((noSig.2.2.1).length : Int) = 0 from rfl), fork_t (show noSig.1 = 0 from rfl), Ver_eq _ _ m hm _ noSig_ok, ver_out _ 17 _ _ (by omega), andThen_mk, show (!false) = true from rfl, fork_tt,
    Ver_eq _ _ m hm _ noSig_ok, ver_out _ 0 _ _ (by omega), andThen_mk, show (!false) = true from rfl, fork_tt, law_RingRuns, andThen_mk]
  by_cases c : h = g
  · rw [fork_t c]
  · rw [fork_f c, Ver_eq _ _ m hm _ sh, ver_off _ _ _ _ (show h ≠ g from c), andThen_mk, show (!false) = true from rfl, fork_tt]
end Go.Ax.V
