/-
  Chapter 5: a signature with its height, a path's bit, a secret turned, or said at another height: verified just if the document's own reckoning says so.
-/
import Derived.Test.YtgjebofbjdfdhaaCRingTurnedLRingRuns
import Derived.Test.YtgjebofbjdfdhaaCRingTurnedLRRing
import Derived.Test.YtgjebofbjdfdhaaCRingTurnedLWithin
namespace Go.Ax.V
open Go.Ax
set_option linter.unusedVariables false
set_option linter.unusedSimpArgs false

theorem tailR (id m : List UInt8) (j : Int) (t : Sig) (ht : SigOk t) (hm : m.length ≤ 100000) :
    andThen (ring_Verify id j m t) (fun u => andThen (affiantref1_Verify id j m t) (fun v => fork (u == v) (fork (decide (t.1 = j)) (andThen (affiantlaw5_RingRuns) (fun x => some x)) (andThen (ring_Verify id j m t) (fun w => fork (!w) (andThen (affiantlaw5_RingRuns) (fun x => some x)) (none)))) (none))) = some true := by
  rw [Ver_eq id j m hm t ht, andThen_mk, rVer_eq id j m hm t ht, andThen_mk, beq_self_eq_true, fork_tt, law_RingRuns]
  by_cases c : t.1 = j
  · rw [fork_t c]; rfl
  · rw [fork_f c, andThen_mk, ver_off id j m t c]; rfl
theorem set32 (l : List (List UInt8)) (hl : Len32 l) (i k : Nat) (v : UInt8) : Len32 (List.set l i (List.set (List.getD l i (List.replicate 32 (0 : UInt8))) k v)) := by
  intro x hx
  rcases List.mem_or_eq_of_mem_set hx with h | h
  · exact hl x h
  · rw [h, List.length_set]; exact getD_len l hl _
theorem law_RingTurned (y0 : List UInt8) (y1 y2 y3 : Int) (y4 : List UInt8) (w0 : Wf (.arr 32 (.int .u8)) y0) (w1 : Wf (.int .i64) y1) (w2 : Wf (.int .i64) y2) (w3 : Wf (.int .i64) y3) (w4 : Wf (.slice (.int .u8)) y4) : affiantlaw5_RingTurned y0 y1 y2 y3 y4 = some true := by
  unfold affiantlaw5_RingTurned
  have hs : y0.length = 32 := w0.1
  have hc := cut_len y4 0 (min (y4.length : Int) 30) (by omega) (by omega) (by omega)
  obtain ⟨k, e1, k1, k2⟩ := within_eq y1 1 16 (by omega) (by omega) (by omega)
  obtain ⟨n, e3, n1, n2⟩ := within_eq y3 0 255 (by omega) (by omega) (by omega)
  obtain ⟨w, e2, b1, b2⟩ := within_eq y2 0 4 (by omega) (by omega) (by omega)
  rw [e1, andThen_mk, need_true (by omega)]
  simp only [List.nil_append]
  generalize cutL y4 0 (min (y4.length : Int) 30) = m at hc ⊢
  have hm : m.length ≤ 100000 := by omega
  have so := sig_ok y0 k k1 k2 m
  obtain ⟨s1, s2, _, _⟩ := sign_len (seedS y0 k.toNat) m
  obtain ⟨_, p1, _⟩ := path16 y0 k k1 k2
  have hO : (sigS y0 k m).2.1.1.length = 32 := s1
  have hP : (sigS y0 k m).2.2.1.length = 4 := p1
  have hh : (sigS y0 k m).1 = k := rfl
  rw [need_true (by simp; omega), Ident_eq y0 hs, andThen_mk, Sign_eq y0 m hs k k1 k2 hm, andThen_mk, Ver_eq _ _ m hm _ so, ver_sig _ _ _ k1 k2, beq_hash, andThen_mk]
  generalize sigS y0 k m = s at *
  obtain ⟨g1, g2, g3, g4⟩ := id so
  have hO' : (s.2.1.1.length : Int) = 32 := by omega
  have hP' : (s.2.2.1.length : Int) = 4 := by omega
  rw [show (!true) = false from rfl, fork_ff]
  simp only [hO', hP']
  rw [fork_f (by omega), fork_f (by omega), need_true (by simp; omega), need_true (by simp; omega), e3, andThen_mk, e2, andThen_mk]
  have d8 : w64 (Int.tdiv n 8) = n / 8 := by rw [Int.tdiv_eq_ediv_of_nonneg n1, w64_eq (by omega) (by omega)]
  have m4 : Int.tmod n 4 = n % 4 := Int.tmod_eq_emod_of_nonneg n1
  have m32 : Int.tmod n 32 = n % 32 := Int.tmod_eq_emod_of_nonneg n1
  simp only [d8, m4, m32]
  by_cases c0 : w = 0
  · rw [fork_t c0]
    exact tailR (identS y0) m k (w64 (Int.tmod k 16 + 1), (s.2.1.1, s.2.1.2.1, ()), s.2.2.1, ()) so hm
  · rw [fork_f c0]
    by_cases c1 : w = 1
    · rw [fork_t c1, need_true (by omega), need_true (by omega), need_true (by omega), need_true (by omega)]
      exact tailR (identS y0) m k (s.1, (s.2.1.1, s.2.1.2.1, ()), _, ()) ⟨g1, g2, set32 _ g3 _ _ _, by show (List.set _ _ _).length ≤ 100000; rw [List.length_set]; exact g4⟩ hm
    · rw [fork_f c1]
      by_cases c2 : w = 2
      · rw [fork_t c2, need_true (by omega), need_true (by omega), need_true (by omega), need_true (by omega)]
        exact tailR (identS y0) m k (s.1, (_, s.2.1.2.1, ()), s.2.2.1, ()) ⟨set32 _ g1 _ _ _, g2, g3, g4⟩ hm
      · rw [fork_f c2]
        by_cases c3 : w = 3
        · rw [fork_t c3, need_true (by omega)]
          have hcl := cut_len s.2.2.1 1 4 (by omega) (by omega) (by omega)
          exact tailR (identS y0) m k (s.1, (s.2.1.1, s.2.1.2.1, ()), cutL s.2.2.1 1 4, ()) ⟨g1, g2, fun x hx => g3 x (List.mem_of_mem_take (List.mem_of_mem_drop hx)), by show (cutL s.2.2.1 1 4).length ≤ 100000; omega⟩ hm
        · rw [fork_f c3]
          have t := tailR (identS y0) m (w64 (Int.tmod k 16 + 1)) (w64 (Int.tmod k 16 + 1), (s.2.1.1, s.2.1.2.1, ()), s.2.2.1, ()) so hm
          simp only at t
          exact t
end Go.Ax.V
