/-
  Chapter 3: signatures with fewer, or more, parts than bits are nobody's; the same message, the same signature.
-/
import Derived.Test.YtbpcajicbklkcaaCLamSizesLLamRuns
import Derived.Test.YtbpcajicbklkcaaCLamSizesLSameH
import Derived.Test.YtbpcajicbklkcaaCLamSizesLWithin
namespace Go.Ax.V
open Go.Ax
set_option linter.unusedVariables false
set_option linter.unusedSimpArgs false

theorem extra_eq (m : List UInt8) (c : Int) (seed : List UInt8) (s : One) (n : Nat) (hn : n ≤ 3) : affiantlaw3_LamSizes_1 m c (n : Int) 0 seed s [] = some (m, c, seed, s, List.replicate n zH) := by
  unfold affiantlaw3_LamSizes_1
  have := loop_for (step := fun (t : Int × List (List UInt8)) => affiantlaw3_LamSizes_1_step m c (n : Int) t.1 seed s t.2) (fun i (_ : Unit) => ((i : Int), List.replicate i zH)) (fun _ _ => ()) (fun _ => (m, c, seed, s, List.replicate n zH)) n (fun _ _ => True) (fun i w hi _ => ⟨?_, trivial⟩) (fun w _ => ?_) n 0 () (by omega) trivial
  · exact this
  · show affiantlaw3_LamSizes_1_step m c (n : Int) (i : Int) seed s (List.replicate i zH) = _
    unfold affiantlaw3_LamSizes_1_step
    rw [fork_t (by omega), need_true (by simp; omega), w64_eq (by omega) (by omega), show List.replicate (i + 1) zH = List.replicate i zH ++ [zH] from List.replicate_succ']
    rfl
  · show affiantlaw3_LamSizes_1_step m c (n : Int) (n : Int) seed s (List.replicate n zH) = _
    unfold affiantlaw3_LamSizes_1_step
    rw [fork_f (by omega)]
theorem none_eq (m : List UInt8) (hm : m.length ≤ 100000) (seed : List UInt8) (s : One) (l : List One) (hl : l.length ≤ 100) (h : ∀ x ∈ l, Len32 x.1 ∧ Len32 x.2.1 ∧ ¬ (x.1.length = 32 ∧ x.2.1.length = 32)) :
    affiantlaw3_LamSizes_2 m (l.length : Int) 0 seed s l = some (.inr (m, seed, s)) := by
  unfold affiantlaw3_LamSizes_2
  have := loop_for (step := fun (t : Int) => affiantlaw3_LamSizes_2_step m (l.length : Int) t seed s l) (fun i (_ : Unit) => (i : Int)) (fun _ _ => ()) (fun _ => .inr (m, seed, s)) l.length (fun _ _ => True) (fun i w hi _ => ⟨?_, trivial⟩) (fun w _ => ?_) l.length 0 () (by omega) trivial
  · exact this
  · unfold affiantlaw3_LamSizes_2_step
    rw [fork_t (by omega), need_true (by omega), Int.toNat_natCast]
    have hx : l.getD i (([] : List (List UInt8)), ([] : List (List UInt8)), ()) ∈ l := by
      rw [List.getD_eq_getElem?_getD, List.getElem?_eq_getElem hi]; exact List.getElem_mem _
    obtain ⟨h1, h2, h3⟩ := h _ hx
    generalize l.getD i (([] : List (List UInt8)), ([] : List (List UInt8)), ()) = x at h1 h2 h3
    have hw : whoS m x = (zH, false) := if_neg h3
    rw [who_eq m hm x h1 h2, andThen_mk, verify_eq _ m hm x h1 h2, hw, andThen_mk]
    simp only
    rw [fork_ff, beq_hash, w64_eq (by omega) (by omega)]
    rfl
  · unfold affiantlaw3_LamSizes_2_step
    rw [fork_f (by omega)]
theorem len32_take {l : List (List UInt8)} (h : Len32 l) (n : Nat) : Len32 (l.take n) := fun x hx => h x (List.mem_of_mem_take hx)
theorem len32_app {a b : List (List UInt8)} (h : Len32 a) (h2 : Len32 b) : Len32 (a ++ b) := fun x hx => (List.mem_append.1 hx).elim (h x) (h2 x)
theorem len32_rep (n : Nat) : Len32 (List.replicate n zH) := fun x hx => by rw [List.eq_of_mem_replicate hx]; rfl
theorem law_LamSizes (y0 : List UInt8) (y1 : List UInt8) (y2 y3 : Int) (w0 : Wf (.arr 32 (.int .u8)) y0) (w1 : Wf (.slice (.int .u8)) y1) (w2 : Wf (.int .i64) y2) (w3 : Wf (.int .i64) y3) : affiantlaw3_LamSizes y0 y1 y2 y3 = some true := by
  unfold affiantlaw3_LamSizes
  have hs : y0.length = 32 := w0.1
  have hc := cut_len y1 0 (min (y1.length : Int) 30) (by omega) (by omega) (by omega)
  rw [need_true (by omega)]
  simp only [List.nil_append]
  generalize cutL y1 0 (min (y1.length : Int) 30) = m at hc ⊢
  have hm : m.length ≤ 100000 := by omega
  obtain ⟨h1, h2, h3, h4⟩ := sign_len y0 m
  obtain ⟨c, e1, c1, c2⟩ := within_eq y2 0 31 (by omega) (by omega) (by omega)
  obtain ⟨n', e2, n1, n2⟩ := within_eq y3 1 3 (by omega) (by omega) (by omega)
  obtain ⟨n, rfl⟩ := Int.eq_ofNat_of_zero_le (show 0 ≤ n' by omega)
  rw [need_true (by simp; omega), sign_eq y0 m hs hm, andThen_mk, fork_nt (by omega), fork_nt (by omega), e1, andThen_mk, e2, andThen_mk, extra_eq m c y0 _ n (by omega), andThen_mk]
  simp only
  rw [need_true (by omega), need_true (by omega), need_true (by simp; omega), need_true (by simp; omega), need_true (by simp; omega), need_true (by simp; omega)]
  have hb := none_eq m hm y0 (signS y0 m) [(cutL (signS y0 m).1 0 c, (signS y0 m).2.1, ()), ((signS y0 m).1, cutL (signS y0 m).2.1 0 c, ()), ((signS y0 m).1 ++ List.replicate n zH, (signS y0 m).2.1, ()), ((signS y0 m).1, (signS y0 m).2.1 ++ List.replicate n zH, ()), ([], [], ())] (by simp) (by
    intro x hx
    simp only [List.mem_cons, List.not_mem_nil, or_false] at hx
    have k1 := cut_len (signS y0 m).1 0 c (by omega) (by omega) (by omega)
    have k2 := cut_len (signS y0 m).2.1 0 c (by omega) (by omega) (by omega)
    rcases hx with rfl | rfl | rfl | rfl | rfl
    · exact ⟨len32_take h3 _, h4, fun h => by have := h.1; simp only at this; omega⟩
    · exact ⟨h3, len32_take h4 _, fun h => by have := h.2; simp only at this; omega⟩
    · exact ⟨len32_app h3 (len32_rep n), h4, fun h => by have := h.1; simp only [List.length_append, List.length_replicate] at this; omega⟩
    · exact ⟨h3, len32_app h4 (len32_rep n), fun h => by have := h.2; simp only [List.length_append, List.length_replicate] at this; omega⟩
    · exact ⟨fun x hx => by simp at hx, fun x hx => by simp at hx, fun h => by have := h.1; simp at this⟩)
  rw [hb, andThen_mk]
  simp only
  rw [sign_eq y0 m hs hm, andThen_mk, sameH_refl _ (by omega), andThen_mk, fork_tt, sameH_refl _ (by omega), andThen_mk, fork_tt, law_LamRuns]
  rfl
end Go.Ax.V
