/-
  Chapter 8: some pairs' proof is the pairs with their paths, each as alone.
-/
import Derived.Test.YtdiacaflcfiomaaCProvePartsLProveTells
namespace Go.Ax.V
open Go.Ax
set_option linter.unusedVariables false
set_option linter.unusedSimpArgs false
theorem pa_step (x0 : Int) (x1 : Int) (x2 : Int) (x3 : Int) (x4 : List Pr) (x5 : Int × Int × (List Pr) × List (List (List UInt8)) × Unit) : affiantlaw8_ProveParts_1_step x0 x1 x2 x3 x4 x5 =
  (fork (decide (x3 < x1)) (andThen (prove_Some x4 x3 (w64 (x3 + (1 : Int)))) (fun u21 => fork (!decide ((List.length u21.2.2.1 : Int) = (1 : Int))) (some (.inr (.inl false))) (fork (!decide (u21.2.1 = x3)) (some (.inr (.inl false))) (need (0 ≤ (0 : Int) ∧ (0 : Int) < (List.length u21.2.2.1 : Int)) (need (0 ≤ x3 ∧ x3 < (List.length x4 : Int)) (fork (!(Ty.beq (.fld .str (.fld .str .unit)) (List.getD u21.2.2.1 (Int.toNat (0 : Int)) zPr) (List.getD x4 (Int.toNat x3) zPr))) (some (.inr (.inl false))) (fork (decide ((List.length x5.2.2.2.1 : Int) ≤ (w64 (x3 - x0)))) (some (.inr (.inl false))) (fork (!decide ((List.length u21.2.2.2.1 : Int) = (1 : Int))) (some (.inr (.inl false))) (need (0 ≤ (0 : Int) ∧ (0 : Int) < (List.length u21.2.2.2.1 : Int)) (need (0 ≤ (w64 (x3 - x0)) ∧ (w64 (x3 - x0)) < (List.length x5.2.2.2.1 : Int)) (andThen (affiantbook_Same_Hash (List.getD u21.2.2.2.1 (Int.toNat (0 : Int)) ([] : List (List UInt8))) (List.getD x5.2.2.2.1 (Int.toNat (w64 (x3 - x0))) ([] : List (List UInt8)))) (fun u32 => fork (!u32) (some (.inr (.inl false))) (andThen (prove_Size u21) (fun u35 => some (.inl ((w64 (x2 + u35)), (w64 (x3 + (1 : Int))))))))))))))))))) (some (.inr (.inr (x0, x1, x2, x4, x5)))) : Option ((Int × Int) ⊕ ((Bool) ⊕ (Int × Int × Int × (List Pr) × Int × Int × (List Pr) × List (List (List UInt8)) × Unit)))) := rfl
theorem some_one (l : List Pr) {k : Nat} (hk : k < l.length) : someN l k (k + 1) = ((l.length : Int), (k : Int), [l.getD k zPr], [pathS (leavesB l) (k : Int)], ()) := by
 unfold someN
 rw [if_neg (by omega), show k + 1 - k = 0 + 1 from by omega, drop_take_succ l (by omega), pathsN_succ]
 rfl
theorem pa_loop (l : List Pr) (h : KvOk l) (i j : Nat) (hj : j ≤ l.length) (hij : i < j) :
  affiantlaw8_ProveParts_1 (i : Int) (j : Int) 0 (i : Int) l (someN l i j) = some (.inr ((i : Int), (j : Int), (sizeP (someN l i j) : Int), l, someN l i j)) := by
 have hl := h.1
 have es : someN l i j = ((l.length : Int), (i : Int), (l.drop i).take (j - i), pathsN l i (j - i), ()) := by unfold someN; rw [if_neg (by omega)]
 obtain ⟨e2, e3⟩ := pathsN_b l hl i (j - i)
 have e4 : (someN l i j).2.2.2.1 = pathsN l i (j - i) := by rw [es]
 have hsz : sizeP (someN l i j) = (j - i) + ((pathsN l i (j - i)).map List.length).sum := by
  unfold sizeP
  rw [es]
  show ((l.drop i).take (j - i)).length + _ = _
  rw [List.length_take, List.length_drop, Nat.min_eq_left (by omega)]
 unfold affiantlaw8_ProveParts_1
 have := loop_for (step := fun (s : Int × Int) => affiantlaw8_ProveParts_1_step (i : Int) (j : Int) s.1 s.2 l (someN l i j)) (fun m (_ : Unit) => (((m + ((pathsN l i m).map List.length).sum : Nat) : Int), ((i + m : Nat) : Int))) (fun _ _ => ()) (fun _ => .inr ((i : Int), (j : Int), (sizeP (someN l i j) : Int), l, someN l i j)) (j - i) (fun _ _ => True) (fun m w hi _ => ⟨?_, trivial⟩) (fun w _ => ?_) (j - i) 0 () (by omega) trivial
 ·exact this
 ·show affiantlaw8_ProveParts_1_step (i : Int) (j : Int) ((m + ((pathsN l i m).map List.length).sum : Nat) : Int) ((i + m : Nat) : Int) l (someN l i j) = some (.inl (((m + 1 + ((pathsN l i (m + 1)).map List.length).sum : Nat) : Int), ((i + (m + 1) : Nat) : Int)))
  obtain ⟨f2, f3⟩ := pathsN_b l hl i m
  have a := sum_b (pathsN l i m) fun x hx => by have := f3 x hx; omega
  have g2 : (pathsN l i (j - i)).getD m [] = pathS (leavesB l) ((i + m : Nat) : Int) := by
   unfold pathsN
   rw [List.getD_eq_getElem?_getD, List.getElem?_map, List.getElem?_range hi]; rfl
  have g3 : (pathS (leavesB l) ((i + m : Nat) : Int)).length ≤ 60 := by rw [← g2]; exact e3 _ (getD_mem (by omega))
  have so := some_eq l h ((i + m : Nat) : Int) ((i + m + 1 : Nat) : Int)
  rw [show (max ((i + m : Nat) : Int) 0).toNat = i + m from by omega, show (min ((i + m + 1 : Nat) : Int) (l.length : Int)).toNat = i + m + 1 from by omega, some_one l (by omega)] at so
  have sz := size_eq ((l.length : Int), ((i + m : Nat) : Int), [l.getD (i + m) zPr], [pathS (leavesB l) ((i + m : Nat) : Int)], ()) (by simp) (by simp) (fun x hx => by
   have : x = pathS (leavesB l) ((i + m : Nat) : Int) := List.mem_singleton.1 hx
   rw [this]; omega)
  have hz : sizeP ((l.length : Int), ((i + m : Nat) : Int), [l.getD (i + m) zPr], [pathS (leavesB l) ((i + m : Nat) : Int)], ()) = 1 + (pathS (leavesB l) ((i + m : Nat) : Int)).length := by
   unfold sizeP; simp
  rw [hz] at sz
  have hsum : ((pathsN l i (m + 1)).map List.length).sum = ((pathsN l i m).map List.length).sum + (pathS (leavesB l) ((i + m : Nat) : Int)).length := by
   rw [pathsN_succ, List.map_append, List.sum_append]; simp
  rw [pa_step, fork_t (by omega), w64_eq (n := ((i + m : Nat) : Int) + 1) (by omega) (by omega), show ((i + m : Nat) : Int) + 1 = ((i + m + 1 : Nat) : Int) from by omega, so, andThen_mk]
  dsimp only
  rw [fork_nt (by rfl), fork_nt rfl, need_true (by simp), need_true (by omega), Int.toNat_natCast, show Int.toNat 0 = 0 from rfl, List.getD_cons_zero, pbeq, fork_nt rfl, e4, e2, w64_eq (n := ((i + m : Nat) : Int) - (i : Int)) (by omega) (by omega), fork_f (by omega), fork_nt (by rfl), need_true (by simp), need_true (by omega), List.getD_cons_zero, show Int.toNat (((i + m : Nat) : Int) - (i : Int)) = m from by omega, g2, sameHash_refl _ (by omega), andThen_mk, Bool.not_true, fork_ff, sz, andThen_mk, w64_eq (by omega) (by omega), hsum]
  congr 3; omega
 ·show affiantlaw8_ProveParts_1_step (i : Int) (j : Int) ((j - i + ((pathsN l i (j - i)).map List.length).sum : Nat) : Int) ((i + (j - i) : Nat) : Int) l (someN l i j) = _
  rw [pa_step, fork_f (by omega), hsz]
theorem law_ProveParts (y0 : List Int) (y1 y2 : Int) (w0 : Wf (.slice (.int .i64)) y0) (w1 : Wf (.int .i64) y1) (w2 : Wf (.int .i64) y2) : affiantlaw8_ProveParts y0 y1 y2 = some true := by
 have e8 : tyBytes (.int .i64) = 8 := rfl
 have hp0 : y0.length ≤ 140737488355328 := by have := w0.1; rw [e8] at this; omega
 obtain ⟨l, el, hrow⟩ := pairs_eq y0 hp0
 have h := row_kv hrow
 have hl : l.length ≤ 12 := hrow.2.1
 obtain ⟨i, ei, i1, i2⟩ := within_eq y1 0 (l.length : Int) (by omega) (by omega) (by omega)
 obtain ⟨j, ej, j1, j2⟩ := within_eq y2 0 (l.length : Int) (by omega) (by omega) (by omega)
 have hi : i = (i.toNat : Int) := by omega
 have hj : j = (j.toNat : Int) := by omega
 generalize i.toNat = I at hi
 generalize j.toNat = J at hj
 subst hi; subst hj
 have so := some_eq l h (I : Int) (J : Int)
 rw [show (max (I : Int) 0).toNat = I from by omega, show (min (J : Int) (l.length : Int)).toNat = J from by omega] at so
 unfold affiantlaw8_ProveParts
 rw [el, andThen_mk, ei, andThen_mk, ej, andThen_mk, so, andThen_mk]
 have sz := sizeN_eq l h I J (by omega)
 by_cases c : J ≤ I
 ·have es : someN l I J = ((l.length : Int), 0, [], [], ()) := by unfold someN; rw [if_pos c]
  rw [fork_t (by omega)]
  have hz : sizeP (someN l I J) = 0 := by rw [es]; rfl
  rw [hz] at sz
  rw [sz, es]
  rw [fork_t (by rfl), fork_t (by rfl), fork_t (by rfl), fork_t (by rfl), andThen_mk, fork_t (by rfl), law_ProveRuns]
  rfl
 ·have es : someN l I J = ((l.length : Int), (I : Int), (l.drop I).take (J - I), pathsN l I (J - I), ()) := by unfold someN; rw [if_neg c]
  have e1 : ((l.drop I).take (J - I)).length = J - I := by rw [List.length_take, List.length_drop]; omega
  have k2 : (someN l I J).2.1 = (I : Int) := by rw [es]
  have k3 : (someN l I J).2.2.1.length = J - I := by rw [es]; exact e1
  have s1 := some_eq l h 0 (l.length : Int)
  rw [show (max (0 : Int) 0).toNat = 0 from rfl, show (min (l.length : Int) (l.length : Int)).toNat = l.length from by omega] at s1
  have s2 := some_eq l h (-9) 99
  rw [show (max (-9 : Int) 0).toNat = 0 from rfl, show (min (99 : Int) (l.length : Int)).toNat = l.length from by omega] at s2
  have q2 : (someN l 0 l.length).2.1 = 0 := by unfold someN; rw [if_neg (by omega)]; rfl
  have q3 : (someN l 0 l.length).2.2.1.length = l.length := by unfold someN; rw [if_neg (by omega)]; show ((l.drop 0).take (l.length - 0)).length = _; rw [List.length_take, List.length_drop]; omega
  rw [fork_f (by omega), pa_loop l h I J (by omega) (by omega), andThen_mk]
  simp only
  rw [s1, andThen_mk, sz, andThen_mk, fork_t rfl, k2, fork_t rfl, k3, w64_eq (by omega) (by omega), fork_t (by omega), q3, fork_t rfl, q2, fork_t rfl, s2, andThen_mk, proofsN_refl l h _ _ (by omega), andThen_mk, fork_tt, law_ProveRuns]
  rfl
end Go.Ax.V
