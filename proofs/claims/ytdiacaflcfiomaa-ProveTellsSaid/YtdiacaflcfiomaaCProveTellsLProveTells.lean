/-
  Chapter 8: any pairs, any keys, any places: the proof.
-/
import Derived.Test.YtdiacaflcfiomaaCProveTellsLProveRuns
import Derived.Test.YtdiacaflcfiomaaCProveTellsLPairs
namespace Go.Ax.V
open Go.Ax
set_option linter.unusedVariables false
set_option linter.unusedSimpArgs false
theorem pt_step (x0 : List UInt8) (x1 : List UInt8) (x2 : Int) (x3 : Int) (x4 : Bool) (x5 : Bool) (x6 : Bool) (x7 : Int) (x8 : List (List (List UInt8))) (x9 : Int) (x10 : Int) (x11 : List Pr) (x12 : Int × Int × (List Pr) × List (List (List UInt8)) × Unit) (x13 : Int × Int × (List Pr) × List (List (List UInt8)) × Unit) (x14 : Int × Int × (List Pr) × List (List (List UInt8)) × Unit) (x15 : Int × Int × (List Pr) × List (List (List UInt8)) × Unit) (x16 : Int × Int × (List Pr) × List (List (List UInt8)) × Unit) : affiantlaw8_ProveTells_1_step x0 x1 x2 x3 x4 x5 x6 x7 x8 x9 x10 x11 x12 x13 x14 x15 x16 =
  (fork (decide (x10 < x9)) (need (0 ≤ x10 ∧ x10 < (List.length x8 : Int)) (some (.inl ((w64 (x7 + (List.length (List.getD x8 (Int.toNat x10) ([] : List (List UInt8))) : Int))), (w64 (x10 + (1 : Int))))))) (some (.inr (x0, x1, x2, x3, x4, x5, x6, x7, x11, x12, x13, x14, x15, x16))) : Option ((Int × Int) ⊕ (List UInt8 × List UInt8 × Int × Int × Bool × Bool × Bool × Int × (List Pr) × (Int × Int × (List Pr) × List (List (List UInt8)) × Unit) × (Int × Int × (List Pr) × List (List (List UInt8)) × Unit) × (Int × Int × (List Pr) × List (List (List UInt8)) × Unit) × (Int × Int × (List Pr) × List (List (List UInt8)) × Unit) × Int × Int × (List Pr) × List (List (List UInt8)) × Unit))) := rfl
theorem same_pt2 : @affiantlaw8_ProveTells_2 = @affiantlaw8_ProveTells_1 := rfl
theorem same_pt3 : @affiantlaw8_ProveTells_3 = @affiantlaw8_ProveTells_1 := rfl
theorem pt_loop (x y : List UInt8) (i j : Int) (b c d : Bool) (n : Nat) (hn : n ≤ 1000000) (ps : List (List (List UInt8))) (h2 : ps.length ≤ 1000000) (h3 : ∀ x ∈ ps, x.length ≤ 1000) (l : List Pr) (p1 p2 p3 p4 p5 : Prf) :
  affiantlaw8_ProveTells_1 x y i j b c d (n : Int) ps (ps.length : Int) 0 l p1 p2 p3 p4 p5 = some (x, y, i, j, b, c, d, ((n + (ps.map List.length).sum : Nat) : Int), l, p1, p2, p3, p4, p5) := by
 unfold affiantlaw8_ProveTells_1
 have := loop_for (step := fun (s : Int × Int) => affiantlaw8_ProveTells_1_step x y i j b c d s.1 ps (ps.length : Int) s.2 l p1 p2 p3 p4 p5) (fun i (_ : Unit) => (((n + ((ps.take i).map List.length).sum : Nat) : Int), (i : Int))) (fun _ _ => ()) (fun _ => (x, y, i, j, b, c, d, ((n + (ps.map List.length).sum : Nat) : Int), l, p1, p2, p3, p4, p5)) ps.length (fun _ _ => True) (fun k w hi _ => ⟨?_, trivial⟩) (fun w _ => ?_) ps.length 0 () (by omega) trivial
 ·exact this
 ·show affiantlaw8_ProveTells_1_step x y i j b c d ((n + ((ps.take k).map List.length).sum : Nat) : Int) ps (ps.length : Int) (k : Int) l p1 p2 p3 p4 p5 = _
  have a := sum_b (ps.take k) fun x hx => h3 x (List.mem_of_mem_take hx)
  have b := h3 _ (getD_mem (z := []) hi)
  rw [List.length_take] at a
  have t := sum_take ps hi
  rw [pt_step, fork_t (by omega), need_true (by omega), Int.toNat_natCast, w64_eq (by omega) (by omega), w64_eq (by omega) (by omega), t]
  congr 3; omega
 ·show affiantlaw8_ProveTells_1_step x y i j b c d ((n + ((ps.take ps.length).map List.length).sum : Nat) : Int) ps (ps.length : Int) (ps.length : Int) l p1 p2 p3 p4 p5 = _
  rw [pt_step, fork_f (by omega), List.take_of_length_le (Nat.le_refl _)]
theorem someN_b (l : List Pr) (h : KvOk l) (F T : Nat) (hT : T ≤ 1000) : (someN l F T).2.2.1.length ≤ 60 ∧ (someN l F T).2.2.2.1.length ≤ 1000 ∧ ∀ x ∈ (someN l F T).2.2.2.1, x.length ≤ 60 := by
 have hl := h.1
 unfold someN
 by_cases c : T ≤ F
 ·rw [if_pos c]; simp
 ·rw [if_neg c]
  obtain ⟨a, b⟩ := pathsN_b l hl F (T - F)
  exact ⟨by show ((l.drop F).take (T - F)).length ≤ _; rw [List.length_take, List.length_drop]; omega, by show (pathsN l F (T - F)).length ≤ _; omega, b⟩
theorem pt_tail (l : List Pr) (h : KvOk l) (hr : Rise l) (x y : List UInt8) (i j : Int) (b : Bool) (e d we wd : Prf) (he : affiantkeep_Proofs e we = some true) (hd : affiantkeep_Proofs d wd = some true) (F T : Nat) (hF : F = (max i 0).toNat) (hT : T = (min j (l.length : Int)).toNat) : (andThen (affiantlaw8_ProveTells_1 x y i j b b (!b) (List.length (someN l F T).2.2.1 : Int) (someN l F T).2.2.2.1 (List.length (someN l F T).2.2.2.1 : Int) (0 : Int) l e d we wd (someN l F T)) (fun o27 => fork (o27.2.2.2.2.2.1 == o27.2.2.2.2.1) (fork (o27.2.2.2.2.2.2.1 == (!o27.2.2.2.2.1)) (andThen (affiantkeep_Proofs o27.2.2.2.2.2.2.2.2.2.1 o27.2.2.2.2.2.2.2.2.2.2.2.1) (fun u31 => fork u31 (andThen (affiantkeep_Proofs o27.2.2.2.2.2.2.2.2.2.2.1 o27.2.2.2.2.2.2.2.2.2.2.2.2.1) (fun u34 => fork u34 (andThen (prove_Range o27.2.2.2.2.2.2.2.2.1 o27.1 o27.2.1) (fun u37 => andThen (affiantref1_Cover o27.2.2.2.2.2.2.2.2.1 o27.1 o27.2.1) (fun u39 => andThen (affiantkeep_Proofs u37 u39) (fun u41 => fork u41 (andThen (affiantref1_Prove o27.2.2.2.2.2.2.2.2.1 (max o27.2.2.1 (0 : Int)) (min o27.2.2.2.1 (List.length o27.2.2.2.2.2.2.2.2.1 : Int))) (fun u44 => andThen (affiantkeep_Proofs o27.2.2.2.2.2.2.2.2.2.2.2.2.2 u44) (fun u46 => fork u46 (andThen (prove_Size o27.2.2.2.2.2.2.2.2.2.2.2.2.2) (fun u49 => fork (decide (u49 = o27.2.2.2.2.2.2.2.1)) (andThen (affiantlaw8_ProveRuns) (fun u52 => some u52)) (none))) (none)))) (none))))) (none))) (none))) (none)) (none))) = some true := by
 have hl := h.1
 have hT2 : T ≤ l.length := by omega
 obtain ⟨s1, s2, s3⟩ := someN_b l h F T (by omega)
 have lp := pt_loop x y i j b b (!b) (someN l F T).2.2.1.length (by omega) (someN l F T).2.2.2.1 (by omega) (fun x hx => by have := s3 x hx; omega) l e d we wd (someN l F T)
 have hp : affiantref1_Prove l (max i 0) (min j (l.length : Int)) = some (someN l F T) := by
  by_cases c : j < 0
  ·have e1 : T = 0 := by omega
   unfold affiantref1_Prove
   rw [fork_t (by omega)]
   unfold someN
   rw [if_pos (by omega)]
  ·rw [show max i 0 = (F : Int) from by omega, show min j (l.length : Int) = (T : Int) from by omega]
   exact rprove_eq l h F T hT2
 have b1 := below_le l x
 have b2 := below_le l (maxS x y)
 rw [lp, andThen_mk]
 simp only
 rw [beq_self_eq_true, fork_tt, beq_self_eq_true, fork_tt, he, andThen_mk, fork_tt, hd, andThen_mk, fork_tt, range_eq l h hr, andThen_mk, rcover_eq l h, andThen_mk, proofsN_refl l h _ _ (by omega), andThen_mk, fork_tt, hp, andThen_mk, proofsN_refl l h _ _ (by omega), andThen_mk, fork_tt]
 show andThen (prove_Size (someN l F T)) _ = _
 rw [sizeN_eq l h F T (by omega), andThen_mk, fork_t (by rfl), law_ProveRuns]
 rfl
theorem law_ProveTells (y0 : List Int) (y1 y2 y3 y4 : Int) (w0 : Wf (.slice (.int .i64)) y0) (w1 : Wf (.int .i64) y1) (w2 : Wf (.int .i64) y2) (w3 : Wf (.int .i64) y3) (w4 : Wf (.int .i64) y4) : affiantlaw8_ProveTells y0 y1 y2 y3 y4 = some true := by
 have e8 : tyBytes (.int .i64) = 8 := rfl
 have hp0 : y0.length ≤ 140737488355328 := by have := w0.1; rw [e8] at this; omega
 obtain ⟨l, el, hrow⟩ := pairs_eq y0 hp0
 have h := row_kv hrow
 have hr := hrow.1
 have hl : l.length ≤ 12 := hrow.2.1
 obtain ⟨a, _, ea⟩ := key_eq y1
 obtain ⟨b, _, eb⟩ := key_eq y2
 generalize keys12.getD a [] = x at ea
 generalize keys12.getD b [] = y at eb
 obtain ⟨i, ei, i1, i2⟩ := within_eq y3 (-2) ((l.length : Int) + 2) (by omega) (by omega) (by omega)
 obtain ⟨j, ej, j1, j2⟩ := within_eq y4 (-2) ((l.length : Int) + 2) (by omega) (by omega) (by omega)
 have hb := below_le l x
 unfold affiantlaw8_ProveTells
 simp only [same_pt2, same_pt3]
 rw [el, andThen_mk, ea, andThen_mk, eb, andThen_mk, w64_eq (by omega) (by omega), ei, andThen_mk, ej, andThen_mk, rfirst_eq l (by omega), andThen_mk, Int.toNat_natCast]
 have zero : affiantkeep_Proofs (((0 : Int), (0 : Int), ([] : List Pr), ([] : List (List (List UInt8))), ()) : Prf) ((0 : Int), (0 : Int), ([] : List Pr), ([] : List (List (List UInt8))), ()) = some true := proofs_refl _ (by simp) (by simp) (by simp)
 have ex := exist_eq l h hr x
 have ab := absent_eq l h hr x
 by_cases c : isAt l x = true
 ·have cc := c
  unfold isAt at cc
  rw [decide_eq_true_eq] at cc
  have cc2 : (l.getD (belowN l x) (([] : List UInt8), ([] : List UInt8), ())).1 = x := cc.2
  rw [if_pos c] at ex ab
  rw [fork_t (by omega), need_true (by omega), ex, andThen_mk, ab, andThen_mk, fork_t cc2, w64_eq (by omega) (by omega), show (belowN l x : Int) + 1 = ((belowN l x + 1 : Nat) : Int) from by omega, rprove_eq l h _ _ (by omega), andThen_mk, some_eq l h, andThen_mk, decide_eq_true cc2]
  exact pt_tail l h hr x y i j true _ _ _ _ (proofsN_refl l h _ _ (by omega)) zero _ _ rfl rfl
 ·rw [if_neg c] at ex ab
  by_cases c1 : belowN l x < l.length
  ·have c2 : ¬ (l.getD (belowN l x) (([] : List UInt8), ([] : List UInt8), ())).1 = x := fun q => c (by unfold isAt; rw [decide_eq_true_eq]; exact ⟨c1, q⟩)
   rw [fork_t (by omega), need_true (by omega), ex, andThen_mk, ab, andThen_mk, fork_f c2, rcover_eq l h, andThen_mk, some_eq l h, andThen_mk, decide_eq_false c2, maxS_self]
   exact pt_tail l h hr x y i j false _ _ _ _ zero (proofsN_refl l h _ _ (by omega)) _ _ rfl rfl
  ·rw [fork_f (by omega), ex, andThen_mk, ab, andThen_mk, rcover_eq l h, andThen_mk, some_eq l h, andThen_mk, maxS_self]
   exact pt_tail l h hr x y i j false _ _ _ _ zero (proofsN_refl l h _ _ (by omega)) _ _ rfl rfl
end Go.Ax.V
