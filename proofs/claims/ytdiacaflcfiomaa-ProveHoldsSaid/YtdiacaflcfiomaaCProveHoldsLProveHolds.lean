/-
  Chapter 8: a range's proof has the range, and one neighbour at each side.
-/
import Derived.Test.YtdiacaflcfiomaaCProveHoldsLProveTells
namespace Go.Ax.V
open Go.Ax
set_option linter.unusedVariables false
set_option linter.unusedSimpArgs false
theorem ls_step (x0 : List Pr) (x1 : Int) (x2 : Int) (x3 : List (List UInt8)) : affiantlaw8_leaves_1_step x0 x1 x2 x3 =
  (fork (decide (x2 < x1)) (need (0 ≤ x2 ∧ x2 < (List.length x0 : Int)) (andThen (kv_Leaf (List.getD x0 (Int.toNat x2) zPr)) (fun u4 => need (List.length x3 + List.length ([u4] : List (List UInt8)) ≤ 2147483648) (some (.inl ((w64 (x2 + (1 : Int))), (x3 ++ ([u4] : List (List UInt8))))))))) (some (.inr x3)) : Option ((Int × List (List UInt8)) ⊕ (List (List UInt8)))) := rfl
theorem ph1_step (x0 : List UInt8) (x1 : List UInt8) (x2 : List Pr) (x3 : Int) (x4 : Int) (x5 : List Pr) (x6 : Int × Int × (List Pr) × List (List (List UInt8)) × Unit) : affiantlaw8_ProveHolds_1_step x0 x1 x2 x3 x4 x5 x6 =
  (fork (decide (x4 < x3)) (need (0 ≤ x4 ∧ x4 < (List.length x2 : Int)) (need (0 ≤ (w64 (x6.2.1 + x4)) ∧ (w64 (x6.2.1 + x4)) < (List.length x5 : Int)) (fork (!(Ty.beq (.fld .str (.fld .str .unit)) (List.getD x5 (Int.toNat (w64 (x6.2.1 + x4))) zPr) (List.getD x2 (Int.toNat x4) zPr))) (some (.inr (.inl false))) (need (0 ≤ x4 ∧ x4 < (List.length x6.2.2.2.1 : Int)) (andThen (affiantlaw8_leaves x5) (fun u20 => andThen (tree_Path u20 (w64 (x6.2.1 + x4))) (fun u22 => andThen (affiantbook_Same_Hash (List.getD x6.2.2.2.1 (Int.toNat x4) ([] : List (List UInt8))) u22) (fun u24 => fork (!u24) (some (.inr (.inl false))) (some (.inl (w64 (x4 + (1 : Int))))))))))))) (some (.inr (.inr (x0, x1, x5, x6)))) : Option ((Int) ⊕ ((Bool) ⊕ (List UInt8 × List UInt8 × (List Pr) × Int × Int × (List Pr) × List (List (List UInt8)) × Unit)))) := rfl
theorem ph2_step (x0 : List UInt8) (x1 : List UInt8) (x2 : Int) (x3 : Int) (x4 : Int) (x5 : Int) (x6 : Int) (x7 : Int × Int × (List Pr) × List (List (List UInt8)) × Unit) (x8 : List Pr) : affiantlaw8_ProveHolds_2_step x0 x1 x2 x3 x4 x5 x6 x7 x8 =
  (fork (decide (x6 < x5)) (need (0 ≤ x6 ∧ x6 < (List.length x8 : Int)) (fork (sless (List.getD x8 (Int.toNat x6) zPr).1 x0) (some (.inl (x2, (1 : Int), x4, (w64 (x6 + (1 : Int)))))) (fork (sless (List.getD x8 (Int.toNat x6) zPr).1 x1) (some (.inl ((w64 (x2 + (1 : Int))), x3, x4, (w64 (x6 + (1 : Int)))))) (some (.inl (x2, x3, (1 : Int), (w64 (x6 + (1 : Int))))))))) (some (.inr (x2, x3, x4, x7))) : Option ((Int × Int × Int × Int) ⊕ (Int × Int × Int × Int × Int × (List Pr) × List (List (List UInt8)) × Unit))) := rfl
theorem same_ph3 : @affiantlaw8_ProveHolds_3 = @affiantlaw8_ProveHolds_1 := rfl
theorem same_ph4 : @affiantlaw8_ProveHolds_4 = @affiantlaw8_ProveHolds_2 := rfl
theorem lleaves_eq (l : List Pr) (h : KvOk l) : affiantlaw8_leaves l = some (leavesB l) := by
 have hl := h.1
 have m1 : affiantlaw8_leaves_1 l (l.length : Int) 0 [] = some (leavesB l) := by
  unfold affiantlaw8_leaves_1
  have := loop_for (step := fun (s : Int × List (List UInt8)) => affiantlaw8_leaves_1_step l (l.length : Int) s.1 s.2) (fun i (_ : Unit) => ((i : Int), leavesB (l.take i))) (fun _ _ => ()) (fun _ => leavesB l) l.length (fun _ _ => True) (fun i w hi _ => ⟨?_, trivial⟩) (fun w _ => ?_) l.length 0 () (by omega) trivial
  ·exact this
  ·show affiantlaw8_leaves_1_step l (l.length : Int) (i : Int) (leavesB (l.take i)) = _
   rw [ls_step, fork_t (by omega), need_true (by omega), Int.toNat_natCast, leaf_eq _ (h.2 _ (getD_mem hi)), andThen_mk, need_true (by rw [leavesB_len, List.length_take]; simp only [List.length_cons, List.length_nil]; omega), leavesB_take l hi, w64_eq (by omega) (by omega)]
   rfl
  ·show affiantlaw8_leaves_1_step l (l.length : Int) (l.length : Int) (leavesB (l.take l.length)) = _
   rw [ls_step, fork_f (by omega), List.take_of_length_le (Nat.le_refl _)]
 unfold affiantlaw8_leaves
 rw [m1, andThen_mk]
theorem ph_loop1 (l : List Pr) (h : KvOk l) (x y : List UInt8) (F T : Nat) (hT : T ≤ l.length) (hFT : F < T) :
  affiantlaw8_ProveHolds_1 x y (someN l F T).2.2.1 ((someN l F T).2.2.1.length : Int) 0 l (someN l F T) = some (.inr (x, y, l, someN l F T)) := by
 have hl := h.1
 have es : someN l F T = ((l.length : Int), (F : Int), (l.drop F).take (T - F), pathsN l F (T - F), ()) := by unfold someN; rw [if_neg (by omega)]
 have e1 : ((l.drop F).take (T - F)).length = T - F := by rw [List.length_take, List.length_drop]; omega
 obtain ⟨e2, e3⟩ := pathsN_b l hl F (T - F)
 unfold affiantlaw8_ProveHolds_1
 rw [es]
 simp only
 rw [e1]
 have := loop_for (step := fun (s : Int) => affiantlaw8_ProveHolds_1_step x y ((l.drop F).take (T - F)) ((T - F : Nat) : Int) s l ((l.length : Int), (F : Int), (l.drop F).take (T - F), pathsN l F (T - F), ())) (fun i (_ : Unit) => (i : Int)) (fun _ _ => ()) (fun _ => .inr (x, y, l, ((l.length : Int), (F : Int), (l.drop F).take (T - F), pathsN l F (T - F), ()))) (T - F) (fun _ _ => True) (fun i w hi _ => ⟨?_, trivial⟩) (fun w _ => ?_) (T - F) 0 () (by omega) trivial
 ·exact this
 ·show affiantlaw8_ProveHolds_1_step x y ((l.drop F).take (T - F)) ((T - F : Nat) : Int) (i : Int) l ((l.length : Int), (F : Int), (l.drop F).take (T - F), pathsN l F (T - F), ()) = _
  have g1 : ((l.drop F).take (T - F)).getD i zPr = l.getD (F + i) zPr := by
   rw [List.getD_eq_getElem?_getD, List.getD_eq_getElem?_getD, List.getElem?_take, if_pos hi, List.getElem?_drop]
  have g2 : (pathsN l F (T - F)).getD i [] = pathS (leavesB l) ((F + i : Nat) : Int) := by
   unfold pathsN
   rw [List.getD_eq_getElem?_getD, List.getElem?_map, List.getElem?_range hi]; rfl
  have g3 : (pathS (leavesB l) ((F + i : Nat) : Int)).length ≤ 60 := by rw [← g2]; exact e3 _ (getD_mem (by omega))
  rw [ph1_step]
  simp only
  rw [fork_t (by omega), need_true (by omega), w64_eq (n := (F : Int) + (i : Int)) (by omega) (by omega), need_true (by omega), show Int.toNat ((F : Int) + (i : Int)) = F + i from by omega, Int.toNat_natCast, g1, pbeq, fork_nt rfl, need_true (by omega), lleaves_eq l h, andThen_mk, show (F : Int) + (i : Int) = ((F + i : Nat) : Int) from by omega, path_eq (leavesB l) _ (by rw [leavesB_len]; omega) (leavesB_small h), andThen_mk, g2, sameHash_refl _ (by omega), andThen_mk, w64_eq (by omega) (by omega)]
  rfl
 ·show affiantlaw8_ProveHolds_1_step x y ((l.drop F).take (T - F)) ((T - F : Nat) : Int) ((T - F : Nat) : Int) l _ = _
  rw [ph1_step, fork_f (by omega)]
theorem ph_loop2 (l : List Pr) (h : KvOk l) (hr : Rise l) (x y : List UInt8) (p : Prf) (hxy : belowN l x ≤ belowN l y) :
  affiantlaw8_ProveHolds_2 x y 0 0 0 (l.length : Int) 0 p l = some (((belowN l y - belowN l x : Nat) : Int), ((min (belowN l x) 1 : Nat) : Int), ((min (l.length - belowN l y) 1 : Nat) : Int), p) := by
 have hl := h.1
 have bx := below_le l x
 have b_y := below_le l y
 unfold affiantlaw8_ProveHolds_2
 have := loop_for (step := fun (s : Int × Int × Int × Int) => affiantlaw8_ProveHolds_2_step x y s.1 s.2.1 s.2.2.1 (l.length : Int) s.2.2.2 p l) (fun i (_ : Unit) => (((min i (belowN l y) - belowN l x : Nat) : Int), ((min (min i (belowN l x)) 1 : Nat) : Int), ((min (i - belowN l y) 1 : Nat) : Int), (i : Int))) (fun _ _ => ()) (fun _ => (((belowN l y - belowN l x : Nat) : Int), ((min (belowN l x) 1 : Nat) : Int), ((min (l.length - belowN l y) 1 : Nat) : Int), p)) l.length (fun _ _ => True) (fun i w hi _ => ⟨?_, trivial⟩) (fun w _ => ?_) l.length 0 () (by omega) trivial
 ·rw [show min (0 : Nat) (belowN l y) - belowN l x = 0 from by omega, show min (min 0 (belowN l x)) 1 = 0 from by omega, show min (0 - belowN l y) 1 = 0 from by omega] at this
  exact this
 ·show affiantlaw8_ProveHolds_2_step x y ((min i (belowN l y) - belowN l x : Nat) : Int) ((min (min i (belowN l x)) 1 : Nat) : Int) ((min (i - belowN l y) 1 : Nat) : Int) (l.length : Int) (i : Int) p l = some (.inl (((min (i + 1) (belowN l y) - belowN l x : Nat) : Int), ((min (min (i + 1) (belowN l x)) 1 : Nat) : Int), ((min (i + 1 - belowN l y) 1 : Nat) : Int), ((i + 1 : Nat) : Int)))
  have qx := below_iff hr x hi
  have qy := below_iff hr y hi
  rw [ph2_step, fork_t (by omega), need_true (by omega), Int.toNat_natCast, w64_eq (n := (i : Int) + 1) (by omega) (by omega)]
  by_cases cx : i < belowN l x
  ·rw [qx.2 cx, fork_tt]
   congr 3
   ·omega
   ·rw [show min (min (i + 1) (belowN l x)) 1 = 1 from by omega, show min (i - belowN l y) 1 = 0 from by omega, show min (i + 1 - belowN l y) 1 = 0 from by omega]; rfl
  ·have nx : sless (l.getD i zPr).1 x = false := by
    cases q : sless (l.getD i zPr).1 x with
    | false => rfl
    | true => exact absurd (qx.1 q) cx
   rw [nx, fork_ff]
   by_cases cy : i < belowN l y
   ·rw [qy.2 cy, fork_tt, w64_eq (by omega) (by omega)]
    congr 3
    ·omega
    ·rw [show min (min (i + 1) (belowN l x)) 1 = min (min i (belowN l x)) 1 from by omega, show min (i - belowN l y) 1 = 0 from by omega, show min (i + 1 - belowN l y) 1 = 0 from by omega]; rfl
   ·have ny : sless (l.getD i zPr).1 y = false := by
     cases q : sless (l.getD i zPr).1 y with
     | false => rfl
     | true => exact absurd (qy.1 q) cy
    rw [ny, fork_ff]
    congr 3
    ·omega
    ·rw [show min (min (i + 1) (belowN l x)) 1 = min (min i (belowN l x)) 1 from by omega, show min (i + 1 - belowN l y) 1 = 1 from by omega]; rfl
 ·show affiantlaw8_ProveHolds_2_step x y ((min l.length (belowN l y) - belowN l x : Nat) : Int) ((min (min l.length (belowN l x)) 1 : Nat) : Int) ((min (l.length - belowN l y) 1 : Nat) : Int) (l.length : Int) (l.length : Int) p l = _
  rw [ph2_step, fork_f (by omega), Nat.min_eq_right b_y, Nat.min_eq_right bx]
theorem ph_tail (l : List Pr) (h : KvOk l) (hr : Rise l) (x y : List UInt8) (hxy : sless y x = false) : (andThen (prove_Range l x y) (fun u8 => fork (!decide (u8.1 = (List.length l : Int))) (none) (fork (decide (u8.2.1 < (0 : Int))) (none) (fork (decide ((List.length l : Int) < (w64 (u8.2.1 + (List.length u8.2.2.1 : Int))))) (none) (fork (!decide ((List.length u8.2.2.2.1 : Int) = (List.length u8.2.2.1 : Int))) (none) (andThen (affiantlaw8_ProveHolds_1 x y u8.2.2.1 (List.length u8.2.2.1 : Int) (0 : Int) l u8) (fun o27 => (match o27 with | .inl o29 => some o29 | .inr o30 => andThen (affiantlaw8_ProveHolds_2 o30.1 o30.2.1 (0 : Int) (0 : Int) (0 : Int) (List.length o30.2.2.1 : Int) (0 : Int) o30.2.2.2 o30.2.2.1) (fun o36 => fork (decide ((List.length o36.2.2.2.2.2.1 : Int) = (w64 ((w64 (o36.2.1 + o36.1)) + o36.2.2.1)))) (andThen (affiantlaw8_ProveRuns) (fun u39 => some u39)) (none)))))))))) = some true := by
 have hl := h.1
 have hm : maxS x y = y := by
  unfold maxS
  cases c : sless x y with
  | true => rfl
  | false =>
   rcases sless_tot y x hxy with e | e
   ·rw [e]; rfl
   ·rw [c] at e; cases e
 have hb := below_mono l y x hxy
 have b2 := below_le l y
 rw [range_eq l h hr, andThen_mk, hm]
 by_cases c : l.length = 0
 ·have e0 : l = [] := List.length_eq_zero_iff.1 c
  subst e0
  have : someN ([] : List Pr) (belowN [] x - 1) (min (belowN [] y + 1) ([] : List Pr).length) = ((0 : Int), (0 : Int), [], [], ()) := by
   unfold someN
   rw [if_pos (by simp)]; rfl
  rw [this, fork_nt (by rfl), fork_f (by decide), fork_f (by decide), fork_nt (by rfl)]
  have l1 : affiantlaw8_ProveHolds_1 x y ([] : List Pr) 0 0 [] ((0 : Int), (0 : Int), [], [], ()) = some (.inr (x, y, [], ((0 : Int), (0 : Int), [], [], ()))) := by
   unfold affiantlaw8_ProveHolds_1
   exact loop_out rfl
  have l2 := ph_loop2 [] h hr x y ((0 : Int), (0 : Int), [], [], ()) hb
  show andThen (affiantlaw8_ProveHolds_1 x y ([] : List Pr) 0 0 [] ((0 : Int), (0 : Int), [], [], ())) _ = _
  rw [l1, andThen_mk]
  show andThen (affiantlaw8_ProveHolds_2 x y 0 0 0 (([] : List Pr).length : Int) 0 ((0 : Int), (0 : Int), [], [], ()) []) _ = _
  rw [l2, andThen_mk]
  show fork (decide ((0 : Int) = 0)) _ _ = _
  rw [fork_t rfl, law_ProveRuns]; rfl
 ·generalize hF : belowN l x - 1 = F at *
  generalize hT : min (belowN l y + 1) l.length = T at *
  have hFT : F < T := by omega
  have es : someN l F T = ((l.length : Int), (F : Int), (l.drop F).take (T - F), pathsN l F (T - F), ()) := by unfold someN; rw [if_neg (by omega)]
  have e1 : ((l.drop F).take (T - F)).length = T - F := by rw [List.length_take, List.length_drop]; omega
  obtain ⟨e2, e3⟩ := pathsN_b l hl F (T - F)
  have k1 : (someN l F T).1 = (l.length : Int) := by rw [es]
  have k2 : (someN l F T).2.1 = (F : Int) := by rw [es]
  have k3 : (someN l F T).2.2.1.length = T - F := by rw [es]; exact e1
  have k4 : (someN l F T).2.2.2.1.length = T - F := by rw [es]; exact e2
  have l1 := ph_loop1 l h x y F T (by omega) hFT
  have l2 := ph_loop2 l h hr x y (someN l F T) hb
  rw [k1, fork_nt rfl, k2, fork_f (by omega), k3, w64_eq (by omega) (by omega), fork_f (by omega), k4, fork_nt rfl]
  rw [k3] at l1
  rw [l1, andThen_mk]
  simp only
  rw [l2, andThen_mk]
  simp only
  rw [k3, w64_eq (n := ((min (belowN l x) 1 : Nat) : Int) + _) (by omega) (by omega), w64_eq (by omega) (by omega), fork_t (by omega), law_ProveRuns]
  rfl
theorem law_ProveHolds (y0 : List Int) (y1 y2 : Int) (w0 : Wf (.slice (.int .i64)) y0) (w1 : Wf (.int .i64) y1) (w2 : Wf (.int .i64) y2) : affiantlaw8_ProveHolds y0 y1 y2 = some true := by
 have e8 : tyBytes (.int .i64) = 8 := rfl
 have hp0 : y0.length ≤ 140737488355328 := by have := w0.1; rw [e8] at this; omega
 obtain ⟨l, el, hrow⟩ := pairs_eq y0 hp0
 obtain ⟨a, _, ea⟩ := key_eq y1
 obtain ⟨b, _, eb⟩ := key_eq y2
 generalize keys12.getD a [] = x at ea
 generalize keys12.getD b [] = y at eb
 unfold affiantlaw8_ProveHolds
 simp only [same_ph3, same_ph4]
 rw [el, andThen_mk, ea, andThen_mk, eb, andThen_mk]
 cases c : sless y x with
 | true =>
  have c2 : sless x y = false := by
   cases q : sless x y with
   | false => rfl
   | true => have := sless_trans _ _ _ c q; rw [sless_irr] at this; cases this
  exact ph_tail l (row_kv hrow) hrow.1 y x c2
 | false => exact ph_tail l (row_kv hrow) hrow.1 x y c
end Go.Ax.V
