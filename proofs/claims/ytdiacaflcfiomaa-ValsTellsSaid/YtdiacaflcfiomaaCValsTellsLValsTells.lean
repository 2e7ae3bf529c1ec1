/-
  Chapter 10: any validators: may they be a set; its hash, its power; what some of them have.
-/
import Derived.Test.YtdiacaflcfiomaaCValsTellsLVHash
import Derived.Test.YtdiacaflcfiomaaCValsTellsLPow
import Derived.Test.YtdiacaflcfiomaaCValsTellsLValsRuns
import Derived.Test.YtdiacaflcfiomaaCValsTellsLValsLaws1
namespace Go.Ax.V
open Go.Ax
set_option linter.unusedVariables false
set_option linter.unusedSimpArgs false
abbrev VT : Ty := .fld .str (.fld (.int .i64) (.fld (.arr 32 (.int .u8)) .unit))
theorem vbeq {a b : Val} : Ty.beq VT a b = decide (a = b) := by
 rw [Bool.eq_iff_iff, Ty.beq_iff VT rfl a b, decide_eq_true_eq]
theorem mapGet_put {α : Type} (x y : List UInt8) (v : α) : ∀ m : List (List UInt8 × α), mapGet x (mapPut y v m) = if x = y then some v else mapGet x m
 | [] => by
  by_cases e : x = y
  ·simp [mapPut, mapGet, e]
  ·simp [mapPut, mapGet, e]
 | p :: r => by
  rw [mapPut]
  by_cases c : y = p.1
  ·rw [decide_eq_true c, cond_true, mapGet, mapGet, c]
   by_cases e : x = p.1
   ·rw [decide_eq_true e, if_pos e]; rfl
   ·rw [decide_eq_false e, if_neg e]; rfl
  ·rw [decide_eq_false c, cond_false, mapGet, mapGet, mapGet_put x y v r]
   by_cases e : x = p.1
   ·have q : ¬ x = y := fun q => c (q.symm.trans e); rw [decide_eq_true e, if_neg q, if_neg q]
   ·rw [decide_eq_false e]; rfl
theorem right_small {l : List Val} (h : rightS l = true) : SmallV l ∧ l.length ≤ 5 ∧ 1 ≤ l.length ∧ (∀ v ∈ l, v.1.length ≤ 16) ∧ Dist l := by
 unfold rightS at h
 simp only [Bool.and_eq_true, decide_eq_true_eq] at h
 obtain ⟨h1, h2, h3⟩ := h
 have key0 : ∀ i, i < l.length → okAt l i = true := fun i hi => List.all_eq_true.1 h1 i (List.mem_range.2 hi)
 have key : ∀ v ∈ l, mayS v = true := by
  intro v hv
  obtain ⟨i, hi, rfl⟩ := List.getElem_of_mem hv
  have := key0 i hi
  unfold okAt at this
  rw [Bool.and_eq_true] at this
  rw [List.getD_eq_getElem?_getD, List.getElem?_eq_getElem hi] at this
  exact this.1
 have key2 : ∀ v ∈ l, v.1.length ≤ 16 ∧ 1 ≤ v.2.1 ∧ v.2.1 ≤ 1048576 := by
  intro v hv
  have := key v hv
  unfold mayS at this
  simp only [Bool.and_eq_true, decide_eq_true_eq] at this
  omega
 refine ⟨⟨by omega, fun v hv => by have := key2 v hv; omega⟩, h3, h2, fun v hv => (key2 v hv).1, incN_nodup (List.all_eq_true.2 fun i hi => ?_)⟩
 have hi := List.mem_range.1 hi
 rw [List.length_map] at hi
 have := key0 (i + 1) (by omega)
 unfold okAt at this
 simp only [Bool.and_eq_true, Bool.or_eq_true, beq_iff_eq] at this
 have t := this.2.resolve_left (by omega)
 rw [Nat.add_sub_cancel] at t
 have e : ∀ j, (l.map (·.1)).getD j [] = (l.getD j zVal).1 := fun j => by
  rw [List.getD_eq_getElem?_getD, List.getD_eq_getElem?_getD, List.getElem?_map]
  cases l[j]? <;> rfl
 rw [e, e]; exact t
theorem rr_step (x0 : List Val) (x1 : List Val) (x2 : Int) (x3 : Int) : affiantref10_RightSet_1_step x0 x1 x2 x3 =
  (fork (decide (x3 < x2)) (need (0 ≤ x3 ∧ x3 < (List.length x1 : Int)) (fork (decide ((List.length (List.getD x1 (Int.toNat x3) zVal).1 : Int) < (1 : Int))) (some (.inr (.inl false))) (fork (decide ((16 : Int) < (List.length (List.getD x1 (Int.toNat x3) zVal).1 : Int))) (some (.inr (.inl false))) (fork (decide ((List.getD x1 (Int.toNat x3) zVal).2.1 < (1 : Int))) (some (.inr (.inl false))) (fork (decide ((1048576 : Int) < (List.getD x1 (Int.toNat x3) zVal).2.1)) (some (.inr (.inl false))) (fork (decide ((0 : Int) < x3)) (need (0 ≤ (w64 (x3 - (1 : Int))) ∧ (w64 (x3 - (1 : Int))) < (List.length x0 : Int)) (fork (!sless (List.getD x0 (Int.toNat (w64 (x3 - (1 : Int)))) zVal).1 (List.getD x1 (Int.toNat x3) zVal).1) (some (.inr (.inl false))) (some (.inl (w64 (x3 + (1 : Int))))))) (some (.inl (w64 (x3 + (1 : Int))))))))))) (some (.inr (.inr x0))) : Option ((Int) ⊕ ((Bool) ⊕ (List Val)))) := rfl
theorem vt1_step (x0 : List Int) (x1 : Int) (x2 : Int) (x3 : Int) (x4 : List Val) (x5 : List (List UInt8)) (x6 : List (List UInt8 × Bool)) : affiantlaw10_ValsTells_1_step x0 x1 x2 x3 x4 x5 x6 =
  (fork (decide (x3 < (List.length x0 : Int))) (fork (decide (x3 < (6 : Int))) (need (0 ≤ x3 ∧ x3 < (List.length x0 : Int)) (andThen (affiantbook_Within (List.getD x0 (Int.toNat x3) (0 : Int)) (0 : Int) (w64 ((List.length x4 : Int) - (1 : Int)))) (fun u16 => need (0 ≤ u16 ∧ u16 < (List.length x4 : Int)) (need (List.length x5 + List.length ([(List.getD x4 (Int.toNat u16) zVal).1] : List (List UInt8)) ≤ 2147483648) (some (.inl ((w64 (x3 + (1 : Int))), (x5 ++ ([(List.getD x4 (Int.toNat u16) zVal).1] : List (List UInt8))), (mapPut (List.getD x4 (Int.toNat u16) zVal).1 true x6)))))))) (some (.inr (x1, x2, x4, x5, x6)))) (some (.inr (x1, x2, x4, x5, x6))) : Option ((Int × List (List UInt8) × List (List UInt8 × Bool)) ⊕ (Int × Int × (List Val) × List (List UInt8) × List (List UInt8 × Bool)))) := rfl
theorem vt2_step (x0 : Int) (x1 : Int) (x2 : Int) (x3 : Int) (x4 : Int) (x5 : List Val) (x6 : List (List UInt8)) (x7 : List (List UInt8 × Bool)) : affiantlaw10_ValsTells_2_step x0 x1 x2 x3 x4 x5 x6 x7 =
  (fork (decide (x4 < x3)) (need (0 ≤ x4 ∧ x4 < (List.length x5 : Int)) (andThen (vals_Find x5 ((List.getD x5 (Int.toNat x4) zVal).1)) (fun u25 => fork (!u25.2) (some (.inr (.inl false))) (fork (!(Ty.beq (.fld .str (.fld (.int .i64) (.fld (.arr 32 (.int .u8)) .unit))) u25.1 (List.getD x5 (Int.toNat x4) zVal))) (some (.inr (.inl false))) (fork (Option.getD (mapGet (List.getD x5 (Int.toNat x4) zVal).1 x7) false) (some (.inl ((w64 (x2 + (List.getD x5 (Int.toNat x4) zVal).2.1)), (w64 (x4 + (1 : Int)))))) (some (.inl (x2, (w64 (x4 + (1 : Int))))))))))) (some (.inr (.inr (x0, x1, x2, x5, x6)))) : Option ((Int × Int) ⊕ ((Bool) ⊕ (Int × Int × Int × (List Val) × List (List UInt8))))) := rfl
theorem same_vt3 : @affiantlaw10_ValsTells_3 = @affiantlaw10_ValsTells_1 := rfl
theorem same_vt4 : @affiantlaw10_ValsTells_4 = @affiantlaw10_ValsTells_2 := rfl
theorem rset_eq (l : List Val) (hl : l.length ≤ 1073741824) (hn : ∀ v ∈ l, v.1.length ≤ 140737488355328) : affiantref10_RightSet l = some (rightS l) := by
 have main : affiantref10_RightSet_1 l l (l.length : Int) 0 = some (scan (fun i => if okAt l i then none else some (.inl false)) (.inr l) 0 l.length) := by
  unfold affiantref10_RightSet_1
  have step : ∀ i, i < l.length → affiantref10_RightSet_1_step l l (l.length : Int) (i : Int) = if okAt l i then some (.inl ((i + 1 : Nat) : Int)) else some (.inr (.inl false)) := by
   intro i hi
   have hne : ∀ x : List UInt8, decide ((x.length : Int) < 1) = decide (x = []) := fun x => by
    rw [Bool.eq_iff_iff, decide_eq_true_eq, decide_eq_true_eq, ← List.length_eq_zero_iff]; omega
   have h16 : ∀ x : List UInt8, decide ((16 : Int) < (x.length : Int)) = !decide ((x.length : Int) ≤ 16) := fun x => by
    rw [Bool.eq_iff_iff, Bool.not_eq_true', decide_eq_true_eq, decide_eq_false_iff_not]; omega
   have hp : ∀ x : Int, decide (x < 1) = !decide (1 ≤ x) := fun x => by
    rw [Bool.eq_iff_iff, Bool.not_eq_true', decide_eq_true_eq, decide_eq_false_iff_not]; omega
   have hq : ∀ x : Int, decide (1048576 < x) = !decide (x ≤ 1048576) := fun x => by
    rw [Bool.eq_iff_iff, Bool.not_eq_true', decide_eq_true_eq, decide_eq_false_iff_not]; omega
   rw [rr_step, fork_t (by omega), need_true (by omega), Int.toNat_natCast, w64_eq (n := (i : Int) + 1) (by omega) (by omega), w64_eq (n := (i : Int) - 1) (by omega) (by omega), hne, h16, hp, hq]
   have ho : okAt l i = (mayS (l.getD i zVal) && (i == 0 || sless (l.getD (i - 1) zVal).1 (l.getD i zVal).1)) := rfl
   have hm : mayS (l.getD i zVal) = (!decide ((l.getD i zVal).1 = []) && (decide (((l.getD i zVal).1.length : Int) ≤ 16) && (decide (1 ≤ (l.getD i zVal).2.1) && decide ((l.getD i zVal).2.1 ≤ 1048576)))) := rfl
   rw [ho, hm]
   generalize decide ((l.getD i zVal).1 = []) = c1
   generalize decide (((l.getD i zVal).1.length : Int) ≤ 16) = c2
   generalize decide (1 ≤ (l.getD i zVal).2.1) = c3
   generalize decide ((l.getD i zVal).2.1 ≤ 1048576) = c4
   cases c1
   ·cases c2
    ·rfl
    ·cases c3
     ·rfl
     ·cases c4
      ·rfl
      ·simp only [Bool.not_true, Bool.not_false, fork_ff, Bool.true_and]
       by_cases h0 : i = 0
       ·subst h0; rw [fork_f (by omega)]; rfl
       ·rw [fork_t (by omega), need_true (by omega), show Int.toNat ((i : Int) - 1) = i - 1 from by omega]
        have : (i == 0) = false := by simp [h0]
        rw [this, Bool.false_or]
        cases sless (l.getD (i - 1) zVal).1 (l.getD i zVal).1 <;> rfl
   ·rfl
  refine loop_scan (step := fun (s : Int) => affiantref10_RightSet_1_step l l (l.length : Int) s) (fun i => (i : Int)) _ _ l.length (fun i hi h => ?_) (fun i r hi h => ?_) ?_ l.length 0 (by omega)
  ·by_cases hk : okAt l i
   ·exact (step i hi).trans (if_pos hk)
   ·rw [if_neg hk] at h; cases h
  ·by_cases hk : okAt l i
   ·rw [if_pos hk] at h; cases h
   ·rw [if_neg hk] at h; injection h with h; subst h
    exact (step i hi).trans (if_neg hk)
  ·rw [rr_step, fork_f (by omega)]
 unfold affiantref10_RightSet
 rw [main, andThen_mk]
 unfold rightS
 by_cases hall : (List.range l.length).all (okAt l)
 ·rw [scan_none _ _ (fun j _ h => if_pos (List.all_eq_true.1 hall j (by simp; omega))), hall, Bool.true_and]
  simp only [fork_ite]
  by_cases h1 : 1 ≤ l.length
  ·rw [decide_eq_true h1, decide_eq_true (show (1 : Int) ≤ (l.length : Int) by omega), if_pos rfl, Bool.true_and]
   congr 1
   exact decide_eq_decide.2 (by omega)
  ·rw [decide_eq_false h1, decide_eq_false (show ¬ (1 : Int) ≤ (l.length : Int) by omega)]; rfl
 ·rw [Bool.not_eq_true] at hall
  have : ∃ j, j < l.length ∧ okAt l j = false := by
   rw [List.all_eq_false] at hall
   obtain ⟨j, hj, hk⟩ := hall
   exact ⟨j, by simpa using hj, by simpa using hk⟩
  obtain ⟨j, hj⟩ := Nat.find_of this
  have hsc : scan (fun i => if okAt l i then none else some (.inl false)) (.inr l : Bool ⊕ List Val) 0 l.length = .inl false := by
   refine scan_some l.length 0 j (Nat.zero_le _) (by omega) (fun j' _ h => if_pos ?_) (if_neg ?_)
   ·have := hj.2 j' h
    cases hk : okAt l j' with
    | true => rfl
    | false => exact absurd ⟨by omega, hk⟩ this
   ·rw [hj.1.2]; simp
  rw [hall, hsc]
  rfl
def pickN (ns : List Int) (l : List Val) (i : Nat) : List UInt8 := (l.getD (((affiantbook_Within (ns.getD i 0) 0 ((l.length : Int) - 1)).getD 0).toNat) zVal).1
def pickF (ns : List Int) (l : List Val) (i : Nat) (s : List (List UInt8) × List (List UInt8 × Bool)) : List (List UInt8) × List (List UInt8 × Bool) := (s.1 ++ [pickN ns l i], mapPut (pickN ns l i) true s.2)
def PickI (i : Nat) (s : List (List UInt8) × List (List UInt8 × Bool)) : Prop := s.1.length = i ∧ ∀ x, Option.getD (mapGet x s.2) false = s.1.contains x
theorem pick_inv (ns : List Int) (l : List Val) (i : Nat) (s : List (List UInt8) × List (List UInt8 × Bool)) (h : PickI i s) : PickI (i + 1) (pickF ns l i s) := by
 obtain ⟨h1, h2⟩ := h
 refine ⟨?_, fun x => ?_⟩
 ·show (s.1 ++ [pickN ns l i]).length = _
  rw [List.length_append, h1]; rfl
 ·show Option.getD (mapGet x (mapPut (pickN ns l i) true s.2)) false = (s.1 ++ [pickN ns l i]).contains x
  rw [mapGet_put]
  by_cases e : x = pickN ns l i
  ·rw [if_pos e, e]; simp
  ·rw [if_neg e, h2 x]; simp [e]
theorem vt_loop1 (ns : List Int) (n d : Int) (l : List Val) (h1 : 1 ≤ l.length) (h5 : l.length ≤ 5) (hns : ns.length ≤ 140737488355328) :
  ∃ names m, affiantlaw10_ValsTells_1 ns n d 0 l [] [] = some (n, d, l, names, m) ∧ names.length ≤ 6 ∧ ∀ x, Option.getD (mapGet x m) false = names.contains x := by
 have k6 : min ns.length 6 ≤ 6 := Nat.min_le_right _ _
 have := loop_for (step := fun (s : Int × List (List UInt8) × List (List UInt8 × Bool)) => affiantlaw10_ValsTells_1_step ns n d s.1 l s.2.1 s.2.2) (fun i s => ((i : Int), s.1, s.2)) (pickF ns l) (fun s => (n, d, l, s.1, s.2)) (min ns.length 6) PickI
  (fun i s hi h => ⟨?_, pick_inv ns l i s h⟩) (fun s h => ?_) (min ns.length 6) 0 ([], []) (by omega) ⟨rfl, fun x => rfl⟩
 ·have inv := runFor_inv (f := pickF ns l) (I := PickI) (n := min ns.length 6) (fun i s _ h => pick_inv ns l i s h) (k := min ns.length 6) (i := 0) (t := ([], [])) (by omega) ⟨rfl, fun x => rfl⟩
  exact ⟨_, _, this, by rw [inv.1]; exact k6, inv.2⟩
 ·show affiantlaw10_ValsTells_1_step ns n d (i : Int) l s.1 s.2 = some (.inl (((i + 1 : Nat) : Int), s.1 ++ [pickN ns l i], mapPut (pickN ns l i) true s.2))
  have hs := h.1
  obtain ⟨r, er, r1, r2⟩ := within_eq (ns.getD i 0) 0 ((l.length : Int) - 1) (by omega) (by omega) (by omega)
  have hp : pickN ns l i = (l.getD r.toNat zVal).1 := by unfold pickN; rw [er]; rfl
  rw [vt1_step, fork_t (by omega), fork_t (by omega), need_true (by omega), Int.toNat_natCast, w64_eq (n := (l.length : Int) - 1) (by omega) (by omega), er, andThen_mk, need_true (by omega), need_true (by simp only [List.length_cons, List.length_nil]; omega), w64_eq (by omega) (by omega), hp]
  rfl
 ·show affiantlaw10_ValsTells_1_step ns n d ((min ns.length 6 : Nat) : Int) l s.1 s.2 = some (.inr (n, d, l, s.1, s.2))
  rw [vt1_step]
  by_cases c : ns.length ≤ 6
  ·rw [fork_f (by omega)]
  ·rw [fork_t (by omega), fork_f (by omega)]
theorem vt_loop2 (n d : Int) (l : List Val) (hl : SmallV l) (hd : Dist l) (names : List (List UInt8)) (m : List (List UInt8 × Bool)) (hm : ∀ x, Option.getD (mapGet x m) false = names.contains x) :
  affiantlaw10_ValsTells_2 n d 0 (l.length : Int) 0 l names m = some (.inr (n, d, pow (fun v => names.contains v.1) l, l, names)) := by
 have hb := hl.1
 unfold affiantlaw10_ValsTells_2
 have := loop_for (step := fun (t : Int × Int) => affiantlaw10_ValsTells_2_step n d t.1 (l.length : Int) t.2 l names m) (fun i (_ : Unit) => (pow (fun v => names.contains v.1) (l.take i), (i : Int))) (fun _ _ => ()) (fun _ => .inr (n, d, pow (fun v => names.contains v.1) l, l, names)) l.length (fun _ _ => True) (fun i w hi _ => ⟨?_, trivial⟩) (fun w _ => ?_) l.length 0 () (by omega) trivial
 ·exact this
 ·show affiantlaw10_ValsTells_2_step n d (pow (fun v => names.contains v.1) (l.take i)) (l.length : Int) (i : Int) l names m = _
  have b := pow_bound (fun v => names.contains v.1) (l.take i) fun v hv => hl.2 v (List.mem_of_mem_take hv)
  have hv := getD_mem (z := zVal) hi
  have hmm := hl.2 _ hv
  have t := pow_take (fun v => names.contains v.1) l hi
  rw [List.length_take] at b
  rw [vt2_step, fork_t (by omega), need_true (by omega), Int.toNat_natCast, find_eq l (by omega), andThen_mk, find_in hd hv, Bool.not_true, fork_ff, vbeq, fork_nt rfl, hm, w64_eq (n := (i : Int) + 1) (by omega) (by omega), w64_eq (by omega) (by omega)]
  cases c : names.contains (l.getD i zVal).1 with
  | true => rw [if_pos c] at t; rw [fork_tt, t]; rfl
  | false => rw [if_neg (by rw [c]; exact Bool.false_ne_true), Int.add_zero] at t; rw [fork_ff, t]; rfl
 ·show affiantlaw10_ValsTells_2_step n d (pow (fun v => names.contains v.1) (l.take l.length)) (l.length : Int) (l.length : Int) l names m = _
  rw [vt2_step, fork_f (by omega), List.take_of_length_le (Nat.le_refl _)]
def nobody : List UInt8 := [110, 111, 98, 111, 100, 121, 32, 97, 116, 32, 97, 108, 108, 32, 104, 101, 114, 101]
theorem vt_tail (a3 : List Int) (a4 a5 : Int) (l : List Val) (h : rightS l = true) (hk : ∀ v ∈ l, v.2.2.1.length = 32) (hns : a3.length ≤ 140737488355328) : (andThen (affiantlaw10_ValsTells_1 a3 a4 a5 (0 : Int) l ([] : List (List UInt8)) ([] : List (List UInt8 × Bool))) (fun o20 => andThen (affiantlaw10_ValsTells_2 o20.1 o20.2.1 (0 : Int) (List.length o20.2.2.1 : Int) (0 : Int) o20.2.2.1 o20.2.2.2.1 o20.2.2.2.2) (fun o30 => (match o30 with | .inl o32 => some o32 | .inr o33 => andThen (affiantbook_Within o33.1 (0 : Int) (100 : Int)) (fun u34 => andThen (affiantbook_Within o33.2.1 (0 : Int) (100 : Int)) (fun u36 => need (List.length o33.2.2.2.2 + List.length ([([110, 111, 98, 111, 100, 121, 32, 97, 116, 32, 97, 108, 108, 32, 104, 101, 114, 101] : List UInt8)] : List (List UInt8)) ≤ 2147483648) (andThen (vals_Tally o33.2.2.2.1 (o33.2.2.2.2 ++ ([([110, 111, 98, 111, 100, 121, 32, 97, 116, 32, 97, 108, 108, 32, 104, 101, 114, 101] : List UInt8)] : List (List UInt8)))) (fun u39 => andThen (vals_Find o33.2.2.2.1 ([110, 111, 98, 111, 100, 121, 32, 97, 116, 32, 97, 108, 108, 32, 104, 101, 114, 101] : List UInt8)) (fun u41 => andThen (vals_Hash o33.2.2.2.1) (fun u43 => andThen (affiantref10_SetHash o33.2.2.2.1) (fun u45 => fork (Ty.beq (.arr 32 (.int .u8)) u43 u45) (andThen (vals_Total o33.2.2.2.1) (fun u48 => andThen (affiantref10_Total o33.2.2.2.1) (fun u50 => fork (decide (u48 = u50)) (need (Int.natAbs o33.2.2.1 < 9007199254740992) (andThen (affiantref10_Total o33.2.2.2.1) (fun u54 => need (Int.natAbs u54 < 9007199254740992) (fork (decide (u39 = (o33.2.2.1, u54))) (andThen (vals_Over u39 u34 u36) (fun u58 => andThen (affiantref10_Total o33.2.2.2.1) (fun u60 => andThen (affiantref10_Over o33.2.2.1 u60 u34 u36) (fun u62 => fork (u58 == u62) (fork (!u41.2) (andThen (affiantlaw10_ValsRuns) (fun u66 => some u66)) (none)) (none))))) (none))))) (none)))) (none)))))))))))) = some true := by
 obtain ⟨hl, h5, h1, h16, hd⟩ := right_small h
 have hsm : SetSm l := ⟨by omega, fun v hv => ⟨by have := h16 v hv; omega, hk v hv⟩⟩
 obtain ⟨names, m, e, hn, hm⟩ := vt_loop1 a3 a4 a5 l h1 h5 hns
 obtain ⟨p, ep, p1, p2⟩ := within_eq a4 0 100 (by omega) (by omega) (by omega)
 obtain ⟨q, eq, q1, q2⟩ := within_eq a5 0 100 (by omega) (by omega) (by omega)
 have ht : vals_Tally l (names ++ [nobody]) = some (pow (fun v => names.contains v.1) l, pow (fun _ => true) l) := by
  rw [tally_eq l hl _ (by simp only [List.length_append, List.length_cons, List.length_nil]; omega)]
  congr 2
  refine pow_congr fun v hv => ?_
  have hne : v.1 ≠ nobody := fun e => by have := h16 v hv; rw [e] at this; revert this; decide
  simp [hne]
 have hf : vals_Find l nobody = some (zVal, false) := by
  rw [find_eq l (by omega), find_out fun v hv => ?_]
  intro e; have := h16 v hv; rw [e] at this; revert this; decide
 have rt : affiantref10_Total l = some (pow (fun _ => true) l) := total_eq l hl
 have b1 := pow_bound (fun v => names.contains v.1) l hl.2
 have b2 := pow_bound (fun _ => true) l hl.2
 have ov := over_eq (pow (fun v => names.contains v.1) l, pow (fun _ => true) l) p q (by omega) (by omega) (by omega) (by omega)
 have rov : affiantref10_Over (pow (fun v => names.contains v.1) l) (pow (fun _ => true) l) p q = some (decide (pow (fun _ => true) l * p < pow (fun v => names.contains v.1) l * q)) := ov
 rw [e, andThen_mk]
 simp only
 rw [vt_loop2 a4 a5 l hl hd names m hm, andThen_mk]
 simp only
 rw [ep, andThen_mk, eq, andThen_mk, need_true (by simp only [List.length_cons, List.length_nil]; omega)]
 show andThen (vals_Tally l (names ++ [nobody])) _ = _
 rw [ht, andThen_mk]
 show andThen (vals_Find l nobody) _ = _
 rw [hf, andThen_mk, valsHash_eq l hsm, andThen_mk, rsetHash_eq l hsm, andThen_mk, beq_hash, fork_tt, total_eq l hl, andThen_mk, rt, andThen_mk, fork_t rfl, need_true (by omega), andThen_mk, need_true (by omega), fork_t rfl, ov, andThen_mk, andThen_mk, rov, andThen_mk, beq_self_eq_true, fork_tt]
 show fork (!false) _ _ = _
 rw [Bool.not_false, fork_tt, law_ValsRuns]
 rfl
theorem setS_right (ps : List Int) : rightS (setS ps) = true ∧ ∀ v ∈ setS ps, v.2.2.1.length = 32 := by
 have hN : 1 ≤ setN ps ∧ setN ps ≤ 4 := by unfold setN; omega
 have hl : (setS ps).length = setN ps := by simp [setS]
 have hg : ∀ i, i < setN ps → (setS ps).getD i zVal = mkVal (pw ps) i := fun i hi => by
  unfold setS
  rw [List.getD_eq_getElem?_getD, List.getElem?_map, List.getElem?_range hi]; rfl
 have h2 : ∀ i, i < 4 → nm i ≠ [] ∧ (nm i).length ≤ 16 := by decide
 have hinc : ∀ i, i < 4 → ∀ j, j < 4 → i < j → sless (nm i) (nm j) = true := by decide
 constructor
 ·unfold rightS
  rw [hl, List.all_eq_true.2, Bool.true_and, Bool.and_eq_true, decide_eq_true_eq, decide_eq_true_eq]
  ·omega
  ·intro i hi
   have hi := List.mem_range.1 hi
   obtain ⟨a, b⟩ := h2 i (by omega)
   have hq := pw_b ps i
   unfold okAt mayS
   rw [hg i hi]
   show ((!decide (nm i = []) && (decide (((nm i).length : Int) ≤ 16) && (decide (1 ≤ pw ps i) && decide (pw ps i ≤ 1048576)))) && (i == 0 || sless ((setS ps).getD (i - 1) zVal).1 (nm i))) = true
   simp only [Bool.and_eq_true, Bool.or_eq_true, Bool.not_eq_true', decide_eq_true_eq, decide_eq_false_iff_not, beq_iff_eq]
   refine ⟨⟨a, by omega, hq.1, by omega⟩, ?_⟩
   by_cases c : i = 0
   ·exact .inl c
   ·right
    rw [hg (i - 1) (by omega)]
    exact hinc (i - 1) (by omega) i (by omega) (by omega)
 ·intro v hv
  obtain ⟨i, _, rfl⟩ := List.mem_map.1 hv
  show (ky i).length = 32
  simp [ky]
theorem law_ValsTells (y0 : List Val) (y1 : List Int) (y2 : Bool) (y3 : List Int) (y4 y5 : Int) (w0 : Wf (.slice VT) y0) (w1 : Wf (.slice (.int .i64)) y1) (w2 : Wf .bool y2) (w3 : Wf (.slice (.int .i64)) y3) (w4 : Wf (.int .i64) y4) (w5 : Wf (.int .i64) y5) : affiantlaw10_ValsTells y0 y1 y2 y3 y4 y5 = some true := by
 have e8 : tyBytes (.int .i64) = 8 := rfl
 have h1 : y1.length ≤ 140737488351232 := by have := w1.1; rw [e8] at this; omega
 have h3 : y3.length ≤ 140737488355328 := by have := w3.1; rw [e8] at this; omega
 have hw : ∀ v ∈ y0, v.1.length ≤ 140737488351232 ∧ v.2.2.1.length = 32 := fun v hv => by
  have := w0.2 v hv
  exact ⟨this.1, this.2.2.1.1⟩
 unfold affiantlaw10_ValsTells
 simp only [same_vt3, same_vt4]
 rw [need_true (by omega)]
 have hcut : cutL y0 0 (min (y0.length : Int) 7) = y0.take (min y0.length 7) := by
  rw [cut_to]; congr 1; omega
 rw [hcut, need_true (by rw [List.length_take]; show 0 + _ ≤ _; omega), List.nil_append]
 cases y2 with
 | true =>
  obtain ⟨hr, hk⟩ := setS_right y1
  rw [fork_tt, set_eq y1 h1, andThen_mk]
  have hl := right_small hr
  rw [rset_eq _ (by omega) (fun v hv => by have := hl.2.2.2.1 v hv; omega), andThen_mk, right_eq _ (by omega), andThen_mk, hr]
  exact vt_tail y3 y4 y5 _ hr hk h3
 | false =>
  rw [fork_ff]
  have hlen : (y0.take (min y0.length 7)).length ≤ 7 := by rw [List.length_take]; omega
  have hk : ∀ v ∈ y0.take (min y0.length 7), v.1.length ≤ 140737488351232 ∧ v.2.2.1.length = 32 := fun v hv => hw v (List.mem_of_mem_take hv)
  generalize y0.take (min y0.length 7) = l at hlen hk ⊢
  rw [rset_eq _ (by omega) (fun v hv => by have := hk v hv; omega), andThen_mk, right_eq _ (by omega), andThen_mk, beq_self_eq_true, Bool.not_true, fork_ff]
  cases hr : rightS l with
  | false => rw [Bool.not_false, fork_tt, law_ValsRuns]; rfl
  | true =>
   rw [Bool.not_true, fork_ff]
   exact vt_tail y3 y4 y5 _ hr (fun v hv => (hk v hv).2) h3
end Go.Ax.V
