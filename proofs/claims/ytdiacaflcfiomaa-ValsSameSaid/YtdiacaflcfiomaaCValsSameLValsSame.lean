/-
  Chapter 10: a power, a name, a key turned: another set, whose hash is that one's; total is what all have.
-/
import Derived.Test.YtdiacaflcfiomaaCValsSameLVHash
import Derived.Test.YtdiacaflcfiomaaCValsSameLPow
import Derived.Test.YtdiacaflcfiomaaCValsSameLValsRuns
import Derived.Test.YtdiacaflcfiomaaCValsSameLValsLaws1
namespace Go.Ax.V
open Go.Ax
set_option linter.unusedVariables false
set_option linter.unusedSimpArgs false
abbrev VT : Ty := .fld .str (.fld (.int .i64) (.fld (.arr 32 (.int .u8)) .unit))
theorem vbeq {a b : Val} : Ty.beq VT a b = decide (a = b) := by
 rw [Bool.eq_iff_iff, Ty.beq_iff VT rfl a b, decide_eq_true_eq]
theorem scan_same (a b : List Val) (hl : a.length = b.length) {ρ : Type} (r r0 : ρ) (hr : r ≠ r0) : scan (fun i => if a.getD i zVal = b.getD i zVal then none else some r) r0 0 a.length = if a = b then r0 else r := by
 by_cases e : a = b
 ·subst e
  rw [if_pos rfl]
  exact scan_none _ _ (fun j _ _ => if_pos rfl)
 ·rw [if_neg e]
  have : ∃ j, j < a.length ∧ a.getD j zVal ≠ b.getD j zVal := by
   apply Classical.byContradiction
   intro hn
   apply e
   apply List.ext_getElem hl
   intro i h1 h2
   apply Classical.byContradiction
   intro hne
   exact hn ⟨i, h1, by rw [List.getD_eq_getElem?_getD, List.getD_eq_getElem?_getD, List.getElem?_eq_getElem h1, List.getElem?_eq_getElem h2]; exact hne⟩
  obtain ⟨j, hj⟩ := Nat.find_of this
  refine scan_some a.length 0 j (Nat.zero_le _) (by omega) (fun j' _ h => if_pos ?_) (if_neg hj.1.2)
  exact Classical.byContradiction fun hne => hj.2 j' h ⟨by omega, hne⟩
theorem sv_step (x0 : List Val) (x1 : List Val) (x2 : Int) : affiantbook_Same_Val_1_step x0 x1 x2 =
  (fork (decide (x2 < (List.length x0 : Int))) (need (0 ≤ x2 ∧ x2 < (List.length x0 : Int)) (need (0 ≤ x2 ∧ x2 < (List.length x1 : Int)) (fork (!(Ty.beq (.fld .str (.fld (.int .i64) (.fld (.arr 32 (.int .u8)) .unit))) (List.getD x0 (Int.toNat x2) zVal) (List.getD x1 (Int.toNat x2) zVal))) (some (.inr (.inl false))) (some (.inl (w64 (x2 + (1 : Int)))))))) (some (.inr (.inr ()))) : Option ((Int) ⊕ ((Bool) ⊕ (Unit)))) := rfl
theorem se_step (x0 : List Val) (x1 : List Val) (x2 : Int) (x3 : Int) : slices_Equal_LVal_Val_1_step x0 x1 x2 x3 =
  (fork (decide (x3 < x2)) (need (0 ≤ x3 ∧ x3 < (List.length x0 : Int)) (need (0 ≤ x3 ∧ x3 < (List.length x1 : Int)) (fork (!(Ty.beq (.fld .str (.fld (.int .i64) (.fld (.arr 32 (.int .u8)) .unit))) (List.getD x0 (Int.toNat x3) zVal) (List.getD x1 (Int.toNat x3) zVal))) (some (.inr (.inl false))) (some (.inl (w64 (x3 + (1 : Int)))))))) (some (.inr (.inr ()))) : Option ((Int) ⊕ ((Bool) ⊕ (Unit)))) := rfl
theorem sameVal_eq (a b : List Val) (ha : a.length ≤ 1073741824) : affiantbook_Same_Val a b = some (decide (a = b)) := by
 by_cases hl : a.length = b.length
 ·have h : affiantbook_Same_Val_1 a b 0 = some (scan (fun i => if a.getD i zVal = b.getD i zVal then none else some (.inl false)) (.inr ()) 0 a.length) := by
   unfold affiantbook_Same_Val_1
   refine loop_scan (step := fun (s : Int) => affiantbook_Same_Val_1_step a b s) (fun i => (i : Int)) _ _ a.length (fun i hi h => ?_) (fun i r hi h => ?_) ?_ a.length 0 (by omega)
   ·rw [sv_step, fork_t (by omega), need_true (by omega), need_true (by omega), Int.toNat_natCast, vbeq, w64_eq (by omega) (by omega)]
    by_cases e : a.getD i zVal = b.getD i zVal
    ·rw [fork_nt e]; rfl
    ·rw [if_neg e] at h; cases h
   ·rw [sv_step, fork_t (by omega), need_true (by omega), need_true (by omega), Int.toNat_natCast, vbeq]
    by_cases e : a.getD i zVal = b.getD i zVal
    ·rw [if_pos e] at h; cases h
    ·rw [if_neg e] at h; injection h with h; subst h; rw [fork_nf e]
   ·rw [sv_step, fork_f (by omega)]
  unfold affiantbook_Same_Val
  rw [fork_nt (by omega), h, andThen_mk, scan_same a b hl _ _ (by simp)]
  by_cases e : a = b
  ·rw [if_pos e, decide_eq_true e]
  ·rw [if_neg e, decide_eq_false e]
 ·unfold affiantbook_Same_Val
  rw [fork_nf (by omega), decide_eq_false (fun e => hl (by rw [e]))]
theorem equalVal_eq (a b : List Val) (ha : a.length ≤ 1073741824) : slices_Equal_LVal_Val a b = some (decide (a = b)) := by
 by_cases hl : a.length = b.length
 ·have h : slices_Equal_LVal_Val_1 a b (a.length : Int) 0 = some (scan (fun i => if a.getD i zVal = b.getD i zVal then none else some (.inl false)) (.inr ()) 0 a.length) := by
   unfold slices_Equal_LVal_Val_1
   refine loop_scan (step := fun (s : Int) => slices_Equal_LVal_Val_1_step a b (a.length : Int) s) (fun i => (i : Int)) _ _ a.length (fun i hi h => ?_) (fun i r hi h => ?_) ?_ a.length 0 (by omega)
   ·rw [se_step, fork_t (by omega), need_true (by omega), need_true (by omega), Int.toNat_natCast, vbeq, w64_eq (by omega) (by omega)]
    by_cases e : a.getD i zVal = b.getD i zVal
    ·rw [fork_nt e]; rfl
    ·rw [if_neg e] at h; cases h
   ·rw [se_step, fork_t (by omega), need_true (by omega), need_true (by omega), Int.toNat_natCast, vbeq]
    by_cases e : a.getD i zVal = b.getD i zVal
    ·rw [if_pos e] at h; cases h
    ·rw [if_neg e] at h; injection h with h; subst h; rw [fork_nf e]
   ·rw [se_step, fork_f (by omega)]
  unfold slices_Equal_LVal_Val
  rw [fork_nt (by omega), h, andThen_mk, scan_same a b hl _ _ (by simp)]
  by_cases e : a = b
  ·rw [if_pos e, decide_eq_true e]
  ·rw [if_neg e, decide_eq_false e]
 ·unfold slices_Equal_LVal_Val
  rw [fork_nf (by omega), decide_eq_false (fun e => hl (by rw [e]))]
theorem valsSame_eq (a b : List Val) (ha : a.length ≤ 1073741824) : vals_Same a b = some (decide (a = b)) := by
 unfold vals_Same
 rw [equalVal_eq a b ha, andThen_mk]
theorem vs1_step (x0 : Int) (x1 : Int) (x2 : Int) (x3 : List Val) (x4 : List Val) : affiantlaw10_ValsSame_1_step x0 x1 x2 x3 x4 =
  (fork (decide (x2 < x1)) (need (0 ≤ x2 ∧ x2 < (List.length x3 : Int)) (some (.inl ((w64 (x0 + (List.getD x3 (Int.toNat x2) zVal).2.1)), (w64 (x2 + (1 : Int))))))) (some (.inr (x0, x3, x4))) : Option ((Int × Int) ⊕ (Int × (List Val) × List Val))) := rfl
theorem vs5_step (x0 : List Val) (x1 : Int) (x2 : Int) (x3 : Int) (x4 : List Val) : affiantlaw10_ValsSame_5_step x0 x1 x2 x3 x4 =
  (fork (decide (x3 < x2)) (need (0 ≤ x3 ∧ x3 < (List.length x4 : Int)) (some (.inl ((w64 (x1 + (List.getD x4 (Int.toNat x3) zVal).2.1)), (w64 (x3 + (1 : Int))))))) (some (.inr (x0, x1, x4))) : Option ((Int × Int) ⊕ ((List Val) × Int × List Val))) := rfl
theorem vs_loop1 (l o : List Val) (hl : SmallV l) : affiantlaw10_ValsSame_1 0 (l.length : Int) 0 l o = some (pow (fun _ => true) l, l, o) := by
 have hb := hl.1
 unfold affiantlaw10_ValsSame_1
 have := loop_for (step := fun (t : Int × Int) => affiantlaw10_ValsSame_1_step t.1 (l.length : Int) t.2 l o) (fun i (_ : Unit) => (pow (fun _ => true) (l.take i), (i : Int))) (fun _ _ => ()) (fun _ => (pow (fun _ => true) l, l, o)) l.length (fun _ _ => True) (fun i w hi _ => ⟨?_, trivial⟩) (fun w _ => ?_) l.length 0 () (by omega) trivial
 ·rw [show ((0 : Int), (0 : Int)) = (pow (fun _ => true) (l.take 0), ((0 : Nat) : Int)) from by rw [List.take_zero]; rfl]
  exact this
 ·show affiantlaw10_ValsSame_1_step (pow (fun _ => true) (l.take i)) (l.length : Int) (i : Int) l o = _
  have b := pow_bound (fun _ => true) (l.take i) fun v hv => hl.2 v (List.mem_of_mem_take hv)
  have hm := hl.2 _ (getD_mem (z := zVal) hi)
  have t := pow_take (fun _ => true) l hi
  rw [List.length_take] at b
  rw [if_pos rfl] at t
  rw [vs1_step, fork_t (by omega), need_true (by omega), Int.toNat_natCast, t, w64_eq (by omega) (by omega), w64_eq (by omega) (by omega)]
  rfl
 ·show affiantlaw10_ValsSame_1_step (pow (fun _ => true) (l.take l.length)) (l.length : Int) (l.length : Int) l o = _
  rw [vs1_step, fork_f (by omega), List.take_of_length_le (Nat.le_refl _)]
theorem vs_loop5 (l o : List Val) (hl : SmallV l) : affiantlaw10_ValsSame_5 o 0 (l.length : Int) 0 l = some (o, pow (fun _ => true) l, l) := by
 have hb := hl.1
 unfold affiantlaw10_ValsSame_5
 have := loop_for (step := fun (t : Int × Int) => affiantlaw10_ValsSame_5_step o t.1 (l.length : Int) t.2 l) (fun i (_ : Unit) => (pow (fun _ => true) (l.take i), (i : Int))) (fun _ _ => ()) (fun _ => (o, pow (fun _ => true) l, l)) l.length (fun _ _ => True) (fun i w hi _ => ⟨?_, trivial⟩) (fun w _ => ?_) l.length 0 () (by omega) trivial
 ·rw [show ((0 : Int), (0 : Int)) = (pow (fun _ => true) (l.take 0), ((0 : Nat) : Int)) from by rw [List.take_zero]; rfl]
  exact this
 ·show affiantlaw10_ValsSame_5_step o (pow (fun _ => true) (l.take i)) (l.length : Int) (i : Int) l = _
  have b := pow_bound (fun _ => true) (l.take i) fun v hv => hl.2 v (List.mem_of_mem_take hv)
  have hm := hl.2 _ (getD_mem (z := zVal) hi)
  have t := pow_take (fun _ => true) l hi
  rw [List.length_take] at b
  rw [if_pos rfl] at t
  rw [vs5_step, fork_t (by omega), need_true (by omega), Int.toNat_natCast, t, w64_eq (by omega) (by omega), w64_eq (by omega) (by omega)]
  rfl
 ·show affiantlaw10_ValsSame_5_step o (pow (fun _ => true) (l.take l.length)) (l.length : Int) (l.length : Int) l = _
  rw [vs5_step, fork_f (by omega), List.take_of_length_le (Nat.le_refl _)]
theorem same_vs2 : @affiantlaw10_ValsSame_2 = @affiantlaw10_ValsSame_1 := rfl
theorem same_vs3 : @affiantlaw10_ValsSame_3 = @affiantlaw10_ValsSame_1 := rfl
theorem same_vs4 : @affiantlaw10_ValsSame_4 = @affiantlaw10_ValsSame_1 := rfl
theorem same_vs7 : @affiantlaw10_ValsSame_7 = @affiantlaw10_ValsSame_1 := rfl
theorem same_vs8 : @affiantlaw10_ValsSame_8 = @affiantlaw10_ValsSame_1 := rfl
theorem same_vs6 : @affiantlaw10_ValsSame_6 = @affiantlaw10_ValsSame_5 := rfl
theorem vs_tail1 (l o : List Val) (hl : SmallV l) (hlo : o.length ≤ 1000) (ho : rightS o = decide ((0 : Int) < (o.length : Int))) : (andThen (affiantlaw10_ValsSame_1 (0 : Int) (List.length l : Int) (0 : Int) l o) (fun o31 => andThen (vals_Total o31.2.1) (fun u33 => fork (decide (u33 = o31.1)) (andThen (vals_Tally o31.2.1 ([] : List (List UInt8))) (fun u36 => need (Int.natAbs o31.1 < 9007199254740992) (fork (decide (u36.2 = o31.1)) (andThen (vals_Right o31.2.2) (fun u40 => fork (u40 == (decide ((0 : Int) < (List.length o31.2.2 : Int)))) (andThen (affiantlaw10_ValsRuns) (fun u43 => some u43)) (none))) (none)))) (none)))) = some true := by
 have hb := hl.1
 have b := pow_bound (fun _ => true) l hl.2
 rw [vs_loop1 l o hl, andThen_mk]
 simp only
 rw [total_eq l hl, andThen_mk, fork_t rfl, tally_eq l hl [] (by simp), andThen_mk, need_true (by omega), fork_t rfl, right_eq o (by omega), andThen_mk, ho, beq_self_eq_true, fork_tt, law_ValsRuns]
 rfl
theorem vs_tail5 (l o : List Val) (hl : SmallV l) (hlo : o.length ≤ 1000) (ho : rightS o = decide ((0 : Int) < (o.length : Int))) : (andThen (affiantlaw10_ValsSame_5 o (0 : Int) (List.length l : Int) (0 : Int) l) (fun o31 => andThen (vals_Total o31.2.2) (fun u33 => fork (decide (u33 = o31.2.1)) (andThen (vals_Tally o31.2.2 ([] : List (List UInt8))) (fun u36 => need (Int.natAbs o31.2.1 < 9007199254740992) (fork (decide (u36.2 = o31.2.1)) (andThen (vals_Right o31.1) (fun u40 => fork (u40 == (decide ((0 : Int) < (List.length o31.1 : Int)))) (andThen (affiantlaw10_ValsRuns) (fun u43 => some u43)) (none))) (none)))) (none)))) = some true := by
 have hb := hl.1
 have b := pow_bound (fun _ => true) l hl.2
 rw [vs_loop5 l o hl, andThen_mk]
 simp only
 rw [total_eq l hl, andThen_mk, fork_t rfl, tally_eq l hl [] (by simp), andThen_mk, need_true (by omega), fork_t rfl, right_eq o (by omega), andThen_mk, ho, beq_self_eq_true, fork_tt, law_ValsRuns]
 rfl
theorem vs_core (l o : List Val) (hl : SetSm l) (ho : SetSm o) {X Y : Option Bool} (hX : X = some true) (hY : Y = some true) :
  (andThen (affiantbook_Same_Val l o) (fun u12 => andThen (vals_Same l o) (fun u14 => fork (!(u14 == u12)) (none) (andThen (vals_Hash o) (fun u17 => andThen (affiantref10_SetHash o) (fun u19 => fork (!(Ty.beq (.arr 32 (.int .u8)) u17 u19)) (none) (fork u12 (andThen (vals_Hash l) (fun u23 => andThen (vals_Hash o) (fun u25 => fork (!(Ty.beq (.arr 32 (.int .u8)) u23 u25)) (none) X))) Y))))))) = some true := by
 have h1 := hl.1
 rw [sameVal_eq l o (by omega), andThen_mk, valsSame_eq l o (by omega), andThen_mk, beq_self_eq_true, Bool.not_true, fork_ff, valsHash_eq o ho, andThen_mk, rsetHash_eq o ho, andThen_mk, beq_hash, Bool.not_true, fork_ff]
 by_cases e : l = o
 ·rw [fork_t e, valsHash_eq l hl, andThen_mk, andThen_mk, e, beq_hash, Bool.not_true, fork_ff, hX]
 ·rw [fork_f e, hY]
def genV (q : Nat → Int) (k : Nat → List UInt8) (n : Nat) : List Val := (List.range n).map fun j => (nm j, q j, k j, ())
theorem gen_right {q : Nat → Int} (hq : ∀ i, 1 ≤ q i ∧ q i ≤ 9) (k : Nat → List UInt8) {n : Nat} (hn : n ≤ 4) : rightS (genV q k n) = decide ((0 : Int) < ((genV q k n).length : Int)) := by
 have hl : (genV q k n).length = n := by simp [genV]
 have hg : ∀ i, i < n → (genV q k n).getD i zVal = (nm i, q i, k i, ()) := fun i hi => by
  unfold genV
  rw [List.getD_eq_getElem?_getD, List.getElem?_map, List.getElem?_range hi]; rfl
 have h2 : ∀ i, i < 4 → nm i ≠ [] ∧ (nm i).length ≤ 16 := by decide
 have hinc : ∀ i, i < 4 → ∀ j, j < 4 → i < j → sless (nm i) (nm j) = true := by decide
 unfold rightS
 rw [hl, List.all_eq_true.2, Bool.true_and, Bool.eq_iff_iff]
 ·simp only [Bool.and_eq_true, decide_eq_true_eq]; omega
 ·intro i hi
  have hi := List.mem_range.1 hi
  obtain ⟨a, b⟩ := h2 i (by omega)
  have := hq i
  unfold okAt mayS
  rw [hg i hi]
  simp only [Bool.and_eq_true, Bool.or_eq_true, Bool.not_eq_true', decide_eq_true_eq, decide_eq_false_iff_not, beq_iff_eq]
  refine ⟨⟨a, by omega, this.1, by omega⟩, ?_⟩
  by_cases c : i = 0
  ·exact .inl c
  ·right
   rw [hg (i - 1) (by omega)]
   exact hinc (i - 1) (by omega) i (by omega) (by omega)
theorem gen_sm (q : Nat → Int) {k : Nat → List UInt8} (hk : ∀ i, (k i).length = 32) {n : Nat} (hn : n ≤ 4) : SetSm (genV q k n) := by
 refine ⟨by simp [genV]; omega, fun v hv => ?_⟩
 obtain ⟨i, hi, rfl⟩ := List.mem_map.1 hv
 have hi := List.mem_range.1 hi
 have : ∀ i, i < 4 → (nm i).length ≤ 100000 := by decide
 exact ⟨this i (by omega), hk i⟩
theorem gen_set (q : Nat → Int) (k : Nat → List UInt8) {n i : Nat} (hi : i < n) (q1 : Int) (k1 : List UInt8) : List.set (genV q k n) i (nm i, q1, k1, ()) = genV (fun j => if j = i then q1 else q j) (fun j => if j = i then k1 else k j) n := by
 apply List.ext_getElem
 ·simp [genV]
 ·intro j h1 h2
  rw [List.getElem_set]
  simp only [genV, List.getElem_map, List.getElem_range]
  by_cases e : i = j
  ·subst e; simp
  ·rw [if_neg e, if_neg (Ne.symm e), if_neg (Ne.symm e)]
def keyV (i : Nat) : List UInt8 := (mkVal (fun _ => 0) i).2.2.1
theorem keyV_len (i : Nat) : (keyV i).length = 32 := by simp [keyV, mkVal, ky]
theorem setS_gen (ps : List Int) : setS ps = genV (pw ps) keyV (setN ps) := rfl
theorem band31 (a : Int) : 0 ≤ band a 31 ∧ band a 31 < 32 := by
 unfold band
 have h : (BitVec.ofInt 64 a &&& BitVec.ofInt 64 31).toNat ≤ 31 := by rw [BitVec.toNat_and]; exact Nat.and_le_right
 generalize (BitVec.ofInt 64 a &&& BitVec.ofInt 64 31).toNat = m at *
 show 0 ≤ w64 (m : Int) ∧ w64 (m : Int) < 32
 rw [w64_eq (by omega) (by omega)]; omega
theorem law_ValsSame (y0 : List Int) (y1 y2 y3 : Int) (w0 : Wf (.slice (.int .i64)) y0) (w1 : Wf (.int .i64) y1) (w2 : Wf (.int .i64) y2) (w3 : Wf (.int .i64) y3) : affiantlaw10_ValsSame y0 y1 y2 y3 = some true := by
 have e8 : tyBytes (.int .i64) = 8 := rfl
 have hp0 : y0.length ≤ 140737488351232 := by have := w0.1; rw [e8] at this; omega
 have hn : 1 ≤ setN y0 ∧ setN y0 ≤ 4 := by unfold setN; omega
 have hq := pw_b y0
 have hset := set_eq y0 hp0
 rw [setS_gen] at hset
 generalize pw y0 = q at *
 generalize setN y0 = n at *
 have hl : (genV q keyV n).length = n := by simp [genV]
 have hsm := gen_sm q keyV_len hn.2
 have hsv : SmallV (genV q keyV n) := by
  refine ⟨by omega, fun v hv => ?_⟩
  obtain ⟨i, _, rfl⟩ := List.mem_map.1 hv
  have := hq i
  show 0 ≤ q i ∧ q i ≤ 2097152; omega
 obtain ⟨i, ei, i1, i2⟩ := within_eq y1 0 ((n : Int) - 1) (by omega) (by omega) (by omega)
 obtain ⟨w, ew, wa, wb⟩ := within_eq y2 0 3 (by omega) (by omega) (by omega)
 have hi : i.toNat < n := by omega
 have hg : (genV q keyV n).getD i.toNat zVal = (nm i.toNat, q i.toNat, keyV i.toNat, ()) := by
  unfold genV
  rw [List.getD_eq_getElem?_getD, List.getElem?_map, List.getElem?_range hi]; rfl
 have hg2 : (genV q keyV n).getD i.toNat (([] : List UInt8), (0 : Int), (List.replicate 32 (0 : UInt8)), ()) = (nm i.toNat, q i.toNat, keyV i.toNat, ()) := hg
 unfold affiantlaw10_ValsSame
 rw [hset, andThen_mk, hl, need_true (by simp only [List.length_nil]; omega), w64_eq (by omega) (by omega), ei, andThen_mk, ew, andThen_mk, List.nil_append]
 simp only [same_vs2, same_vs3, same_vs4, same_vs6, same_vs7, same_vs8]
 by_cases c0 : w = 0
 ·rw [fork_t c0]
  obtain ⟨r, er, r1, r2⟩ := within_eq y3 1 9 (by omega) (by omega) (by omega)
  rw [er, andThen_mk, need_true (by omega), hg2]
  simp only
  rw [gen_set q keyV hi]
  have hr := gen_right (q := fun j => if j = i.toNat then r else q j) (fun j => by have := hq j; show 1 ≤ (if j = i.toNat then r else q j) ∧ _; split <;> omega) (fun j => if j = i.toNat then keyV i.toNat else keyV j) hn.2
  have hs := gen_sm (fun j => if j = i.toNat then r else q j) (k := fun j => if j = i.toNat then keyV i.toNat else keyV j) (fun j => by show (if j = i.toNat then keyV i.toNat else keyV j).length = 32; split <;> exact keyV_len _) hn.2
  generalize genV (fun j => if j = i.toNat then r else q j) (fun j => if j = i.toNat then keyV i.toNat else keyV j) n = o at *
  have t := vs_tail1 _ o hsv hs.1 hr
  rw [hl] at t
  exact vs_core _ o hsm hs t t
 ·rw [fork_f c0]
  by_cases c1 : w = 1
  ·rw [fork_t c1, need_true (by omega)]
   have hbd := band31 y3
   rw [need_true hbd, hg2]
   simp only
   generalize hk1 : List.set (keyV i.toNat) (band y3 31).toNat ((keyV i.toNat).getD (band y3 31).toNat 0 + 1) = k1
   have hk2 : k1.length = 32 := by rw [← hk1, List.length_set]; exact keyV_len _
   rw [gen_set q keyV hi]
   have hr := gen_right (q := fun j => if j = i.toNat then q i.toNat else q j) (fun j => by have := hq j; have := hq i.toNat; show 1 ≤ (if j = i.toNat then q i.toNat else q j) ∧ _; split <;> omega) (fun j => if j = i.toNat then k1 else keyV j) hn.2
   have hs := gen_sm (fun j => if j = i.toNat then q i.toNat else q j) (k := fun j => if j = i.toNat then k1 else keyV j) (fun j => by show (if j = i.toNat then k1 else keyV j).length = 32; split; exact hk2; exact keyV_len _) hn.2
   generalize genV (fun j => if j = i.toNat then q i.toNat else q j) (fun j => if j = i.toNat then k1 else keyV j) n = o at *
   have t := vs_tail1 _ o hsv hs.1 hr
   rw [hl] at t
   exact vs_core _ o hsm hs t t
  ·rw [fork_f c1]
   by_cases c2 : w = 2
   ·rw [fork_t c2, need_true (by omega)]
    have hcut : cutL (genV q keyV n) 0 i = genV q keyV i.toNat := by
     show List.drop (Int.toNat 0) (List.take i.toNat (genV q keyV n)) = _
     unfold genV
     rw [← List.map_take, List.take_range, Nat.min_eq_left (by omega)]; rfl
    rw [hcut]
    have hr := gen_right hq keyV (n := i.toNat) (by omega)
    have hs := gen_sm q keyV_len (n := i.toNat) (by omega)
    have t := vs_tail5 _ _ hsv hs.1 hr
    rw [hl] at t
    exact vs_core _ _ hsm hs t t
   ·rw [fork_f c2]
    have hr := gen_right hq keyV hn.2
    have t := vs_tail1 _ _ hsv hsm.1 hr
    rw [hl] at t
    exact vs_core _ _ hsm hsm t t
end Go.Ax.V
