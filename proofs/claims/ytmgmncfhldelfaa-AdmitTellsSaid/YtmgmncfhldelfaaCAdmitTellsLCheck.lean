/-
  What checking a proof tells, of the program and of the document.
-/
import Derived.Test.YtmgmncfhldelfaaCAdmitTellsLStore2
namespace Go.Ax.V
open Go.Ax
set_option linter.unusedVariables false
set_option linter.unusedSimpArgs false
theorem pscan_same (a b : List Pr) (hl : a.length = b.length) {ρ : Type} (r r0 : ρ) (hr : r ≠ r0) : scan (fun i => if a.getD i zPr = b.getD i zPr then none else some r) r0 0 a.length = if a = b then r0 else r := by
 by_cases e : a = b
 ·subst e
  rw [if_pos rfl]
  exact scan_none _ _ (fun j _ _ => if_pos rfl)
 ·rw [if_neg e]
  have : ∃ j, j < a.length ∧ a.getD j zPr ≠ b.getD j zPr := by
   apply Classical.byContradiction
   intro hn
   apply e
   apply List.ext_getElem hl
   intro i h1 h2
   apply Classical.byContradiction
   intro hne
   exact hn ⟨i, h1, by rw [List.getD_eq_getElem?_getD, List.getD_eq_getElem?_getD, List.getElem?_eq_getElem h1, List.getElem?_eq_getElem h2]; exact hne⟩
  obtain ⟨j, hj⟩ := Nat.find_of this
  refine scan_some a.length 0 j (Nat.zero_le _) (by omega) (fun j' _ h => if_pos ?_) (if_neg hj.1.2)
  exact Classical.byContradiction fun hne => hj.2 j' h ⟨by omega, hne⟩
theorem peq_step (x0 : List Pr) (x1 : List Pr) (x2 : Int) (x3 : Int) : slices_Equal_LPair_Pair_1_step x0 x1 x2 x3 =
  (fork (decide (x3 < x2)) (need (0 ≤ x3 ∧ x3 < (List.length x0 : Int)) (need (0 ≤ x3 ∧ x3 < (List.length x1 : Int)) (fork (!(Ty.beq (.fld .str (.fld .str .unit)) (List.getD x0 (Int.toNat x3) zPr) (List.getD x1 (Int.toNat x3) zPr))) (some (.inr (.inl false))) (some (.inl (w64 (x3 + (1 : Int)))))))) (some (.inr (.inr ()))) : Option ((Int) ⊕ ((Bool) ⊕ (Unit)))) := rfl
theorem pequal_eq (a b : List Pr) (ha : a.length ≤ 1073741824) : slices_Equal_LPair_Pair a b = some (decide (a = b)) := by
 by_cases hl : a.length = b.length
 ·have h : slices_Equal_LPair_Pair_1 a b (a.length : Int) 0 = some (scan (fun i => if a.getD i zPr = b.getD i zPr then none else some (.inl false)) (.inr ()) 0 a.length) := by
   unfold slices_Equal_LPair_Pair_1
   refine loop_scan (step := fun (s : Int) => slices_Equal_LPair_Pair_1_step a b (a.length : Int) s) (fun i => (i : Int)) _ _ a.length (fun i hi h => ?_) (fun i r hi h => ?_) ?_ a.length 0 (by omega)
   ·rw [peq_step, fork_t (by omega), need_true (by omega), need_true (by omega), Int.toNat_natCast, pbeq, w64_eq (by omega) (by omega)]
    by_cases e : a.getD i zPr = b.getD i zPr
    ·rw [fork_nt e]; rfl
    ·rw [if_neg e] at h; cases h
   ·rw [peq_step, fork_t (by omega), need_true (by omega), need_true (by omega), Int.toNat_natCast, pbeq]
    by_cases e : a.getD i zPr = b.getD i zPr
    ·rw [if_pos e] at h; cases h
    ·rw [if_neg e] at h; injection h with h; subst h; rw [fork_nf e]
   ·rw [peq_step, fork_f (by omega)]
  unfold slices_Equal_LPair_Pair
  rw [fork_nt (by omega), h, andThen_mk, pscan_same a b hl _ _ (by simp)]
  by_cases e : a = b
  ·rw [if_pos e, decide_eq_true e]
  ·rw [if_neg e, decide_eq_false e]
 ·unfold slices_Equal_LPair_Pair
  rw [fork_nf (by omega), decide_eq_false (fun e => hl (by rw [e]))]
abbrev hq (a b : List UInt8) : Bool := Ty.beq (.arr 32 (.int .u8)) a b
theorem hq_iff (a b : List UInt8) : hq a b = true ↔ a = b := Ty.beq_iff (.arr 32 (.int .u8)) rfl a b
theorem hq_comm (a b : List UInt8) : hq a b = hq b a := by
 rw [Bool.eq_iff_iff, hq_iff, hq_iff]; exact ⟨Eq.symm, Eq.symm⟩
def okP (l : List Pr) (i : Nat) : Bool := mayP (l.getD i zPr) && (i == 0 || sless (l.getD (i - 1) zPr).1 (l.getD i zPr).1)
def rightP (l : List Pr) : Bool := (List.range l.length).all (okP l) && decide (l.length ≤ 30)
theorem rpair_eq (p : Pr) : affiantref1_RightPair p = some (mayP p) := by
 have hne : decide ((1 : Int) ≤ (p.1.length : Int)) = !decide (p.1 = []) := by
  rw [Bool.eq_iff_iff, Bool.not_eq_true', decide_eq_true_eq, decide_eq_false_iff_not, ← List.length_eq_zero_iff]; omega
 unfold affiantref1_RightPair mayP
 rw [hne]
 cases decide (p.1 = []) <;> cases decide ((p.1.length : Int) ≤ 16) <;> rfl
theorem kr_step (x0 : List Pr) (x1 : List Pr) (x2 : Int) (x3 : Int) : kv_Right_1_step x0 x1 x2 x3 =
  (fork (decide (x3 < x2)) (need (0 ≤ x3 ∧ x3 < (List.length x1 : Int)) (andThen (kv_may (List.getD x1 (Int.toNat x3) zPr)) (fun u4 => fork (!u4) (some (.inr (.inl false))) (fork (decide ((0 : Int) < x3)) (need (0 ≤ (w64 (x3 - (1 : Int))) ∧ (w64 (x3 - (1 : Int))) < (List.length x0 : Int)) (fork (!sless (List.getD x0 (Int.toNat (w64 (x3 - (1 : Int)))) zPr).1 (List.getD x1 (Int.toNat x3) zPr).1) (some (.inr (.inl false))) (some (.inl (w64 (x3 + (1 : Int))))))) (some (.inl (w64 (x3 + (1 : Int))))))))) (some (.inr (.inr x0))) : Option ((Int) ⊕ ((Bool) ⊕ (List Pr)))) := rfl
theorem rrp_step (x0 : List Pr) (x1 : List Pr) (x2 : Int) (x3 : Int) : affiantref1_RightPairs_1_step x0 x1 x2 x3 =
  (fork (decide (x3 < x2)) (need (0 ≤ x3 ∧ x3 < (List.length x1 : Int)) (andThen (affiantref1_RightPair (List.getD x1 (Int.toNat x3) zPr)) (fun u4 => fork (!u4) (some (.inr (.inl false))) (fork (decide ((0 : Int) < x3)) (need (0 ≤ (w64 (x3 - (1 : Int))) ∧ (w64 (x3 - (1 : Int))) < (List.length x0 : Int)) (fork (!sless (List.getD x0 (Int.toNat (w64 (x3 - (1 : Int)))) zPr).1 (List.getD x1 (Int.toNat x3) zPr).1) (some (.inr (.inl false))) (some (.inl (w64 (x3 + (1 : Int))))))) (some (.inl (w64 (x3 + (1 : Int))))))))) (some (.inr (.inr x0))) : Option ((Int) ⊕ ((Bool) ⊕ (List Pr)))) := rfl
theorem kright_eq (l : List Pr) (hl : l.length ≤ 1073741824) : kv_Right l = some (rightP l) := by
 have main : kv_Right_1 l l (l.length : Int) 0 = some (scan (fun i => if okP l i then none else some (.inl false)) (.inr l) 0 l.length) := by
  unfold kv_Right_1
  have step : ∀ i, i < l.length → kv_Right_1_step l l (l.length : Int) (i : Int) = if okP l i then some (.inl ((i + 1 : Nat) : Int)) else some (.inr (.inl false)) := by
   intro i hi
   rw [kr_step]
   simp (disch := omega) only [fork_t, w64_eq, need_true, Int.toNat_natCast, mayP_eq, andThen_mk]
   unfold okP
   by_cases hm : mayP (l.getD i zPr)
   ·rw [hm]
    rw [show (!true) = false from rfl, fork_ff, Bool.true_and]
    by_cases h0 : i = 0
    ·subst h0; rw [fork_f (by omega)]; rfl
    ·rw [fork_t (by omega), need_true (by omega), show Int.toNat ((i : Int) - 1) = i - 1 from by omega]
     have : (i == 0) = false := by simp [h0]
     rw [this, Bool.false_or]
     by_cases hs : sless (l.getD (i - 1) zPr).1 (l.getD i zPr).1
     ·rw [hs]; rfl
     ·rw [Bool.not_eq_true] at hs; rw [hs]; rfl
   ·rw [Bool.not_eq_true] at hm; rw [hm]; rfl
  refine loop_scan (step := fun (s : Int) => kv_Right_1_step l l (l.length : Int) s) (fun i => (i : Int)) _ _ l.length (fun i hi h => ?_) (fun i r hi h => ?_) ?_ l.length 0 (by omega)
  ·by_cases hk : okP l i
   ·exact (step i hi).trans (if_pos hk)
   ·rw [if_neg hk] at h; cases h
  ·by_cases hk : okP l i
   ·rw [if_pos hk] at h; cases h
   ·rw [if_neg hk] at h; injection h with h; subst h
    exact (step i hi).trans (if_neg hk)
  ·rw [kr_step, fork_f (by omega)]
 unfold kv_Right
 rw [main, andThen_mk]
 unfold rightP
 by_cases hall : (List.range l.length).all (okP l)
 ·rw [scan_none _ _ (fun j _ h => if_pos (List.all_eq_true.1 hall j (by simp; omega))), hall, Bool.true_and]
  dsimp only
  congr 1
  exact decide_eq_decide.2 (by omega)
 ·rw [Bool.not_eq_true] at hall
  have : ∃ j, j < l.length ∧ okP l j = false := by
   rw [List.all_eq_false] at hall
   obtain ⟨j, hj, hk⟩ := hall
   exact ⟨j, by simpa using hj, by simpa using hk⟩
  obtain ⟨j, hj⟩ := Nat.find_of this
  have hsc : scan (fun i => if okP l i then none else some (.inl false)) (.inr l : Bool ⊕ List Pr) 0 l.length = .inl false := by
   refine scan_some l.length 0 j (Nat.zero_le _) (by omega) (fun j' _ h => if_pos ?_) (if_neg ?_)
   ·have := hj.2 j' h
    cases hk : okP l j' with
    | true => rfl
    | false => exact absurd ⟨by omega, hk⟩ this
   ·rw [hj.1.2]; simp
  rw [hall, hsc]
  rfl
theorem rpairs_eq (l : List Pr) (hl : l.length ≤ 1073741824) : affiantref1_RightPairs l = some (rightP l) := by
 have main : affiantref1_RightPairs_1 l l (l.length : Int) 0 = some (scan (fun i => if okP l i then none else some (.inl false)) (.inr l) 0 l.length) := by
  unfold affiantref1_RightPairs_1
  have step : ∀ i, i < l.length → affiantref1_RightPairs_1_step l l (l.length : Int) (i : Int) = if okP l i then some (.inl ((i + 1 : Nat) : Int)) else some (.inr (.inl false)) := by
   intro i hi
   rw [rrp_step]
   simp (disch := omega) only [fork_t, w64_eq, need_true, Int.toNat_natCast, rpair_eq, andThen_mk]
   unfold okP
   by_cases hm : mayP (l.getD i zPr)
   ·rw [hm]
    rw [show (!true) = false from rfl, fork_ff, Bool.true_and]
    by_cases h0 : i = 0
    ·subst h0; rw [fork_f (by omega)]; rfl
    ·rw [fork_t (by omega), need_true (by omega), show Int.toNat ((i : Int) - 1) = i - 1 from by omega]
     have : (i == 0) = false := by simp [h0]
     rw [this, Bool.false_or]
     by_cases hs : sless (l.getD (i - 1) zPr).1 (l.getD i zPr).1
     ·rw [hs]; rfl
     ·rw [Bool.not_eq_true] at hs; rw [hs]; rfl
   ·rw [Bool.not_eq_true] at hm; rw [hm]; rfl
  refine loop_scan (step := fun (s : Int) => affiantref1_RightPairs_1_step l l (l.length : Int) s) (fun i => (i : Int)) _ _ l.length (fun i hi h => ?_) (fun i r hi h => ?_) ?_ l.length 0 (by omega)
  ·by_cases hk : okP l i
   ·exact (step i hi).trans (if_pos hk)
   ·rw [if_neg hk] at h; cases h
  ·by_cases hk : okP l i
   ·rw [if_pos hk] at h; cases h
   ·rw [if_neg hk] at h; injection h with h; subst h
    exact (step i hi).trans (if_neg hk)
  ·rw [rrp_step, fork_f (by omega)]
 unfold affiantref1_RightPairs
 rw [main, andThen_mk]
 unfold rightP
 by_cases hall : (List.range l.length).all (okP l)
 ·rw [scan_none _ _ (fun j _ h => if_pos (List.all_eq_true.1 hall j (by simp; omega))), hall, Bool.true_and]
  dsimp only
  congr 1
  exact decide_eq_decide.2 (by omega)
 ·rw [Bool.not_eq_true] at hall
  have : ∃ j, j < l.length ∧ okP l j = false := by
   rw [List.all_eq_false] at hall
   obtain ⟨j, hj, hk⟩ := hall
   exact ⟨j, by simpa using hj, by simpa using hk⟩
  obtain ⟨j, hj⟩ := Nat.find_of this
  have hsc : scan (fun i => if okP l i then none else some (.inl false)) (.inr l : Bool ⊕ List Pr) 0 l.length = .inl false := by
   refine scan_some l.length 0 j (Nat.zero_le _) (by omega) (fun j' _ h => if_pos ?_) (if_neg ?_)
   ·have := hj.2 j' h
    cases hk : okP l j' with
    | true => rfl
    | false => exact absurd ⟨by omega, hk⟩ this
   ·rw [hj.1.2]; simp
  rw [hall, hsc]
  rfl
theorem rightP_iff (l : List Pr) : rightP l = true ↔ RiseP l ∧ (∀ p ∈ l, mayP p = true) ∧ l.length ≤ 30 := by
 have e : ∀ j, (l.map (·.1)).getD j [] = (l.getD j zPr).1 := fun j => by
  rw [List.getD_eq_getElem?_getD, List.getD_eq_getElem?_getD, List.getElem?_map]
  cases l[j]? <;> rfl
 unfold rightP
 rw [Bool.and_eq_true, decide_eq_true_eq]
 constructor
 ·rintro ⟨h1, h2⟩
  have key0 : ∀ i, i < l.length → okP l i = true := fun i hi => List.all_eq_true.1 h1 i (List.mem_range.2 hi)
  have hinc : incN (l.map fun p : Pr => p.1) = true := by
   refine List.all_eq_true.2 fun i hi => ?_
   have hi := List.mem_range.1 hi
   rw [List.length_map] at hi
   have := key0 (i + 1) (by omega)
   unfold okP at this
   simp only [Bool.and_eq_true, Bool.or_eq_true, beq_iff_eq] at this
   have t := this.2.resolve_left (by omega)
   rw [Nat.add_sub_cancel] at t
   rw [e, e]; exact t
  refine ⟨List.pairwise_map.1 (incN_pair _ hinc), fun p hp => ?_, h2⟩
  ·obtain ⟨i, hi, rfl⟩ := List.getElem_of_mem hp
   have := key0 i hi
   unfold okP at this
   rw [Bool.and_eq_true, List.getD_eq_getElem?_getD, List.getElem?_eq_getElem hi] at this
   exact this.1
 ·rintro ⟨h1, h2, h3⟩
  refine ⟨List.all_eq_true.2 fun i hi => ?_, h3⟩
  have hi := List.mem_range.1 hi
  unfold okP
  rw [Bool.and_eq_true, Bool.or_eq_true, beq_iff_eq]
  refine ⟨h2 _ (getD_mem hi), ?_⟩
  by_cases c : i = 0
  ·exact .inl c
  ·exact .inr (krise_get h1 (by omega) hi)
theorem mayP_b {p : Pr} (h : mayP p = true) : 1 ≤ p.1.length ∧ p.1.length ≤ 16 ∧ p.2.1.length ≤ 24 := by
 unfold mayP at h
 simp only [Bool.and_eq_true, Bool.not_eq_true', decide_eq_true_eq, decide_eq_false_iff_not, ← List.length_eq_zero_iff] at h
 omega
theorem rightP_kv {l : List Pr} (h : rightP l = true) : KvOk l ∧ RiseP l := by
 obtain ⟨h1, h2, h3⟩ := (rightP_iff l).1 h
 exact ⟨⟨by omega, fun p hp => by have := mayP_b (h2 p hp); omega⟩, h1⟩
noncomputable def provenAt (p : Prf) (i : Nat) : List UInt8 × Bool := upS (leafB (p.2.2.1.getD i zPr)) (p.2.1 + (i : Int)) p.1 (p.2.2.2.1.getD i [])
noncomputable def soundAt (root : List UInt8) (p : Prf) (i : Nat) : Bool := (provenAt p i).2 && hq (boundS p.1.toNat (provenAt p i).1) root
noncomputable def soundS (root : List UInt8) (p : Prf) : Bool :=
 decide (0 ≤ p.1 ∧ p.1 ≤ 30 ∧ p.2.2.2.1.length = p.2.2.1.length) && (rightP p.2.2.1 && (decide (0 ≤ p.2.1 ∧ p.2.1 ≤ p.1 - (p.2.2.1.length : Int)) && (if p.1 = 0 then hq root (rootL []) else (decide (0 < p.2.2.1.length) && (List.range p.2.2.1.length).all (soundAt root p)))))
def PrfOk (p : Prf) : Prop := (∀ x ∈ p.2.2.2.1, x.length ≤ 1000 ∧ ∀ h ∈ x, h.length = 32) ∧ p.2.2.1.length ≤ 1000000 ∧ p.2.2.2.1.length ≤ 1000000
theorem upS_32 (leaf : List UInt8) (i n : Int) (p : List (List UInt8)) : (upS leaf i n p).1.length = 32 := by
 unfold upS
 split
 ·exact climb_32 _ _ _ (sha_len _)
 ·simp
theorem whole_eq (n : Nat) (r : List UInt8) (hr : r.length = 32) : check_whole (n : Int) r = some (boundS n r) := by
 have hp : putS [(n : Int)] = oneS n := by simp [putS]
 have h1 := oneS_len (n : Int)
 have hf : [oneS (n : Int), r].flatten = oneS (n : Int) ++ r := by simp
 unfold check_whole
 rw [put_eq _ (by simp), andThen_mk, hp, tagged_eq _ _ (by rw [hf, List.length_append]; omega) (by simp), hf]
 rfl
theorem cs_step (x0 : List Pr) (x1 : Int) (x2 : Int) (x3 : List UInt8) (x4 : Prf) : check_Sound_1_step x0 x1 x2 x3 x4 =
  (fork (decide (x2 < x1)) (need (0 ≤ x2 ∧ x2 < (List.length x0 : Int)) (andThen (kv_Leaf (List.getD x0 (Int.toNat x2) zPr)) (fun u16 => need (0 ≤ x2 ∧ x2 < (List.length x4.2.2.2.1 : Int)) (andThen (tree_Up u16 (w64 (x4.2.1 + x2)) x4.1 (List.getD x4.2.2.2.1 (Int.toNat x2) ([] : List (List UInt8)))) (fun u19 => fork (!u19.2) (some (.inr (.inl ()))) (andThen (check_whole x4.1 u19.1) (fun u22 => fork (!(Ty.beq (.arr 32 (.int .u8)) u22 x3)) (some (.inr (.inl ()))) (some (.inl (w64 (x2 + (1 : Int)))))))))))) (some (.inr (.inr ()))) : Option ((Int) ⊕ ((Unit) ⊕ (Unit)))) := rfl
theorem rs_step (x0 : List Pr) (x1 : Int) (x2 : Int) (x3 : List UInt8) (x4 : Prf) : affiantref1_Sound_1_step x0 x1 x2 x3 x4 =
  (fork (decide (x2 < x1)) (need (0 ≤ x2 ∧ x2 < (List.length x0 : Int)) (andThen (affiantref1_Leaf (List.getD x0 (Int.toNat x2) zPr)) (fun u18 => need (0 ≤ x2 ∧ x2 < (List.length x4.2.2.2.1 : Int)) (andThen (affiantref1_Up u18 (w64 (x4.2.1 + x2)) x4.1 (List.getD x4.2.2.2.1 (Int.toNat x2) ([] : List (List UInt8)))) (fun u21 => fork (!u21.2) (some (.inr (.inl false))) (andThen (affiantref1_Bound x4.1 u21.1) (fun u24 => fork (!(Ty.beq (.arr 32 (.int .u8)) u24 x3)) (some (.inr (.inl false))) (some (.inl (w64 (x2 + (1 : Int)))))))))))) (some (.inr (.inr x4))) : Option ((Int) ⊕ ((Bool) ⊕ Prf))) := rfl
theorem scan_all {ρ : Type} (f : Nat → Bool) (r r0 : ρ) (n : Nat) : scan (fun i => if f i then none else some r) r0 0 n = if (List.range n).all f then r0 else r := by
 by_cases h : (List.range n).all f = true
 ·rw [if_pos h]
  exact scan_none _ _ fun j _ hj => if_pos (List.all_eq_true.1 h j (List.mem_range.2 (by omega)))
 ·rw [if_neg h]
  rw [Bool.not_eq_true, List.all_eq_false] at h
  obtain ⟨j, hj, hf⟩ := h
  obtain ⟨k, hk⟩ := Nat.find_of (p := fun j => j < n ∧ ¬ f j = true) ⟨j, List.mem_range.1 hj, hf⟩
  refine scan_some n 0 k (Nat.zero_le _) (by omega) (fun j' _ h => if_pos ?_) (if_neg hk.1.2)
  exact Classical.byContradiction fun q => hk.2 j' h ⟨by omega, q⟩
theorem path_ok {p : Prf} (h : PrfOk p) (i : Nat) : (∀ x ∈ p.2.2.2.1.getD i [], x.length = 32) ∧ (p.2.2.2.1.getD i []).length ≤ 100000 := by
 by_cases c : i < p.2.2.2.1.length
 ·have := h.1 _ (getD_mem (z := []) c)
  exact ⟨this.2, by omega⟩
 ·rw [List.getD_eq_getElem?_getD, List.getElem?_eq_none (by omega)]; simp
theorem checkSound_eq (root : List UInt8) (p : Prf) (h : PrfOk p) : check_Sound root p = some (soundS root p) := by
 have hn := h.2.1
 unfold check_Sound soundS
 by_cases c1 : p.1 < 0
 ·rw [fork_t c1, decide_eq_false (fun q => absurd q.1 (by omega))]; rfl
 rw [fork_f c1]
 by_cases c2 : 30 < p.1
 ·rw [fork_t c2, decide_eq_false (fun q => absurd q.2.1 (by omega))]; rfl
 rw [fork_f c2]
 by_cases c3 : p.2.2.2.1.length = p.2.2.1.length
 case neg => rw [fork_nf (by omega), decide_eq_false (fun q => c3 q.2.2)]; rfl
 rw [fork_nt (by omega), kright_eq _ (by omega), andThen_mk, decide_eq_true (p := 0 ≤ p.1 ∧ p.1 ≤ 30 ∧ p.2.2.2.1.length = p.2.2.1.length) ⟨by omega, by omega, c3⟩, Bool.true_and]
 cases c4 : rightP p.2.2.1 with
 | false => rfl
 | true =>
  obtain ⟨hk, hr⟩ := rightP_kv c4
  have hl := hk.1
  rw [Bool.not_true, fork_ff, Bool.true_and]
  by_cases c5 : p.2.1 < 0
  ·rw [fork_t c5, decide_eq_false (fun q => absurd q.1 (by omega))]; rfl
  rw [fork_f c5, w64_eq (by omega) (by omega)]
  by_cases c6 : p.1 - (p.2.2.1.length : Int) < p.2.1
  ·rw [fork_t c6, decide_eq_false (fun q => absurd q.2 (by omega))]; rfl
  rw [fork_f c6, decide_eq_true (p := 0 ≤ p.2.1 ∧ p.2.1 ≤ p.1 - (p.2.2.1.length : Int)) ⟨by omega, by omega⟩, Bool.true_and]
  by_cases c7 : p.1 = 0
  ·rw [fork_t c7, if_pos c7, stroot_eq [] ⟨by simp, by simp⟩, andThen_mk]
  rw [fork_f c7, if_neg c7]
  by_cases c8 : p.2.2.1.length = 0
  ·rw [fork_t (by omega), decide_eq_false (by omega)]; rfl
  rw [fork_f (by omega), decide_eq_true (p := 0 < p.2.2.1.length) (by omega), Bool.true_and]
  have m : check_Sound_1 p.2.2.1 (p.2.2.1.length : Int) 0 root p = some (scan (fun i => if soundAt root p i then none else some (.inl ())) (.inr ()) 0 p.2.2.1.length) := by
   unfold check_Sound_1
   have step : ∀ i, i < p.2.2.1.length → check_Sound_1_step p.2.2.1 (p.2.2.1.length : Int) (i : Int) root p = if soundAt root p i then some (.inl ((i + 1 : Nat) : Int)) else some (.inr (.inl ())) := by
    intro i hi
    obtain ⟨po1, po2⟩ := path_ok h i
    have hlf := hk.2 _ (getD_mem (z := zPr) hi)
    have hlb := leafB_len hlf
    have hnum : p.1 = ((p.1.toNat : Nat) : Int) := by omega
    have hw : check_whole p.1 (upS (leafB (p.2.2.1.getD i zPr)) (p.2.1 + (i : Int)) p.1 (p.2.2.2.1.getD i [])).1 = some (boundS p.1.toNat (upS (leafB (p.2.2.1.getD i zPr)) (p.2.1 + (i : Int)) p.1 (p.2.2.2.1.getD i [])).1) := by
     have := whole_eq p.1.toNat _ (upS_32 (leafB (p.2.2.1.getD i zPr)) (p.2.1 + (i : Int)) p.1 (p.2.2.2.1.getD i []))
     rw [← hnum] at this; exact this
    rw [cs_step, fork_t (by omega), need_true (by omega), Int.toNat_natCast, leaf_eq _ hlf, andThen_mk, need_true (by omega), w64_eq (n := p.2.1 + (i : Int)) (by omega) (by omega), up_eq _ (by omega) _ _ (by omega) _ po1 po2, andThen_mk, hw, andThen_mk, w64_eq (by omega) (by omega)]
    unfold soundAt provenAt
    cases (upS (leafB (p.2.2.1.getD i zPr)) (p.2.1 + (i : Int)) p.1 (p.2.2.2.1.getD i [])).2 with
    | false => rfl
    | true =>
     rw [Bool.not_true, fork_ff, Bool.true_and]
     unfold hq
     cases Ty.beq (.arr 32 (.int .u8)) (boundS p.1.toNat (upS (leafB (p.2.2.1.getD i zPr)) (p.2.1 + (i : Int)) p.1 (p.2.2.2.1.getD i [])).1) root <;> rfl
   refine loop_scan (step := fun (s : Int) => check_Sound_1_step p.2.2.1 (p.2.2.1.length : Int) s root p) (fun i => (i : Int)) _ _ p.2.2.1.length (fun i hi h => ?_) (fun i r hi h => ?_) ?_ p.2.2.1.length 0 (by omega)
   ·by_cases hk : soundAt root p i
    ·exact (step i hi).trans (if_pos hk)
    ·rw [if_neg hk] at h; cases h
   ·by_cases hk : soundAt root p i
    ·rw [if_pos hk] at h; cases h
    ·rw [if_neg hk] at h; injection h with h; subst h
     exact (step i hi).trans (if_neg hk)
   ·rw [cs_step, fork_f (by omega)]
  rw [m, andThen_mk, scan_all]
  cases (List.range p.2.2.1.length).all (soundAt root p) <;> rfl
theorem rsound_eq (root : List UInt8) (p : Prf) (h : PrfOk p) : affiantref1_Sound root p = some (soundS root p) := by
 have hn := h.2.1
 unfold affiantref1_Sound soundS
 by_cases c1 : p.1 < 0
 ·rw [fork_t c1, decide_eq_false (fun q => absurd q.1 (by omega))]; rfl
 rw [fork_f c1]
 by_cases c2 : 30 < p.1
 ·rw [fork_t c2, decide_eq_false (fun q => absurd q.2.1 (by omega))]; rfl
 rw [fork_f c2]
 by_cases c3 : p.2.2.2.1.length = p.2.2.1.length
 case neg => rw [fork_nf (by omega), decide_eq_false (fun q => c3 q.2.2)]; rfl
 rw [fork_nt (by omega), rpairs_eq _ (by omega), andThen_mk, decide_eq_true (p := 0 ≤ p.1 ∧ p.1 ≤ 30 ∧ p.2.2.2.1.length = p.2.2.1.length) ⟨by omega, by omega, c3⟩, Bool.true_and]
 cases c4 : rightP p.2.2.1 with
 | false => rfl
 | true =>
  obtain ⟨hk, hr⟩ := rightP_kv c4
  have hl := hk.1
  rw [Bool.not_true, fork_ff, Bool.true_and]
  by_cases c5 : p.2.1 < 0
  ·rw [fork_t c5, decide_eq_false (fun q => absurd q.1 (by omega))]; rfl
  rw [fork_f c5, w64_eq (by omega) (by omega)]
  by_cases c6 : p.1 - (p.2.2.1.length : Int) < p.2.1
  ·rw [fork_t c6, decide_eq_false (fun q => absurd q.2 (by omega))]; rfl
  rw [fork_f c6, decide_eq_true (p := 0 ≤ p.2.1 ∧ p.2.1 ≤ p.1 - (p.2.2.1.length : Int)) ⟨by omega, by omega⟩, Bool.true_and]
  by_cases c7 : p.1 = 0
  ·have hb := rbound_eq 0 (sha [2]) (sha_len _)
   have e0 : rootL [] = boundS 0 (sha [2]) := by
    unfold rootL
    rw [show leavesB [] = [] from rfl, rootS_none]; rfl
   rw [fork_t c7, if_pos c7, fork_t (by omega), rtagged_eq _ _ (by simp) (by simp), andThen_mk, List.flatten_nil]
   show andThen (affiantref1_Bound ((0 : Nat) : Int) (sha [2])) _ = _
   rw [hb, andThen_mk, e0, hq_comm]
  rw [fork_f c7, if_neg c7]
  have m : affiantref1_Sound_1 p.2.2.1 (p.2.2.1.length : Int) 0 root p = some (scan (fun i => if soundAt root p i then none else some (.inl false)) (.inr p) 0 p.2.2.1.length) := by
   unfold affiantref1_Sound_1
   have step : ∀ i, i < p.2.2.1.length → affiantref1_Sound_1_step p.2.2.1 (p.2.2.1.length : Int) (i : Int) root p = if soundAt root p i then some (.inl ((i + 1 : Nat) : Int)) else some (.inr (.inl false)) := by
    intro i hi
    obtain ⟨po1, po2⟩ := path_ok h i
    have hlf := hk.2 _ (getD_mem (z := zPr) hi)
    have hlb := leafB_len hlf
    have hnum : p.1 = ((p.1.toNat : Nat) : Int) := by omega
    obtain ⟨x, hu, hx⟩ := rup_eq (leafB (p.2.2.1.getD i zPr)) (by omega) (p.2.1 + (i : Int)) p.1 (by omega) (p.2.2.2.1.getD i []) po1 po2
    rw [rs_step, fork_t (by omega), need_true (by omega), Int.toNat_natCast, rLeaf_eq _ hlf, andThen_mk, need_true (by omega), w64_eq (n := p.2.1 + (i : Int)) (by omega) (by omega), hu, andThen_mk, w64_eq (by omega) (by omega)]
    unfold soundAt provenAt
    cases hc : (upS (leafB (p.2.2.1.getD i zPr)) (p.2.1 + (i : Int)) p.1 (p.2.2.2.1.getD i [])).2 with
    | false => rfl
    | true =>
     have hx2 : x = (upS (leafB (p.2.2.1.getD i zPr)) (p.2.1 + (i : Int)) p.1 (p.2.2.2.1.getD i [])).1 := hx.1 hc
     have hb := rbound_eq p.1.toNat x (by rw [hx2]; exact upS_32 _ _ _ _)
     rw [← hnum] at hb
     dsimp only
     rw [Bool.not_true, fork_ff, hb, andThen_mk, Bool.true_and, hx2]
     unfold hq
     cases Ty.beq (.arr 32 (.int .u8)) (boundS p.1.toNat (upS (leafB (p.2.2.1.getD i zPr)) (p.2.1 + (i : Int)) p.1 (p.2.2.2.1.getD i [])).1) root <;> rfl
   refine loop_scan (step := fun (s : Int) => affiantref1_Sound_1_step p.2.2.1 (p.2.2.1.length : Int) s root p) (fun i => (i : Int)) _ _ p.2.2.1.length (fun i hi h => ?_) (fun i r hi h => ?_) ?_ p.2.2.1.length 0 (by omega)
   ·by_cases hk : soundAt root p i
    ·exact (step i hi).trans (if_pos hk)
    ·rw [if_neg hk] at h; cases h
   ·by_cases hk : soundAt root p i
    ·rw [if_pos hk] at h; cases h
    ·rw [if_neg hk] at h; injection h with h; subst h
     exact (step i hi).trans (if_neg hk)
   ·rw [rs_step, fork_f (by omega)]
  rw [m, andThen_mk, scan_all]
  cases (List.range p.2.2.1.length).all (soundAt root p) with
  | false => rw [Bool.and_false]; rfl
  | true =>
   rw [Bool.and_true]
   show some (decide ((0 : Int) < (p.2.2.1.length : Int))) = _
   congr 1
   exact decide_eq_decide.2 (by omega)
theorem sound_kv {root : List UInt8} {p : Prf} (h : soundS root p = true) : KvOk p.2.2.1 ∧ RiseP p.2.2.1 := by
 unfold soundS at h
 rw [Bool.and_eq_true, Bool.and_eq_true] at h
 exact rightP_kv h.2.1
theorem sound_num {root : List UInt8} {p : Prf} (h : soundS root p = true) : 0 ≤ p.1 ∧ p.1 ≤ 30 ∧ 0 ≤ p.2.1 ∧ p.2.1 ≤ p.1 - (p.2.2.1.length : Int) ∧ (p.2.2.1.length = 0 ↔ p.1 = 0) := by
 unfold soundS at h
 simp only [Bool.and_eq_true, decide_eq_true_eq] at h
 obtain ⟨⟨h1, h2, _⟩, _, ⟨h3, h4⟩, h5⟩ := h
 refine ⟨h1, h2, h3, h4, fun e => ?_, fun e => by omega⟩
 apply Classical.byContradiction
 intro c
 rw [if_neg c, Bool.and_eq_true, decide_eq_true_eq] at h5
 omega
def inR (a b : List UInt8) (p : Pr) : Bool := !sless p.1 a && sless p.1 b
def rangeF (l : List Pr) (a b : List UInt8) : List Pr := l.filter (inR a b)
theorem mem_cutL {l : List Pr} {a b : Nat} {q : Pr} : q ∈ cutL l (a : Int) (b : Int) ↔ ∃ i, a ≤ i ∧ i < b ∧ i < l.length ∧ l.getD i zPr = q := by
 unfold cutL
 rw [Int.toNat_natCast, Int.toNat_natCast]
 constructor
 ·intro h
  obtain ⟨i, h1, h2, h3⟩ := mem_drop_get h
  rw [List.length_take] at h2
  rw [List.getD_eq_getElem?_getD, List.getElem?_take, if_pos (by omega), ← List.getD_eq_getElem?_getD] at h3
  exact ⟨i, h1, by omega, by omega, h3⟩
 ·rintro ⟨i, h1, h2, h3, rfl⟩
  have e : (l.take b).drop a = (l.drop a).take (b - a) := by rw [List.drop_take]
  have hm : ((l.take b).drop a).getD (i - a) zPr = l.getD i zPr := by
   rw [List.getD_eq_getElem?_getD, List.getD_eq_getElem?_getD, List.getElem?_drop, List.getElem?_take, if_pos (by omega)]
   congr 2; omega
  rw [← hm]
  exact getD_mem (by rw [List.length_drop, List.length_take]; omega)
theorem kvRange_eq (l : List Pr) (hr : RiseP l) (hl : l.length ≤ 1000) (a b : List UInt8) : kv_Range l a b = some (rangeF l a b) := by
 have h1 := below_le l a
 have h2 := below_le l b
 have e : cutL l ((belowN l a : Nat) : Int) ((max (belowN l a) (belowN l b) : Nat) : Int) = rangeF l a b := by
  refine krise_ext ?_ (hr.sublist List.filter_sublist) fun q => ?_
  ·unfold cutL
   exact (hr.sublist (List.take_sublist _ _)).sublist (List.drop_sublist _ _)
  ·rw [mem_cutL]
   unfold rangeF inR
   rw [List.mem_filter, Bool.and_eq_true, Bool.not_eq_true']
   constructor
   ·rintro ⟨i, g1, g2, g3, rfl⟩
    refine ⟨getD_mem g3, ?_, (below_iff hr b g3).2 (by omega)⟩
    cases c : sless (l.getD i zPr).1 a with
    | false => rfl
    | true => have := (below_iff hr a g3).1 c; omega
   ·rintro ⟨g1, g2, g3⟩
    obtain ⟨i, hi, rfl⟩ := List.getElem_of_mem g1
    have hg : l.getD i zPr = l[i] := by rw [List.getD_eq_getElem?_getD, List.getElem?_eq_getElem hi]; rfl
    rw [← hg] at g2 g3
    have := (below_iff hr b hi).1 g3
    refine ⟨i, ?_, by omega, hi, hg⟩
    apply Classical.byContradiction
    intro c
    rw [(below_iff hr a hi).2 (by omega)] at g2; cases g2
 unfold kv_Range
 rw [kfirst_eq l hr hl, andThen_mk, kfirst_eq l hr hl, andThen_mk, show max (belowN l a : Int) (belowN l b : Int) = ((max (belowN l a) (belowN l b) : Nat) : Int) from by omega, need_true (by omega), e]
 unfold slices_Clone_LPair_Pair
 have hle : (rangeF l a b).length ≤ l.length := List.length_filter_le _ _
 rw [need_true (by omega), andThen_mk]
def beginsS (p : Prf) (a : List UInt8) : Bool := decide (p.2.1 = 0) || sless (p.2.2.1.getD 0 zPr).1 a
def endsS (p : Prf) (m : List UInt8) : Bool := decide (p.2.1 + (p.2.2.1.length : Int) = p.1) || !sless (p.2.2.1.getD (p.2.2.1.length - 1) zPr).1 m
noncomputable def rangeS (root a b : List UInt8) (p : Prf) : List Pr × Bool :=
 if soundS root p then (if p.2.2.1.length = 0 then ([], true) else if beginsS p a && endsS p (maxS a b) then (rangeF p.2.2.1 a b, true) else ([], false)) else ([], false)
theorem checkRange_eq (root a b : List UInt8) (p : Prf) (h : PrfOk p) : check_Range root a b p = some (rangeS root a b p) := by
 unfold check_Range rangeS
 rw [checkSound_eq root p h, andThen_mk]
 cases hs : soundS root p with
 | false => rfl
 | true =>
  obtain ⟨hk, hr⟩ := sound_kv hs
  have hl := hk.1
  obtain ⟨n1, n2, n3, n4, n5⟩ := sound_num hs
  rw [Bool.not_true, fork_ff, if_pos rfl, kvRange_eq _ hr (by omega), andThen_mk]
  by_cases c : p.2.2.1.length = 0
  ·rw [fork_t (by omega), if_pos c]
  rw [fork_f (by omega), if_neg c, w64_eq (n := p.2.1 + _) (by omega) (by omega), w64_eq (by omega) (by omega), need_true (by omega), need_true (by omega), show Int.toNat ((p.2.2.1.length : Int) - 1) = p.2.2.1.length - 1 from by omega, show Int.toNat (0 : Int) = 0 from rfl]
  unfold beginsS endsS
  by_cases c1 : p.2.1 = 0
  ·rw [fork_t c1, decide_eq_true c1, Bool.true_or, Bool.true_and]
   by_cases c2 : p.2.1 + (p.2.2.1.length : Int) = p.1
   ·rw [fork_t c2, decide_eq_true c2]; rfl
   ·rw [fork_f c2, decide_eq_false c2, Bool.false_or]
    show fork (!(!sless (p.2.2.1.getD (p.2.2.1.length - 1) zPr).1 (maxS a b))) _ _ = _
    cases sless (p.2.2.1.getD (p.2.2.1.length - 1) zPr).1 (maxS a b) <;> rfl
  ·rw [fork_f c1, decide_eq_false c1, Bool.false_or]
   by_cases c2 : p.2.1 + (p.2.2.1.length : Int) = p.1
   ·rw [fork_t c2, decide_eq_true c2, Bool.true_or, Bool.and_true]
    show fork (!sless (p.2.2.1.getD 0 zPr).1 a) _ _ = _
    cases sless (p.2.2.1.getD 0 zPr).1 a <;> rfl
   ·rw [fork_f c2, decide_eq_false c2, Bool.false_or, need_true (by omega)]
    show fork (!sless (p.2.2.1.getD 0 zPr).1 a) _ (fork (!(!sless (p.2.2.1.getD (p.2.2.1.length - 1) zPr).1 (maxS a b))) _ _) = _
    cases sless (p.2.2.1.getD 0 zPr).1 a <;> cases sless (p.2.2.1.getD (p.2.2.1.length - 1) zPr).1 (maxS a b) <;> rfl
theorem rangeS_sound {root a b : List UInt8} {p : Prf} (h : (rangeS root a b p).2 = true) : soundS root p = true := by
 unfold rangeS at h
 cases hs : soundS root p with
 | true => rfl
 | false => rw [hs, if_neg (by simp)] at h; cases h
noncomputable def absS (root k : List UInt8) (p : Prf) : Bool := (rangeS root k k p).2 && !isAt p.2.2.1 k
theorem checkAbsent_eq (root k : List UInt8) (p : Prf) (h : PrfOk p) : check_Absent root k p = some (absS root k p) := by
 unfold check_Absent absS
 rw [checkRange_eq root k k p h, andThen_mk]
 cases hs : (rangeS root k k p).2 with
 | false => rfl
 | true =>
  obtain ⟨hk, hr⟩ := sound_kv (rangeS_sound hs)
  have hl := hk.1
  rw [Bool.not_true, fork_ff, kget_eq _ hr (by omega), andThen_mk, Bool.true_and]
  cases isAt p.2.2.1 k <;> rfl
noncomputable def existS (root : List UInt8) (x : Pr) (p : Prf) : Bool := soundS root p && decide (p.2.2.1 = [x])
theorem checkExist_eq (root : List UInt8) (x : Pr) (p : Prf) (h : PrfOk p) : check_Exist root x p = some (existS root x p) := by
 have := h.2.1
 unfold check_Exist existS
 rw [checkSound_eq root p h, andThen_mk]
 cases soundS root p with
 | false => rfl
 | true => rw [fork_tt, pequal_eq _ _ (by omega), andThen_mk, Bool.true_and]
def costS (p : Prf) : Int := if p.1 = 0 then 2 else (sizeP p : Int) + (p.2.2.1.length : Int)
theorem checkCost_eq (p : Prf) (h : PrfOk p) : check_Cost p = some (costS p) := by
 have hb := sum_b p.2.2.2.1 fun x hx => (h.1 x hx).1
 have h1 := h.2.1
 have h2 := h.2.2
 unfold check_Cost costS
 by_cases c : p.1 = 0
 ·rw [fork_t c, if_pos c]
 ·have hz : sizeP p = p.2.2.1.length + (p.2.2.2.1.map List.length).sum := rfl
  rw [fork_f c, if_neg c, size_eq p h1 h2 (fun x hx => (h.1 x hx).1), andThen_mk, w64_eq (by omega) (by omega)]
theorem someN_ok (l : List Pr) (h : KvOk l) (F T : Nat) (hT : T ≤ 1000) : PrfOk (someN l F T) := by
 have hl := h.1
 unfold someN
 by_cases c : T ≤ F
 ·rw [if_pos c]; exact ⟨by simp, by simp, by simp⟩
 ·rw [if_neg c]
  obtain ⟨a, b⟩ := pathsN_b l hl F (T - F)
  refine ⟨fun x hx => ⟨by have := b x hx; omega, ?_⟩, by show ((l.drop F).take (T - F)).length ≤ _; rw [List.length_take, List.length_drop]; omega, by show (pathsN l F (T - F)).length ≤ _; omega⟩
  obtain ⟨j, _, rfl⟩ := List.mem_map.1 hx
  unfold pathS
  split
  ·exact pathF_32 _ _ _
  ·simp
theorem up_path (l : List Pr) (hl : l.length ≤ 60) (i : Nat) (hi : i < l.length) : upS (leafB (l.getD i zPr)) (i : Int) (l.length : Int) (pathS (leavesB l) (i : Int)) = (rootS (leavesB l), true) := by
 have hg : (leavesB l).getD i [] = leafB (l.getD i zPr) := by
  unfold leavesB
  rw [List.getD_eq_getElem?_getD, List.getD_eq_getElem?_getD, List.getElem?_map, List.getElem?_eq_getElem hi]; rfl
 have hp := path_up l.length (leavesB l) i (by rw [leavesB_len]; omega) (by rw [leavesB_len]; omega) (by rw [leavesB_len]; omega)
 have hs := path_sides l.length (leavesB l) i (by rw [leavesB_len]; omega)
 rw [leavesB_len, hg] at hp
 rw [leavesB_len] at hs
 have e : pathS (leavesB l) (i : Int) = pathF l.length (leavesB l) i := by
  unfold pathS
  rw [leavesB_len, if_pos (by omega), Int.toNat_natCast]
 unfold upS
 rw [e, if_pos ⟨(isS_iff _ _).2 (by omega), by rw [Int.toNat_natCast, Int.toNat_natCast]; exact hs⟩, Int.toNat_natCast, Int.toNat_natCast, hp]
theorem row_right {l : List Pr} (h : RowOk l) : rightP l = true := by
 rw [rightP_iff]
 refine ⟨h.1, fun p hp => ?_, by have := h.2.1; omega⟩
 have := keys_b _ (h.2.2.1 p hp)
 have h3 := h.2.2.2 p hp
 unfold mayP
 have hne : p.1 ≠ [] := fun e => by rw [e] at this; simp at this
 simp only [Bool.and_eq_true, Bool.not_eq_true', decide_eq_true_eq, decide_eq_false_iff_not]
 exact ⟨hne, by omega, by omega⟩
theorem right_sub {l m : List Pr} (h : rightP l = true) (hs : m.Sublist l) : rightP m = true := by
 obtain ⟨h1, h2, h3⟩ := (rightP_iff l).1 h
 exact (rightP_iff m).2 ⟨h1.sublist hs, fun p hp => h2 p (hs.subset hp), Nat.le_trans hs.length_le h3⟩
theorem someN_parts (l : List Pr) {F T : Nat} (h : F < T) : someN l F T = ((l.length : Int), (F : Int), (l.drop F).take (T - F), pathsN l F (T - F), ()) := by unfold someN; rw [if_neg (by omega)]
theorem sound_some (root : List UInt8) (l : List Pr) (h : rightP l = true) (F T : Nat) (hT : T ≤ l.length) : soundS root (someN l F T) = if l.length = 0 then hq root (rootL []) else decide (F < T) && hq (rootL l) root := by
 obtain ⟨hk, hr⟩ := rightP_kv h
 have h30 := ((rightP_iff l).1 h).2.2
 by_cases c : F < T
 ·have e1 : ((l.drop F).take (T - F)).length = T - F := by rw [List.length_take, List.length_drop]; omega
  obtain ⟨e2, e3⟩ := pathsN_b l hk.1 F (T - F)
  have hat : ∀ i, i < T - F → soundAt root (someN l F T) i = hq (rootL l) root := fun i hi => by
   have g1 : ((l.drop F).take (T - F)).getD i zPr = l.getD (F + i) zPr := by
    rw [List.getD_eq_getElem?_getD, List.getD_eq_getElem?_getD, List.getElem?_take, if_pos hi, List.getElem?_drop]
   have g2 : (pathsN l F (T - F)).getD i [] = pathS (leavesB l) ((F + i : Nat) : Int) := by
    unfold pathsN
    rw [List.getD_eq_getElem?_getD, List.getElem?_map, List.getElem?_range hi]; rfl
   have hu := up_path l hk.1 (F + i) (by omega)
   unfold soundAt provenAt
   rw [someN_parts l c]
   dsimp only
   rw [g1, g2, show (F : Int) + (i : Int) = ((F + i : Nat) : Int) from by omega, hu, Int.toNat_natCast]
   rfl
  rw [if_neg (by omega), decide_eq_true c, Bool.true_and]
  have hall : (List.range (T - F)).all (soundAt root (someN l F T)) = hq (rootL l) root := by
   cases hv : hq (rootL l) root with
   | true => exact List.all_eq_true.2 fun i hi => by rw [hat i (List.mem_range.1 hi), hv]
   | false => exact List.all_eq_false.2 ⟨0, List.mem_range.2 (by omega), by rw [hat 0 (by omega), hv]; simp⟩
  unfold soundS
  rw [someN_parts l c] at hall ⊢
  dsimp only at hall ⊢
  rw [e1, e2, hall, right_sub h ((List.take_sublist _ _).trans (List.drop_sublist _ _)), decide_eq_true (p := 0 ≤ (l.length : Int) ∧ (l.length : Int) ≤ 30 ∧ T - F = T - F) ⟨by omega, by omega, rfl⟩, decide_eq_true (p := 0 ≤ (F : Int) ∧ (F : Int) ≤ (l.length : Int) - ((T - F : Nat) : Int)) ⟨by omega, by omega⟩, if_neg (by omega), decide_eq_true (p := 0 < T - F) (by omega)]
  rfl
 ·have es : someN l F T = ((l.length : Int), 0, [], [], ()) := by unfold someN; rw [if_pos (by omega)]
  have hn : rightP ([] : List Pr) = true := rfl
  rw [decide_eq_false c, Bool.false_and]
  unfold soundS
  rw [es]
  dsimp only
  rw [hn, decide_eq_true (p := 0 ≤ (l.length : Int) ∧ (l.length : Int) ≤ 30 ∧ ([] : List (List (List UInt8))).length = ([] : List Pr).length) ⟨by omega, by omega, rfl⟩, decide_eq_true (p := 0 ≤ (0 : Int) ∧ (0 : Int) ≤ (l.length : Int) - (([] : List Pr).length : Int)) ⟨by omega, by simp⟩, Bool.true_and, Bool.true_and, Bool.true_and]
  by_cases c0 : l.length = 0
  ·rw [if_pos c0, if_pos (by omega)]
  ·rw [if_neg c0, if_neg (by omega)]; rfl
theorem rootL_self (l : List Pr) (h : rightP l = true) (F T : Nat) (hT : T ≤ l.length) : soundS (rootL l) (someN l F T) = (decide (l.length = 0) || decide (F < T)) := by
 rw [sound_some _ l h F T hT]
 by_cases c : l.length = 0
 ·have : l = [] := List.length_eq_zero_iff.1 c
  subst this
  rw [if_pos c, decide_eq_true c]
  exact (hq_iff _ _).2 rfl
 ·rw [if_neg c, decide_eq_false c, Bool.false_or, (hq_iff (rootL l) (rootL l)).2 rfl, Bool.and_true]
end Go.Ax.V
