/-
  Chapter 17: what is accepted is so, or two unlike texts that were hashed have one sum; an honest response is accepted.
-/
import Derived.Test.YtnckmagemlajeaaCAdmitBindsLA
namespace Go.Ax.V
open Go.Ax
set_option linter.unusedVariables false
set_option linter.unusedSimpArgs false
theorem pscan_same (a b : List Pr) (hl : a.length = b.length) {ρ : Type} (r r0 : ρ) (hr : r ≠ r0) : scan (fun i => if a.getD i zPr = b.getD i zPr then none else some r) r0 0 a.length = if a = b then r0 else r := by
 by_cases e : a = b
 ·subst e
  rw [if_pos rfl]
  exact scan_none _ _ (fun j _ _ => if_pos rfl)
 ·rw [if_neg e]
  have : ∃ j, j < a.length ∧ a.getD j zPr ≠ b.getD j zPr := by
   apply Classical.byContradiction
   intro hn
   apply e
   apply List.ext_getElem hl
   intro i h1 h2
   apply Classical.byContradiction
   intro hne
   exact hn ⟨i, h1, by rw [List.getD_eq_getElem?_getD, List.getD_eq_getElem?_getD, List.getElem?_eq_getElem h1, List.getElem?_eq_getElem h2]; exact hne⟩
  obtain ⟨j, hj⟩ := Nat.find_of this
  refine scan_some a.length 0 j (Nat.zero_le _) (by omega) (fun j' _ h => if_pos ?_) (if_neg hj.1.2)
  exact Classical.byContradiction fun hne => hj.2 j' h ⟨by omega, hne⟩
theorem peq_step (x0 : List Pr) (x1 : List Pr) (x2 : Int) (x3 : Int) : slices_Equal_LPair_Pair_1_step x0 x1 x2 x3 =
  (fork (decide (x3 < x2)) (need (0 ≤ x3 ∧ x3 < (List.length x0 : Int)) (need (0 ≤ x3 ∧ x3 < (List.length x1 : Int)) (fork (!(Ty.beq (.fld .str (.fld .str .unit)) (List.getD x0 (Int.toNat x3) zPr) (List.getD x1 (Int.toNat x3) zPr))) (some (.inr (.inl false))) (some (.inl (w64 (x3 + (1 : Int)))))))) (some (.inr (.inr ()))) : Option ((Int) ⊕ ((Bool) ⊕ (Unit)))) := rfl
theorem pequal_eq (a b : List Pr) (ha : a.length ≤ 1073741824) : slices_Equal_LPair_Pair a b = some (decide (a = b)) := by
 by_cases hl : a.length = b.length
 ·have h : slices_Equal_LPair_Pair_1 a b (a.length : Int) 0 = some (scan (fun i => if a.getD i zPr = b.getD i zPr then none else some (.inl false)) (.inr ()) 0 a.length) := by
   unfold slices_Equal_LPair_Pair_1
   refine loop_scan (step := fun (s : Int) => slices_Equal_LPair_Pair_1_step a b (a.length : Int) s) (fun i => (i : Int)) _ _ a.length (fun i hi h => ?_) (fun i r hi h => ?_) ?_ a.length 0 (by omega)
   ·rw [peq_step, fork_t (by omega), need_true (by omega), need_true (by omega), Int.toNat_natCast, pbeq, w64_eq (by omega) (by omega)]
    by_cases e : a.getD i zPr = b.getD i zPr
    ·rw [fork_nt e]; rfl
    ·rw [if_neg e] at h; cases h
   ·rw [peq_step, fork_t (by omega), need_true (by omega), need_true (by omega), Int.toNat_natCast, pbeq]
    by_cases e : a.getD i zPr = b.getD i zPr
    ·rw [if_pos e] at h; cases h
    ·rw [if_neg e] at h; injection h with h; subst h; rw [fork_nf e]
   ·rw [peq_step, fork_f (by omega)]
  unfold slices_Equal_LPair_Pair
  rw [fork_nt (by omega), h, andThen_mk, pscan_same a b hl _ _ (by simp)]
  by_cases e : a = b
  ·rw [if_pos e, decide_eq_true e]
  ·rw [if_neg e, decide_eq_false e]
 ·unfold slices_Equal_LPair_Pair
  rw [fork_nf (by omega), decide_eq_false (fun e => hl (by rw [e]))]
theorem psm_step (x0 : List Pr) (x1 : List Pr) (x2 : Int) : affiantbook_Same_Pair_1_step x0 x1 x2 =
  (fork (decide (x2 < (List.length x0 : Int))) (need (0 ≤ x2 ∧ x2 < (List.length x0 : Int)) (need (0 ≤ x2 ∧ x2 < (List.length x1 : Int)) (fork (!(Ty.beq (.fld .str (.fld .str .unit)) (List.getD x0 (Int.toNat x2) zPr) (List.getD x1 (Int.toNat x2) zPr))) (some (.inr (.inl false))) (some (.inl (w64 (x2 + (1 : Int)))))))) (some (.inr (.inr ()))) : Option ((Int) ⊕ ((Bool) ⊕ (Unit)))) := rfl
theorem psame_eq (a b : List Pr) (ha : a.length ≤ 1073741824) : affiantbook_Same_Pair a b = some (decide (a = b)) := by
 by_cases hl : a.length = b.length
 ·have h : affiantbook_Same_Pair_1 a b 0 = some (scan (fun i => if a.getD i zPr = b.getD i zPr then none else some (.inl false)) (.inr ()) 0 a.length) := by
   unfold affiantbook_Same_Pair_1
   refine loop_scan (step := fun (s : Int) => affiantbook_Same_Pair_1_step a b s) (fun i => (i : Int)) _ _ a.length (fun i hi h => ?_) (fun i r hi h => ?_) ?_ a.length 0 (by omega)
   ·rw [psm_step, fork_t (by omega), need_true (by omega), need_true (by omega), Int.toNat_natCast, pbeq, w64_eq (by omega) (by omega)]
    by_cases e : a.getD i zPr = b.getD i zPr
    ·rw [fork_nt e]; rfl
    ·rw [if_neg e] at h; cases h
   ·rw [psm_step, fork_t (by omega), need_true (by omega), need_true (by omega), Int.toNat_natCast, pbeq]
    by_cases e : a.getD i zPr = b.getD i zPr
    ·rw [if_pos e] at h; cases h
    ·rw [if_neg e] at h; injection h with h; subst h; rw [fork_nf e]
   ·rw [psm_step, fork_f (by omega)]
  unfold affiantbook_Same_Pair
  rw [fork_nt (by omega), h, andThen_mk, pscan_same a b hl _ _ (by simp)]
  by_cases e : a = b
  ·rw [if_pos e, decide_eq_true e]
  ·rw [if_neg e, decide_eq_false e]
 ·unfold affiantbook_Same_Pair
  rw [fork_nf (by omega), decide_eq_false (fun e => hl (by rw [e]))]
abbrev hq (a b : List UInt8) : Bool := Ty.beq (.arr 32 (.int .u8)) a b
theorem hq_iff (a b : List UInt8) : hq a b = true ↔ a = b := Ty.beq_iff (.arr 32 (.int .u8)) rfl a b
def okP (l : List Pr) (i : Nat) : Bool := mayP (l.getD i zPr) && (i == 0 || sless (l.getD (i - 1) zPr).1 (l.getD i zPr).1)
def rightP (l : List Pr) : Bool := (List.range l.length).all (okP l) && decide (l.length ≤ 30)
theorem kr_step (x0 : List Pr) (x1 : List Pr) (x2 : Int) (x3 : Int) : kv_Right_1_step x0 x1 x2 x3 =
  (fork (decide (x3 < x2)) (need (0 ≤ x3 ∧ x3 < (List.length x1 : Int)) (andThen (kv_may (List.getD x1 (Int.toNat x3) zPr)) (fun u4 => fork (!u4) (some (.inr (.inl false))) (fork (decide ((0 : Int) < x3)) (need (0 ≤ (w64 (x3 - (1 : Int))) ∧ (w64 (x3 - (1 : Int))) < (List.length x0 : Int)) (fork (!sless (List.getD x0 (Int.toNat (w64 (x3 - (1 : Int)))) zPr).1 (List.getD x1 (Int.toNat x3) zPr).1) (some (.inr (.inl false))) (some (.inl (w64 (x3 + (1 : Int))))))) (some (.inl (w64 (x3 + (1 : Int))))))))) (some (.inr (.inr x0))) : Option ((Int) ⊕ ((Bool) ⊕ (List Pr)))) := rfl
theorem kright_eq (l : List Pr) (hl : l.length ≤ 1073741824) : kv_Right l = some (rightP l) := by
 have main : kv_Right_1 l l (l.length : Int) 0 = some (scan (fun i => if okP l i then none else some (.inl false)) (.inr l) 0 l.length) := by
  unfold kv_Right_1
  have step : ∀ i, i < l.length → kv_Right_1_step l l (l.length : Int) (i : Int) = if okP l i then some (.inl ((i + 1 : Nat) : Int)) else some (.inr (.inl false)) := by
   intro i hi
   rw [kr_step]
   simp (disch := omega) only [fork_t, w64_eq, need_true, Int.toNat_natCast, mayP_eq, andThen_mk]
   unfold okP
   by_cases hm : mayP (l.getD i zPr)
   ·rw [hm]
    rw [show (!true) = false from rfl, fork_ff, Bool.true_and]
    by_cases h0 : i = 0
    ·subst h0; rw [fork_f (by omega)]; rfl
    ·rw [fork_t (by omega), need_true (by omega), show Int.toNat ((i : Int) - 1) = i - 1 from by omega]
     have : (i == 0) = false := by simp [h0]
     rw [this, Bool.false_or]
     by_cases hs : sless (l.getD (i - 1) zPr).1 (l.getD i zPr).1
     ·rw [hs]; rfl
     ·rw [Bool.not_eq_true] at hs; rw [hs]; rfl
   ·rw [Bool.not_eq_true] at hm; rw [hm]; rfl
  refine loop_scan (step := fun (s : Int) => kv_Right_1_step l l (l.length : Int) s) (fun i => (i : Int)) _ _ l.length (fun i hi h => ?_) (fun i r hi h => ?_) ?_ l.length 0 (by omega)
  ·by_cases hk : okP l i
   ·exact (step i hi).trans (if_pos hk)
   ·rw [if_neg hk] at h; cases h
  ·by_cases hk : okP l i
   ·rw [if_pos hk] at h; cases h
   ·rw [if_neg hk] at h; injection h with h; subst h
    exact (step i hi).trans (if_neg hk)
  ·rw [kr_step, fork_f (by omega)]
 unfold kv_Right
 rw [main, andThen_mk]
 unfold rightP
 by_cases hall : (List.range l.length).all (okP l)
 ·rw [scan_none _ _ (fun j _ h => if_pos (List.all_eq_true.1 hall j (by simp; omega))), hall, Bool.true_and]
  dsimp only
  congr 1
  exact decide_eq_decide.2 (by omega)
 ·rw [Bool.not_eq_true] at hall
  have : ∃ j, j < l.length ∧ okP l j = false := by
   rw [List.all_eq_false] at hall
   obtain ⟨j, hj, hk⟩ := hall
   exact ⟨j, by simpa using hj, by simpa using hk⟩
  obtain ⟨j, hj⟩ := Nat.find_of this
  have hsc : scan (fun i => if okP l i then none else some (.inl false)) (.inr l : Bool ⊕ List Pr) 0 l.length = .inl false := by
   refine scan_some l.length 0 j (Nat.zero_le _) (by omega) (fun j' _ h => if_pos ?_) (if_neg ?_)
   ·have := hj.2 j' h
    cases hk : okP l j' with
    | true => rfl
    | false => exact absurd ⟨by omega, hk⟩ this
   ·rw [hj.1.2]; simp
  rw [hall, hsc]
  rfl
theorem rightP_iff (l : List Pr) : rightP l = true ↔ RiseP l ∧ (∀ p ∈ l, mayP p = true) ∧ l.length ≤ 30 := by
 have e : ∀ j, (l.map (·.1)).getD j [] = (l.getD j zPr).1 := fun j => by
  rw [List.getD_eq_getElem?_getD, List.getD_eq_getElem?_getD, List.getElem?_map]
  cases l[j]? <;> rfl
 unfold rightP
 rw [Bool.and_eq_true, decide_eq_true_eq]
 constructor
 ·rintro ⟨h1, h2⟩
  have key0 : ∀ i, i < l.length → okP l i = true := fun i hi => List.all_eq_true.1 h1 i (List.mem_range.2 hi)
  have hinc : incN (l.map fun p : Pr => p.1) = true := by
   refine List.all_eq_true.2 fun i hi => ?_
   have hi := List.mem_range.1 hi
   rw [List.length_map] at hi
   have := key0 (i + 1) (by omega)
   unfold okP at this
   simp only [Bool.and_eq_true, Bool.or_eq_true, beq_iff_eq] at this
   have t := this.2.resolve_left (by omega)
   rw [Nat.add_sub_cancel] at t
   rw [e, e]; exact t
  refine ⟨List.pairwise_map.1 (incN_pair _ hinc), fun p hp => ?_, h2⟩
  ·obtain ⟨i, hi, rfl⟩ := List.getElem_of_mem hp
   have := key0 i hi
   unfold okP at this
   rw [Bool.and_eq_true, List.getD_eq_getElem?_getD, List.getElem?_eq_getElem hi] at this
   exact this.1
 ·rintro ⟨h1, h2, h3⟩
  refine ⟨List.all_eq_true.2 fun i hi => ?_, h3⟩
  have hi := List.mem_range.1 hi
  unfold okP
  rw [Bool.and_eq_true, Bool.or_eq_true, beq_iff_eq]
  refine ⟨h2 _ (getD_mem hi), ?_⟩
  by_cases c : i = 0
  ·exact .inl c
  ·exact .inr (krise_get h1 (by omega) hi)
theorem mayP_b {p : Pr} (h : mayP p = true) : 1 ≤ p.1.length ∧ p.1.length ≤ 16 ∧ p.2.1.length ≤ 24 := by
 unfold mayP at h
 simp only [Bool.and_eq_true, Bool.not_eq_true', decide_eq_true_eq, decide_eq_false_iff_not, ← List.length_eq_zero_iff] at h
 omega
theorem rightP_kv {l : List Pr} (h : rightP l = true) : KvOk l ∧ RiseP l := by
 obtain ⟨h1, h2, h3⟩ := (rightP_iff l).1 h
 exact ⟨⟨by omega, fun p hp => by have := mayP_b (h2 p hp); omega⟩, h1⟩
noncomputable def provenAt (p : Prf) (i : Nat) : List UInt8 × Bool := upS (leafB (p.2.2.1.getD i zPr)) (p.2.1 + (i : Int)) p.1 (p.2.2.2.1.getD i [])
noncomputable def soundAt (root : List UInt8) (p : Prf) (i : Nat) : Bool := (provenAt p i).2 && hq (boundS p.1.toNat (provenAt p i).1) root
noncomputable def soundS (root : List UInt8) (p : Prf) : Bool :=
 decide (0 ≤ p.1 ∧ p.1 ≤ 30 ∧ p.2.2.2.1.length = p.2.2.1.length) && (rightP p.2.2.1 && (decide (0 ≤ p.2.1 ∧ p.2.1 ≤ p.1 - (p.2.2.1.length : Int)) && (if p.1 = 0 then hq root (rootL []) else (decide (0 < p.2.2.1.length) && (List.range p.2.2.1.length).all (soundAt root p)))))
def PrfOk (p : Prf) : Prop := (∀ x ∈ p.2.2.2.1, x.length ≤ 1000 ∧ ∀ h ∈ x, h.length = 32) ∧ p.2.2.1.length ≤ 1000000 ∧ p.2.2.2.1.length ≤ 1000000
theorem upS_32 (leaf : List UInt8) (i n : Int) (p : List (List UInt8)) : (upS leaf i n p).1.length = 32 := by
 unfold upS
 split
 ·exact climb_32 _ _ _ (sha_len _)
 ·simp
theorem whole_eq (n : Nat) (r : List UInt8) (hr : r.length = 32) : check_whole (n : Int) r = some (boundS n r) := by
 have hp : putS [(n : Int)] = oneS n := by simp [putS]
 have h1 := oneS_len (n : Int)
 have hf : [oneS (n : Int), r].flatten = oneS (n : Int) ++ r := by simp
 unfold check_whole
 rw [put_eq _ (by simp), andThen_mk, hp, tagged_eq _ _ (by rw [hf, List.length_append]; omega) (by simp), hf]
 rfl
theorem cs_step (x0 : List Pr) (x1 : Int) (x2 : Int) (x3 : List UInt8) (x4 : Prf) : check_Sound_1_step x0 x1 x2 x3 x4 =
  (fork (decide (x2 < x1)) (need (0 ≤ x2 ∧ x2 < (List.length x0 : Int)) (andThen (kv_Leaf (List.getD x0 (Int.toNat x2) zPr)) (fun u16 => need (0 ≤ x2 ∧ x2 < (List.length x4.2.2.2.1 : Int)) (andThen (tree_Up u16 (w64 (x4.2.1 + x2)) x4.1 (List.getD x4.2.2.2.1 (Int.toNat x2) ([] : List (List UInt8)))) (fun u19 => fork (!u19.2) (some (.inr (.inl ()))) (andThen (check_whole x4.1 u19.1) (fun u22 => fork (!(Ty.beq (.arr 32 (.int .u8)) u22 x3)) (some (.inr (.inl ()))) (some (.inl (w64 (x2 + (1 : Int)))))))))))) (some (.inr (.inr ()))) : Option ((Int) ⊕ ((Unit) ⊕ (Unit)))) := rfl
theorem scan_all {ρ : Type} (f : Nat → Bool) (r r0 : ρ) (n : Nat) : scan (fun i => if f i then none else some r) r0 0 n = if (List.range n).all f then r0 else r := by
 by_cases h : (List.range n).all f = true
 ·rw [if_pos h]
  exact scan_none _ _ fun j _ hj => if_pos (List.all_eq_true.1 h j (List.mem_range.2 (by omega)))
 ·rw [if_neg h]
  rw [Bool.not_eq_true, List.all_eq_false] at h
  obtain ⟨j, hj, hf⟩ := h
  obtain ⟨k, hk⟩ := Nat.find_of (p := fun j => j < n ∧ ¬ f j = true) ⟨j, List.mem_range.1 hj, hf⟩
  refine scan_some n 0 k (Nat.zero_le _) (by omega) (fun j' _ h => if_pos ?_) (if_neg hk.1.2)
  exact Classical.byContradiction fun q => hk.2 j' h ⟨by omega, q⟩
theorem path_ok {p : Prf} (h : PrfOk p) (i : Nat) : (∀ x ∈ p.2.2.2.1.getD i [], x.length = 32) ∧ (p.2.2.2.1.getD i []).length ≤ 100000 := by
 by_cases c : i < p.2.2.2.1.length
 ·have := h.1 _ (getD_mem (z := []) c)
  exact ⟨this.2, by omega⟩
 ·rw [List.getD_eq_getElem?_getD, List.getElem?_eq_none (by omega)]; simp
theorem checkSound_eq (root : List UInt8) (p : Prf) (h : PrfOk p) : check_Sound root p = some (soundS root p) := by
 have hn := h.2.1
 unfold check_Sound soundS
 by_cases c1 : p.1 < 0
 ·rw [fork_t c1, decide_eq_false (fun q => absurd q.1 (by omega))]; rfl
 rw [fork_f c1]
 by_cases c2 : 30 < p.1
 ·rw [fork_t c2, decide_eq_false (fun q => absurd q.2.1 (by omega))]; rfl
 rw [fork_f c2]
 by_cases c3 : p.2.2.2.1.length = p.2.2.1.length
 case neg => rw [fork_nf (by omega), decide_eq_false (fun q => c3 q.2.2)]; rfl
 rw [fork_nt (by omega), kright_eq _ (by omega), andThen_mk, decide_eq_true (p := 0 ≤ p.1 ∧ p.1 ≤ 30 ∧ p.2.2.2.1.length = p.2.2.1.length) ⟨by omega, by omega, c3⟩, Bool.true_and]
 cases c4 : rightP p.2.2.1 with
 | false => rfl
 | true =>
  obtain ⟨hk, hr⟩ := rightP_kv c4
  have hl := hk.1
  rw [Bool.not_true, fork_ff, Bool.true_and]
  by_cases c5 : p.2.1 < 0
  ·rw [fork_t c5, decide_eq_false (fun q => absurd q.1 (by omega))]; rfl
  rw [fork_f c5, w64_eq (by omega) (by omega)]
  by_cases c6 : p.1 - (p.2.2.1.length : Int) < p.2.1
  ·rw [fork_t c6, decide_eq_false (fun q => absurd q.2 (by omega))]; rfl
  rw [fork_f c6, decide_eq_true (p := 0 ≤ p.2.1 ∧ p.2.1 ≤ p.1 - (p.2.2.1.length : Int)) ⟨by omega, by omega⟩, Bool.true_and]
  by_cases c7 : p.1 = 0
  ·rw [fork_t c7, if_pos c7, stroot_eq [] ⟨by simp, by simp⟩, andThen_mk]
  rw [fork_f c7, if_neg c7]
  by_cases c8 : p.2.2.1.length = 0
  ·rw [fork_t (by omega), decide_eq_false (by omega)]; rfl
  rw [fork_f (by omega), decide_eq_true (p := 0 < p.2.2.1.length) (by omega), Bool.true_and]
  have m : check_Sound_1 p.2.2.1 (p.2.2.1.length : Int) 0 root p = some (scan (fun i => if soundAt root p i then none else some (.inl ())) (.inr ()) 0 p.2.2.1.length) := by
   unfold check_Sound_1
   have step : ∀ i, i < p.2.2.1.length → check_Sound_1_step p.2.2.1 (p.2.2.1.length : Int) (i : Int) root p = if soundAt root p i then some (.inl ((i + 1 : Nat) : Int)) else some (.inr (.inl ())) := by
    intro i hi
    obtain ⟨po1, po2⟩ := path_ok h i
    have hlf := hk.2 _ (getD_mem (z := zPr) hi)
    have hlb := leafB_len hlf
    have hnum : p.1 = ((p.1.toNat : Nat) : Int) := by omega
    have hw : check_whole p.1 (upS (leafB (p.2.2.1.getD i zPr)) (p.2.1 + (i : Int)) p.1 (p.2.2.2.1.getD i [])).1 = some (boundS p.1.toNat (upS (leafB (p.2.2.1.getD i zPr)) (p.2.1 + (i : Int)) p.1 (p.2.2.2.1.getD i [])).1) := by
     have := whole_eq p.1.toNat _ (upS_32 (leafB (p.2.2.1.getD i zPr)) (p.2.1 + (i : Int)) p.1 (p.2.2.2.1.getD i []))
     rw [← hnum] at this; exact this
    rw [cs_step, fork_t (by omega), need_true (by omega), Int.toNat_natCast, leaf_eq _ hlf, andThen_mk, need_true (by omega), w64_eq (n := p.2.1 + (i : Int)) (by omega) (by omega), up_eq _ (by omega) _ _ (by omega) _ po1 po2, andThen_mk, hw, andThen_mk, w64_eq (by omega) (by omega)]
    unfold soundAt provenAt
    cases (upS (leafB (p.2.2.1.getD i zPr)) (p.2.1 + (i : Int)) p.1 (p.2.2.2.1.getD i [])).2 with
    | false => rfl
    | true =>
     rw [Bool.not_true, fork_ff, Bool.true_and]
     unfold hq
     cases Ty.beq (.arr 32 (.int .u8)) (boundS p.1.toNat (upS (leafB (p.2.2.1.getD i zPr)) (p.2.1 + (i : Int)) p.1 (p.2.2.2.1.getD i [])).1) root <;> rfl
   refine loop_scan (step := fun (s : Int) => check_Sound_1_step p.2.2.1 (p.2.2.1.length : Int) s root p) (fun i => (i : Int)) _ _ p.2.2.1.length (fun i hi h => ?_) (fun i r hi h => ?_) ?_ p.2.2.1.length 0 (by omega)
   ·by_cases hk : soundAt root p i
    ·exact (step i hi).trans (if_pos hk)
    ·rw [if_neg hk] at h; cases h
   ·by_cases hk : soundAt root p i
    ·rw [if_pos hk] at h; cases h
    ·rw [if_neg hk] at h; injection h with h; subst h
     exact (step i hi).trans (if_neg hk)
   ·rw [cs_step, fork_f (by omega)]
  rw [m, andThen_mk, scan_all]
  cases (List.range p.2.2.1.length).all (soundAt root p) <;> rfl
theorem sound_kv {root : List UInt8} {p : Prf} (h : soundS root p = true) : KvOk p.2.2.1 ∧ RiseP p.2.2.1 := by
 unfold soundS at h
 rw [Bool.and_eq_true, Bool.and_eq_true] at h
 exact rightP_kv h.2.1
theorem sound_num {root : List UInt8} {p : Prf} (h : soundS root p = true) : 0 ≤ p.1 ∧ p.1 ≤ 30 ∧ 0 ≤ p.2.1 ∧ p.2.1 ≤ p.1 - (p.2.2.1.length : Int) ∧ (p.2.2.1.length = 0 ↔ p.1 = 0) := by
 unfold soundS at h
 simp only [Bool.and_eq_true, decide_eq_true_eq] at h
 obtain ⟨⟨h1, h2, _⟩, _, ⟨h3, h4⟩, h5⟩ := h
 refine ⟨h1, h2, h3, h4, fun e => ?_, fun e => by omega⟩
 apply Classical.byContradiction
 intro c
 rw [if_neg c, Bool.and_eq_true, decide_eq_true_eq] at h5
 omega
def inR (a b : List UInt8) (p : Pr) : Bool := !sless p.1 a && sless p.1 b
def rangeF (l : List Pr) (a b : List UInt8) : List Pr := l.filter (inR a b)
theorem mem_cutL {l : List Pr} {a b : Nat} {q : Pr} : q ∈ cutL l (a : Int) (b : Int) ↔ ∃ i, a ≤ i ∧ i < b ∧ i < l.length ∧ l.getD i zPr = q := by
 unfold cutL
 rw [Int.toNat_natCast, Int.toNat_natCast]
 constructor
 ·intro h
  obtain ⟨i, h1, h2, h3⟩ := mem_drop_get h
  rw [List.length_take] at h2
  rw [List.getD_eq_getElem?_getD, List.getElem?_take, if_pos (by omega), ← List.getD_eq_getElem?_getD] at h3
  exact ⟨i, h1, by omega, by omega, h3⟩
 ·rintro ⟨i, h1, h2, h3, rfl⟩
  have e : (l.take b).drop a = (l.drop a).take (b - a) := by rw [List.drop_take]
  have hm : ((l.take b).drop a).getD (i - a) zPr = l.getD i zPr := by
   rw [List.getD_eq_getElem?_getD, List.getD_eq_getElem?_getD, List.getElem?_drop, List.getElem?_take, if_pos (by omega)]
   congr 2; omega
  rw [← hm]
  exact getD_mem (by rw [List.length_drop, List.length_take]; omega)
theorem kvRange_eq (l : List Pr) (hr : RiseP l) (hl : l.length ≤ 1000) (a b : List UInt8) : kv_Range l a b = some (rangeF l a b) := by
 have h1 := below_le l a
 have h2 := below_le l b
 have e : cutL l ((belowN l a : Nat) : Int) ((max (belowN l a) (belowN l b) : Nat) : Int) = rangeF l a b := by
  refine krise_ext ?_ (hr.sublist List.filter_sublist) fun q => ?_
  ·unfold cutL
   exact (hr.sublist (List.take_sublist _ _)).sublist (List.drop_sublist _ _)
  ·rw [mem_cutL]
   unfold rangeF inR
   rw [List.mem_filter, Bool.and_eq_true, Bool.not_eq_true']
   constructor
   ·rintro ⟨i, g1, g2, g3, rfl⟩
    refine ⟨getD_mem g3, ?_, (below_iff hr b g3).2 (by omega)⟩
    cases c : sless (l.getD i zPr).1 a with
    | false => rfl
    | true => have := (below_iff hr a g3).1 c; omega
   ·rintro ⟨g1, g2, g3⟩
    obtain ⟨i, hi, rfl⟩ := List.getElem_of_mem g1
    have hg : l.getD i zPr = l[i] := by rw [List.getD_eq_getElem?_getD, List.getElem?_eq_getElem hi]; rfl
    rw [← hg] at g2 g3
    have := (below_iff hr b hi).1 g3
    refine ⟨i, ?_, by omega, hi, hg⟩
    apply Classical.byContradiction
    intro c
    rw [(below_iff hr a hi).2 (by omega)] at g2; cases g2
 unfold kv_Range
 rw [kfirst_eq l hr hl, andThen_mk, kfirst_eq l hr hl, andThen_mk, show max (belowN l a : Int) (belowN l b : Int) = ((max (belowN l a) (belowN l b) : Nat) : Int) from by omega, need_true (by omega), e]
 unfold slices_Clone_LPair_Pair
 have hle : (rangeF l a b).length ≤ l.length := List.length_filter_le _ _
 rw [need_true (by omega), andThen_mk]
def beginsS (p : Prf) (a : List UInt8) : Bool := decide (p.2.1 = 0) || sless (p.2.2.1.getD 0 zPr).1 a
def endsS (p : Prf) (m : List UInt8) : Bool := decide (p.2.1 + (p.2.2.1.length : Int) = p.1) || !sless (p.2.2.1.getD (p.2.2.1.length - 1) zPr).1 m
noncomputable def rangeS (root a b : List UInt8) (p : Prf) : List Pr × Bool :=
 if soundS root p then (if p.2.2.1.length = 0 then ([], true) else if beginsS p a && endsS p (maxS a b) then (rangeF p.2.2.1 a b, true) else ([], false)) else ([], false)
theorem checkRange_eq (root a b : List UInt8) (p : Prf) (h : PrfOk p) : check_Range root a b p = some (rangeS root a b p) := by
 unfold check_Range rangeS
 rw [checkSound_eq root p h, andThen_mk]
 cases hs : soundS root p with
 | false => rfl
 | true =>
  obtain ⟨hk, hr⟩ := sound_kv hs
  have hl := hk.1
  obtain ⟨n1, n2, n3, n4, n5⟩ := sound_num hs
  rw [Bool.not_true, fork_ff, if_pos rfl, kvRange_eq _ hr (by omega), andThen_mk]
  by_cases c : p.2.2.1.length = 0
  ·rw [fork_t (by omega), if_pos c]
  rw [fork_f (by omega), if_neg c, w64_eq (n := p.2.1 + _) (by omega) (by omega), w64_eq (by omega) (by omega), need_true (by omega), need_true (by omega), show Int.toNat ((p.2.2.1.length : Int) - 1) = p.2.2.1.length - 1 from by omega, show Int.toNat (0 : Int) = 0 from rfl]
  unfold beginsS endsS
  by_cases c1 : p.2.1 = 0
  ·rw [fork_t c1, decide_eq_true c1, Bool.true_or, Bool.true_and]
   by_cases c2 : p.2.1 + (p.2.2.1.length : Int) = p.1
   ·rw [fork_t c2, decide_eq_true c2]; rfl
   ·rw [fork_f c2, decide_eq_false c2, Bool.false_or]
    show fork (!(!sless (p.2.2.1.getD (p.2.2.1.length - 1) zPr).1 (maxS a b))) _ _ = _
    cases sless (p.2.2.1.getD (p.2.2.1.length - 1) zPr).1 (maxS a b) <;> rfl
  ·rw [fork_f c1, decide_eq_false c1, Bool.false_or]
   by_cases c2 : p.2.1 + (p.2.2.1.length : Int) = p.1
   ·rw [fork_t c2, decide_eq_true c2, Bool.true_or, Bool.and_true]
    show fork (!sless (p.2.2.1.getD 0 zPr).1 a) _ _ = _
    cases sless (p.2.2.1.getD 0 zPr).1 a <;> rfl
   ·rw [fork_f c2, decide_eq_false c2, Bool.false_or, need_true (by omega)]
    show fork (!sless (p.2.2.1.getD 0 zPr).1 a) _ (fork (!(!sless (p.2.2.1.getD (p.2.2.1.length - 1) zPr).1 (maxS a b))) _ _) = _
    cases sless (p.2.2.1.getD 0 zPr).1 a <;> cases sless (p.2.2.1.getD (p.2.2.1.length - 1) zPr).1 (maxS a b) <;> rfl
theorem rangeS_sound {root a b : List UInt8} {p : Prf} (h : (rangeS root a b p).2 = true) : soundS root p = true := by
 unfold rangeS at h
 cases hs : soundS root p with
 | true => rfl
 | false => rw [hs, if_neg (by simp)] at h; cases h
noncomputable def absS (root k : List UInt8) (p : Prf) : Bool := (rangeS root k k p).2 && !isAt p.2.2.1 k
theorem checkAbsent_eq (root k : List UInt8) (p : Prf) (h : PrfOk p) : check_Absent root k p = some (absS root k p) := by
 unfold check_Absent absS
 rw [checkRange_eq root k k p h, andThen_mk]
 cases hs : (rangeS root k k p).2 with
 | false => rfl
 | true =>
  obtain ⟨hk, hr⟩ := sound_kv (rangeS_sound hs)
  have hl := hk.1
  rw [Bool.not_true, fork_ff, kget_eq _ hr (by omega), andThen_mk, Bool.true_and]
  cases isAt p.2.2.1 k <;> rfl
noncomputable def existS (root : List UInt8) (x : Pr) (p : Prf) : Bool := soundS root p && decide (p.2.2.1 = [x])
theorem checkExist_eq (root : List UInt8) (x : Pr) (p : Prf) (h : PrfOk p) : check_Exist root x p = some (existS root x p) := by
 have := h.2.1
 unfold check_Exist existS
 rw [checkSound_eq root p h, andThen_mk]
 cases soundS root p with
 | false => rfl
 | true => rw [fork_tt, pequal_eq _ _ (by omega), andThen_mk, Bool.true_and]
theorem someN_ok (l : List Pr) (h : KvOk l) (F T : Nat) (hT : T ≤ 1000) : PrfOk (someN l F T) := by
 have hl := h.1
 unfold someN
 by_cases c : T ≤ F
 ·rw [if_pos c]; exact ⟨by simp, by simp, by simp⟩
 ·rw [if_neg c]
  obtain ⟨a, b⟩ := pathsN_b l hl F (T - F)
  refine ⟨fun x hx => ⟨by have := b x hx; omega, ?_⟩, by show ((l.drop F).take (T - F)).length ≤ _; rw [List.length_take, List.length_drop]; omega, by show (pathsN l F (T - F)).length ≤ _; omega⟩
  obtain ⟨j, _, rfl⟩ := List.mem_map.1 hx
  unfold pathS
  split
  ·exact pathF_32 _ _ _
  ·simp
theorem up_path (l : List Pr) (hl : l.length ≤ 60) (i : Nat) (hi : i < l.length) : upS (leafB (l.getD i zPr)) (i : Int) (l.length : Int) (pathS (leavesB l) (i : Int)) = (rootS (leavesB l), true) := by
 have hg : (leavesB l).getD i [] = leafB (l.getD i zPr) := by
  unfold leavesB
  rw [List.getD_eq_getElem?_getD, List.getD_eq_getElem?_getD, List.getElem?_map, List.getElem?_eq_getElem hi]; rfl
 have hp := path_up l.length (leavesB l) i (by rw [leavesB_len]; omega) (by rw [leavesB_len]; omega) (by rw [leavesB_len]; omega)
 have hs := path_sides l.length (leavesB l) i (by rw [leavesB_len]; omega)
 rw [leavesB_len, hg] at hp
 rw [leavesB_len] at hs
 have e : pathS (leavesB l) (i : Int) = pathF l.length (leavesB l) i := by
  unfold pathS
  rw [leavesB_len, if_pos (by omega), Int.toNat_natCast]
 unfold upS
 rw [e, if_pos ⟨(isS_iff _ _).2 (by omega), by rw [Int.toNat_natCast, Int.toNat_natCast]; exact hs⟩, Int.toNat_natCast, Int.toNat_natCast, hp]
theorem row_right {l : List Pr} (h : RowOk l) : rightP l = true := by
 rw [rightP_iff]
 refine ⟨h.1, fun p hp => ?_, by have := h.2.1; omega⟩
 have := keys_b _ (h.2.2.1 p hp)
 have h3 := h.2.2.2 p hp
 unfold mayP
 have hne : p.1 ≠ [] := fun e => by rw [e] at this; simp at this
 simp only [Bool.and_eq_true, Bool.not_eq_true', decide_eq_true_eq, decide_eq_false_iff_not]
 exact ⟨hne, by omega, by omega⟩
theorem right_sub {l m : List Pr} (h : rightP l = true) (hs : m.Sublist l) : rightP m = true := by
 obtain ⟨h1, h2, h3⟩ := (rightP_iff l).1 h
 exact (rightP_iff m).2 ⟨h1.sublist hs, fun p hp => h2 p (hs.subset hp), Nat.le_trans hs.length_le h3⟩
theorem someN_parts (l : List Pr) {F T : Nat} (h : F < T) : someN l F T = ((l.length : Int), (F : Int), (l.drop F).take (T - F), pathsN l F (T - F), ()) := by unfold someN; rw [if_neg (by omega)]
theorem sound_some (root : List UInt8) (l : List Pr) (h : rightP l = true) (F T : Nat) (hT : T ≤ l.length) : soundS root (someN l F T) = if l.length = 0 then hq root (rootL []) else decide (F < T) && hq (rootL l) root := by
 obtain ⟨hk, hr⟩ := rightP_kv h
 have h30 := ((rightP_iff l).1 h).2.2
 by_cases c : F < T
 ·have e1 : ((l.drop F).take (T - F)).length = T - F := by rw [List.length_take, List.length_drop]; omega
  obtain ⟨e2, e3⟩ := pathsN_b l hk.1 F (T - F)
  have hat : ∀ i, i < T - F → soundAt root (someN l F T) i = hq (rootL l) root := fun i hi => by
   have g1 : ((l.drop F).take (T - F)).getD i zPr = l.getD (F + i) zPr := by
    rw [List.getD_eq_getElem?_getD, List.getD_eq_getElem?_getD, List.getElem?_take, if_pos hi, List.getElem?_drop]
   have g2 : (pathsN l F (T - F)).getD i [] = pathS (leavesB l) ((F + i : Nat) : Int) := by
    unfold pathsN
    rw [List.getD_eq_getElem?_getD, List.getElem?_map, List.getElem?_range hi]; rfl
   have hu := up_path l hk.1 (F + i) (by omega)
   unfold soundAt provenAt
   rw [someN_parts l c]
   dsimp only
   rw [g1, g2, show (F : Int) + (i : Int) = ((F + i : Nat) : Int) from by omega, hu, Int.toNat_natCast]
   rfl
  rw [if_neg (by omega), decide_eq_true c, Bool.true_and]
  have hall : (List.range (T - F)).all (soundAt root (someN l F T)) = hq (rootL l) root := by
   cases hv : hq (rootL l) root with
   | true => exact List.all_eq_true.2 fun i hi => by rw [hat i (List.mem_range.1 hi), hv]
   | false => exact List.all_eq_false.2 ⟨0, List.mem_range.2 (by omega), by rw [hat 0 (by omega), hv]; simp⟩
  unfold soundS
  rw [someN_parts l c] at hall ⊢
  dsimp only at hall ⊢
  rw [e1, e2, hall, right_sub h ((List.take_sublist _ _).trans (List.drop_sublist _ _)), decide_eq_true (p := 0 ≤ (l.length : Int) ∧ (l.length : Int) ≤ 30 ∧ T - F = T - F) ⟨by omega, by omega, rfl⟩, decide_eq_true (p := 0 ≤ (F : Int) ∧ (F : Int) ≤ (l.length : Int) - ((T - F : Nat) : Int)) ⟨by omega, by omega⟩, if_neg (by omega), decide_eq_true (p := 0 < T - F) (by omega)]
  rfl
 ·have es : someN l F T = ((l.length : Int), 0, [], [], ()) := by unfold someN; rw [if_pos (by omega)]
  have hn : rightP ([] : List Pr) = true := rfl
  rw [decide_eq_false c, Bool.false_and]
  unfold soundS
  rw [es]
  dsimp only
  rw [hn, decide_eq_true (p := 0 ≤ (l.length : Int) ∧ (l.length : Int) ≤ 30 ∧ ([] : List (List (List UInt8))).length = ([] : List Pr).length) ⟨by omega, by omega, rfl⟩, decide_eq_true (p := 0 ≤ (0 : Int) ∧ (0 : Int) ≤ (l.length : Int) - (([] : List Pr).length : Int)) ⟨by omega, by simp⟩, Bool.true_and, Bool.true_and, Bool.true_and]
  by_cases c0 : l.length = 0
  ·rw [if_pos c0, if_pos (by omega)]
  ·rw [if_neg c0, if_neg (by omega)]; rfl
theorem rootL_self (l : List Pr) (h : rightP l = true) (F T : Nat) (hT : T ≤ l.length) : soundS (rootL l) (someN l F T) = (decide (l.length = 0) || decide (F < T)) := by
 rw [sound_some _ l h F T hT]
 by_cases c : l.length = 0
 ·have : l = [] := List.length_eq_zero_iff.1 c
  subst this
  rw [if_pos c, decide_eq_true c]
  exact (hq_iff _ _).2 rfl
 ·rw [if_neg c, decide_eq_false c, Bool.false_or, (hq_iff (rootL l) (rootL l)).2 rfl, Bool.and_true]
theorem range_part (l : List Pr) (hr : RiseP l) (a b : List UInt8) (F T : Nat) (hFT : F < T) (hT : T ≤ l.length) (h1 : F = 0 ∨ F < belowN l a) (h2 : T = l.length ∨ belowN l (maxS a b) < T) : rangeF ((l.drop F).take (T - F)) a b = rangeF l a b := by
 have hm : sless b a = true ∨ belowN l b ≤ belowN l (maxS a b) := by
  unfold maxS
  cases c : sless a b with
  | true => exact .inr (Nat.le_refl _)
  | false =>
   rcases sless_tot a b c with e | e
   ·exact .inr (by rw [e]; exact Nat.le_refl _)
   ·exact .inl e
 refine krise_ext (((hr.sublist (List.drop_sublist _ _)).sublist (List.take_sublist _ _)).sublist List.filter_sublist) (hr.sublist List.filter_sublist) fun q => ?_
 unfold rangeF
 rw [List.mem_filter, List.mem_filter]
 refine ⟨fun h => ⟨List.mem_of_mem_drop (List.mem_of_mem_take h.1), h.2⟩, fun h => ⟨?_, h.2⟩⟩
 obtain ⟨g1, g2⟩ := h
 unfold inR at g2
 rw [Bool.and_eq_true, Bool.not_eq_true'] at g2
 obtain ⟨i, hi, rfl⟩ := List.getElem_of_mem g1
 have hg : l.getD i zPr = l[i] := by rw [List.getD_eq_getElem?_getD, List.getElem?_eq_getElem hi]; rfl
 rw [← hg] at g2 ⊢
 have q1 := (below_iff hr b hi).1 g2.2
 have q2 : belowN l a ≤ i := by
  apply Classical.byContradiction
  intro c
  rw [(below_iff hr a hi).2 (by omega)] at g2; cases g2.1
 have q3 : i < T := by
  rcases hm with e | e
  ·have := sless_trans _ _ _ g2.2 e
   rw [g2.1] at this; cases this
  ·omega
 have hm2 : ((l.drop F).take (T - F)).getD (i - F) zPr = l.getD i zPr := by
  rw [List.getD_eq_getElem?_getD, List.getD_eq_getElem?_getD, List.getElem?_take, if_pos (by omega), List.getElem?_drop]
  congr 2; omega
 rw [← hm2]
 exact getD_mem (by rw [List.length_take, List.length_drop]; omega)
theorem ends_get (l : List Pr) {F T : Nat} (hFT : F < T) (hT : T ≤ l.length) : ((l.drop F).take (T - F)).length = T - F ∧ ((l.drop F).take (T - F)).getD 0 zPr = l.getD F zPr ∧ ((l.drop F).take (T - F)).getD (T - F - 1) zPr = l.getD (T - 1) zPr := by
 refine ⟨by rw [List.length_take, List.length_drop]; omega, ?_, ?_⟩
 ·rw [List.getD_eq_getElem?_getD, List.getD_eq_getElem?_getD, List.getElem?_take, if_pos (by omega), List.getElem?_drop]; rfl
 ·rw [List.getD_eq_getElem?_getD, List.getD_eq_getElem?_getD, List.getElem?_take, if_pos (by omega), List.getElem?_drop]
  congr 2; omega
theorem rangeS_some (l : List Pr) (h : rightP l = true) (a b : List UInt8) (F T : Nat) (hT : T ≤ l.length) :
  rangeS (rootL l) a b (someN l F T) = if l.length = 0 ∨ (F < T ∧ (F = 0 ∨ F < belowN l a) ∧ (T = l.length ∨ belowN l (maxS a b) < T)) then (rangeF l a b, true) else ([], false) := by
 obtain ⟨hk, hr⟩ := rightP_kv h
 unfold rangeS
 rw [rootL_self l h F T hT]
 by_cases c0 : l.length = 0
 ·have e0 : l = [] := List.length_eq_zero_iff.1 c0
  have es : someN l F T = ((l.length : Int), 0, [], [], ()) := by unfold someN; rw [if_pos (by omega)]
  rw [decide_eq_true c0, Bool.true_or, if_pos rfl, es, if_pos (by rfl), if_pos (.inl c0), e0]; rfl
 rw [decide_eq_false c0, Bool.false_or]
 by_cases c : F < T
 ·obtain ⟨e1, e2, e3⟩ := ends_get l c hT
  rw [decide_eq_true c, if_pos rfl]
  have hb : beginsS (someN l F T) a = decide (F = 0 ∨ F < belowN l a) := by
   unfold beginsS
   rw [someN_parts l c]
   dsimp only
   rw [e2, Bool.eq_iff_iff, Bool.or_eq_true, decide_eq_true_eq, decide_eq_true_eq, below_iff hr a (by omega)]
   omega
  have he : endsS (someN l F T) (maxS a b) = decide (T = l.length ∨ belowN l (maxS a b) < T) := by
   unfold endsS
   rw [someN_parts l c]
   dsimp only
   rw [e1, e3, Bool.eq_iff_iff, Bool.or_eq_true, decide_eq_true_eq, decide_eq_true_eq, Bool.not_eq_true', ← Bool.not_eq_true, below_iff hr _ (by omega)]
   omega
  rw [hb, he, someN_parts l c]
  dsimp only
  rw [e1, if_neg (by omega)]
  by_cases q : (F = 0 ∨ F < belowN l a) ∧ (T = l.length ∨ belowN l (maxS a b) < T)
  ·have hP : l.length = 0 ∨ (F < T ∧ (F = 0 ∨ F < belowN l a) ∧ (T = l.length ∨ belowN l (maxS a b) < T)) := .inr ⟨c, q⟩
   rw [decide_eq_true q.1, decide_eq_true q.2, Bool.true_and, if_pos rfl, if_pos hP, range_part l hr a b F T c hT q.1 q.2]
  ·have hP : ¬ (l.length = 0 ∨ (F < T ∧ (F = 0 ∨ F < belowN l a) ∧ (T = l.length ∨ belowN l (maxS a b) < T))) := fun e => e.elim c0 (fun e => q e.2)
   have hQ : ¬ (decide (F = 0 ∨ F < belowN l a) && decide (T = l.length ∨ belowN l (maxS a b) < T)) = true := by
    rw [Bool.and_eq_true, decide_eq_true_eq, decide_eq_true_eq]; exact q
   rw [if_neg hP, if_neg hQ]
 ·have hP : ¬ (l.length = 0 ∨ (F < T ∧ (F = 0 ∨ F < belowN l a) ∧ (T = l.length ∨ belowN l (maxS a b) < T))) := fun e => e.elim c0 (fun e => c e.1)
  rw [decide_eq_false c, if_neg (by simp), if_neg hP]
theorem honest_range (l : List Pr) (hrt : rightP l = true) (a b : List UInt8) : rangeS (rootL l) a b (someN l (belowN l a - 1) (min (belowN l (maxS a b) + 1) l.length)) = (rangeF l a b, true) := by
 have h1 := below_le l a
 have h2 := below_le l (maxS a b)
 have h3 : sless (maxS a b) a = false := by
  unfold maxS
  cases c : sless a b with
  | true =>
   show sless b a = false
   cases q : sless b a with
   | false => rfl
   | true => have := sless_trans _ _ _ c q; rw [sless_irr] at this; cases this
  | false => exact sless_irr a
 have h4 := below_mono l (maxS a b) a h3
 rw [rangeS_some l hrt _ _ _ _ (by omega), if_pos]
 by_cases c : l.length = 0
 ·exact .inl c
 ·exact .inr ⟨by omega, by omega, by omega⟩
theorem someN_one (l : List Pr) {k : Nat} (hk : k < l.length) : someN l k (k + 1) = ((l.length : Int), (k : Int), [l.getD k zPr], [pathS (leavesB l) (k : Int)], ()) := by
 unfold someN
 rw [if_neg (by omega), show k + 1 - k = 0 + 1 from by omega, drop_take_succ l (by omega), pathsN_succ]
 rfl
abbrev Rsp := Int × Int × List Pr × Prf × Unit
abbrev Qry := Int × List UInt8 × List UInt8 × Int × Int × Unit
def admR (r : Rsp) : Bool := decide (1 ≤ r.2.1) && (decide (r.2.1 ≤ 16) && rightP r.2.2.1)
theorem admRight_eq (r : Rsp) (h : r.2.2.1.length ≤ 1073741824) : admit_Right r = some (admR r) := by
 unfold admit_Right admR
 rw [kright_eq _ h]
 cases decide (1 ≤ r.2.1) <;> cases decide (r.2.1 ≤ 16) <;> rfl
noncomputable def admS (q : Qry) (root : List UInt8) (r : Rsp) : Int :=
 if admR r then
  if q.1 = 2 then (if (rangeS root q.2.1 q.2.2.1 r.2.2.2.1).2 && decide ((rangeS root q.2.1 q.2.2.1 r.2.2.2.1).1 = r.2.2.1) then 0 else 2)
  else if r.2.2.1.length = 0 then (if absS root q.2.1 r.2.2.2.1 then 0 else 2)
  else if r.2.2.1.length = 1 then (if decide ((r.2.2.1.getD 0 zPr).1 = q.2.1) && existS root (r.2.2.1.getD 0 zPr) r.2.2.2.1 then 0 else 2)
  else 2
 else 1
theorem rangeS_len {root a b : List UInt8} {p : Prf} (h : PrfOk p) : (rangeS root a b p).1.length ≤ 1000000 := by
 have := h.2.1
 unfold rangeS
 split
 ·split
  ·simp
  ·split
   ·exact Nat.le_trans (List.length_filter_le _ _) this
   ·simp
 ·simp
theorem admCheck_eq (q : Qry) (root : List UInt8) (r : Rsp) (h : PrfOk r.2.2.2.1) (hl : r.2.2.1.length ≤ 1073741824) : admit_Check q root r = some (admS q root r) := by
 unfold admit_Check admS
 rw [admRight_eq r hl, andThen_mk]
 cases admR r with
 | false => rfl
 | true =>
  rw [Bool.not_true, fork_ff, if_pos rfl]
  by_cases c : q.1 = 2
  ·have hrl := rangeS_len (root := root) (a := q.2.1) (b := q.2.2.1) h
   rw [fork_t c, if_pos c, checkRange_eq _ _ _ _ h, andThen_mk]
   cases (rangeS root q.2.1 q.2.2.1 r.2.2.2.1).2 with
   | false => rfl
   | true =>
    rw [Bool.not_true, fork_ff, pequal_eq _ _ (by omega), andThen_mk, Bool.true_and]
    cases decide ((rangeS root q.2.1 q.2.2.1 r.2.2.2.1).1 = r.2.2.1) <;> rfl
  ·rw [fork_f c, if_neg c]
   by_cases c0 : r.2.2.1.length = 0
   ·rw [fork_t (by omega), if_pos c0, checkAbsent_eq _ _ _ h, andThen_mk]
    cases absS root q.2.1 r.2.2.2.1 <;> rfl
   ·rw [fork_f (by omega), if_neg c0]
    by_cases c1 : r.2.2.1.length = 1
    ·rw [fork_t (by omega), if_pos c1, need_true (by omega)]
     show fork (decide ((r.2.2.1.getD 0 zPr).1 = q.2.1)) (andThen (check_Exist root (r.2.2.1.getD 0 zPr) r.2.2.2.1) _) _ = _
     rw [checkExist_eq _ _ _ h, andThen_mk]
     cases decide ((r.2.2.1.getD 0 zPr).1 = q.2.1) with
     | false => rfl
     | true =>
      rw [fork_tt, Bool.true_and]
      cases existS root (r.2.2.1.getD 0 zPr) r.2.2.2.1 <;> rfl
    ·rw [fork_f (by omega), if_neg c1]
theorem answer_def (a0 : Int) (a1 : Qry) (a2 : Int) (a3 : List Pr) : affiantref16_Answer a0 a1 a2 a3 =
  (andThen (affiantref1_First a3 a1.2.1) (fun u1 => fork (decide (a1.1 = (1 : Int))) (fork (decide (u1 < (List.length a3 : Int))) (need (0 ≤ u1 ∧ u1 < (List.length a3 : Int)) (fork (decide ((List.getD a3 (Int.toNat u1) zPr).1 = a1.2.1)) (need (0 ≤ u1 ∧ u1 ≤ (w64 (u1 + (1 : Int))) ∧ (w64 (u1 + (1 : Int))) ≤ (List.length a3 : Int)) (andThen (affiantref1_Prove a3 u1 (w64 (u1 + (1 : Int)))) (fun u8 => some (a0, a2, (cutL a3 u1 (w64 (u1 + (1 : Int)))), u8, ())))) (andThen (affiantref16_Answer_1 a3 a1.2.1 a3 (List.length a3 : Int) (0 : Int) a1 (0 : Int) (0 : Int) (0 : Int) (0 : Int) (()) (()) a0 a2 (((0 : Int), (0 : Int), ([] : List Pr), ([] : List (List (List UInt8))), ()), ()) ([] : List Pr)) (fun o17 => andThen (affiantref1_Cover o17.1 o17.2.2.1.2.1 o17.2.1) (fun u19 => some (o17.2.2.2.2.2.2.2.2.2.1, o17.2.2.2.2.2.2.2.2.2.2.1, o17.2.2.2.2.2.2.2.2.2.2.2.2, u19, ())))))) (andThen (affiantref16_Answer_2 a3 a1.2.1 a3 (List.length a3 : Int) (0 : Int) a1 (0 : Int) (0 : Int) (0 : Int) (0 : Int) (()) (()) a0 a2 (((0 : Int), (0 : Int), ([] : List Pr), ([] : List (List (List UInt8))), ()), ()) ([] : List Pr)) (fun o28 => andThen (affiantref1_Cover o28.1 o28.2.2.1.2.1 o28.2.1) (fun u30 => some (o28.2.2.2.2.2.2.2.2.2.1, o28.2.2.2.2.2.2.2.2.2.2.1, o28.2.2.2.2.2.2.2.2.2.2.2.2, u30, ()))))) (andThen (affiantref16_Answer_3 a3 a1.2.2.1 a3 (List.length a3 : Int) (0 : Int) a1 (0 : Int) (0 : Int) (0 : Int) (0 : Int) (()) (()) a0 a2 (((0 : Int), (0 : Int), ([] : List Pr), ([] : List (List (List UInt8))), ()), ()) ([] : List Pr)) (fun o39 => andThen (affiantref1_Cover o39.1 o39.2.2.1.2.1 o39.2.1) (fun u41 => some (o39.2.2.2.2.2.2.2.2.2.1, o39.2.2.2.2.2.2.2.2.2.2.1, o39.2.2.2.2.2.2.2.2.2.2.2.2, u41, ()))))) : Option Rsp) := rfl
theorem an_step (x0 : List Pr) (x1 : List UInt8) (x2 : List Pr) (x3 : Int) (x4 : Int) (x5 : Qry) (x6 : Int) (x7 : Int) (x8 : Int) (x9 : Int) (x10 : Unit) (x11 : Unit) (x12 : Int) (x13 : Int) (x14 : Prf × Unit) (x15 : List Pr) : affiantref16_Answer_1_step x0 x1 x2 x3 x4 x5 x6 x7 x8 x9 x10 x11 x12 x13 x14 x15 =
  (fork (decide (x4 < x3)) (need (0 ≤ x4 ∧ x4 < (List.length x2 : Int)) (fork (!sless (List.getD x2 (Int.toNat x4) zPr).1 x5.2.1) (fork (sless (List.getD x2 (Int.toNat x4) zPr).1 x1) (need (List.length ([] : List Pr) + List.length x15 ≤ 2147483648) (need (List.length (([] : List Pr) ++ x15) + List.length ([(List.getD x2 (Int.toNat x4) zPr)] : List Pr) ≤ 2147483648) (some (.inl ((w64 (x4 + (1 : Int))), ((([] : List Pr) ++ x15) ++ ([(List.getD x2 (Int.toNat x4) zPr)] : List Pr))))))) (some (.inl ((w64 (x4 + (1 : Int))), x15)))) (some (.inl ((w64 (x4 + (1 : Int))), x15))))) (some (.inr (x0, x1, x5, x6, x7, x8, x9, x10, x11, x12, x13, x14, x15))) : Option ((Int × List Pr) ⊕ ((List Pr) × List UInt8 × Qry × Int × Int × Int × Int × Unit × Unit × Int × Int × (Prf × Unit) × List Pr))) := rfl
theorem same_an2 : @affiantref16_Answer_2 = @affiantref16_Answer_1 := rfl
theorem same_an3 : @affiantref16_Answer_3 = @affiantref16_Answer_1 := rfl
theorem an_loop (l : List Pr) (hl : l.length ≤ 1000) (e : List UInt8) (q : Qry) (a b c d : Int) (u v : Unit) (i j : Int) (z : Prf × Unit) :
  affiantref16_Answer_1 l e l (l.length : Int) 0 q a b c d u v i j z [] = some (l, e, q, a, b, c, d, u, v, i, j, z, rangeF l q.2.1 e) := by
 unfold affiantref16_Answer_1
 have := loop_for (step := fun (s : Int × List Pr) => affiantref16_Answer_1_step l e l (l.length : Int) s.1 q a b c d u v i j z s.2) (fun k (_ : Unit) => ((k : Int), (l.take k).filter (inR q.2.1 e))) (fun _ _ => ()) (fun _ => (l, e, q, a, b, c, d, u, v, i, j, z, rangeF l q.2.1 e)) l.length (fun _ _ => True) (fun k w hi _ => ⟨?_, trivial⟩) (fun w _ => ?_) l.length 0 () (by omega) trivial
 ·exact this
 ·show affiantref16_Answer_1_step l e l (l.length : Int) (k : Int) q a b c d u v i j z ((l.take k).filter (inR q.2.1 e)) = some (.inl (((k + 1 : Nat) : Int), (l.take (k + 1)).filter (inR q.2.1 e)))
  have hb : ((l.take k).filter (inR q.2.1 e)).length ≤ k := Nat.le_trans (List.length_filter_le _ _) (by rw [List.length_take]; omega)
  have t := filter_take_succ l (inR q.2.1 e) hi
  have hin : inR q.2.1 e (l.getD k zPr) = (!sless (l.getD k zPr).1 q.2.1 && sless (l.getD k zPr).1 e) := rfl
  rw [an_step, fork_t (by omega), need_true (by omega), Int.toNat_natCast, w64_eq (by omega) (by omega), List.nil_append, t, hin]
  cases sless (l.getD k zPr).1 q.2.1 with
  | true => rw [if_neg (by simp), List.append_nil]; rfl
  | false =>
   cases sless (l.getD k zPr).1 e with
   | false => rw [if_neg (by simp), List.append_nil]; rfl
   | true =>
    rw [Bool.not_false, fork_tt, fork_tt, need_true (by rw [List.length_nil]; omega), need_true (by rw [List.length_singleton]; omega), if_pos (by simp)]; rfl
 ·show affiantref16_Answer_1_step l e l (l.length : Int) (l.length : Int) q a b c d u v i j z ((l.take l.length).filter (inR q.2.1 e)) = _
  rw [an_step, fork_f (by omega), List.take_of_length_le (Nat.le_refl _)]; rfl
def endQ (q : Qry) : List UInt8 := if q.1 = 1 then q.2.1 else q.2.2.1
noncomputable def ansS (id : Int) (q : Qry) (h : Int) (l : List Pr) : Rsp :=
 if q.1 = 1 ∧ isAt l q.2.1 = true then (id, h, [l.getD (belowN l q.2.1) zPr], someN l (belowN l q.2.1) (belowN l q.2.1 + 1), ())
 else (id, h, rangeF l q.2.1 (endQ q), someN l (belowN l q.2.1 - 1) (min (belowN l (maxS q.2.1 (endQ q)) + 1) l.length), ())
theorem answer_eq (id : Int) (q : Qry) (h : Int) (l : List Pr) (hk : KvOk l) : affiantref16_Answer id q h l = some (ansS id q h l) := by
 have hl := hk.1
 have hb := below_le l q.2.1
 rw [answer_def, same_an2, same_an3, rfirst_eq l (by omega), andThen_mk, Int.toNat_natCast]
 unfold ansS endQ
 by_cases c : q.1 = 1
 ·rw [fork_t c]
  have ho : affiantref16_Answer_1 l q.2.1 l (l.length : Int) 0 q 0 0 0 0 () () id h (((0 : Int), (0 : Int), [], [], ()), ()) [] = _ := an_loop l (by omega) q.2.1 q 0 0 0 0 () () id h (((0 : Int), (0 : Int), [], [], ()), ())
  by_cases c1 : belowN l q.2.1 < l.length
  ·by_cases c2 : (l.getD (belowN l q.2.1) zPr).1 = q.2.1
   ·have ha : isAt l q.2.1 = true := by unfold isAt; rw [decide_eq_true_eq]; exact ⟨c1, c2⟩
    have e1 : cutL l (belowN l q.2.1 : Int) ((belowN l q.2.1 : Int) + 1) = [l.getD (belowN l q.2.1) zPr] := by
     have := drop_take_succ l (f := belowN l q.2.1) (n := 0) (by omega)
     unfold cutL
     rw [Int.toNat_natCast, show ((belowN l q.2.1 : Int) + 1).toNat = belowN l q.2.1 + 1 from by omega, List.drop_take, show belowN l q.2.1 + 1 - belowN l q.2.1 = 0 + 1 from by omega, this]
     rfl
    rw [fork_t (by omega), need_true (by omega), fork_t c2, w64_eq (by omega) (by omega), need_true (by omega), show (belowN l q.2.1 : Int) + 1 = ((belowN l q.2.1 + 1 : Nat) : Int) from by omega, rprove_eq l hk _ _ (by omega), andThen_mk, if_pos ⟨c, ha⟩, show ((belowN l q.2.1 + 1 : Nat) : Int) = (belowN l q.2.1 : Int) + 1 from by omega, e1]
   ·have ha : ¬ (q.1 = 1 ∧ isAt l q.2.1 = true) := by unfold isAt; rw [decide_eq_true_eq]; exact fun e => c2 e.2.2
    rw [fork_t (by omega), need_true (by omega), fork_f c2, ho, andThen_mk]
    dsimp only
    rw [rcover_eq l hk, andThen_mk, if_neg ha, if_pos c]
  ·have ha : ¬ (q.1 = 1 ∧ isAt l q.2.1 = true) := by unfold isAt; rw [decide_eq_true_eq]; exact fun e => c1 e.2.1
   rw [fork_f (by omega), ho, andThen_mk]
   dsimp only
   rw [rcover_eq l hk, andThen_mk, if_neg ha, if_pos c]
 ·have ho : affiantref16_Answer_1 l q.2.2.1 l (l.length : Int) 0 q 0 0 0 0 () () id h (((0 : Int), (0 : Int), [], [], ()), ()) [] = _ := an_loop l (by omega) q.2.2.1 q 0 0 0 0 () () id h (((0 : Int), (0 : Int), [], [], ()), ())
  rw [fork_f c, ho, andThen_mk]
  dsimp only
  rw [rcover_eq l hk, andThen_mk, if_neg (fun e => c e.1), if_neg c]
theorem ans_ok (id : Int) (q : Qry) (h : Int) (l : List Pr) (hrow : RowOk l) : PrfOk (ansS id q h l).2.2.2.1 ∧ (ansS id q h l).2.2.1.length ≤ 12 ∧ rightP (ansS id q h l).2.2.1 = true ∧ (ansS id q h l).1 = id ∧ (ansS id q h l).2.1 = h := by
 have hk := row_kv hrow
 have hl := hrow.2.1
 have hrt := row_right hrow
 have hb := below_le l q.2.1
 unfold ansS
 split
 ·rename_i c
  have := (isAt_lt c.2).1
  have hs : [l.getD (belowN l q.2.1) zPr].Sublist l := List.singleton_sublist.2 (getD_mem this)
  exact ⟨someN_ok l hk _ _ (by omega), by simp, right_sub hrt hs, rfl, rfl⟩
 ·exact ⟨someN_ok l hk _ _ (by omega), Nat.le_trans (List.length_filter_le _ _) hl, right_sub hrt List.filter_sublist, rfl, rfl⟩
theorem query_eq (k : Int × Int × Int × Int × Int × Unit) : ∃ q, affiantkeep_Query_Query k = some q ∧ (q.1 = 1 ∨ q.1 = 2) := by
 obtain ⟨a, _, ea⟩ := kkey_eq k.2.1
 obtain ⟨b, _, eb⟩ := kkey_eq k.2.2.1
 generalize keys12.getD a [] = x at ea
 generalize keys12.getD b [] = y at eb
 obtain ⟨r, er, _, _⟩ := within_eq k.2.2.2.1 0 5 (by omega) (by omega) (by omega)
 obtain ⟨s, es, _, _⟩ := within_eq k.2.2.2.2.1 1 6 (by omega) (by omega) (by omega)
 unfold affiantkeep_Query_Query
 rw [ea, andThen_mk, er, andThen_mk, es, andThen_mk, eb, andThen_mk]
 by_cases c1 : band k.1 1 = 1
 ·rw [fork_t c1]
  by_cases c3 : Int.tmod k.1 4 = 3
  ·cases sless y x with
   | true => rw [fork_tt, fork_t c3]; exact ⟨_, rfl, .inr rfl⟩
   | false => rw [fork_ff, fork_t c3]; exact ⟨_, rfl, .inr rfl⟩
  ·cases sless y x with
   | true => rw [fork_tt, fork_f c3]; exact ⟨_, rfl, .inr rfl⟩
   | false => rw [fork_ff, fork_f c3]; exact ⟨_, rfl, .inr rfl⟩
 ·rw [fork_f c1]
  by_cases c3 : Int.tmod k.1 4 = 3
  ·rw [fork_t c3]; exact ⟨_, rfl, .inr rfl⟩
  ·rw [fork_f c3]; exact ⟨_, rfl, .inl rfl⟩
def l1 : List Pr := [([97], [49], ())]
def q1 : Qry := (1, [97], [], 0, 1, ())
theorem l1_right : rightP l1 = true := by decide
theorem law_AdmitRuns : affiantlaw17_AdmitRuns = some true := by
 obtain ⟨hk, hr⟩ := rightP_kv l1_right
 have ea := answer_eq 1 q1 1 l1 hk
 have eq : ansS 1 q1 1 l1 = (1, 1, [([97], [49], ())], someN l1 0 1, ()) := by
  unfold ansS
  rw [if_pos (by decide)]; rfl
 rw [eq] at ea
 have ok := someN_ok l1 hk 0 1 (by omega)
 have hs : soundS (rootL l1) (someN l1 0 1) = true := by rw [rootL_self l1 l1_right 0 1 (by decide)]; rfl
 have hp : (someN l1 0 1).2.2.1 = [([97], [49], ())] := by rw [someN_parts l1 (by decide)]; rfl
 have a1 := admCheck_eq q1 (rootL l1) (1, 1, [([97], [49], ())], someN l1 0 1, ()) ok (by simp)
 have b1 : admS q1 (rootL l1) (1, 1, [([97], [49], ())], someN l1 0 1, ()) = 0 := by
  unfold admS existS
  rw [if_pos (by decide), if_neg (by decide), if_neg (by decide), if_pos (by rfl)]
  dsimp only
  rw [hs, hp]; rfl
 have a2 := admCheck_eq q1 (rootL l1) (1, 1, [([97], [50], ())], someN l1 0 1, ()) ok (by simp)
 have b2 : admS q1 (rootL l1) (1, 1, [([97], [50], ())], someN l1 0 1, ()) = 2 := by
  unfold admS existS
  rw [if_pos (by decide), if_neg (by decide), if_neg (by decide), if_pos (by rfl)]
  dsimp only
  rw [hs, hp]; rfl
 have a3 := admCheck_eq q1 (rootL l1) (0, 0, [], ((0 : Int), (0 : Int), [], [], ()), ()) ⟨by simp, by simp, by simp⟩ (by simp)
 have b3 : admS q1 (rootL l1) (0, 0, [], ((0 : Int), (0 : Int), [], [], ()), ()) = 1 := by
  unfold admS
  rw [if_neg (by decide)]
 rw [b1] at a1; rw [b2] at a2; rw [b3] at a3
 unfold affiantlaw17_AdmitRuns
 show andThen (affiantref16_Answer 1 q1 1 l1) (fun u1 => andThen (store_Root l1) (fun u3 => andThen (admit_Check q1 u3 u1) (fun u5 => fork (decide (u5 = 0)) (andThen (store_Root l1) (fun u8 => andThen (admit_Check q1 u8 (u1.1, u1.2.1, [([97], [50], ())], u1.2.2.2.1, ())) (fun u10 => fork (decide (u10 = 2)) (andThen (store_Root l1) (fun u13 => andThen (admit_Check q1 u13 (0, 0, [], ((0 : Int), (0 : Int), [], [], ()), ())) (fun u15 => some (decide (u15 = 1))))) none))) none))) = _
 rw [ea, andThen_mk, stroot_eq l1 hk, andThen_mk, a1, andThen_mk, fork_t rfl, andThen_mk]
 dsimp only
 rw [a2, andThen_mk, fork_t (by rfl), andThen_mk, a3, andThen_mk]
 rfl
theorem rangeF_self (l : List Pr) (k : List UInt8) : rangeF l k k = [] := by
 unfold rangeF
 rw [List.filter_eq_nil_iff]
 intro p _
 unfold inR
 cases sless p.1 k <;> simp
def RspB (r : Rsp) : Prop := PrfOk r.2.2.2.1 ∧ r.2.2.1.length ≤ 1000 ∧ r.2.2.2.1.2.2.1.length ≤ 1000
theorem rb {id h : Int} {l : List Pr} {c f : Int} {pl : List Pr} {pt : List (List (List UInt8))} (hpt : ∀ x ∈ pt, x.length ≤ 1000 ∧ ∀ h ∈ x, h.length = 32) (h1 : l.length ≤ 1000) (h2 : pl.length ≤ 1000) (h3 : pt.length ≤ 1000000) : RspB (id, h, l, (c, f, pl, pt, ()), ()) := ⟨⟨hpt, by show pl.length ≤ 1000000; omega, h3⟩, h1, h2⟩
theorem ans_b (q : Qry) (h : Int) (l : List Pr) (hrow : RowOk l) : RspB (ansS 1 q h l) ∧ (ansS 1 q h l).2.2.2.1.2.2.2.1.length = (ansS 1 q h l).2.2.2.1.2.2.1.length := by
 obtain ⟨o1, o2, o3, o4, o5⟩ := ans_ok 1 q h l hrow
 have hl := hrow.2.1
 have key : ∀ F T, T ≤ l.length → (someN l F T).2.2.1.length ≤ 12 ∧ (someN l F T).2.2.2.1.length = (someN l F T).2.2.1.length := fun F T hT => by
  unfold someN
  split
  ·simp
  ·obtain ⟨a, _⟩ := pathsN_b l (by omega) F (T - F)
   show ((l.drop F).take (T - F)).length ≤ 12 ∧ (pathsN l F (T - F)).length = ((l.drop F).take (T - F)).length
   rw [a, List.length_take, List.length_drop]; omega
 have hp : (ansS 1 q h l).2.2.2.1.2.2.1.length ≤ 12 ∧ (ansS 1 q h l).2.2.2.1.2.2.2.1.length = (ansS 1 q h l).2.2.2.1.2.2.1.length := by
  unfold ansS
  split
  ·rename_i c
   exact key _ _ (by have := (isAt_lt c.2).1; omega)
  ·exact key _ _ (by omega)
 exact ⟨⟨o1, by omega, by omega⟩, hp.2⟩
theorem get_put (z x : List UInt8) (y : List UInt8) : ∀ m : List (List UInt8 × List UInt8), mapGetB hq z (mapPutB hq x y m) = if z = x then some y else mapGetB hq z m
 | [] => by
  rw [mapPutB, mapGetB, mapGetB]
  by_cases e : z = x
  ·rw [if_pos e, (hq_iff z x).2 e]; rfl
  ·rw [if_neg e, show hq z x = false from by rw [← Bool.not_eq_true, hq_iff]; exact e]; rfl
 | p :: r => by
  rw [mapPutB]
  cases c : hq x p.1 with
  | true =>
   have c := (hq_iff _ _).1 c
   rw [cond_true, mapGetB, mapGetB]
   by_cases e : z = x
   ·rw [if_pos e, (hq_iff z p.1).2 (e.trans c)]; rfl
   ·rw [if_neg e, show hq z p.1 = false from by rw [← Bool.not_eq_true, hq_iff]; exact fun e2 => e (e2.trans c.symm)]; rfl
  | false =>
   have c : ¬ x = p.1 := fun e => by rw [(hq_iff x p.1).2 e] at c; cases c
   rw [cond_false, mapGetB, mapGetB, get_put z x y r]
   by_cases e : z = x
   ·rw [if_pos e, if_pos e, show hq z p.1 = false from by rw [← Bool.not_eq_true, hq_iff]; exact fun e2 => c (e.symm.trans e2)]; rfl
   ·rw [if_neg e, if_neg e]
theorem clash_step (x0 : List (List UInt8)) (x1 : Int) (x2 : Int) (x3 : List (List UInt8 × List UInt8)) : affiantref1_Clash_1_step x0 x1 x2 x3 =
  (fork (decide (x2 < x1)) (need (0 ≤ x2 ∧ x2 < (List.length x0 : Int)) (andThen (affiantref1_Sum (List.getD x0 (Int.toNat x2) ([] : List UInt8))) (fun u4 => fork (Option.isSome (mapGetB hq u4 x3)) (fork (!decide ((Option.getD (mapGetB hq u4 x3) ([] : List UInt8)) = (List.getD x0 (Int.toNat x2) ([] : List UInt8)))) (some (.inr (.inl true))) (some (.inl ((w64 (x2 + (1 : Int))), (mapPutB hq u4 (List.getD x0 (Int.toNat x2) ([] : List UInt8)) x3))))) (some (.inl ((w64 (x2 + (1 : Int))), (mapPutB hq u4 (List.getD x0 (Int.toNat x2) ([] : List UInt8)) x3))))))) (some (.inr (.inr ()))) : Option ((Int × List (List UInt8 × List UInt8)) ⊕ ((Bool) ⊕ (Unit)))) := rfl
def Apart (S : List (List UInt8)) : Prop := ∀ x ∈ S, ∀ y ∈ S, sha x = sha y → x = y
theorem clash_eq (l : List (List UInt8)) (hl : l.length ≤ 1000000) (hs : ∀ x ∈ l, x.length ≤ 1073741824) : ∃ b, affiantref1_Clash l = some b ∧ (b = false → Apart l) := by
 have main := loop_ex (step := fun (s : Int × List (List UInt8 × List UInt8)) => affiantref1_Clash_1_step l (l.length : Int) s.1 s.2)
  (fun k s => ∃ i : Nat, s.1 = (i : Int) ∧ i + k = l.length ∧ ∀ j, j < i → mapGetB hq (sha (l.getD j [])) s.2 = some (l.getD j []))
  (fun r => r = .inr () → Apart l) (by
   rintro k ⟨i0, m⟩ ⟨i, rfl, hi, hm⟩
   dsimp only at hm ⊢
   by_cases c : i < l.length
   ·have hg := hs _ (getD_mem (z := []) c)
    rw [clash_step, fork_t (by omega), need_true (by omega), Int.toNat_natCast, rsum_eq _ hg, andThen_mk, w64_eq (by omega) (by omega)]
    have next : (∀ s, mapGetB hq (sha (l.getD i [])) m = some s → s = l.getD i []) → ∀ j, j < i + 1 → mapGetB hq (sha (l.getD j [])) (mapPutB hq (sha (l.getD i [])) (l.getD i []) m) = some (l.getD j []) := by
     intro hn j hj
     rw [get_put]
     by_cases e : j = i
     ·subst e; rw [if_pos rfl]
     ·have hmj := hm j (by omega)
      by_cases e2 : sha (l.getD j []) = sha (l.getD i [])
      ·rw [if_pos e2, hn (l.getD j []) (by rw [← e2]; exact hmj)]
      ·rw [if_neg e2, hmj]
    cases hf : mapGetB hq (sha (l.getD i [])) m with
    | none =>
     rw [Option.isSome_none, fork_ff]
     exact .inr ⟨k - 1, _, by omega, rfl, i + 1, by dsimp only; omega, by omega, next (fun s h => by rw [hf] at h; cases h)⟩
    | some s =>
     rw [Option.isSome_some, fork_tt, Option.getD_some]
     by_cases e : s = l.getD i []
     ·rw [fork_nt e]
      exact .inr ⟨k - 1, _, by omega, rfl, i + 1, by dsimp only; omega, by omega, next (fun s' h => by rw [hf] at h; injection h with h; rw [← h, e])⟩
     ·rw [fork_nf e]
      exact .inl ⟨_, rfl, fun h => by cases h⟩
   ·rw [clash_step, fork_f (by omega)]
    refine .inl ⟨_, rfl, fun _ => ?_⟩
    intro x hx y hy hxy
    obtain ⟨a, ha, rfl⟩ := List.mem_iff_getElem.1 hx
    obtain ⟨b, hb, rfl⟩ := List.mem_iff_getElem.1 hy
    have e1 : l.getD a [] = l[a] := by rw [List.getD_eq_getElem?_getD, List.getElem?_eq_getElem ha]; rfl
    have e2 : l.getD b [] = l[b] := by rw [List.getD_eq_getElem?_getD, List.getElem?_eq_getElem hb]; rfl
    have h1 := hm a (by omega)
    have h2 := hm b (by omega)
    rw [e1] at h1; rw [e2, ← hxy, h1] at h2
    injection h2) l.length (0, []) ⟨0, rfl, by omega, fun j h => by omega⟩
 obtain ⟨r, e, q⟩ := main
 unfold affiantref1_Clash
 rw [show affiantref1_Clash_1 l (l.length : Int) (0 : Int) ([] : List (List UInt8 × List UInt8)) = some r from e, andThen_mk]
 match r, q with
 | .inl b, q =>
  cases b with
  | true => exact ⟨true, rfl, fun h => by cases h⟩
  | false =>
   -- the step never comes out so
   exfalso
   have no : ∀ n s, loopN (fun (s : Int × List (List UInt8 × List UInt8)) => affiantref1_Clash_1_step l (l.length : Int) s.1 s.2) n s ≠ some (.inl false) := by
    intro n
    induction n with
    | zero => intro s h; cases h
    | succ n ih =>
     intro s h
     rw [loopN] at h
     split at h
     ·cases h
     ·exact ih _ h
     ·rename_i r hr
      injection h with h; subst h
      rw [clash_step] at hr
      rcases fork_some hr with ⟨_, hr⟩ | ⟨_, hr⟩
      ·obtain ⟨_, hr⟩ := need_some hr
       obtain ⟨u, _, hr⟩ := andThen_some hr
       rcases fork_some hr with ⟨_, hr⟩ | ⟨_, hr⟩
       ·rcases fork_some hr with ⟨_, hr⟩ | ⟨_, hr⟩
        ·injection hr with hr; injection hr with hr; injection hr with hr; cases hr
        ·cases hr
       ·cases hr
      ·cases hr
   obtain ⟨n, hn⟩ := loop_some.1 e
   exact no n _ hn
 | .inr (), q => exact ⟨false, rfl, fun _ => q rfl⟩
noncomputable def insF : Nat → List (List UInt8) → List (List UInt8)
 | 0, _ => []
 | f + 1, l => if l.length = 0 then [[2]] else if l.length = 1 then [0 :: l.getD 0 []]
   else insF f (l.take (leftS l.length)) ++ insF f (l.drop (leftS l.length)) ++ [1 :: (rootS (l.take (leftS l.length)) ++ rootS (l.drop (leftS l.length)))]
theorem rins_eq : ∀ (k : Nat) (l : List (List UInt8)), l.length < k → l.length < 64 → Small l → affiantref1_inputs_f k l = some (insF k l) ∧ (insF k l).length + 1 ≤ 2 * max l.length 1 ∧ ∀ x ∈ insF k l, x.length ≤ 1000001
 | 0, l, h, _, _ => by omega
 | k + 1, l, h, h2, hs => by
  rw [affiantref1_inputs_f, insF]
  by_cases c0 : l.length = 0
  ·rw [fork_t (by omega), if_pos c0]
   exact ⟨rfl, by simp; omega, by simp⟩
  ·rw [fork_f (by omega), if_neg c0]
   by_cases c1 : l.length = 1
   ·have hg := hs _ (getD_mem (z := []) (show 0 < l.length by omega))
    rw [fork_t (by omega), if_pos c1, need_true (by omega), show Int.toNat (0 : Int) = 0 from rfl, need_true (by rw [List.length_singleton]; omega)]
    refine ⟨rfl, by simp; omega, fun x hx => ?_⟩
    rw [List.mem_singleton.1 hx, List.length_cons]; omega
   ·obtain ⟨b1, b2, b3⟩ := leftS_b l.length (by omega) (by omega)
    have t1 : (l.take (leftS l.length)).length = leftS l.length := by rw [List.length_take]; omega
    have t2 : (l.drop (leftS l.length)).length = l.length - leftS l.length := by rw [List.length_drop]
    have r1 := rootS_len (l.take (leftS l.length))
    have r2 := rootS_len (l.drop (leftS l.length))
    obtain ⟨i1, j1, k1⟩ := rins_eq k (l.take (leftS l.length)) (by omega) (by omega) (small_take hs _)
    obtain ⟨i2, j2, k2⟩ := rins_eq k (l.drop (leftS l.length)) (by omega) (by omega) (small_drop hs _)
    rw [fork_f (by omega), if_neg c1, half_eq _ (by omega), andThen_mk, need_true (by omega), cut_to, Int.toNat_natCast, rroot_eq _ (by omega) (small_take hs _), andThen_mk, need_true (by omega), cut_from, Int.toNat_natCast, rroot_eq _ (by omega) (small_drop hs _), andThen_mk,
     need_true (by rw [List.length_singleton]; omega), need_true (by rw [List.length_append, List.length_singleton]; omega), i1, andThen_mk, i2, andThen_mk, need_true (by omega), need_true (by rw [List.length_append, List.length_singleton]; omega)]
    refine ⟨rfl, ?_, fun x hx => ?_⟩
    ·rw [List.length_append, List.length_append, List.length_singleton]; omega
    ·rcases List.mem_append.1 hx with hx | hx
     ·rcases List.mem_append.1 hx with hx | hx
      ·exact k1 x hx
      ·exact k2 x hx
     ·rw [List.mem_singleton.1 hx, List.length_cons, List.length_append]; omega
theorem rleaves_lt {l : List Pr} (h : l.length ≤ 60) : (leavesB l).length < 64 := by rw [leavesB_len]; omega
noncomputable def inputsS (l : List Pr) : List (List UInt8) := insF 64 (leavesB l) ++ [83 :: (oneS (l.length : Int) ++ rootS (leavesB l))]
theorem inputs_eq (l : List Pr) (h : KvOk l) : affiantref1_Inputs l = some (inputsS l) ∧ (inputsS l).length ≤ 1000 ∧ ∀ x ∈ inputsS l, x.length ≤ 1000001 := by
 have hl := h.1
 have hs := leavesB_small h
 have h64 := rleaves_lt hl
 have h1 := oneS_len (l.length : Int)
 have h2 := rootS_len (leavesB l)
 obtain ⟨i1, j1, k1⟩ := rins_eq 64 (leavesB l) h64 h64 hs
 unfold affiantref1_Inputs
 rw [rleaves_eq l h, andThen_mk, rroot_eq _ h64 hs, andThen_mk, andThen_mk, show affiantref1_inputs (leavesB l) = affiantref1_inputs_f 64 (leavesB l) from rfl, i1, andThen_mk, rput_eq, andThen_mk, need_true (by rw [List.length_singleton]; omega), need_true (by rw [List.length_append, List.length_singleton]; omega), need_true (by rw [List.length_singleton]; omega)]
 refine ⟨rfl, ?_, fun x hx => ?_⟩
 ·unfold inputsS; rw [List.length_append, List.length_singleton]; omega
 ·rcases List.mem_append.1 hx with hx | hx
  ·exact k1 x hx
  ·rw [List.mem_singleton.1 hx, List.length_cons, List.length_append]; omega
noncomputable def upN (leaf : List UInt8) (i n : Nat) (p : List (List UInt8)) : List UInt8 := climb (sidesF n i n).reverse p (leafS leaf)
noncomputable def upsN : Nat → List UInt8 → Nat → Nat → List (List UInt8) → List (List UInt8)
 | 0, _, _, _, _ => []
 | f + 1, leaf, i, n, p => if n ≤ 1 then [0 :: leaf]
   else if i < leftS n then upsN f leaf i (leftS n) (p.take (p.length - 1)) ++ [1 :: (upN leaf i (leftS n) (p.take (p.length - 1)) ++ p.getD (p.length - 1) zT)]
   else upsN f leaf (i - leftS n) (n - leftS n) (p.take (p.length - 1)) ++ [1 :: (p.getD (p.length - 1) zT ++ upN leaf (i - leftS n) (n - leftS n) (p.take (p.length - 1)))]
theorem upN_32 (leaf : List UInt8) (i n : Nat) (p : List (List UInt8)) : (upN leaf i n p).length = 32 := climb_32 _ _ _ (sha_len _)
theorem sides_succ {n i : Nat} (h1 : ¬ n ≤ 1) (h2 : n ≤ 1000) : sidesF n i n = if i < leftS n then true :: sidesF (leftS n) i (leftS n) else false :: sidesF (n - leftS n) (i - leftS n) (n - leftS n) := by
 obtain ⟨b1, b2, b3⟩ := leftS_b n (by omega) (by omega)
 obtain ⟨q, rfl⟩ : ∃ q, n = q + 1 := ⟨n - 1, by omega⟩
 rw [sidesF, if_neg h1]
 split
 ·rw [sidesF_fuel q (leftS (q + 1)) _ _ (by omega) (by omega) (by omega)]
 ·rw [sidesF_fuel q (q + 1 - leftS (q + 1)) _ _ (by omega) (by omega) (by omega)]
theorem last_split {p : List (List UInt8)} (h : p.length ≠ 0) : p = p.take (p.length - 1) ++ [p.getD (p.length - 1) zT] := by
 rw [List.getD_eq_getElem?_getD, List.getElem?_eq_getElem (by omega)]
 conv => lhs; rw [← List.take_append_drop (p.length - 1) p, List.drop_eq_getElem_cons (by omega), List.drop_of_length_le (by omega)]
 rfl
theorem upN_succ (leaf : List UInt8) (i n : Nat) (p : List (List UInt8)) (h1 : ¬ n ≤ 1) (h2 : n ≤ 1000) (hp : p.length = (sidesF n i n).length) :
  p.length ≠ 0 ∧ (if i < leftS n then (p.take (p.length - 1)).length = (sidesF (leftS n) i (leftS n)).length ∧ upN leaf i n p = innerS (upN leaf i (leftS n) (p.take (p.length - 1))) (p.getD (p.length - 1) zT)
   else (p.take (p.length - 1)).length = (sidesF (n - leftS n) (i - leftS n) (n - leftS n)).length ∧ upN leaf i n p = innerS (p.getD (p.length - 1) zT) (upN leaf (i - leftS n) (n - leftS n) (p.take (p.length - 1)))) := by
 have e := sides_succ (i := i) h1 h2
 have h0 : p.length ≠ 0 := by rw [hp, e]; split <;> simp
 have htl : (p.take (p.length - 1)).length = p.length - 1 := by rw [List.length_take]; omega
 refine ⟨h0, ?_⟩
 by_cases c : i < leftS n
 ·rw [if_pos c] at e ⊢
  rw [e, List.length_cons] at hp
  refine ⟨by omega, ?_⟩
  unfold upN
  rw [e, List.reverse_cons]
  conv => lhs; rw [last_split h0]
  rw [climb_snoc _ _ _ _ _ (by rw [List.length_reverse]; omega), if_pos rfl]
 ·rw [if_neg c] at e ⊢
  rw [e, List.length_cons] at hp
  refine ⟨by omega, ?_⟩
  unfold upN
  rw [e, List.reverse_cons]
  conv => lhs; rw [last_split h0]
  rw [climb_snoc _ _ _ _ _ (by rw [List.length_reverse]; omega), if_neg (by simp)]
theorem rups_eq : ∀ (k : Nat) (leaf : List UInt8) (i n : Nat) (p : List (List UInt8)), n < k → i < n → n < 64 → leaf.length ≤ 1000000 → (∀ x ∈ p, x.length = 32) → p.length ≤ 100000 → k ≤ 64 → p.length = (sidesF n i n).length →
  affiantref1_ups_f k leaf (i : Int) (n : Int) p = some (upsN k leaf i n p) ∧ (upsN k leaf i n p).length ≤ k ∧ ∀ x ∈ upsN k leaf i n p, x.length ≤ 1000001
 | 0, leaf, i, n, p, h, _, _, _, _, _, _, _ => by omega
 | k + 1, leaf, i, n, p, h, hi, h2, hf, hp, hb, hk, hl => by
  rw [affiantref1_ups_f, upsN]
  by_cases h1 : n ≤ 1
  ·rw [fork_t (by omega), if_pos h1, need_true (by rw [List.length_singleton]; omega)]
   refine ⟨rfl, by simp, fun x hx => ?_⟩
   rw [List.mem_singleton.1 hx, List.length_cons]; omega
  ·obtain ⟨b1, b2, b3⟩ := leftS_b n (by omega) (by omega)
   obtain ⟨h0, hu⟩ := upN_succ leaf i n p h1 (by omega) hl
   have htl : (p.take (p.length - 1)).length = p.length - 1 := by rw [List.length_take]; omega
   have hg : (p.getD (p.length - 1) zT).length = 32 := hp _ (getD_mem (z := zT) (by omega))
   have hg2 : (p.getD (p.length - 1) (List.replicate 32 (0 : UInt8))).length = 32 := hg
   have hpt : ∀ x ∈ p.take (p.length - 1), x.length = 32 := fun x hx => hp x (List.mem_of_mem_take hx)
   have e1 : w64 ((p.length : Int) - 1) = ((p.length - 1 : Nat) : Int) := by rw [w64_eq (by omega) (by omega)]; omega
   rw [fork_f (by omega), if_neg h1, half_eq n (by omega), andThen_mk, e1, need_true (by omega), cut_to, Int.toNat_natCast]
   have up : ∀ (i' n' : Nat), i' < n' → n' < 64 → (p.take (p.length - 1)).length = (sidesF n' i' n').length → affiantref1_Up leaf (i' : Int) (n' : Int) (p.take (p.length - 1)) = some (upN leaf i' n' (p.take (p.length - 1)), true) := by
    intro i' n' a1 a2 a3
    obtain ⟨x, x1, x2, x3⟩ := rup_f_eq 64 leaf i' n' (p.take (p.length - 1)) (by omega) a1 a2 hf hpt (by omega)
    rw [decide_eq_true a3] at x1
    rw [show affiantref1_Up leaf (i' : Int) (n' : Int) (p.take (p.length - 1)) = affiantref1_Up_f 64 leaf (i' : Int) (n' : Int) (p.take (p.length - 1)) from rfl, x1, x3 a3]; rfl
   by_cases c : i < leftS n
   ·rw [if_pos c] at hu ⊢
    obtain ⟨i1, j1, k1⟩ := rups_eq k leaf i (leftS n) (p.take (p.length - 1)) (by omega) c (by omega) hf hpt (by omega) (by omega) hu.1
    have u32 := upN_32 leaf i (leftS n) (p.take (p.length - 1))
    rw [fork_t (by omega), need_true (by omega), up i (leftS n) c (by omega) hu.1, andThen_mk, i1, andThen_mk]
    dsimp only
    rw [need_true (by rw [List.length_singleton]; omega), need_true (by rw [List.length_append, List.length_singleton]; omega), need_true (by rw [List.length_singleton]; omega)]
    refine ⟨rfl, by rw [List.length_append, List.length_singleton]; omega, fun x hx => ?_⟩
    rcases List.mem_append.1 hx with hx | hx
    ·exact k1 x hx
    ·rw [List.mem_singleton.1 hx, List.length_cons, List.length_append]; omega
   ·rw [if_neg c] at hu ⊢
    obtain ⟨i1, j1, k1⟩ := rups_eq k leaf (i - leftS n) (n - leftS n) (p.take (p.length - 1)) (by omega) (by omega) (by omega) hf hpt (by omega) (by omega) hu.1
    have u32 := upN_32 leaf (i - leftS n) (n - leftS n) (p.take (p.length - 1))
    rw [fork_f (by omega), need_true (by omega), w64_eq (by omega) (by omega), w64_eq (by omega) (by omega), show (i : Int) - ((leftS n : Nat) : Int) = ((i - leftS n : Nat) : Int) from by omega, show (n : Int) - ((leftS n : Nat) : Int) = ((n - leftS n : Nat) : Int) from by omega, up (i - leftS n) (n - leftS n) (by omega) (by omega) hu.1, andThen_mk, i1, andThen_mk]
    dsimp only
    rw [need_true (by rw [List.length_singleton]; omega), need_true (by rw [List.length_append, List.length_singleton]; omega), need_true (by rw [List.length_singleton]; omega)]
    refine ⟨rfl, by rw [List.length_append, List.length_singleton]; omega, fun x hx => ?_⟩
    rcases List.mem_append.1 hx with hx | hx
    ·exact k1 x hx
    ·rw [List.mem_singleton.1 hx, List.length_cons, List.length_append]; omega
theorem bind_up (S : List (List UInt8)) (hS : Apart S) : ∀ (f : Nat) (l : List (List UInt8)) (leaf : List UInt8) (i : Nat) (p : List (List UInt8)), l.length ≤ f → i < l.length → l.length ≤ 60 → (∀ x ∈ insF f l, x ∈ S) → (∀ x ∈ upsN f leaf i l.length p, x ∈ S) →
  p.length = (sidesF l.length i l.length).length → (∀ x ∈ p, x.length = 32) → upN leaf i l.length p = rootS l → leaf = l.getD i []
 | 0, l, leaf, i, p, h, hi, _, _, _, _, _, _ => by omega
 | f + 1, l, leaf, i, p, h, hi, h60, hin, hup, hl, hp, he => by
  rw [insF] at hin
  rw [upsN] at hup
  by_cases h1 : l.length ≤ 1
  ·have e1 : l.length = 1 := by omega
   rw [if_neg (by omega), if_pos e1] at hin
   rw [if_pos h1] at hup
   have es : sidesF l.length i l.length = [] := by rw [e1, sidesF, if_pos (by omega)]
   have hp0 : p = [] := by rw [es] at hl; exact List.eq_nil_of_length_eq_zero hl
   unfold upN at he
   rw [es, hp0] at he
   have he : sha (0 :: leaf) = rootS l := he
   rw [rootS_eq l, dif_neg (by omega), if_neg (by omega)] at he
   have := hS _ (hup _ (List.mem_singleton.2 rfl)) _ (hin _ (List.mem_singleton.2 rfl)) he
   injection this with _ this
   rw [this, show i = 0 by omega]
  ·obtain ⟨b1, b2, b3⟩ := leftS_b l.length (by omega) (by omega)
   rw [if_neg (by omega), if_neg (by omega)] at hin
   rw [if_neg h1] at hup
   obtain ⟨h0, hu⟩ := upN_succ leaf i l.length p h1 (by omega) hl
   have t1 : (l.take (leftS l.length)).length = leftS l.length := by rw [List.length_take]; omega
   have t2 : (l.drop (leftS l.length)).length = l.length - leftS l.length := by rw [List.length_drop]
   have r1 := rootS_len (l.take (leftS l.length))
   have r2 := rootS_len (l.drop (leftS l.length))
   have hg : (p.getD (p.length - 1) zT).length = 32 := hp _ (getD_mem (z := zT) (by omega))
   have hpt : ∀ x ∈ p.take (p.length - 1), x.length = 32 := fun x hx => hp x (List.mem_of_mem_take hx)
   rw [rootS_two l (by omega) (by omega)] at he
   by_cases c : i < leftS l.length
   ·rw [if_pos c] at hu hup
    rw [hu.2] at he
    have u32 := upN_32 leaf i (leftS l.length) (p.take (p.length - 1))
    have q := hS _ (hup _ (List.mem_append_right _ (List.mem_singleton.2 rfl))) _ (hin _ (List.mem_append_right _ (List.mem_singleton.2 rfl))) he
    injection q with _ q
    obtain ⟨q1, q2⟩ := List.append_inj q (by omega)
    have ih := bind_up S hS f (l.take (leftS l.length)) leaf i (p.take (p.length - 1)) (by omega) (by omega) (by omega) (fun x hx => hin x (List.mem_append_left _ (List.mem_append_left _ hx))) (fun x hx => hup x (List.mem_append_left _ (by rw [t1] at hx; exact hx))) (by rw [t1]; exact hu.1) hpt (by rw [t1]; exact q1)
    rw [ih, List.getD_eq_getElem?_getD, List.getD_eq_getElem?_getD, List.getElem?_take, if_pos c]
   ·rw [if_neg c] at hu hup
    rw [hu.2] at he
    have u32 := upN_32 leaf (i - leftS l.length) (l.length - leftS l.length) (p.take (p.length - 1))
    have q := hS _ (hup _ (List.mem_append_right _ (List.mem_singleton.2 rfl))) _ (hin _ (List.mem_append_right _ (List.mem_singleton.2 rfl))) he
    injection q with _ q
    obtain ⟨q1, q2⟩ := List.append_inj q (by omega)
    have ih := bind_up S hS f (l.drop (leftS l.length)) leaf (i - leftS l.length) (p.take (p.length - 1)) (by omega) (by omega) (by omega) (fun x hx => hin x (List.mem_append_left _ (List.mem_append_right _ hx))) (fun x hx => hup x (List.mem_append_left _ (by rw [t2] at hx; exact hx))) (by rw [t2]; exact hu.1) hpt (by rw [t2]; exact q2)
    rw [ih, List.getD_eq_getElem?_getD, List.getD_eq_getElem?_getD, List.getElem?_drop, show leftS l.length + (i - leftS l.length) = i by omega]
theorem response_len (r o : Rsp) (hr : RspB r) (ho : RspB o) (hlen : r.2.2.2.1.2.2.2.1.length = r.2.2.2.1.2.2.1.length) (hlo : o.2.2.2.1.2.2.2.1.length = o.2.2.2.1.2.2.1.length) (a b c : Int) : ∃ x, affiantkeep_Response r o a b c = some x ∧ RspB x ∧ x.2.2.2.1.2.2.2.1.length = x.2.2.2.1.2.2.1.length := by
 obtain ⟨⟨h1, h2, h3⟩, h4, h5⟩ := hr
 obtain ⟨⟨g1, g2, g3⟩, g4, g5⟩ := ho
 obtain ⟨w, ew, w1, w2⟩ := within_eq a 0 13 (by omega) (by omega) (by omega)
 obtain ⟨tx, et, _⟩ := ktext_eq c
 unfold affiantkeep_Response
 simp only [List.nil_append]
 rw [need_true (by rw [List.length_nil]; omega), need_true (by rw [List.length_nil]; omega), need_true (by rw [List.length_nil]; omega), ew, andThen_mk]
 by_cases c0 : w = 0
 ·rw [fork_t c0]; exact ⟨_, rfl, rb h1 g4 h5 h3, hlen⟩
 rw [fork_f c0]
 by_cases c1 : w = 1
 ·rw [fork_t c1]; exact ⟨_, rfl, ⟨⟨g1, g2, g3⟩, h4, g5⟩, hlo⟩
 rw [fork_f c1]
 by_cases c2 : w = 2
 ·rw [fork_t c2]
  by_cases n0 : (0 : Int) < (r.2.2.1.length : Int)
  ·obtain ⟨i, ei, i1, i2⟩ := within_eq b 0 ((r.2.2.1.length : Int) - 1) (by omega) (by omega) (by omega)
   rw [fork_t n0, w64_eq (by omega) (by omega), ei, andThen_mk, et, andThen_mk, need_true (by omega)]
   exact ⟨_, rfl, rb h1 (by rw [List.length_set]; exact h4) h5 h3, hlen⟩
  ·rw [fork_f n0]; exact ⟨_, rfl, rb h1 h4 h5 h3, hlen⟩
 rw [fork_f c2]
 by_cases c3 : w = 3
 ·rw [fork_t c3]
  by_cases n0 : (0 : Int) < (r.2.2.1.length : Int)
  ·rw [fork_t n0]
   simp only [show w64 ((r.2.2.1.length : Int) - 1) = (r.2.2.1.length : Int) - 1 from w64_eq (by omega) (by omega)]
   rw [need_true (by omega)]
   exact ⟨_, rfl, rb h1 (by rw [cut_to, List.length_take]; omega) h5 h3, hlen⟩
  ·rw [fork_f n0]; exact ⟨_, rfl, rb h1 h4 h5 h3, hlen⟩
 rw [fork_f c3]
 by_cases c4 : w = 4
 ·rw [fork_t c4]
  by_cases n0 : (0 : Int) < (r.2.2.2.1.2.2.1.length : Int)
  ·obtain ⟨i, ei, i1, i2⟩ := within_eq b 0 ((r.2.2.2.1.2.2.1.length : Int) - 1) (by omega) (by omega) (by omega)
   rw [fork_t n0, w64_eq (by omega) (by omega), ei, andThen_mk, et, andThen_mk, need_true (by omega)]
   exact ⟨_, rfl, rb h1 h4 (by rw [List.length_set]; exact h5) h3, by dsimp only; rw [List.length_set]; exact hlen⟩
  ·rw [fork_f n0]; exact ⟨_, rfl, rb h1 h4 h5 h3, hlen⟩
 rw [fork_f c4]
 by_cases c5 : w = 5
 ·rw [fork_t c5]
  by_cases n0 : (0 : Int) < (r.2.2.2.1.2.2.1.length : Int)
  ·rw [fork_t n0, need_true (by omega), need_true (by omega), cut_from, cut_from]
   exact ⟨_, rfl, rb (fun x hx => h1 x (List.mem_of_mem_drop hx)) h4 (by rw [List.length_drop]; omega) (by rw [List.length_drop]; omega), by dsimp only; rw [List.length_drop, List.length_drop]; omega⟩
  ·rw [fork_f n0]; exact ⟨_, rfl, rb h1 h4 h5 h3, hlen⟩
 rw [fork_f c5]
 by_cases c6 : w = 6
 ·rw [fork_t c6]
  by_cases n0 : (0 : Int) < (r.2.2.2.1.2.2.1.length : Int)
  ·rw [fork_t n0]
   simp only [show w64 ((r.2.2.2.1.2.2.1.length : Int) - 1) = (r.2.2.2.1.2.2.1.length : Int) - 1 from w64_eq (by omega) (by omega)]
   rw [need_true (by omega), need_true (by omega), cut_to, cut_to]
   exact ⟨_, rfl, rb (fun x hx => h1 x (List.mem_of_mem_take hx)) h4 (by rw [List.length_take]; omega) (by rw [List.length_take]; omega), by dsimp only; rw [List.length_take, List.length_take]; omega⟩
  ·rw [fork_f n0]; exact ⟨_, rfl, rb h1 h4 h5 h3, hlen⟩
 rw [fork_f c6]
 by_cases c7 : w = 7
 ·obtain ⟨i, ei, _, _⟩ := within_eq c 0 17 (by omega) (by omega) (by omega)
  rw [fork_t c7, ei, andThen_mk]; exact ⟨_, rfl, rb h1 h4 h5 h3, hlen⟩
 rw [fork_f c7]
 by_cases c8 : w = 8
 ·obtain ⟨i, ei, _, _⟩ := within_eq c (-2) 2 (by omega) (by omega) (by omega)
  rw [fork_t c8, ei, andThen_mk]; exact ⟨_, rfl, rb h1 h4 h5 h3, hlen⟩
 rw [fork_f c8]
 by_cases c9 : w = 9
 ·obtain ⟨i, ei, _, _⟩ := within_eq c 0 9 (by omega) (by omega) (by omega)
  rw [fork_t c9, ei, andThen_mk]; exact ⟨_, rfl, rb h1 h4 h5 h3, hlen⟩
 rw [fork_f c9]
 exact ⟨_, rfl, rb h1 h4 h5 h3, hlen⟩
noncomputable def provAt (p : Prf) (i : Nat) : List (List UInt8) := upsN 64 (leafB (p.2.2.1.getD i zPr)) (p.2.1 + (i : Int)).toNat p.1.toNat (p.2.2.2.1.getD i []) ++ [83 :: (oneS p.1 ++ (provenAt p i).1)]
noncomputable def provS (p : Prf) : List (List UInt8) := if p.1 = 0 then [[2], 83 :: (oneS 0 ++ sha [2])] else (List.range p.2.2.1.length).flatMap (provAt p)
theorem pv_step (x0 : List Pr) (x1 : Int) (x2 : Int) (x3 : Prf) (x4 : List (List UInt8)) : affiantref1_Proven_1_step x0 x1 x2 x3 x4 =
  (fork (decide (x2 < x1)) (need (0 ≤ x2 ∧ x2 < (List.length x0 : Int)) (andThen (affiantref1_Leaf (List.getD x0 (Int.toNat x2) zPr)) (fun u11 => need (0 ≤ x2 ∧ x2 < (List.length x3.2.2.2.1 : Int)) (andThen (affiantref1_Up u11 (w64 (x3.2.1 + x2)) x3.1 (List.getD x3.2.2.2.1 (Int.toNat x2) ([] : List (List UInt8)))) (fun u14 => fork u14.2 (andThen (affiantref1_Leaf (List.getD x0 (Int.toNat x2) zPr)) (fun u17 => andThen (affiantref1_ups u17 (w64 (x3.2.1 + x2)) x3.1 (List.getD x3.2.2.2.1 (Int.toNat x2) ([] : List (List UInt8)))) (fun u19 => need (List.length x4 + List.length u19 ≤ 2147483648) (andThen (affiantref1_Put x3.1) (fun u22 => need (List.length ([(83 : UInt8)] : List (UInt8)) + List.length u22 ≤ 2147483648) (need (List.length (([(83 : UInt8)] : List (UInt8)) ++ u22) + List.length u14.1 ≤ 2147483648) (need (List.length (x4 ++ u19) + List.length ([((([(83 : UInt8)] : List (UInt8)) ++ u22) ++ u14.1)] : List (List UInt8)) ≤ 2147483648) (some (.inl ((w64 (x2 + (1 : Int))), ((x4 ++ u19) ++ ([((([(83 : UInt8)] : List (UInt8)) ++ u22) ++ u14.1)] : List (List UInt8))))))))))))) (some (.inl ((w64 (x2 + (1 : Int))), x4)))))))) (some (.inr x4)) : Option ((Int × List (List UInt8)) ⊕ (List (List UInt8)))) := rfl
theorem proven_at {root : List UInt8} {p : Prf} (hs : soundS root p = true) (h0 : p.1 ≠ 0) {i : Nat} (hi : i < p.2.2.1.length) :
  (p.2.1 + (i : Int)).toNat < p.1.toNat ∧ (p.2.2.2.1.getD i []).length = (sidesF p.1.toNat (p.2.1 + (i : Int)).toNat p.1.toNat).length ∧ (provenAt p i) = (upN (leafB (p.2.2.1.getD i zPr)) (p.2.1 + (i : Int)).toNat p.1.toNat (p.2.2.2.1.getD i []), true) ∧ boundS p.1.toNat (provenAt p i).1 = root := by
 obtain ⟨n1, n2, n3, n4, n5⟩ := sound_num hs
 unfold soundS at hs
 simp only [Bool.and_eq_true] at hs
 have hs := hs.2.2.2
 rw [if_neg h0, Bool.and_eq_true] at hs
 have ha := List.all_eq_true.1 hs.2 i (List.mem_range.2 hi)
 unfold soundAt at ha
 rw [Bool.and_eq_true, hq_iff] at ha
 obtain ⟨a1, a2⟩ := ha
 refine ⟨by omega, ?_⟩
 have a3 := a1
 unfold provenAt upS at a3
 split at a3
 ·rename_i c
  refine ⟨c.2, ?_, a2⟩
  unfold provenAt upS
  rw [if_pos c]; rfl
 ·cases a3
theorem paths_eq {root : List UInt8} {p : Prf} (hs : soundS root p = true) : p.2.2.2.1.length = p.2.2.1.length := by
 unfold soundS at hs
 simp only [Bool.and_eq_true, decide_eq_true_eq] at hs
 exact hs.1.2.2
theorem prov_b {root : List UInt8} {p : Prf} (h : PrfOk p) (hs : soundS root p = true) (h0 : p.1 ≠ 0) {i : Nat} (hi : i < p.2.2.1.length) :
  affiantref1_ups (leafB (p.2.2.1.getD i zPr)) (p.2.1 + (i : Int)) p.1 (p.2.2.2.1.getD i []) = some (upsN 64 (leafB (p.2.2.1.getD i zPr)) (p.2.1 + (i : Int)).toNat p.1.toNat (p.2.2.2.1.getD i [])) ∧ (provAt p i).length ≤ 65 ∧ ∀ x ∈ provAt p i, x.length ≤ 1000001 := by
 obtain ⟨n1, n2, n3, n4, n5⟩ := sound_num hs
 obtain ⟨q1, q2, q3, q4⟩ := proven_at hs h0 hi
 obtain ⟨k1, _⟩ := sound_kv hs
 have hlf := leafB_len (k1.2 _ (getD_mem (z := zPr) hi))
 obtain ⟨c1, c2⟩ := path_ok h i
 obtain ⟨r1, r2, r3⟩ := rups_eq 64 (leafB (p.2.2.1.getD i zPr)) (p.2.1 + (i : Int)).toNat p.1.toNat (p.2.2.2.1.getD i []) (by omega) q1 (by omega) (by omega) c1 c2 (by omega) q2
 have o1 := oneS_len p.1
 have u1 := upN_32 (leafB (p.2.2.1.getD i zPr)) (p.2.1 + (i : Int)).toNat p.1.toNat (p.2.2.2.1.getD i [])
 refine ⟨?_, ?_, fun x hx => ?_⟩
 ·rw [show (((p.2.1 + (i : Int)).toNat : Nat) : Int) = p.2.1 + (i : Int) from by omega, show ((p.1.toNat : Nat) : Int) = p.1 from by omega] at r1
  exact r1
 ·unfold provAt; rw [List.length_append, List.length_singleton]; omega
 ·rcases List.mem_append.1 hx with hx | hx
  ·exact r3 x hx
  ·have u2 : (provenAt p i).1.length = 32 := by rw [q3]; exact u1
   rw [List.mem_singleton.1 hx, List.length_cons, List.length_append]; omega
theorem flat_b {f : Nat → List (List UInt8)} {n c : Nat} (h : ∀ i, i < n → (f i).length ≤ c) : ∀ k, k ≤ n → ((List.range k).flatMap f).length ≤ k * c
 | 0, _ => by simp
 | k + 1, hk => by
  have := flat_b h k (by omega)
  have := h k (by omega)
  rw [List.range_succ, List.flatMap_append, List.length_append, List.flatMap_singleton, Nat.add_mul, Nat.one_mul]; omega
theorem proven_eq {root : List UInt8} {p : Prf} (h : PrfOk p) (hs : soundS root p = true) : affiantref1_Proven p = some (provS p) ∧ (provS p).length ≤ 2000 ∧ ∀ x ∈ provS p, x.length ≤ 1000001 := by
 obtain ⟨n1, n2, n3, n4, n5⟩ := sound_num hs
 have o0 := oneS_len 0
 have s2 := sha_len [2]
 unfold affiantref1_Proven provS
 by_cases h0 : p.1 = 0
 ·rw [fork_t h0, if_pos h0, rtagged_eq 2 [] (by simp) (by simp), andThen_mk, rput_eq, andThen_mk, show ([] : List (List UInt8)).flatten = [] from rfl, need_true (by rw [List.length_singleton]; omega), need_true (by rw [List.length_append, List.length_singleton]; omega)]
  refine ⟨rfl, by simp, fun x hx => ?_⟩
  simp only [List.mem_cons, List.not_mem_nil, or_false] at hx
  rcases hx with rfl | rfl
  ·simp
  ·rw [List.length_cons, List.length_append]; omega
 ·rw [fork_f h0, if_neg h0]
  have hm : p.2.2.1.length ≤ 30 := by omega
  have hpl := paths_eq hs
  have fb := flat_b (f := provAt p) (fun i hi => (prov_b h hs h0 hi).2.1)
  obtain ⟨k1, _⟩ := sound_kv hs
  have main : affiantref1_Proven_1 p.2.2.1 (p.2.2.1.length : Int) 0 p [] = some ((List.range p.2.2.1.length).flatMap (provAt p)) := by
   unfold affiantref1_Proven_1
   have := loop_for (step := fun (s : Int × List (List UInt8)) => affiantref1_Proven_1_step p.2.2.1 (p.2.2.1.length : Int) s.1 p s.2) (fun i (t : List (List UInt8)) => ((i : Int), t)) (fun i t => t ++ provAt p i) (fun t => t) p.2.2.1.length (fun i t => t = (List.range i).flatMap (provAt p)) (fun i t hi ht => ?_) (fun t ht => ?_) p.2.2.1.length 0 [] (by omega) rfl
   ·rw [show ((0 : Int), ([] : List (List UInt8))) = (((0 : Nat) : Int), []) from rfl, this]
    congr 1
    exact runFor_inv (I := fun i t => t = (List.range i).flatMap (provAt p)) (n := p.2.2.1.length) (fun i t hi ht => by rw [ht, List.range_succ, List.flatMap_append, List.flatMap_singleton]) (k := p.2.2.1.length) (i := 0) (by omega) rfl
   ·have htb : t.length ≤ 30 * 65 := by
     rw [ht]; refine Nat.le_trans (fb i (by omega)) (Nat.mul_le_mul_right _ (by omega))
    obtain ⟨q1, q2, q3, q4⟩ := proven_at hs h0 hi
    obtain ⟨b1, b2, b3⟩ := prov_b h hs h0 hi
    obtain ⟨c1, c2⟩ := path_ok h i
    have hkv := k1.2 _ (getD_mem (z := zPr) hi)
    have hlf := leafB_len hkv
    obtain ⟨x, x1, x2, x3⟩ := rup_eq (leafB (p.2.2.1.getD i zPr)) (by omega) (p.2.1 + (i : Int)) p.1 (by omega) (p.2.2.2.1.getD i []) c1 c2
    have q5 : upS (leafB (p.2.2.1.getD i zPr)) (p.2.1 + (i : Int)) p.1 (p.2.2.2.1.getD i []) = provenAt p i := rfl
    have x2 := x2 (by rw [q5, q3])
    rw [q5] at x1 x2
    rw [x2] at x1
    have u1 : (provenAt p i).1.length = 32 := by rw [q3]; exact upN_32 _ _ _ _
    have o1 := oneS_len p.1
    have hu : (upsN 64 (leafB (p.2.2.1.getD i zPr)) (p.2.1 + (i : Int)).toNat p.1.toNat (p.2.2.2.1.getD i [])).length ≤ 65 := by
     unfold provAt at b2; rw [List.length_append] at b2; omega
    refine ⟨?_, by rw [ht, List.range_succ, List.flatMap_append, List.flatMap_singleton]⟩
    dsimp only
    rw [pv_step, fork_t (by omega), need_true (by omega), Int.toNat_natCast, rLeaf_eq _ hkv, andThen_mk, need_true (by omega), w64_eq (by omega) (by omega), x1, andThen_mk]
    dsimp only
    rw [q3]
    dsimp only
    rw [fork_tt, andThen_mk, b1, andThen_mk, need_true (by omega), rput_eq, andThen_mk, need_true (by rw [List.length_singleton]; omega), need_true (by rw [List.length_append, List.length_singleton]; rw [q3] at u1; dsimp only at u1; omega), need_true (by rw [List.length_append, List.length_singleton]; omega), show w64 ((i : Int) + 1) = ((i + 1 : Nat) : Int) from by rw [w64_eq (by omega) (by omega)]; rfl]
    unfold provAt
    rw [q3, List.append_assoc]
    rfl
   ·dsimp only
    rw [pv_step, fork_f (by omega)]
  rw [main, andThen_mk]
  refine ⟨rfl, Nat.le_trans (fb _ (Nat.le_refl _)) ?_, fun x hx => ?_⟩
  ·have := Nat.mul_le_mul_right 65 hm; omega
  ·obtain ⟨i, hi, hx⟩ := List.mem_flatMap.1 hx
   exact (prov_b h hs h0 (List.mem_range.1 hi)).2.2 x hx
theorem oneS_pre {a b : Int} {r s : List UInt8} (ha : 0 ≤ a) (ha1 : a ≤ 1099511627775) (hb : 0 ≤ b) (hb1 : b ≤ 1099511627775) (h : oneS a ++ r = oneS b ++ s) : a = b ∧ r = s := by
 have h1 := num_put a ha ha1 r
 rw [h, num_put b hb hb1 s] at h1
 injection h1 with e1 e2
 injection e2 with e2 _
 exact ⟨e1.symm, e2.symm⟩
theorem txt_pre {a b r s : List UInt8} (ha : a.length ≤ 100000) (hb : b.length ≤ 100000) (h : txtS a ++ r = txtS b ++ s) : a = b ∧ r = s := by
 unfold txtS at h
 rw [List.append_assoc, List.append_assoc] at h
 obtain ⟨e1, e2⟩ := oneS_pre (by omega) (by omega) (by omega) (by omega) h
 exact List.append_inj e2 (by omega)
theorem leafB_inj {a b : Pr} (ha : a.1.length ≤ 100000 ∧ a.2.1.length ≤ 100000) (hb : b.1.length ≤ 100000 ∧ b.2.1.length ≤ 100000) (h : leafB a = leafB b) : a = b := by
 unfold leafB at h
 obtain ⟨e1, e2⟩ := txt_pre ha.1 hb.1 h
 have e2 : txtS a.2.1 ++ [] = txtS b.2.1 ++ [] := by rw [List.append_nil, List.append_nil]; exact e2
 obtain ⟨e3, _⟩ := txt_pre ha.2 hb.2 e2
 exact Prod.ext e1 (Prod.ext e3 rfl)
theorem binds_at {l : List Pr} (hk : KvOk l) {p : Prf} (h : PrfOk p) (hs : soundS (rootL l) p = true) (hA : Apart (inputsS l ++ provS p)) : p.1 = (l.length : Int) ∧ ∀ i, i < p.2.2.1.length → p.2.2.1.getD i zPr = l.getD (p.2.1.toNat + i) zPr := by
 obtain ⟨n1, n2, n3, n4, n5⟩ := sound_num hs
 have hl := hk.1
 have hin : (83 :: (oneS (l.length : Int) ++ rootS (leavesB l))) ∈ inputsS l ++ provS p := List.mem_append_left _ (List.mem_append_right _ (List.mem_singleton.2 rfl))
 have r1 := rootS_len (leavesB l)
 by_cases h0 : p.1 = 0
 ·have hr : rootL l = rootL [] := by
   have hs2 := hs
   unfold soundS at hs2
   simp only [Bool.and_eq_true] at hs2
   have hs2 := hs2.2.2.2
   rw [if_pos h0, hq_iff] at hs2
   exact hs2
  have hpv : (83 :: (oneS 0 ++ sha [2])) ∈ inputsS l ++ provS p := by
   refine List.mem_append_right _ ?_
   unfold provS; rw [if_pos h0]; simp
  have e := hA _ hin _ hpv (by
   have : rootL l = sha (83 :: (oneS (l.length : Int) ++ rootS (leavesB l))) := rfl
   rw [← this, hr]
   show sha (83 :: (oneS (0 : Int) ++ rootS (leavesB []))) = _
   rw [show leavesB [] = [] from rfl, rootS_none])
  injection e with _ e
  obtain ⟨e1, _⟩ := oneS_pre (by omega) (by omega) (by omega) (by omega) e
  exact ⟨by omega, fun i hi => by omega⟩
 ·have hm : 0 < p.2.2.1.length := by omega
  have mem : ∀ i, i < p.2.2.1.length → ∀ x ∈ provAt p i, x ∈ inputsS l ++ provS p := fun i hi x hx => by
   refine List.mem_append_right _ ?_
   unfold provS; rw [if_neg h0]
   exact List.mem_flatMap.2 ⟨i, List.mem_range.2 hi, hx⟩
  have top : ∀ i, i < p.2.2.1.length → p.1 = (l.length : Int) ∧ (provenAt p i).1 = rootS (leavesB l) := fun i hi => by
   obtain ⟨q1, q2, q3, q4⟩ := proven_at hs h0 hi
   have e := hA _ (mem i hi _ (List.mem_append_right _ (List.mem_singleton.2 rfl))) _ hin (by
    have : rootL l = sha (83 :: (oneS (l.length : Int) ++ rootS (leavesB l))) := rfl
    rw [← this, ← q4]
    unfold boundS
    rw [show ((p.1.toNat : Nat) : Int) = p.1 from by omega])
   injection e with _ e
   exact oneS_pre (by omega) (by omega) (by omega) (by omega) e
  have hn := (top 0 hm).1
  refine ⟨hn, fun i hi => ?_⟩
  obtain ⟨q1, q2, q3, q4⟩ := proven_at hs h0 hi
  obtain ⟨k1, _⟩ := sound_kv hs
  obtain ⟨c1, c2⟩ := path_ok h i
  have e := (top i hi).2
  rw [q3] at e
  have en : p.1.toNat = (leavesB l).length := by rw [leavesB_len]; omega
  rw [en] at q1 q2 e
  have hlv := bind_up (inputsS l ++ provS p) hA 64 (leavesB l) (leafB (p.2.2.1.getD i zPr)) (p.2.1 + (i : Int)).toNat (p.2.2.2.1.getD i []) (by rw [leavesB_len]; omega) q1 (by rw [leavesB_len]; omega)
   (fun x hx => List.mem_append_left _ (List.mem_append_left _ hx)) (fun x hx => mem i hi x (List.mem_append_left _ (by rw [en]; exact hx))) q2 c1 e
  rw [leavesB_len] at q1
  have hg : (leavesB l).getD (p.2.1 + (i : Int)).toNat [] = leafB (l.getD (p.2.1 + (i : Int)).toNat zPr) := by
   unfold leavesB
   rw [List.getD_eq_getElem?_getD, List.getD_eq_getElem?_getD, List.getElem?_map, List.getElem?_eq_getElem q1]; rfl
  rw [hg] at hlv
  rw [leafB_inj (k1.2 _ (getD_mem (z := zPr) hi)) (hk.2 _ (getD_mem (z := zPr) q1)) hlv, show (p.2.1 + (i : Int)).toNat = p.2.1.toNat + i from by omega]
theorem binds_part {l : List Pr} (hk : KvOk l) {p : Prf} (h : PrfOk p) (hs : soundS (rootL l) p = true) (hA : Apart (inputsS l ++ provS p)) : p.1 = (l.length : Int) ∧ p.2.1.toNat + p.2.2.1.length ≤ l.length ∧ p.2.2.1 = (l.drop p.2.1.toNat).take p.2.2.1.length := by
 obtain ⟨n1, n2, n3, n4, n5⟩ := sound_num hs
 obtain ⟨e1, e2⟩ := binds_at hk h hs hA
 refine ⟨e1, by omega, ?_⟩
 apply List.ext_getElem
 ·rw [List.length_take, List.length_drop]; omega
 ·intro i h1 h2
  have := e2 i h1
  rw [List.getD_eq_getElem?_getD, List.getD_eq_getElem?_getD, List.getElem?_eq_getElem h1, List.getElem?_eq_getElem (by omega)] at this
  rw [List.getElem_take, List.getElem_drop]
  exact this
theorem binds_range {l : List Pr} (hk : KvOk l) (hr : RiseP l) {p : Prf} (h : PrfOk p) {a b : List UInt8} (hs : (rangeS (rootL l) a b p).2 = true) (hA : Apart (inputsS l ++ provS p)) : (rangeS (rootL l) a b p).1 = rangeF l a b ∧ (rangeF p.2.2.1 a b = rangeF l a b) ∧ (p.2.2.1.length = 0 → l = []) ∧ (p.2.2.1.length ≠ 0 → beginsS p a = true ∧ endsS p (maxS a b) = true) := by
 have hsd := rangeS_sound hs
 obtain ⟨n1, n2, n3, n4, n5⟩ := sound_num hsd
 obtain ⟨e1, e2, e3⟩ := binds_part hk h hsd hA
 have hl := hk.1
 unfold rangeS at hs ⊢
 rw [if_pos hsd] at hs ⊢
 by_cases c : p.2.2.1.length = 0
 ·have : l = [] := List.eq_nil_of_length_eq_zero (by omega)
  have e4 : p.2.2.1 = [] := List.eq_nil_of_length_eq_zero c
  rw [if_pos c, this, e4]
  exact ⟨rfl, rfl, fun _ => rfl, fun h => absurd rfl h⟩
 ·rw [if_neg c] at hs ⊢
  split at hs
  ·rename_i hbe
   rw [if_pos hbe]
   rw [Bool.and_eq_true] at hbe
   have key : rangeF p.2.2.1 a b = rangeF l a b := by
    obtain ⟨g1, g2, g3⟩ := ends_get l (F := p.2.1.toNat) (T := p.2.1.toNat + p.2.2.1.length) (by omega) e2
    have e5 : p.2.1.toNat + p.2.2.1.length - p.2.1.toNat = p.2.2.1.length := by omega
    rw [e5] at g1 g2 g3
    rw [← e3] at g1 g2 g3
    have := range_part l hr a b p.2.1.toNat (p.2.1.toNat + p.2.2.1.length) (by omega) e2 ?_ ?_
    ·rw [e5, ← e3] at this; exact this
    ·have hb := hbe.1
     unfold beginsS at hb
     rw [Bool.or_eq_true, decide_eq_true_eq, g2] at hb
     rcases hb with hb | hb
     ·exact .inl (by omega)
     ·exact .inr ((below_iff hr a (by omega)).1 hb)
    ·have hb := hbe.2
     unfold endsS at hb
     rw [Bool.or_eq_true, decide_eq_true_eq, g3, Bool.not_eq_true'] at hb
     rcases hb with hb | hb
     ·exact .inl (by omega)
     ·refine .inr ?_
      have : ¬ p.2.1.toNat + p.2.2.1.length - 1 < belowN l (maxS a b) := fun h => by
       rw [(below_iff hr (maxS a b) (by omega)).2 h] at hb; cases hb
      omega
   exact ⟨key, key, fun h => absurd h c, fun _ => hbe⟩
  ·cases hs
def wantS (l : List Pr) (q : Qry) : List Pr := if q.1 = 1 then (if isAt l q.2.1 then [(q.2.1, (l.getD (belowN l q.2.1) zPr).2.1, ())] else []) else rangeF l q.2.1 q.2.2.1
theorem adm_sound {q : Qry} {root : List UInt8} {r : Rsp} (h : admS q root r = 0) : soundS root r.2.2.2.1 = true := by
 unfold admS at h
 split at h
 ·split at h
  ·split at h
   ·rename_i c; rw [Bool.and_eq_true] at c; exact rangeS_sound c.1
   ·cases h
  ·split at h
   ·split at h
    ·rename_i c; unfold absS at c; rw [Bool.and_eq_true] at c; exact rangeS_sound c.1
    ·cases h
   ·split at h
    ·split at h
     ·rename_i c; unfold existS at c; rw [Bool.and_eq_true, Bool.and_eq_true] at c; exact c.2.1
     ·cases h
    ·cases h
 ·cases h
theorem binds_want {l : List Pr} (hk : KvOk l) (hr : RiseP l) {q : Qry} (hq : q.1 = 1 ∨ q.1 = 2) {r : Rsp} (h : PrfOk r.2.2.2.1) (ha : admS q (rootL l) r = 0) (hA : Apart (inputsS l ++ provS r.2.2.2.1)) : r.2.2.1 = wantS l q := by
 have hsd := adm_sound ha
 have hl := hk.1
 obtain ⟨n1, n2, n3, n4, n5⟩ := sound_num hsd
 obtain ⟨e1, e2, e3⟩ := binds_part hk h hsd hA
 unfold admS at ha
 unfold wantS
 split at ha
 ·split at ha
  ·rename_i c2
   rw [if_neg (by omega)]
   split at ha
   ·rename_i c
    rw [Bool.and_eq_true, decide_eq_true_eq] at c
    rw [← c.2]
    exact (binds_range hk hr h c.1 hA).1
   ·cases ha
  ·rename_i c2
   rw [if_pos (by omega)]
   split at ha
   ·rename_i c0
    split at ha
    ·rename_i c
     unfold absS at c
     rw [Bool.and_eq_true, Bool.not_eq_true'] at c
     obtain ⟨_, _, b3, b4⟩ := binds_range hk hr h c.1 hA
     have hno : isAt l q.2.1 = false := by
      rw [← Bool.not_eq_true]
      intro hat
      obtain ⟨z1, z2⟩ := isAt_lt hat
      by_cases m0 : r.2.2.2.1.2.2.1.length = 0
      ·rw [b3 m0] at z1; simp at z1
      ·obtain ⟨b5, b6⟩ := b4 m0
       obtain ⟨g1, g2, g3⟩ := ends_get l (F := r.2.2.2.1.2.1.toNat) (T := r.2.2.2.1.2.1.toNat + r.2.2.2.1.2.2.1.length) (by omega) e2
       have e5 : r.2.2.2.1.2.1.toNat + r.2.2.2.1.2.2.1.length - r.2.2.2.1.2.1.toNat = r.2.2.2.1.2.2.1.length := by omega
       rw [e5] at g1 g2 g3
       rw [← e3] at g1 g2 g3
       have lo : r.2.2.2.1.2.1.toNat ≤ belowN l q.2.1 := by
        unfold beginsS at b5
        rw [Bool.or_eq_true, decide_eq_true_eq, g2] at b5
        rcases b5 with hb | hb
        ·omega
        ·have := (below_iff hr q.2.1 (i := r.2.2.2.1.2.1.toNat) (by omega)).1 hb; omega
       have hi : belowN l q.2.1 < r.2.2.2.1.2.1.toNat + r.2.2.2.1.2.2.1.length := by
        unfold endsS at b6
        rw [Bool.or_eq_true, decide_eq_true_eq, g3, Bool.not_eq_true', maxS_self] at b6
        rcases b6 with hb | hb
        ·omega
        ·have : ¬ r.2.2.2.1.2.1.toNat + r.2.2.2.1.2.2.1.length - 1 < belowN l q.2.1 := fun h => by
          rw [(below_iff hr q.2.1 (by omega)).2 h] at hb; cases hb
         omega
       have : isAt r.2.2.2.1.2.2.1 q.2.1 = true := by
        have hr2 := (sound_kv hsd).2
        refine (isAt_iff hr2 q.2.1).2 ⟨l.getD (belowN l q.2.1) zPr, ?_, z2⟩
        rw [e3]
        have hgd : ((l.drop r.2.2.2.1.2.1.toNat).take r.2.2.2.1.2.2.1.length).getD (belowN l q.2.1 - r.2.2.2.1.2.1.toNat) zPr = l.getD (belowN l q.2.1) zPr := by
         rw [List.getD_eq_getElem?_getD, List.getD_eq_getElem?_getD, List.getElem?_take, if_pos (by omega), List.getElem?_drop, show r.2.2.2.1.2.1.toNat + (belowN l q.2.1 - r.2.2.2.1.2.1.toNat) = belowN l q.2.1 from by omega]
        rw [← hgd]
        exact getD_mem (z := zPr) (by rw [List.length_take, List.length_drop]; omega)
       rw [this] at c; cases c.2
     rw [hno, if_neg (by simp)]
     exact List.eq_nil_of_length_eq_zero c0
    ·cases ha
   ·split at ha
    ·rename_i c1
     split at ha
     ·rename_i c
      rw [Bool.and_eq_true, decide_eq_true_eq] at c
      obtain ⟨ck, ce⟩ := c
      unfold existS at ce
      rw [Bool.and_eq_true, decide_eq_true_eq] at ce
      obtain ⟨_, ce⟩ := ce
      have hrp : r.2.2.1 = [r.2.2.1.getD 0 zPr] := by
       match hh : r.2.2.1, c1 with
       | [x], _ => rfl
      have m1 : r.2.2.2.1.2.2.1.length = 1 := by rw [ce]; rfl
      have hat : l.getD r.2.2.2.1.2.1.toNat zPr = r.2.2.1.getD 0 zPr := by
       have := (binds_at hk h hsd hA).2 0 (by omega)
       rw [ce, Nat.add_zero] at this
       exact this.symm
      have hbl : belowN l q.2.1 = r.2.2.2.1.2.1.toNat := by
       refine below_uniq l q.2.1 _ (by omega) (fun i hi => ?_) (fun hi => ?_)
       ·have := krise_get hr hi (show r.2.2.2.1.2.1.toNat < l.length by omega)
        rw [hat, ck] at this; exact this
       ·rw [hat, ck]; exact sless_irr _
      have : isAt l q.2.1 = true := by
       unfold isAt
       rw [decide_eq_true_eq, hbl, hat, ck]
       exact ⟨by omega, rfl⟩
      rw [this, if_pos rfl, hbl, hat, hrp]
      congr 1
      exact Prod.ext ck (Prod.ext rfl rfl)
     ·cases ha
    ·cases ha
 ·cases ha
theorem binds_tail {l : List Pr} (hk : KvOk l) (hr : RiseP l) {q : Qry} (hq : q.1 = 1 ∨ q.1 = 2) {r : Rsp} (h : RspB r) (ha : admS q (rootL l) r = 0) (want : List Pr) (hw : want = wantS l q) :
  (andThen (affiantbook_Same_Pair r.2.2.1 want) (fun u61 => fork u61 (andThen (affiantlaw17_AdmitRuns) (fun u64 => some u64)) (andThen (affiantref1_Inputs l) (fun u66 => andThen (affiantref1_Proven r.2.2.2.1) (fun u68 => need (List.length u66 + List.length u68 ≤ 2147483648) (andThen (affiantref1_Clash (u66 ++ u68)) (fun u71 => fork u71 (andThen (affiantlaw17_AdmitRuns) (fun u74 => some u74)) (none)))))))) = some true := by
 obtain ⟨i1, i2, i3⟩ := inputs_eq l hk
 obtain ⟨p1, p2, p3⟩ := proven_eq h.1 (adm_sound ha)
 obtain ⟨b, c1, c2⟩ := clash_eq (inputsS l ++ provS r.2.2.2.1) (by rw [List.length_append]; omega) (fun x hx => by
  rcases List.mem_append.1 hx with hx | hx
  ·have := i3 x hx; omega
  ·have := p3 x hx; omega)
 rw [psame_eq _ _ (by have := h.2.1; omega), andThen_mk]
 by_cases e : r.2.2.1 = want
 ·rw [fork_t e, law_AdmitRuns]; rfl
 ·rw [fork_f e, i1, andThen_mk, p1, andThen_mk, need_true (by omega), c1, andThen_mk]
  cases b with
  | true => rw [fork_tt, law_AdmitRuns]; rfl
  | false => exact absurd ((binds_want hk hr hq h.1 ha (c2 rfl)).trans hw.symm) e
theorem binds_honest {l : List Pr} (hrow : RowOk l) {q : Qry} (hq : q.1 = 1 ∨ q.1 = 2) : admS q (rootL l) (ansS 1 q 3 l) = 0 := by
 have hk := row_kv hrow
 have hrt := row_right hrow
 have hr := hrow.1
 obtain ⟨o1, o2, o3, o4, o5⟩ := ans_ok 1 q 3 l hrow
 have hR : admR (ansS 1 q 3 l) = true := by
  unfold admR
  rw [o5, o3]; rfl
 unfold admS
 rw [hR, if_pos rfl]
 rcases hq with c | c
 ·rw [if_neg (by omega)]
  cases ha : isAt l q.2.1 with
  | true =>
   obtain ⟨q1, q2⟩ := isAt_lt ha
   have e : ansS 1 q 3 l = (1, 3, [l.getD (belowN l q.2.1) zPr], someN l (belowN l q.2.1) (belowN l q.2.1 + 1), ()) := by unfold ansS; rw [if_pos ⟨c, ha⟩]
   rw [e]
   dsimp only
   rw [if_neg (by simp), if_pos (by rfl)]
   have he : existS (rootL l) (l.getD (belowN l q.2.1) zPr) (someN l (belowN l q.2.1) (belowN l q.2.1 + 1)) = true := by
    unfold existS
    rw [rootL_self l hrt _ _ (by omega), decide_eq_true (show belowN l q.2.1 < belowN l q.2.1 + 1 by omega), Bool.or_true, Bool.true_and, decide_eq_true_eq, someN_one l q1]
   rw [show [l.getD (belowN l q.2.1) zPr].getD 0 zPr = l.getD (belowN l q.2.1) zPr from rfl, he, decide_eq_true q2]; rfl
  | false =>
   have e : ansS 1 q 3 l = (1, 3, rangeF l q.2.1 q.2.1, someN l (belowN l q.2.1 - 1) (min (belowN l (maxS q.2.1 q.2.1) + 1) l.length), ()) := by
    unfold ansS endQ; rw [if_neg (fun h => by rw [ha] at h; cases h.2), if_pos c]
   have hA : absS (rootL l) q.2.1 (someN l (belowN l q.2.1 - 1) (min (belowN l (maxS q.2.1 q.2.1) + 1) l.length)) = true := by
    unfold absS
    rw [honest_range l hrt, Bool.true_and, Bool.not_eq_true', ← Bool.not_eq_true]
    intro hat
    obtain ⟨z1, z2⟩ := isAt_lt hat
    have hm := getD_mem (z := zPr) z1
    generalize (someN l (belowN l q.2.1 - 1) (min (belowN l (maxS q.2.1 q.2.1) + 1) l.length)).2.2.1.getD (belowN (someN l (belowN l q.2.1 - 1) (min (belowN l (maxS q.2.1 q.2.1) + 1) l.length)).2.2.1 q.2.1) zPr = u at hm z2
    have hm2 : u ∈ l := by
     unfold someN at hm
     split at hm
     ·cases hm
     ·exact List.mem_of_mem_drop (List.mem_of_mem_take hm)
    rw [(isAt_iff hr q.2.1).2 ⟨u, hm2, z2⟩] at ha; cases ha
   rw [e]
   dsimp only
   rw [rangeF_self, if_pos (by rfl), hA]; rfl
 ·rw [if_pos c]
  have e : ansS 1 q 3 l = (1, 3, rangeF l q.2.1 q.2.2.1, someN l (belowN l q.2.1 - 1) (min (belowN l (maxS q.2.1 q.2.2.1) + 1) l.length), ()) := by
   unfold ansS endQ; rw [if_neg (by omega), if_neg (by omega)]
  rw [e]
  dsimp only
  rw [honest_range l hrt, decide_eq_true rfl]; rfl
theorem law_AdmitBinds (y0 : List Int) (y1 y2 : Int × Int × Int × Int × Int × Unit) (y3 y4 y5 y6 : Int) (w0 : Wf (.slice (.int .i64)) y0) (w1 : Wf (.fld (.int .i64) (.fld (.int .i64) (.fld (.int .i64) (.fld (.int .i64) (.fld (.int .i64) .unit))))) y1) (w2 : Wf (.fld (.int .i64) (.fld (.int .i64) (.fld (.int .i64) (.fld (.int .i64) (.fld (.int .i64) .unit))))) y2) (w3 : Wf (.int .i64) y3) (w4 : Wf (.int .i64) y4) (w5 : Wf (.int .i64) y5) (w6 : Wf (.int .i64) y6) : affiantlaw17_AdmitBinds y0 y1 y2 y3 y4 y5 y6 = some true := by
 have e8 : tyBytes (.int .i64) = 8 := rfl
 have hp0 : y0.length ≤ 140737488355328 := by have := w0.1; rw [e8] at this; omega
 obtain ⟨l, el, hrow⟩ := pairs_eq y0 hp0
 obtain ⟨q, eq, hq⟩ := query_eq y1
 obtain ⟨p, ep, hp⟩ := query_eq y2
 have hk := row_kv hrow
 have hr := hrow.1
 have hl := hk.1
 obtain ⟨a1, a2⟩ := ans_b q 3 l hrow
 obtain ⟨b1, b2⟩ := ans_b p 3 l hrow
 obtain ⟨x, ex, hx, hx2⟩ := response_len _ _ a1 b1 a2 b2 y3 y4 y5
 obtain ⟨z, ez, hz, hz2⟩ := response_len _ _ hx a1 hx2 a2 y6 y5 y4
 unfold affiantlaw17_AdmitBinds
 rw [el, andThen_mk, eq, andThen_mk, ep, andThen_mk, stroot_eq l hk, andThen_mk, answer_eq 1 q 3 l hk, andThen_mk, admCheck_eq q (rootL l) _ a1.1 (by have := a1.2.1; omega), binds_honest hrow hq, andThen_mk, fork_nt rfl, answer_eq 1 p 3 l hk, andThen_mk, ex, andThen_mk, ez, andThen_mk, admCheck_eq q (rootL l) z hz.1 (by have := hz.2.1; omega), andThen_mk]
 by_cases c : admS q (rootL l) z = 0
 ·rw [fork_nt c, kvRange_eq l hr (by omega), andThen_mk]
  by_cases c1 : q.1 = 1
  ·rw [fork_t c1, kget_eq l hr (by omega), andThen_mk]
   cases hat : isAt l q.2.1 with
   | true =>
    rw [if_pos rfl]
    exact binds_tail hk hr hq hz c _ (by unfold wantS; rw [if_pos c1, hat, if_pos rfl])
   | false =>
    rw [if_neg (by simp)]
    exact binds_tail hk hr hq hz c _ (by unfold wantS; rw [if_pos c1, hat, if_neg (by simp)])
  ·rw [fork_f c1]
   exact binds_tail hk hr hq hz c _ (by unfold wantS; rw [if_neg c1])
 ·rw [fork_nf c, law_AdmitRuns]; rfl
end Go.Ax.V
