/-
  Rows of pairs: a key's place, its value.
-/
import Derived.Test.YtmgmncfhldelfaaCAdmitTellsLPow
namespace Go.Ax.V
open Go.Ax
set_option linter.unusedVariables false
set_option linter.unusedSimpArgs false
abbrev Pr := List UInt8 × List UInt8 × Unit
def zPr : Pr := ([], [], ())
abbrev PT : Ty := .fld .str (.fld .str .unit)
theorem pbeq (a b : Pr) : Ty.beq PT a b = decide (a = b) := by
 rw [Bool.eq_iff_iff, Ty.beq_iff PT rfl a b, decide_eq_true_eq]
theorem sless_tot : ∀ a b : List UInt8, sless a b = false → a = b ∨ sless b a = true
 | [], [], _ => .inl rfl
 | _ :: _, [], _ => .inr rfl
 | [], _ :: _, h => by simp [sless] at h
 | x :: a, y :: b, h => by
  simp only [sless, Bool.or_eq_false_iff, Bool.and_eq_false_iff, decide_eq_false_iff_not, beq_eq_false_iff_ne, ne_eq] at h
  obtain ⟨h1, h2⟩ := h
  by_cases e : x = y
  ·subst e
   rcases sless_tot a b (h2.resolve_left (fun q => q rfl)) with rfl | h
   ·exact .inl rfl
   ·exact .inr (by simp [sless, h])
  ·right
   have : y < x := by
    rcases UInt8.lt_or_lt_of_ne e with q | q
    ·exact absurd q h1
    ·exact q
   simp [sless, this]
theorem cmp_neg : ∀ a b : List UInt8, (cmpS a b < 0) ↔ sless a b = true
 | [], [] => by simp [cmpS, Lib.compareBytes, sless]
 | [], _ :: _ => by simp [cmpS, Lib.compareBytes, sless]
 | _ :: _, [] => by simp [cmpS, Lib.compareBytes, sless]
 | x :: a, y :: b => by
  have ih := cmp_neg a b
  unfold cmpS at ih
  unfold cmpS
  rw [Lib.compareBytes, sless]
  by_cases h : x < y
  ·simp [h]
  ·rw [if_neg h]
   by_cases h2 : y < x
   ·have hne : x ≠ y := fun e => by subst e; exact h h2
    rw [if_pos h2]; simp [h, hne]
   ·have he : x = y := UInt8.le_antisymm (UInt8.not_lt.1 h2) (UInt8.not_lt.1 h)
    rw [if_neg h2, ih]; simp [he]
theorem cmp_zero : ∀ a b : List UInt8, (cmpS a b = 0) ↔ a = b
 | [], [] => by simp [cmpS, Lib.compareBytes]
 | [], _ :: _ => by simp [cmpS, Lib.compareBytes]
 | _ :: _, [] => by simp [cmpS, Lib.compareBytes]
 | x :: a, y :: b => by
  have ih := cmp_zero a b
  unfold cmpS at ih
  unfold cmpS
  rw [Lib.compareBytes]
  by_cases h : x < y
  ·have hne : x ≠ y := fun e => by subst e; exact UInt8.lt_irrefl _ h
   rw [if_pos h]; simp [hne]
  ·rw [if_neg h]
   by_cases h2 : y < x
   ·have hne : x ≠ y := fun e => by subst e; exact h h2
    rw [if_pos h2]; simp [hne]
   ·have he : x = y := UInt8.le_antisymm (UInt8.not_lt.1 h2) (UInt8.not_lt.1 h)
    rw [if_neg h2, ih]; simp [he]
def belowN : List Pr → List UInt8 → Nat
 | [], _ => 0
 | p :: r, k => bif sless p.1 k then belowN r k + 1 else 0
theorem below_le : ∀ (l : List Pr) (k : List UInt8), belowN l k ≤ l.length
 | [], _ => Nat.le_refl _
 | p :: r, k => by
  have := below_le r k
  unfold belowN
  cases sless p.1 k
  ·exact Nat.zero_le _
  ·rw [cond_true, List.length_cons]; omega
theorem below_lt : ∀ (l : List Pr) (k : List UInt8) (i : Nat), i < belowN l k → sless (l.getD i zPr).1 k = true
 | [], _, i, h => by unfold belowN at h; omega
 | p :: r, k, i, h => by
  unfold belowN at h
  cases e : sless p.1 k with
  | false => rw [e, cond_false] at h; omega
  | true =>
   rw [e, cond_true] at h
   match i with
   | 0 => exact e
   | j + 1 => exact below_lt r k j (by omega)
theorem below_at : ∀ (l : List Pr) (k : List UInt8), belowN l k < l.length → sless (l.getD (belowN l k) zPr).1 k = false
 | [], _, h => by simp at h
 | p :: r, k, h => by
  unfold belowN at h ⊢
  cases e : sless p.1 k with
  | false => exact e
  | true =>
   rw [e, cond_true, List.length_cons] at h
   exact below_at r k (by omega)
theorem below_uniq (l : List Pr) (k : List UInt8) (n : Nat) (hn : n ≤ l.length) (h1 : ∀ i, i < n → sless (l.getD i zPr).1 k = true) (h2 : n < l.length → sless (l.getD n zPr).1 k = false) : belowN l k = n := by
 rcases Nat.lt_trichotomy (belowN l k) n with h | h | h
 ·have a := h1 _ h
  rw [below_at l k (by omega)] at a; cases a
 ·exact h
 ·have a := below_lt l k n h
  have b := below_le l k
  rw [h2 (by omega)] at a; cases a
def RiseP (l : List Pr) : Prop := l.Pairwise (fun a b => sless a.1 b.1 = true)
theorem krise_get {l : List Pr} (h : RiseP l) {i j : Nat} (hij : i < j) (hj : j < l.length) : sless (l.getD i zPr).1 (l.getD j zPr).1 = true := by
 rw [List.getD_eq_getElem?_getD, List.getD_eq_getElem?_getD, List.getElem?_eq_getElem hj, List.getElem?_eq_getElem (by omega)]
 exact List.pairwise_iff_getElem.1 h i j (by omega) hj hij
theorem below_iff {l : List Pr} (h : RiseP l) (k : List UInt8) {i : Nat} (hi : i < l.length) : sless (l.getD i zPr).1 k = true ↔ i < belowN l k := by
 refine ⟨fun hs => ?_, below_lt l k i⟩
 apply Classical.byContradiction
 intro hn
 have b := below_at l k (by omega)
 rcases Nat.lt_or_ge (belowN l k) i with c | c
 ·rw [sless_trans _ _ _ (krise_get h c hi) hs] at b; cases b
 ·have : belowN l k = i := by omega
  rw [this, hs] at b; cases b
theorem below_mono (l : List Pr) (a b : List UInt8) (h : sless a b = false) : belowN l b ≤ belowN l a := by
 apply Nat.le_of_not_lt
 intro hc
 have hl := below_le l b
 have h1 := below_lt l b _ hc
 have h2 := below_at l a (by omega)
 rcases sless_tot a b h with rfl | q
 ·rw [h1] at h2; cases h2
 ·rw [sless_trans _ _ _ h1 q] at h2; cases h2
def isAt (l : List Pr) (k : List UInt8) : Bool := decide (belowN l k < l.length ∧ (l.getD (belowN l k) zPr).1 = k)
theorem isAt_iff {l : List Pr} (h : RiseP l) (k : List UInt8) : isAt l k = true ↔ ∃ p ∈ l, p.1 = k := by
 unfold isAt
 rw [decide_eq_true_eq]
 constructor
 ·rintro ⟨h1, h2⟩
  exact ⟨_, getD_mem h1, h2⟩
 ·rintro ⟨p, hp, e⟩
  obtain ⟨i, hi, rfl⟩ := List.getElem_of_mem hp
  have hg : l.getD i zPr = l[i] := by rw [List.getD_eq_getElem?_getD, List.getElem?_eq_getElem hi]; rfl
  have : belowN l k = i := by
   refine below_uniq l k i (by omega) (fun j hj => ?_) fun _ => ?_
   ·rw [← e, ← hg]; exact krise_get h hj hi
   ·rw [hg, e]; exact sless_irr k
  rw [this, hg]; exact ⟨hi, e⟩
theorem mid_eq (i j : Nat) (h : i + j ≤ 1073741824) : w64 ((UInt64.toNat (UInt64.ofNat (UInt64.toNat (UInt64.ofNat (Int.toNat ((w64 ((i : Int) + (j : Int))) % 18446744073709551616))) >>> (Int.toNat (1 : Int)))) : Nat) : Int) = (((i + j) / 2 : Nat) : Int) := by
 rw [w64_eq (n := (i : Int) + (j : Int)) (by omega) (by omega)]
 have e1 : Int.toNat (((i : Int) + (j : Int)) % 18446744073709551616) = i + j := by omega
 have e2 : UInt64.toNat (UInt64.ofNat (i + j)) = i + j := by rw [UInt64.toNat_ofNat']; omega
 have e3 : (i + j) >>> (Int.toNat (1 : Int)) = (i + j) / 2 := rfl
 have e4 : UInt64.toNat (UInt64.ofNat ((i + j) / 2)) = (i + j) / 2 := by rw [UInt64.toNat_ofNat']; omega
 rw [e1, e2, e3, e4, w64_eq (by omega) (by omega)]
theorem placeF_eq (p : Pr) (k : List UInt8) : kv_placeF1 p k = some (cmpS p.1 k) := rfl
theorem bs_step (x0 : List Pr) (x1 : List UInt8) (x2 : Int) (x3 : Int) (x4 : Int) : slices_BinarySearchFunc_LPair_Pair_string_1a7a_1_step x0 x1 x2 x3 x4 =
  (fork (decide (x3 < x4)) (need (0 ≤ (w64 ((UInt64.toNat (UInt64.ofNat (UInt64.toNat (UInt64.ofNat (Int.toNat ((w64 (x3 + x4)) % 18446744073709551616))) >>> (Int.toNat (1 : Int)))) : Nat) : Int)) ∧ (w64 ((UInt64.toNat (UInt64.ofNat (UInt64.toNat (UInt64.ofNat (Int.toNat ((w64 (x3 + x4)) % 18446744073709551616))) >>> (Int.toNat (1 : Int)))) : Nat) : Int)) < (List.length x0 : Int)) (andThen (kv_placeF1 (List.getD x0 (Int.toNat (w64 ((UInt64.toNat (UInt64.ofNat (UInt64.toNat (UInt64.ofNat (Int.toNat ((w64 (x3 + x4)) % 18446744073709551616))) >>> (Int.toNat (1 : Int)))) : Nat) : Int))) zPr) x1) (fun u4 => fork (decide (u4 < (0 : Int))) (some (.inl ((w64 ((w64 ((UInt64.toNat (UInt64.ofNat (UInt64.toNat (UInt64.ofNat (Int.toNat ((w64 (x3 + x4)) % 18446744073709551616))) >>> (Int.toNat (1 : Int)))) : Nat) : Int)) + (1 : Int))), x4))) (some (.inl (x3, (w64 ((UInt64.toNat (UInt64.ofNat (UInt64.toNat (UInt64.ofNat (Int.toNat ((w64 (x3 + x4)) % 18446744073709551616))) >>> (Int.toNat (1 : Int)))) : Nat) : Int)))))))) (some (.inr (x0, x1, x2, x3))) : Option ((Int × Int) ⊕ ((List Pr) × List UInt8 × Int × Int))) := rfl
theorem bs_loop (l : List Pr) (hr : RiseP l) (hl : l.length ≤ 1000) (k : List UInt8) : ∀ (m i j : Nat), j - i ≤ m → i ≤ belowN l k → belowN l k ≤ j → j ≤ l.length →
  slices_BinarySearchFunc_LPair_Pair_string_1a7a_1 l k (l.length : Int) (i : Int) (j : Int) = some (l, k, (l.length : Int), (belowN l k : Int))
 | m, i, j, hm, h1, h2, h3 => by
  unfold slices_BinarySearchFunc_LPair_Pair_string_1a7a_1
  by_cases c : i < j
  ·have hs : slices_BinarySearchFunc_LPair_Pair_string_1a7a_1_step l k (l.length : Int) (i : Int) (j : Int) = some (.inl (if (i + j) / 2 < belowN l k then ((((i + j) / 2 + 1 : Nat) : Int), (j : Int)) else ((i : Int), (((i + j) / 2 : Nat) : Int)))) := by
    rw [bs_step, fork_t (by omega), mid_eq i j (by omega), need_true (by omega), Int.toNat_natCast, placeF_eq, andThen_mk, w64_eq (by omega) (by omega)]
    by_cases q : (i + j) / 2 < belowN l k
    ·rw [if_pos q, fork_t ((cmp_neg _ _).2 (below_lt l k _ q))]; rfl
    ·rw [if_neg q, fork_f (fun e => q ((below_iff hr k (by omega)).1 ((cmp_neg _ _).1 e)))]
   rw [loop_next hs]
   match m with
   | 0 => omega
   | m + 1 =>
    by_cases q : (i + j) / 2 < belowN l k
    ·rw [if_pos q]
     exact bs_loop l hr hl k m ((i + j) / 2 + 1) j (by omega) (by omega) h2 h3
    ·rw [if_neg q]
     exact bs_loop l hr hl k m i ((i + j) / 2) (by omega) h1 (by omega) (by omega)
  ·have : i = belowN l k := by omega
   subst this
   exact loop_out (by rw [bs_step, fork_f (by omega)])
theorem place_eq (l : List Pr) (hr : RiseP l) (hl : l.length ≤ 1000) (k : List UInt8) : kv_place l k = some ((belowN l k : Int), isAt l k) := by
 have hb := below_le l k
 have h : slices_BinarySearchFunc_LPair_Pair_string_1a7a l k = some ((belowN l k : Int), isAt l k) := by
  unfold slices_BinarySearchFunc_LPair_Pair_string_1a7a
  rw [show ((0 : Int)) = ((0 : Nat) : Int) from rfl, bs_loop l hr hl k l.length 0 l.length (by omega) (by omega) hb (Nat.le_refl _), andThen_mk]
  simp only
  unfold isAt
  by_cases c : belowN l k < l.length
  ·rw [fork_t (by omega), need_true (by omega), placeF_eq, andThen_mk, Int.toNat_natCast]
   congr 2
   exact decide_eq_decide.2 ⟨fun e => ⟨c, (cmp_zero _ _).1 e⟩, fun e => (cmp_zero _ _).2 e.2⟩
  ·rw [fork_f (by omega), decide_eq_false (fun e => c e.1)]
 unfold kv_place
 rw [h, andThen_mk]
theorem kfirst_eq (l : List Pr) (hr : RiseP l) (hl : l.length ≤ 1000) (k : List UInt8) : kv_First l k = some (belowN l k : Int) := by
 unfold kv_First
 rw [place_eq l hr hl, andThen_mk]
theorem kget_eq (l : List Pr) (hr : RiseP l) (hl : l.length ≤ 1000) (k : List UInt8) : kv_Get l k = some (if isAt l k then ((l.getD (belowN l k) zPr).2.1, true) else ([], false)) := by
 unfold kv_Get
 rw [place_eq l hr hl, andThen_mk]
 cases c : isAt l k with
 | false => rfl
 | true =>
  have := c
  unfold isAt at this
  rw [decide_eq_true_eq] at this
  rw [Bool.not_true, fork_ff, need_true (by omega), Int.toNat_natCast]; rfl
end Go.Ax.V
