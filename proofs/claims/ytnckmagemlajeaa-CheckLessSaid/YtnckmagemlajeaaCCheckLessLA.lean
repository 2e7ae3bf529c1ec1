/-
  Chapter 9: fewer paths than pairs, or more, pairs that don't rise, places beyond: not sound; costs grow with what there is.
-/
import Derived.Test.YtnckmagemlajeaaAxC
import Derived.Test.YtnckmagemlajeaaCCheckLessP
namespace Go.Ax.V
open Go.Ax
set_option linter.unusedVariables false
set_option linter.unusedSimpArgs false
def runFor {τ : Type} (f : Nat → τ → τ) : Nat → Nat → τ → τ
 | _, 0, t => t
 | i, k + 1, t => runFor f (i + 1) k (f i t)
theorem loop_for {σ ρ τ : Type} {step : σ → Option (σ ⊕ ρ)} (st : Nat → τ → σ) (f : Nat → τ → τ) (g : τ → ρ) (n : Nat) (I : Nat → τ → Prop)
    (h1 : ∀ i t, i < n → I i t → step (st i t) = some (.inl (st (i + 1) (f i t))) ∧ I (i + 1) (f i t))
    (h2 : ∀ t, I n t → step (st n t) = some (.inr (g t))) : ∀ (k i : Nat) (t : τ), i + k = n → I i t → loop step (st i t) = some (g (runFor f i k t))
  | 0, i, t, e, h => by have : i = n := by omega
                        subst this; exact loop_out (h2 t h)
  | k + 1, i, t, e, h => by
    rw [loop_next (h1 i t (by omega) h).1]
    exact loop_for st f g n I h1 h2 k (i + 1) (f i t) (by omega) (h1 i t (by omega) h).2
theorem Nat.find_of {p : Nat → Prop} (h : ∃ n, p n) : ∃ n, p n ∧ ∀ m, m < n → ¬ p m := by
 obtain ⟨n, hn⟩ := h
 induction n using Nat.strongRecOn with
 | _ n ih =>
  by_cases hx : ∃ m, m < n ∧ p m
  ·obtain ⟨m, hm, hp⟩ := hx; exact ih m hm hp
  ·exact ⟨n, hn, fun m hm hp => hx ⟨m, hm, hp⟩⟩
def scan {ρ : Type} (bad : Nat → Option ρ) (r0 : ρ) : Nat → Nat → ρ
 | _, 0 => r0
 | i, k + 1 => match bad i with
  | some r => r
  | none => scan bad r0 (i + 1) k
theorem scan_none {ρ : Type} {bad : Nat → Option ρ} {r0 : ρ} : ∀ (k i : Nat), (∀ j, i ≤ j → j < i + k → bad j = none) → scan bad r0 i k = r0
 | 0, i, _ => rfl
 | k + 1, i, h => by
  rw [scan, h i (Nat.le_refl _) (by omega)]
  exact scan_none k (i + 1) fun j h1 h2 => h j (by omega) (by omega)
theorem scan_some {ρ : Type} {bad : Nat → Option ρ} {r0 r : ρ} : ∀ (k i j : Nat), i ≤ j → j < i + k → (∀ j', i ≤ j' → j' < j → bad j' = none) → bad j = some r → scan bad r0 i k = r
 | 0, i, j, h1, h2, _, _ => by omega
 | k + 1, i, j, h1, h2, h3, h4 => by
  rw [scan]
  by_cases e : i = j
  ·subst e; rw [h4]
  ·rw [h3 i (Nat.le_refl _) (by omega)]
   exact scan_some k (i + 1) j (by omega) (by omega) (fun j' g1 g2 => h3 j' (by omega) g2) h4
theorem loop_scan {σ ρ : Type} {step : σ → Option (σ ⊕ ρ)} (st : Nat → σ) (bad : Nat → Option ρ) (r0 : ρ) (n : Nat) (h1 : ∀ i, i < n → bad i = none → step (st i) = some (.inl (st (i + 1))))
    (h2 : ∀ i r, i < n → bad i = some r → step (st i) = some (.inr r)) (h3 : step (st n) = some (.inr r0)) : ∀ (k i : Nat), i + k = n → loop step (st i) = some (scan bad r0 i k)
  | 0, i, e => by have : i = n := by omega
                  subst this; exact loop_out h3
  | k + 1, i, e => by
    rw [scan]
    split
    · rename_i r hr; exact loop_out (h2 i r (by omega) hr)
    · rename_i hn
      rw [loop_next (h1 i (by omega) hn)]
      exact loop_scan st bad r0 n h1 h2 h3 k (i + 1) (by omega)
theorem andThen_mk {α β : Type} {a : α} {k : α → Option β} : andThen (some a) k = k a := rfl
theorem fork_t {α : Type} {p : Prop} [Decidable p] {x y : Option α} (h : p) : fork (decide p) x y = x := by rw [decide_eq_true h]; rfl
theorem fork_f {α : Type} {p : Prop} [Decidable p] {x y : Option α} (h : ¬ p) : fork (decide p) x y = y := by rw [decide_eq_false h]; rfl
theorem fork_nt {α : Type} {p : Prop} [Decidable p] {x y : Option α} (h : p) : fork (!decide p) x y = y := by rw [decide_eq_true h]; rfl
theorem fork_nf {α : Type} {p : Prop} [Decidable p] {x y : Option α} (h : ¬ p) : fork (!decide p) x y = x := by rw [decide_eq_false h]; rfl
theorem fork_tt {α : Type} {x y : Option α} : fork true x y = x := rfl
theorem fork_ff {α : Type} {x y : Option α} : fork false x y = y := rfl
theorem fork_ite {α : Type} {b : Bool} {x y : Option α} : fork b x y = if b then x else y := by cases b <;> rfl
theorem cut_to {α : Type} (l : List α) (u : Int) : cutL l 0 u = l.take u.toNat := rfl
theorem cut_from {α : Type} (l : List α) (u : Int) : cutL l u (l.length : Int) = l.drop u.toNat := by
 unfold cutL; rw [Int.toNat_natCast, List.take_of_length_le (Nat.le_refl _)]
theorem getD_mem {α : Type} {l : List α} {i : Nat} {z : α} (h : i < l.length) : l.getD i z ∈ l := by
 rw [List.getD_eq_getElem?_getD, List.getElem?_eq_getElem h]; exact List.getElem_mem _
theorem sless_irr : ∀ a : List UInt8, sless a a = false
 | [] => rfl
 | x :: a => by
  rw [sless, sless_irr a]
  simp
theorem sless_trans : ∀ a b c : List UInt8, sless a b = true → sless b c = true → sless a c = true
 | _, [], _, h, _ => by cases ‹List UInt8› <;> simp [sless] at h
 | _, _ :: _, [], _, h => by simp [sless] at h
 | [], _ :: _, _ :: _, _, _ => rfl
 | x :: a, y :: b, z :: c, h1, h2 => by
  simp only [sless, Bool.or_eq_true, Bool.and_eq_true, decide_eq_true_eq, beq_iff_eq] at h1 h2 ⊢
  rcases h1 with h1 | ⟨rfl, h1⟩
  ·rcases h2 with h2 | ⟨rfl, h2⟩
   ·exact .inl (UInt8.lt_trans h1 h2)
   ·exact .inl h1
  ·rcases h2 with h2 | ⟨rfl, h2⟩
   ·exact .inl h2
   ·exact .inr ⟨rfl, sless_trans a b c h1 h2⟩
def incN (ns : List (List UInt8)) : Bool := (List.range (ns.length - 1)).all fun i => sless (ns.getD i []) (ns.getD (i + 1) [])
theorem incN_pair : ∀ (ns : List (List UInt8)), incN ns = true → ns.Pairwise (fun a b => sless a b = true)
 | [], _ => List.Pairwise.nil
 | [x], _ => List.pairwise_singleton _ _
 | x :: y :: ns, h => by
  have hall : ∀ i, i < ns.length + 1 → sless ((x :: y :: ns).getD i []) ((x :: y :: ns).getD (i + 1) []) = true := fun i hi => List.all_eq_true.1 h i (by simp; omega)
  have ih := incN_pair (y :: ns) (List.all_eq_true.2 fun i hi => by
   have := hall (i + 1) (by simp at hi; omega)
   exact this)
  have h0 : sless x y = true := hall 0 (by omega)
  refine List.pairwise_cons.2 ⟨fun z hz => ?_, ih⟩
  rcases List.mem_cons.1 hz with rfl | hz
  ·exact h0
  ·exact sless_trans _ _ _ h0 ((List.pairwise_cons.1 ih).1 z hz)
abbrev Pr := List UInt8 × List UInt8 × Unit
def zPr : Pr := ([], [], ())
theorem sless_tot : ∀ a b : List UInt8, sless a b = false → a = b ∨ sless b a = true
 | [], [], _ => .inl rfl
 | _ :: _, [], _ => .inr rfl
 | [], _ :: _, h => by simp [sless] at h
 | x :: a, y :: b, h => by
  simp only [sless, Bool.or_eq_false_iff, Bool.and_eq_false_iff, decide_eq_false_iff_not, beq_eq_false_iff_ne, ne_eq] at h
  obtain ⟨h1, h2⟩ := h
  by_cases e : x = y
  ·subst e
   rcases sless_tot a b (h2.resolve_left (fun q => q rfl)) with rfl | h
   ·exact .inl rfl
   ·exact .inr (by simp [sless, h])
  ·right
   have : y < x := by
    rcases UInt8.lt_or_lt_of_ne e with q | q
    ·exact absurd q h1
    ·exact q
   simp [sless, this]
theorem cmp_neg : ∀ a b : List UInt8, (cmpS a b < 0) ↔ sless a b = true
 | [], [] => by simp [cmpS, Lib.compareBytes, sless]
 | [], _ :: _ => by simp [cmpS, Lib.compareBytes, sless]
 | _ :: _, [] => by simp [cmpS, Lib.compareBytes, sless]
 | x :: a, y :: b => by
  have ih := cmp_neg a b
  unfold cmpS at ih
  unfold cmpS
  rw [Lib.compareBytes, sless]
  by_cases h : x < y
  ·simp [h]
  ·rw [if_neg h]
   by_cases h2 : y < x
   ·have hne : x ≠ y := fun e => by subst e; exact h h2
    rw [if_pos h2]; simp [h, hne]
   ·have he : x = y := UInt8.le_antisymm (UInt8.not_lt.1 h2) (UInt8.not_lt.1 h)
    rw [if_neg h2, ih]; simp [he]
theorem cmp_zero : ∀ a b : List UInt8, (cmpS a b = 0) ↔ a = b
 | [], [] => by simp [cmpS, Lib.compareBytes]
 | [], _ :: _ => by simp [cmpS, Lib.compareBytes]
 | _ :: _, [] => by simp [cmpS, Lib.compareBytes]
 | x :: a, y :: b => by
  have ih := cmp_zero a b
  unfold cmpS at ih
  unfold cmpS
  rw [Lib.compareBytes]
  by_cases h : x < y
  ·have hne : x ≠ y := fun e => by subst e; exact UInt8.lt_irrefl _ h
   rw [if_pos h]; simp [hne]
  ·rw [if_neg h]
   by_cases h2 : y < x
   ·have hne : x ≠ y := fun e => by subst e; exact h h2
    rw [if_pos h2]; simp [hne]
   ·have he : x = y := UInt8.le_antisymm (UInt8.not_lt.1 h2) (UInt8.not_lt.1 h)
    rw [if_neg h2, ih]; simp [he]
def belowN : List Pr → List UInt8 → Nat
 | [], _ => 0
 | p :: r, k => bif sless p.1 k then belowN r k + 1 else 0
theorem below_le : ∀ (l : List Pr) (k : List UInt8), belowN l k ≤ l.length
 | [], _ => Nat.le_refl _
 | p :: r, k => by
  have := below_le r k
  unfold belowN
  cases sless p.1 k
  ·exact Nat.zero_le _
  ·rw [cond_true, List.length_cons]; omega
theorem below_lt : ∀ (l : List Pr) (k : List UInt8) (i : Nat), i < belowN l k → sless (l.getD i zPr).1 k = true
 | [], _, i, h => by unfold belowN at h; omega
 | p :: r, k, i, h => by
  unfold belowN at h
  cases e : sless p.1 k with
  | false => rw [e, cond_false] at h; omega
  | true =>
   rw [e, cond_true] at h
   match i with
   | 0 => exact e
   | j + 1 => exact below_lt r k j (by omega)
theorem below_at : ∀ (l : List Pr) (k : List UInt8), belowN l k < l.length → sless (l.getD (belowN l k) zPr).1 k = false
 | [], _, h => by simp at h
 | p :: r, k, h => by
  unfold belowN at h ⊢
  cases e : sless p.1 k with
  | false => exact e
  | true =>
   rw [e, cond_true, List.length_cons] at h
   exact below_at r k (by omega)
def RiseP (l : List Pr) : Prop := l.Pairwise (fun a b => sless a.1 b.1 = true)
theorem krise_get {l : List Pr} (h : RiseP l) {i j : Nat} (hij : i < j) (hj : j < l.length) : sless (l.getD i zPr).1 (l.getD j zPr).1 = true := by
 rw [List.getD_eq_getElem?_getD, List.getD_eq_getElem?_getD, List.getElem?_eq_getElem hj, List.getElem?_eq_getElem (by omega)]
 exact List.pairwise_iff_getElem.1 h i j (by omega) hj hij
theorem below_iff {l : List Pr} (h : RiseP l) (k : List UInt8) {i : Nat} (hi : i < l.length) : sless (l.getD i zPr).1 k = true ↔ i < belowN l k := by
 refine ⟨fun hs => ?_, below_lt l k i⟩
 apply Classical.byContradiction
 intro hn
 have b := below_at l k (by omega)
 rcases Nat.lt_or_ge (belowN l k) i with c | c
 ·rw [sless_trans _ _ _ (krise_get h c hi) hs] at b; cases b
 ·have : belowN l k = i := by omega
  rw [this, hs] at b; cases b
def isAt (l : List Pr) (k : List UInt8) : Bool := decide (belowN l k < l.length ∧ (l.getD (belowN l k) zPr).1 = k)
theorem mid_eq (i j : Nat) (h : i + j ≤ 1073741824) : w64 ((UInt64.toNat (UInt64.ofNat (UInt64.toNat (UInt64.ofNat (Int.toNat ((w64 ((i : Int) + (j : Int))) % 18446744073709551616))) >>> (Int.toNat (1 : Int)))) : Nat) : Int) = (((i + j) / 2 : Nat) : Int) := by
 rw [w64_eq (n := (i : Int) + (j : Int)) (by omega) (by omega)]
 have e1 : Int.toNat (((i : Int) + (j : Int)) % 18446744073709551616) = i + j := by omega
 have e2 : UInt64.toNat (UInt64.ofNat (i + j)) = i + j := by rw [UInt64.toNat_ofNat']; omega
 have e3 : (i + j) >>> (Int.toNat (1 : Int)) = (i + j) / 2 := rfl
 have e4 : UInt64.toNat (UInt64.ofNat ((i + j) / 2)) = (i + j) / 2 := by rw [UInt64.toNat_ofNat']; omega
 rw [e1, e2, e3, e4, w64_eq (by omega) (by omega)]
theorem placeF_eq (p : Pr) (k : List UInt8) : kv_placeF1 p k = some (cmpS p.1 k) := rfl
theorem bs_step (x0 : List Pr) (x1 : List UInt8) (x2 : Int) (x3 : Int) (x4 : Int) : slices_BinarySearchFunc_LPair_Pair_string_1a7a_1_step x0 x1 x2 x3 x4 =
  (fork (decide (x3 < x4)) (need (0 ≤ (w64 ((UInt64.toNat (UInt64.ofNat (UInt64.toNat (UInt64.ofNat (Int.toNat ((w64 (x3 + x4)) % 18446744073709551616))) >>> (Int.toNat (1 : Int)))) : Nat) : Int)) ∧ (w64 ((UInt64.toNat (UInt64.ofNat (UInt64.toNat (UInt64.ofNat (Int.toNat ((w64 (x3 + x4)) % 18446744073709551616))) >>> (Int.toNat (1 : Int)))) : Nat) : Int)) < (List.length x0 : Int)) (andThen (kv_placeF1 (List.getD x0 (Int.toNat (w64 ((UInt64.toNat (UInt64.ofNat (UInt64.toNat (UInt64.ofNat (Int.toNat ((w64 (x3 + x4)) % 18446744073709551616))) >>> (Int.toNat (1 : Int)))) : Nat) : Int))) zPr) x1) (fun u4 => fork (decide (u4 < (0 : Int))) (some (.inl ((w64 ((w64 ((UInt64.toNat (UInt64.ofNat (UInt64.toNat (UInt64.ofNat (Int.toNat ((w64 (x3 + x4)) % 18446744073709551616))) >>> (Int.toNat (1 : Int)))) : Nat) : Int)) + (1 : Int))), x4))) (some (.inl (x3, (w64 ((UInt64.toNat (UInt64.ofNat (UInt64.toNat (UInt64.ofNat (Int.toNat ((w64 (x3 + x4)) % 18446744073709551616))) >>> (Int.toNat (1 : Int)))) : Nat) : Int)))))))) (some (.inr (x0, x1, x2, x3))) : Option ((Int × Int) ⊕ ((List Pr) × List UInt8 × Int × Int))) := rfl
theorem bs_loop (l : List Pr) (hr : RiseP l) (hl : l.length ≤ 1000) (k : List UInt8) : ∀ (m i j : Nat), j - i ≤ m → i ≤ belowN l k → belowN l k ≤ j → j ≤ l.length →
  slices_BinarySearchFunc_LPair_Pair_string_1a7a_1 l k (l.length : Int) (i : Int) (j : Int) = some (l, k, (l.length : Int), (belowN l k : Int))
 | m, i, j, hm, h1, h2, h3 => by
  unfold slices_BinarySearchFunc_LPair_Pair_string_1a7a_1
  by_cases c : i < j
  ·have hs : slices_BinarySearchFunc_LPair_Pair_string_1a7a_1_step l k (l.length : Int) (i : Int) (j : Int) = some (.inl (if (i + j) / 2 < belowN l k then ((((i + j) / 2 + 1 : Nat) : Int), (j : Int)) else ((i : Int), (((i + j) / 2 : Nat) : Int)))) := by
    rw [bs_step, fork_t (by omega), mid_eq i j (by omega), need_true (by omega), Int.toNat_natCast, placeF_eq, andThen_mk, w64_eq (by omega) (by omega)]
    by_cases q : (i + j) / 2 < belowN l k
    ·rw [if_pos q, fork_t ((cmp_neg _ _).2 (below_lt l k _ q))]; rfl
    ·rw [if_neg q, fork_f (fun e => q ((below_iff hr k (by omega)).1 ((cmp_neg _ _).1 e)))]
   rw [loop_next hs]
   match m with
   | 0 => omega
   | m + 1 =>
    by_cases q : (i + j) / 2 < belowN l k
    ·rw [if_pos q]
     exact bs_loop l hr hl k m ((i + j) / 2 + 1) j (by omega) (by omega) h2 h3
    ·rw [if_neg q]
     exact bs_loop l hr hl k m i ((i + j) / 2) (by omega) h1 (by omega) (by omega)
  ·have : i = belowN l k := by omega
   subst this
   exact loop_out (by rw [bs_step, fork_f (by omega)])
theorem place_eq (l : List Pr) (hr : RiseP l) (hl : l.length ≤ 1000) (k : List UInt8) : kv_place l k = some ((belowN l k : Int), isAt l k) := by
 have hb := below_le l k
 have h : slices_BinarySearchFunc_LPair_Pair_string_1a7a l k = some ((belowN l k : Int), isAt l k) := by
  unfold slices_BinarySearchFunc_LPair_Pair_string_1a7a
  rw [show ((0 : Int)) = ((0 : Nat) : Int) from rfl, bs_loop l hr hl k l.length 0 l.length (by omega) (by omega) hb (Nat.le_refl _), andThen_mk]
  simp only
  unfold isAt
  by_cases c : belowN l k < l.length
  ·rw [fork_t (by omega), need_true (by omega), placeF_eq, andThen_mk, Int.toNat_natCast]
   congr 2
   exact decide_eq_decide.2 ⟨fun e => ⟨c, (cmp_zero _ _).1 e⟩, fun e => (cmp_zero _ _).2 e.2⟩
  ·rw [fork_f (by omega), decide_eq_false (fun e => c e.1)]
 unfold kv_place
 rw [h, andThen_mk]
theorem kfirst_eq (l : List Pr) (hr : RiseP l) (hl : l.length ≤ 1000) (k : List UInt8) : kv_First l k = some (belowN l k : Int) := by
 unfold kv_First
 rw [place_eq l hr hl, andThen_mk]
theorem kget_eq (l : List Pr) (hr : RiseP l) (hl : l.length ≤ 1000) (k : List UInt8) : kv_Get l k = some (if isAt l k then ((l.getD (belowN l k) zPr).2.1, true) else ([], false)) := by
 unfold kv_Get
 rw [place_eq l hr hl, andThen_mk]
 cases c : isAt l k with
 | false => rfl
 | true =>
  have := c
  unfold isAt at this
  rw [decide_eq_true_eq] at this
  rw [Bool.not_true, fork_ff, need_true (by omega), Int.toNat_natCast]; rfl
theorem ofInt_nat (a : Nat) : (BitVec.ofInt 64 (a : Int)).toNat = a % 18446744073709551616 := by
 rw [BitVec.toNat_ofInt]; omega
theorem band_nat (a b : Nat) (ha : a < 9223372036854775808) (hb : b < 9223372036854775808) : band (a : Int) (b : Int) = ((a &&& b : Nat) : Int) := by
 unfold band
 have hle : a &&& b ≤ a := Nat.and_le_left
 rw [BitVec.toNat_and, ofInt_nat, ofInt_nat, Nat.mod_eq_of_lt (by omega), Nat.mod_eq_of_lt (by omega)]
 exact w64_eq (by omega) (by omega)
theorem bor_nat (a b : Nat) (h : (a ||| b) < 9223372036854775808) : bor (a : Int) (b : Int) = ((a ||| b : Nat) : Int) := by
 unfold bor
 have h1 : a ≤ a ||| b := Nat.left_le_or
 have h2 : b ≤ a ||| b := Nat.right_le_or
 rw [BitVec.toNat_or, ofInt_nat, ofInt_nat, Nat.mod_eq_of_lt (by omega), Nat.mod_eq_of_lt (by omega)]
 exact w64_eq (by omega) (by omega)
theorem band127 (a : Nat) (ha : a < 9223372036854775808) : band (a : Int) 127 = ((a % 128 : Nat) : Int) := by
 rw [show (127 : Int) = ((127 : Nat) : Int) from rfl, band_nat a 127 ha (by omega), show (127 : Nat) = 2 ^ 7 - 1 from rfl, Nat.and_two_pow_sub_one_eq_mod]
theorem or_high (a c k : Nat) (h : a < 2 ^ k) : a ||| (c * 2 ^ k) = a + c * 2 ^ k := by
 rw [Nat.or_comm, ← Nat.shiftLeft_eq, ← Nat.shiftLeft_add_eq_or_of_lt h, Nat.add_comm]
theorem bor128 (a : Nat) (h : a < 128) : bor (a : Int) 128 = ((a + 128 : Nat) : Int) := by
 have e := or_high a 1 7 h
 rw [show (128 : Int) = ((128 : Nat) : Int) from rfl, bor_nat a 128 (by simp only [Nat.one_mul] at e; rw [show (128 : Nat) = 2 ^ 7 from rfl, e]; omega)]
 simp only [Nat.one_mul] at e
 rw [show (128 : Nat) = 2 ^ 7 from rfl, e]
theorem ishr_nat (a k : Nat) (hk : k ≤ 64) : ishr (a : Int) k = ((a / 2 ^ k : Nat) : Int) := by
 unfold ishr
 rw [Nat.min_eq_left hk, Int.fdiv_eq_ediv_of_nonneg _ (by exact_mod_cast Nat.zero_le _)]
 exact_mod_cast rfl
theorem u8_ofInt (a : Nat) : UInt8.ofNat (Int.toNat ((a : Int) % 256)) = UInt8.ofNat a := by
 rw [show Int.toNat ((a : Int) % 256) = a % 256 from by omega]
 apply UInt8.toNat_inj.1
 simp
def putF : Nat → Nat → List UInt8
 | 0, n => [UInt8.ofNat n]
 | f + 1, n => if n < 128 then [UInt8.ofNat n] else UInt8.ofNat (n % 128 + 128) :: putF f (n / 128)
def oneS (n : Int) : List UInt8 := if 0 ≤ n ∧ n ≤ 1099511627775 then putF 6 n.toNat else []
theorem putF_len : ∀ (f n : Nat), (putF f n).length ≤ f + 1
 | 0, _ => by simp [putF]
 | f + 1, n => by
  rw [putF]; split
  ·simp
  ·have := putF_len f (n / 128); simp; omega
theorem oneS_len (n : Int) : (oneS n).length ≤ 7 := by
 unfold oneS; split
 ·exact putF_len 6 _
 ·simp
theorem one_loop : ∀ (f n : Nat) (acc : List UInt8), n < 128 ^ (f + 1) → n < 9223372036854775808 → acc.length ≤ 1000 - f → f ≤ 10 → ∃ (m : Nat) (l : List UInt8), vint_one_1 (n : Int) acc = some ((m : Int), acc ++ l) ∧ l ++ [UInt8.ofNat m] = putF f n ∧ (acc ++ l).length ≤ 1000
 | 0, n, acc, h, h2, ha, _ => by
  refine ⟨n, [], ?_, rfl, by simp; omega⟩
  rw [List.append_nil]
  unfold vint_one_1
  refine loop_out ?_
  show vint_one_1_step (n : Int) acc = _
  unfold vint_one_1_step
  rw [fork_f (by omega)]
 | f + 1, n, acc, h, h2, ha, hf => by
  by_cases hn : n < 128
  ·refine ⟨n, [], ?_, by rw [putF, if_pos hn]; rfl, by simp; omega⟩
   rw [List.append_nil]
   unfold vint_one_1
   refine loop_out ?_
   show vint_one_1_step (n : Int) acc = _
   unfold vint_one_1_step
   rw [fork_f (by omega)]
  ·have hs : vint_one_1_step (n : Int) acc = some (.inl (((n / 128 : Nat) : Int), acc ++ [UInt8.ofNat (n % 128 + 128)])) := by
    unfold vint_one_1_step
    rw [fork_t (by omega), need_true (by simp; omega), band127 n (by omega), bor128 _ (by omega), u8_ofInt, show Int.toNat 7 = 7 from rfl, ishr_nat n 7 (by omega)]
   have hd : n / 128 < 128 ^ (f + 1) := by
    rw [Nat.div_lt_iff_lt_mul (by omega)]
    have : 128 ^ (f + 1 + 1) = 128 ^ (f + 1) * 128 := Nat.pow_succ ..
    omega
   obtain ⟨m, l, h4, h5, h6⟩ := one_loop f (n / 128) (acc ++ [UInt8.ofNat (n % 128 + 128)]) hd (by omega) (by simp; omega) (by omega)
   refine ⟨m, UInt8.ofNat (n % 128 + 128) :: l, ?_, ?_, ?_⟩
   ·unfold vint_one_1 at h4 ⊢
    rw [loop_next (s' := (((n / 128 : Nat) : Int), acc ++ [UInt8.ofNat (n % 128 + 128)])) hs, h4]
    simp
   ·rw [putF, if_neg hn, ← h5]; rfl
   ·simpa using h6
theorem one_eq' (n : Int) : vint_one n = some (oneS n) := by
 unfold vint_one oneS
 by_cases h0 : n < 0
 ·rw [fork_t h0, if_neg (by omega)]
 ·rw [fork_f h0]
  by_cases h1 : 1099511627775 < n
  ·rw [fork_t h1, if_neg (by omega)]
  ·rw [fork_f h1, if_pos (by omega)]
   obtain ⟨k, rfl⟩ := Int.eq_ofNat_of_zero_le (show 0 ≤ n by omega)
   obtain ⟨m, l, h2, h3, h4⟩ := one_loop 6 k [] (by omega) (by omega) (by simp) (by omega)
   rw [h2, andThen_mk]
   simp only [List.nil_append] at h4 ⊢
   rw [need_true (by simp; omega), u8_ofInt, h3]
   rfl
def putS (l : List Int) : List UInt8 := l.flatMap oneS
theorem put_len : ∀ (l : List Int), (putS l).length ≤ 7 * l.length
 | [] => by simp [putS]
 | n :: l => by
  have := put_len l
  have h := oneS_len n
  unfold putS at this ⊢
  rw [List.flatMap_cons, List.length_append, List.length_cons]; omega
theorem flat_take {α β : Type} (f : α → List β) (l : List α) (z : α) {i : Nat} (h : i < l.length) : (l.take (i + 1)).flatMap f = (l.take i).flatMap f ++ f (l.getD i z) := by
 rw [List.take_add_one, List.flatMap_append, List.getD_eq_getElem?_getD]
 congr 1
 rw [List.getElem?_eq_getElem h]
 simp only [Option.toList_some, Option.getD_some, List.flatMap_cons, List.flatMap_nil, List.append_nil]
theorem put_eq (l : List Int) (hl : l.length ≤ 100000000) : vint_Put l = some (putS l) := by
 have main : vint_Put_1 l (l.length : Int) 0 [] = some (putS l) := by
  unfold vint_Put_1
  have := loop_for (step := fun (s : Int × List UInt8) => vint_Put_1_step l (l.length : Int) s.1 s.2) (fun i (_ : Unit) => ((i : Int), putS (l.take i))) (fun _ _ => ()) (fun _ => putS l) l.length (fun _ _ => True) (fun i w hi _ => ⟨?_, trivial⟩) (fun w _ => ?_) l.length 0 () (by omega) trivial
  ·exact this
  ·show vint_Put_1_step l (l.length : Int) (i : Int) (putS (l.take i)) = _
   unfold vint_Put_1_step
   have b := put_len (l.take i)
   have b2 := oneS_len (l.getD i 0)
   rw [List.length_take] at b
   rw [fork_t (by omega), need_true (by omega), one_eq', andThen_mk, Int.toNat_natCast, need_true (by omega), w64_eq (by omega) (by omega)]
   unfold putS
   rw [flat_take oneS l 0 hi]
   rfl
  ·show vint_Put_1_step l (l.length : Int) (l.length : Int) (putS (l.take l.length)) = _
   unfold vint_Put_1_step
   rw [fork_f (by omega), List.take_of_length_le (Nat.le_refl _)]
 unfold vint_Put
 rw [main, andThen_mk]
set_option maxRecDepth 100000
def rotr (x : UInt32) (n : Nat) : UInt32 := UInt32.ofNat (x.toNat <<< (32 - n)) ||| UInt32.ofNat (x.toNat >>> n)
def shr (x : UInt32) (n : Nat) : UInt32 := UInt32.ofNat (x.toNat >>> n)
def byteW (b : List UInt8) (i k : Nat) : UInt32 := UInt32.ofNat (UInt32.toNat (UInt32.ofNat (UInt8.toNat (List.getD b i 0))) <<< k)
def word (b : List UInt8) (i : Nat) : UInt32 := ((byteW b (4 * i) 24 ||| byteW b (4 * i + 1) 16) ||| byteW b (4 * i + 2) 8) ||| UInt32.ofNat (UInt8.toNat (List.getD b (4 * i + 3) 0))
def sprd1 (b : List UInt8) (i : Nat) (w : List UInt32) : List UInt32 := w.set i (word b i)
def sprd2 (i : Nat) (w : List UInt32) : List UInt32 :=
 w.set i (((w.getD (i - 16) 0 + ((rotr (w.getD (i - 15) 0) 7 ^^^ rotr (w.getD (i - 15) 0) 18) ^^^ shr (w.getD (i - 15) 0) 3)) + w.getD (i - 7) 0) + ((rotr (w.getD (i - 2) 0) 17 ^^^ rotr (w.getD (i - 2) 0) 19) ^^^ shr (w.getD (i - 2) 0) 10))
def spreadS (b : List UInt8) : List UInt32 := runFor sprd2 16 48 (runFor (sprd1 b) 0 16 (List.replicate 64 0))
abbrev W8 := UInt32 × UInt32 × UInt32 × UInt32 × UInt32 × UInt32 × UInt32 × UInt32
def roundS (k w : List UInt32) (i : Nat) (s : W8) : W8 :=
 match s with
 | (a, b, c, d, e, f, g, h) =>
  let one := (((h + ((rotr e 6 ^^^ rotr e 11) ^^^ rotr e 25)) + ((e &&& f) ^^^ ((~~~e) &&& g))) + k.getD i 0) + w.getD i 0
  (one + (((rotr a 2 ^^^ rotr a 13) ^^^ rotr a 22) + (((a &&& b) ^^^ (a &&& c)) ^^^ (b &&& c))), a, b, c, d + one, e, f, g)
def list8 (s : W8) : List UInt32 := [s.1, s.2.1, s.2.2.1, s.2.2.2.1, s.2.2.2.2.1, s.2.2.2.2.2.1, s.2.2.2.2.2.2.1, s.2.2.2.2.2.2.2]
def tup8 (h : List UInt32) : W8 := (h.getD 0 0, h.getD 1 0, h.getD 2 0, h.getD 3 0, h.getD 4 0, h.getD 5 0, h.getD 6 0, h.getD 7 0)
def addS (v : List UInt32) (i : Nat) (h : List UInt32) : List UInt32 := h.set i (h.getD i 0 + v.getD i 0)
def mixS (k : List UInt32) (b : List UInt8) (h : List UInt32) : List UInt32 :=
 runFor (addS (list8 (runFor (roundS k (spreadS b)) 0 64 (tup8 h)))) 0 8 h
def kS : List UInt32 := [1116352408, 1899447441, 3049323471, 3921009573, 961987163, 1508970993, 2453635748, 2870763221, 3624381080, 310598401, 607225278, 1426881987, 1925078388, 2162078206, 2614888103, 3248222580, 3835390401, 4022224774, 264347078, 604807628, 770255983, 1249150122, 1555081692, 1996064986, 2554220882, 2821834349, 2952996808, 3210313671, 3336571891, 3584528711, 113926993, 338241895, 666307205, 773529912, 1294757372, 1396182291, 1695183700, 1986661051, 2177026350, 2456956037, 2730485921, 2820302411, 3259730800, 3345764771, 3516065817, 3600352804, 4094571909, 275423344, 430227734, 506948616, 659060556, 883997877, 958139571, 1322822218, 1537002063, 1747873779, 1955562222, 2024104815, 2227730452, 2361852424, 2428436474, 2756734187, 3204031479, 3329325298]
def h0S : List UInt32 := [1779033703, 3144134277, 1013904242, 2773480762, 1359893119, 2600822924, 528734635, 1541459225]
def byteAt (n : UInt64) (i : Nat) : UInt8 := UInt8.ofNat (UInt64.toNat (UInt64.ofNat (UInt64.toNat n >>> (8 * i))))
def bitsOf (b : List UInt8) : UInt64 := UInt64.ofNat b.length * 8
def padS (b : List UInt8) : List UInt8 :=
 b ++ 128 :: (List.replicate ((b.length + 8) / 64 * 64 + 55 - b.length) 0 ++ [byteAt (bitsOf b) 7, byteAt (bitsOf b) 6, byteAt (bitsOf b) 5, byteAt (bitsOf b) 4, byteAt (bitsOf b) 3, byteAt (bitsOf b) 2, byteAt (bitsOf b) 1, byteAt (bitsOf b) 0])
def blocksS : Nat → List UInt8 → List UInt32 → List UInt32
 | 0, _, h => h
 | n + 1, l, h => blocksS n (l.drop 64) (mixS kS (l.take 64) h)
def outB (x : UInt32) (j : Nat) : UInt8 := UInt8.ofNat (UInt32.toNat (UInt32.ofNat (UInt32.toNat x >>> (24 - 8 * j))))
def outS (h : List UInt32) : List UInt8 := h.flatMap fun x => [outB x 0, outB x 1, outB x 2, outB x 3]
def sha (b : List UInt8) : List UInt8 := outS (blocksS ((b.length + 8) / 64 + 1) (padS b) h0S)
theorem right7 (x : UInt32) : sha_right x 7 = some (rotr x 7) := rfl
theorem right18 (x : UInt32) : sha_right x 18 = some (rotr x 18) := rfl
theorem right17 (x : UInt32) : sha_right x 17 = some (rotr x 17) := rfl
theorem right19 (x : UInt32) : sha_right x 19 = some (rotr x 19) := rfl
theorem right6 (x : UInt32) : sha_right x 6 = some (rotr x 6) := rfl
theorem right11 (x : UInt32) : sha_right x 11 = some (rotr x 11) := rfl
theorem right25 (x : UInt32) : sha_right x 25 = some (rotr x 25) := rfl
theorem right2 (x : UInt32) : sha_right x 2 = some (rotr x 2) := rfl
theorem right13 (x : UInt32) : sha_right x 13 = some (rotr x 13) := rfl
theorem right22 (x : UInt32) : sha_right x 22 = some (rotr x 22) := rfl
theorem spread1_step (b : List UInt8) (hb : b.length = 64) (z w : List UInt32) {i : Nat} (hi : i < 16) :
  sha_spread_1_step b (i : Int) z w = some (.inl (((i + 1 : Nat) : Int), sprd1 b i w)) := by
 unfold sha_spread_1_step
 have e0 : Int.toNat (4 * (i : Int)) = 4 * i := by omega
 have e1 : Int.toNat (4 * (i : Int) + 1) = 4 * i + 1 := by omega
 have e2 : Int.toNat (4 * (i : Int) + 2) = 4 * i + 2 := by omega
 have e3 : Int.toNat (4 * (i : Int) + 3) = 4 * i + 3 := by omega
 simp (disch := omega) only [fork_t, w64_eq, need_true, hb, e0, e1, e2, e3, Int.toNat_natCast]
 rfl
theorem spread_1 (b : List UInt8) (hb : b.length = 64) (z : List UInt32) : sha_spread_1 b 0 z z = some (z, runFor (sprd1 b) 0 16 z) := by
 unfold sha_spread_1
 refine loop_for (fun i w => ((i : Int), w)) (sprd1 b) (fun w => (z, w)) 16 (fun _ _ => True) (fun i w hi _ => ⟨spread1_step b hb z w hi, trivial⟩) (fun w _ => ?_) 16 0 z rfl trivial
 unfold sha_spread_1_step
 rfl
theorem spread2_step (z w : List UInt32) {i : Nat} (h1 : 16 ≤ i) (hi : i < 64) :
  sha_spread_2_step (i : Int) z w = some (.inl (((i + 1 : Nat) : Int), sprd2 i w)) := by
 unfold sha_spread_2_step
 have e0 : Int.toNat ((i : Int) - 15) = i - 15 := by omega
 have e1 : Int.toNat ((i : Int) - 2) = i - 2 := by omega
 have e2 : Int.toNat ((i : Int) - 16) = i - 16 := by omega
 have e3 : Int.toNat ((i : Int) - 7) = i - 7 := by omega
 simp (disch := omega) only [fork_t, w64_eq, need_true, e0, e1, e2, e3, Int.toNat_natCast, right7, right18, right17, right19, andThen_mk]
 rfl
theorem spread_2 (z w : List UInt32) : sha_spread_2 16 z w = some (z, runFor sprd2 16 48 w) := by
 unfold sha_spread_2
 refine loop_for (fun i w => ((i : Int), w)) sprd2 (fun w => (z, w)) 64 (fun i _ => 16 ≤ i) (fun i w hi h => ⟨spread2_step z w h hi, by omega⟩) (fun w _ => ?_) 48 16 w rfl (Nat.le_refl _)
 unfold sha_spread_2_step
 rfl
theorem spread_eq (b : List UInt8) (hb : b.length = 64) : sha_spread b = some (spreadS b) := by
 unfold sha_spread
 rw [spread_1 b hb, andThen_mk, spread_2, andThen_mk, spreadS]
theorem mix1_step (k w hz : List UInt32) (s : W8) {i : Nat} (hi : i < 64) :
  sha_mix_655a_1_step s.1 s.2.1 s.2.2.1 s.2.2.2.1 s.2.2.2.2.1 s.2.2.2.2.2.1 s.2.2.2.2.2.2.1 s.2.2.2.2.2.2.2 (i : Int) hz k w =
   some (.inl ((roundS k w i s).1, (roundS k w i s).2.1, (roundS k w i s).2.2.1, (roundS k w i s).2.2.2.1, (roundS k w i s).2.2.2.2.1, (roundS k w i s).2.2.2.2.2.1, (roundS k w i s).2.2.2.2.2.2.1, (roundS k w i s).2.2.2.2.2.2.2, ((i + 1 : Nat) : Int))) := by
 obtain ⟨a, b, c, d, e, f, g, h⟩ := s
 unfold sha_mix_655a_1_step
 simp (disch := omega) only [fork_t, w64_eq, need_true, Int.toNat_natCast, right6, right11, right25, right2, right13, right22, andThen_mk]
 rfl
theorem mix_1 (k w hz : List UInt32) (s : W8) : sha_mix_655a_1 s.1 s.2.1 s.2.2.1 s.2.2.2.1 s.2.2.2.2.1 s.2.2.2.2.2.1 s.2.2.2.2.2.2.1 s.2.2.2.2.2.2.2 0 hz k w =
   some ((runFor (roundS k w) 0 64 s).1, (runFor (roundS k w) 0 64 s).2.1, (runFor (roundS k w) 0 64 s).2.2.1, (runFor (roundS k w) 0 64 s).2.2.2.1, (runFor (roundS k w) 0 64 s).2.2.2.2.1, (runFor (roundS k w) 0 64 s).2.2.2.2.2.1, (runFor (roundS k w) 0 64 s).2.2.2.2.2.2.1, (runFor (roundS k w) 0 64 s).2.2.2.2.2.2.2, hz, k) := by
 unfold sha_mix_655a_1
 refine loop_for (fun i (s : W8) => (s.1, s.2.1, s.2.2.1, s.2.2.2.1, s.2.2.2.2.1, s.2.2.2.2.2.1, s.2.2.2.2.2.2.1, s.2.2.2.2.2.2.2, (i : Int))) (roundS k w)
  (fun (s : W8) => (s.1, s.2.1, s.2.2.1, s.2.2.2.1, s.2.2.2.2.1, s.2.2.2.2.2.1, s.2.2.2.2.2.2.1, s.2.2.2.2.2.2.2, hz, k)) 64 (fun _ _ => True) (fun i s hi _ => ⟨mix1_step k w hz s hi, trivial⟩) (fun s _ => ?_) 64 0 s rfl trivial
 unfold sha_mix_655a_1_step
 rfl
theorem mix_2 (v h k : List UInt32) : sha_mix_655a_2 v 0 h k = some (runFor (addS v) 0 8 h, k) := by
 unfold sha_mix_655a_2
 refine loop_for (fun i w => ((i : Int), w)) (addS v) (fun w => (w, k)) 8 (fun _ _ => True) (fun i w hi _ => ⟨?_, trivial⟩) (fun w _ => ?_) 8 0 h rfl trivial
 ·unfold sha_mix_655a_2_step
  simp (disch := omega) only [fork_t, w64_eq, need_true, Int.toNat_natCast]
  rfl
 ·unfold sha_mix_655a_2_step
  rfl
theorem mix_eq (b : List UInt8) (hb : b.length = 64) (h k : List UInt32) : sha_mix_655a b h k = some (mixS k b h, k) := by
 unfold sha_mix_655a
 rw [spread_eq b hb, andThen_mk]
 have := mix_1 k (spreadS b) h (tup8 h)
 simp only [tup8] at this
 rw [show (Int.toNat (0 : Int)) = 0 from rfl, show (Int.toNat (1 : Int)) = 1 from rfl, show (Int.toNat (2 : Int)) = 2 from rfl, show (Int.toNat (3 : Int)) = 3 from rfl, show (Int.toNat (4 : Int)) = 4 from rfl,
  show (Int.toNat (5 : Int)) = 5 from rfl, show (Int.toNat (6 : Int)) = 6 from rfl, show (Int.toNat (7 : Int)) = 7 from rfl, this, andThen_mk, mix_2, andThen_mk]
 rfl
set_option maxRecDepth 100000
theorem blocks_eq (n : Nat) (h : n ≤ 1073741824) : sha_Blocks (n : Int) = some (((n + 8) / 64 + 1 : Nat) : Int) := by
 unfold sha_Blocks
 have e : Int.tdiv ((n : Int) + 8) 64 = (((n + 8) / 64 : Nat) : Int) := by
  rw [Int.tdiv_eq_ediv_of_nonneg (by omega)]; omega
 simp (disch := omega) only [w64_eq, e]
 rfl
theorem set_app {α : Type} (a l : List α) (k : Nat) (x : α) : (a ++ l).set (a.length + k) x = a ++ l.set k x := by
 rw [List.set_append_right _ _ (by omega)]
 congr 2; omega
theorem padded_loop (x0 : UInt64) (n : Nat) (hn : 8 ≤ n) (hn2 : n ≤ 2147483648) (l : List UInt8) (hl : l.length = n) : sha_padded_1 x0 0 l = some (runFor (fun i (w : List UInt8) => w.set (n - 1 - i) (byteAt x0 i)) 0 8 l) := by
 unfold sha_padded_1
 refine loop_for (fun i w => ((i : Int), w)) (fun i (w : List UInt8) => w.set (n - 1 - i) (byteAt x0 i)) (fun w => w) 8 (fun _ w => w.length = n) (fun i w hi hw => ⟨?_, by simp [hw]⟩) (fun w _ => ?_) 8 0 l rfl hl
 ·unfold sha_padded_1_step
  have e0 : Int.toNat ((n : Int) - 1 - (i : Int)) = n - 1 - i := by omega
  have e1 : Int.toNat (8 * (i : Int)) = 8 * i := by omega
  simp (disch := omega) only [fork_t, w64_eq, need_true, hw, e0, e1]
  rfl
 ·unfold sha_padded_1_step
  rfl
theorem padded_eq (b : List UInt8) (hb : b.length ≤ 1073741824) : sha_padded b = some (padS b) := by
 unfold sha_padded
 rw [blocks_eq _ hb, andThen_mk]
 have hN : w64 ((((b.length + 8) / 64 + 1 : Nat) : Int) * 64) = (((b.length + 8) / 64 * 64 + 64 : Nat) : Int) := by
  rw [w64_eq (by omega) (by omega)]; omega
 generalize hn : (b.length + 8) / 64 * 64 + 64 = n at hN
 rw [hN, need_true (by omega), Int.toNat_natCast, List.length_replicate, List.take_of_length_le (by omega), List.drop_replicate]
 have hz : n - b.length = ((b.length + 8) / 64 * 64 + 55 - b.length) + 1 + 8 := by omega
 have hl : (b ++ List.replicate (n - b.length) (0 : UInt8)).length = n := by simp; omega
 rw [hl, need_true (by omega), Int.toNat_natCast]
 have hbits : UInt64.ofNat (Int.toNat ((b.length : Int) % 18446744073709551616)) * 8 = bitsOf b := by
  unfold bitsOf; congr 2; omega
 rw [hbits, padded_loop (bitsOf b) n (by omega) (by omega) _ (by rw [List.length_set, hl]), andThen_mk]
 congr 1
 have h1 : (b ++ List.replicate (n - b.length) (0 : UInt8)).set b.length 128 = (b ++ 128 :: List.replicate ((b.length + 8) / 64 * 64 + 55 - b.length) 0) ++ [0, 0, 0, 0, 0, 0, 0, 0] := by
  rw [hz]
  generalize (b.length + 8) / 64 * 64 + 55 - b.length = z
  have h := set_app b (List.replicate ((z + 8) + 1) (0 : UInt8)) 0 128
  rw [Nat.add_zero b.length] at h
  rw [show z + 1 + 8 = (z + 8) + 1 from by omega, h, List.replicate_succ, List.set_cons_zero, ← List.replicate_append_replicate, List.append_assoc]
  rfl
 rw [h1]
 have hA : (b ++ 128 :: List.replicate ((b.length + 8) / 64 * 64 + 55 - b.length) (0 : UInt8)).length = n - 8 := by simp; omega
 generalize hA2 : (b ++ 128 :: List.replicate ((b.length + 8) / 64 * 64 + 55 - b.length) (0 : UInt8)) = A at hA
 have ix : ∀ i, i < 8 → n - 1 - i = A.length + (7 - i) := by intro i hi; omega
 simp only [runFor]
 rw [ix 0 (by omega), ix (0 + 1) (by omega), ix (0 + 1 + 1) (by omega), ix (0 + 1 + 1 + 1) (by omega), ix (0 + 1 + 1 + 1 + 1) (by omega), ix (0 + 1 + 1 + 1 + 1 + 1) (by omega), ix (0 + 1 + 1 + 1 + 1 + 1 + 1) (by omega), ix (0 + 1 + 1 + 1 + 1 + 1 + 1 + 1) (by omega)]
 simp only [set_app]
 unfold padS
 rw [show ∀ x : List UInt8, b ++ 128 :: (List.replicate ((b.length + 8) / 64 * 64 + 55 - b.length) 0 ++ x) = A ++ x from fun x => by rw [← hA2]; simp]
 rfl
theorem pad_len (b : List UInt8) : (padS b).length = 64 * ((b.length + 8) / 64 + 1) := by
 unfold padS
 simp
 omega
theorem runFor_len {α : Type} {f : Nat → List α → List α} (h : ∀ i w, (f i w).length = w.length) : ∀ (k i : Nat) (w : List α), (runFor f i k w).length = w.length
 | 0, _, _ => rfl
 | k + 1, i, w => by rw [runFor, runFor_len h k, h]
theorem mixS_len (k : List UInt32) (b : List UInt8) (h : List UInt32) : (mixS k b h).length = h.length := runFor_len (fun i w => by simp [addS]) _ _ _
theorem blocksS_len : ∀ (n : Nat) (l : List UInt8) (h : List UInt32), (blocksS n l h).length = h.length
 | 0, _, _ => rfl
 | n + 1, l, h => by rw [blocksS, blocksS_len n, mixS_len]
theorem sum_1 (out : List UInt8) : ∀ (n : Nat) (l : List UInt8), l.length = 64 * n → l.length ≤ 2147483648 → ∀ h, sha_Sum_1 l out h kS = some (out, blocksS n l h)
 | 0, l, hl, _, h => by
  unfold sha_Sum_1
  refine loop_out ?_
  unfold sha_Sum_1_step
  show fork (decide ((0 : Int) < (l.length : Int))) _ _ = _
  rw [fork_f (by omega)]; rfl
 | n + 1, l, hl, hl2, h => by
  have hm := mix_eq (l.take 64) (by rw [List.length_take]; omega) h kS
  have hs : sha_Sum_1_step l out h kS = some (.inl (l.drop 64, mixS kS (l.take 64) h, kS)) := by
   unfold sha_Sum_1_step
   rw [fork_t (by omega), need_true (by omega), show cutL l (0 : Int) (64 : Int) = l.take 64 from rfl, hm, andThen_mk, need_true (by omega)]
   have : cutL l (64 : Int) (l.length : Int) = l.drop 64 := by
    unfold cutL; rw [Int.toNat_natCast, List.take_of_length_le (Nat.le_refl _)]; rfl
   rw [this]
  have ih := sum_1 out n (l.drop 64) (by rw [List.length_drop]; omega) (by rw [List.length_drop]; omega) (mixS kS (l.take 64) h)
  unfold sha_Sum_1 at ih ⊢
  rw [loop_next (s' := (l.drop 64, mixS kS (l.take 64) h, kS)) hs, ih]
  rfl
def outRow (x : UInt32) (i : Nat) (acc : List UInt8) : List UInt8 := runFor (fun j (acc : List UInt8) => acc.set (4 * i + j) (outB x j)) 0 4 acc
theorem sum_2 (x : UInt32) (h : List UInt32) (z acc : List UInt8) {i : Nat} (hi : i < 8) : sha_Sum_2 (i : Int) x h (i : Int) 0 z acc = some (h, (i : Int), z, outRow x i acc) := by
 unfold sha_Sum_2
 refine loop_for (fun j acc => ((j : Int), acc)) (fun j (acc : List UInt8) => acc.set (4 * i + j) (outB x j)) (fun acc => (h, (i : Int), z, acc)) 4 (fun _ _ => True) (fun j acc hj _ => ⟨?_, trivial⟩) (fun acc _ => ?_) 4 0 acc rfl trivial
 ·unfold sha_Sum_2_step
  have e0 : Int.toNat (4 * (i : Int) + (j : Int)) = 4 * i + j := by omega
  have e1 : Int.toNat (24 - 8 * (j : Int)) = 24 - 8 * j := by omega
  simp (disch := omega) only [fork_t, w64_eq, need_true, e0, e1]
  rfl
 ·unfold sha_Sum_2_step
  rfl
theorem sum_3 (h : List UInt32) (z acc : List UInt8) : sha_Sum_3 h 0 z acc = some (z, runFor (fun i acc => outRow (h.getD i 0) i acc) 0 8 acc) := by
 unfold sha_Sum_3
 refine loop_for (fun i acc => (h, (i : Int), z, acc)) (fun i acc => outRow (h.getD i 0) i acc) (fun acc => (z, acc)) 8 (fun _ _ => True) (fun i acc hi _ => ⟨?_, trivial⟩) (fun acc _ => ?_) 8 0 acc rfl trivial
 ·show sha_Sum_3_step h (i : Int) z acc = _
  unfold sha_Sum_3_step
  rw [fork_t (by omega), need_true (by omega), Int.toNat_natCast, sum_2 _ _ _ _ hi, andThen_mk]
  rw [w64_eq (by show (-9223372036854775808 : Int) ≤ (i : Int) + 1; omega) (by show (i : Int) + 1 ≤ 9223372036854775807; omega)]
  rfl
 ·unfold sha_Sum_3_step
  rfl
theorem out_eq8 (a b c d e f g i : UInt32) : runFor (fun j acc => outRow (List.getD [a, b, c, d, e, f, g, i] j 0) j acc) 0 8 (List.replicate 32 (0 : UInt8)) = outS [a, b, c, d, e, f, g, i] := by kernel_rfl
theorem out_eq (h : List UInt32) (hh : h.length = 8) : runFor (fun i acc => outRow (h.getD i 0) i acc) 0 8 (List.replicate 32 (0 : UInt8)) = outS h := by
 match h, hh with
 | [a, b, c, d, e, f, g, i], _ => exact out_eq8 a b c d e f g i
theorem first_eq : sha_first = some h0S := by kernel_rfl
theorem added_eq : sha_added = some kS := by kernel_rfl
theorem sum_eq (b : List UInt8) (hb : b.length ≤ 1073741824) : sha_Sum b = some (sha b) := by
 unfold sha_Sum
 rw [first_eq, andThen_mk, added_eq, andThen_mk, padded_eq b hb, andThen_mk, sum_1 _ _ _ (pad_len b) (by rw [pad_len]; omega), andThen_mk]
 simp only [sum_3, andThen_mk]
 rw [out_eq _ (by rw [blocksS_len]; rfl)]
 rfl
theorem sha_len (b : List UInt8) : (sha b).length = 32 := by
 unfold sha outS
 have : (blocksS ((b.length + 8) / 64 + 1) (padS b) h0S).length = 8 := by rw [blocksS_len]; rfl
 generalize blocksS ((b.length + 8) / 64 + 1) (padS b) h0S = h at this
 match h, this with
 | [a, b, c, d, e, f, g, i], _ => rfl
theorem getD_take {α : Type} (l : List (List α)) {i : Nat} (h : i < l.length) : (l.take i).flatten ++ l.getD i [] = (l.take (i + 1)).flatten := by
 rw [List.take_add_one, List.flatten_append, List.getD_eq_getElem?_getD, List.getElem?_eq_getElem h]
 simp
theorem take_flat_le {α : Type} (l : List (List α)) (i : Nat) : ((l.take i).flatten).length ≤ l.flatten.length := by
 conv => rhs; rw [← List.take_append_drop i l]
 rw [List.flatten_append, List.length_append]; omega
theorem tagged_eq (t : UInt8) (l : List (List UInt8)) (h : l.flatten.length ≤ 1073741823) (hl : l.length ≤ 1073741823) : sha_Tagged t l = some (sha (t :: l.flatten)) := by
 unfold sha_Tagged
 have : ∀ z, sha_Tagged_1 l (l.length : Int) 0 z [t] = some (z, t :: l.flatten) := by
  intro z
  unfold sha_Tagged_1
  have := loop_for (step := fun (s : Int × List UInt8) => sha_Tagged_1_step l (l.length : Int) s.1 z s.2) (fun i (_ : Unit) => ((i : Int), t :: (l.take i).flatten)) (fun _ _ => ()) (fun _ => (z, t :: l.flatten)) l.length (fun _ _ => True) (fun i w hi _ => ⟨?_, trivial⟩) (fun w _ => ?_) l.length 0 () (by omega) trivial
  ·exact this
  ·unfold sha_Tagged_1_step
   have e := getD_take l hi
   have le := take_flat_le l (i + 1)
   rw [← e, List.length_append] at le
   simp (disch := omega) only [fork_t, w64_eq, need_true, Int.toNat_natCast]
   rw [need_true (by rw [List.length_cons]; omega), List.cons_append, e]
   rfl
  ·unfold sha_Tagged_1_step
   rw [fork_f (by omega), List.take_of_length_le (Nat.le_refl _)]
 rw [this, andThen_mk]
 simp only []
 rw [sum_eq _ (by rw [List.length_cons]; omega), andThen_mk]
set_option maxRecDepth 100000
def txtS (x : List UInt8) : List UInt8 := oneS x.length ++ x
theorem txt_len (x : List UInt8) : (txtS x).length ≤ x.length + 7 := by
 have := oneS_len (x.length : Int)
 unfold txtS; rw [List.length_append]; omega
theorem vtext_eq (l : List (List UInt8)) (hl : l.length ≤ 1000) (h : ∀ x ∈ l, x.length ≤ 100000) : vint_Text l = some (l.flatMap txtS) := by
 have hlen : ∀ i, ((l.take i).flatMap txtS).length ≤ 100007 * i := by
  intro i
  have : ∀ (m : List (List UInt8)), (∀ x ∈ m, x.length ≤ 100000) → (m.flatMap txtS).length ≤ 100007 * m.length := by
   intro m
   induction m with
   | nil => intro _; simp
   | cons a m ih => intro hm; have h1 := ih (fun x hx => hm x (List.mem_cons_of_mem _ hx)); have h2 := hm a List.mem_cons_self; have h3 := txt_len a; rw [List.flatMap_cons, List.length_append, List.length_cons]; omega
  have := this (l.take i) fun x hx => h x (List.mem_of_mem_take hx)
  rw [List.length_take] at this; omega
 have main : vint_Text_1 l (l.length : Int) 0 [] = some (l.flatMap txtS) := by
  unfold vint_Text_1
  have := loop_for (step := fun (s : Int × List UInt8) => vint_Text_1_step l (l.length : Int) s.1 s.2) (fun i (_ : Unit) => ((i : Int), (l.take i).flatMap txtS)) (fun _ _ => ()) (fun _ => l.flatMap txtS) l.length (fun _ _ => True) (fun i w hi _ => ⟨?_, trivial⟩) (fun w _ => ?_) l.length 0 () (by omega) trivial
  ·exact this
  ·show vint_Text_1_step l (l.length : Int) (i : Int) ((l.take i).flatMap txtS) = _
   unfold vint_Text_1_step
   have b := hlen i
   have hm : (l.getD i []).length ≤ 100000 := h _ (getD_mem hi)
   have b2 := oneS_len ((l.getD i []).length : Int)
   rw [fork_t (by omega), need_true (by omega), Int.toNat_natCast, one_eq', andThen_mk, need_true (by omega), need_true (by rw [List.length_append]; omega), w64_eq (by omega) (by omega), List.append_assoc, flat_take txtS l [] hi]
   rfl
  ·show vint_Text_1_step l (l.length : Int) (l.length : Int) ((l.take l.length).flatMap txtS) = _
   unfold vint_Text_1_step
   rw [fork_f (by omega), List.take_of_length_le (Nat.le_refl _)]
 unfold vint_Text
 rw [main, andThen_mk]
def leftF : Nat → Nat → Nat → Nat
 | 0, k, n => k
 | f + 1, k, n => if 2 * k < n then leftF f (2 * k) n else k
def leftS (n : Nat) : Nat := leftF 40 1 n
theorem pow_help (k f : Nat) : 2 * (2 * k) * 2 ^ f = 2 * k * (2 ^ f * 2) := by
 rw [Nat.mul_comm (2 ^ f) 2, ← Nat.mul_assoc (2 * k) 2 (2 ^ f)]; congr 1; omega
theorem leftF_b : ∀ (f k n : Nat), 1 ≤ k → k < n → n ≤ 2 * k * 2 ^ f → k ≤ leftF f k n ∧ leftF f k n < n ∧ n ≤ 2 * leftF f k n
 | 0, k, n, h1, h2, h3 => by
  simp only [Nat.pow_zero, Nat.mul_one] at h3
  exact ⟨Nat.le_refl _, h2, h3⟩
 | f + 1, k, n, h1, h2, h3 => by
  rw [leftF]
  split
  ·rename_i h
   have := leftF_b f (2 * k) n (by omega) h (by rw [Nat.pow_succ] at h3; rw [pow_help]; exact h3)
   exact ⟨by omega, this.2⟩
  ·exact ⟨Nat.le_refl _, h2, by omega⟩
theorem leftS_b (n : Nat) (h : 2 ≤ n) (h2 : n ≤ 1099511627776) : 1 ≤ leftS n ∧ leftS n < n ∧ n ≤ 2 * leftS n := leftF_b 40 1 n (by omega) (by omega) (by omega)
theorem left_loop : ∀ (f k n : Nat), n ≤ 2 * k * 2 ^ f → 1 ≤ k → n ≤ 1073741824 → k ≤ 1073741824 → tree_left_1 (n : Int) (k : Int) = some ((leftF f k n : Nat) : Int)
 | 0, k, n, h, h1, h2, hk => by
  unfold tree_left_1
  refine loop_out ?_
  unfold tree_left_1_step
  simp only [Nat.pow_zero, Nat.mul_one] at h
  rw [w64_eq (by omega) (by omega), fork_f (by omega)]
  rfl
 | f + 1, k, n, h, h1, h2, hk => by
  rw [leftF]
  split
  ·rename_i hlt
   rw [← left_loop f (2 * k) n (by rw [Nat.pow_succ] at h; rw [pow_help]; exact h) (by omega) h2 (by omega)]
   have hs : tree_left_1_step (n : Int) (k : Int) = some (.inl ((2 * k : Nat) : Int)) := by
    unfold tree_left_1_step
    rw [w64_eq (by omega) (by omega), w64_eq (by omega) (by omega), fork_t (by omega), show (k : Int) * 2 = ((2 * k : Nat) : Int) from by omega]
   unfold tree_left_1
   rw [loop_next hs]
  ·rename_i hlt
   unfold tree_left_1
   refine loop_out ?_
   unfold tree_left_1_step
   rw [w64_eq (by omega) (by omega), fork_f (by omega)]
theorem left_eq (n : Nat) (h : n ≤ 1073741824) : tree_left (n : Int) = some ((leftS n : Nat) : Int) := by
 unfold tree_left
 rw [show (1 : Int) = ((1 : Nat) : Int) from rfl, left_loop 40 1 n (by omega) (by omega) h (by omega), andThen_mk]
 rfl
def rootW (l : List (List UInt8)) : List UInt8 :=
 if h : 2 ≤ l.length ∧ l.length ≤ 1099511627776 then sha (1 :: (rootW (l.take (leftS l.length)) ++ rootW (l.drop (leftS l.length))))
 else if l.length = 0 then sha [2] else sha (0 :: l.getD 0 [])
termination_by l.length
decreasing_by
 ·have := leftS_b l.length h.1 h.2; simp; omega
 ·have := leftS_b l.length h.1 h.2; simp; omega
theorem rootS_ex : ∃ f : List (List UInt8) → List UInt8, ∀ l, f l = if h : 2 ≤ l.length ∧ l.length ≤ 1099511627776 then sha (1 :: (f (l.take (leftS l.length)) ++ f (l.drop (leftS l.length)))) else if l.length = 0 then sha [2] else sha (0 :: l.getD 0 []) :=
 ⟨rootW, fun l => by rw [rootW]⟩
noncomputable def rootS : List (List UInt8) → List UInt8 := Classical.choose rootS_ex
theorem rootS_eq (l : List (List UInt8)) : rootS l = if h : 2 ≤ l.length ∧ l.length ≤ 1099511627776 then sha (1 :: (rootS (l.take (leftS l.length)) ++ rootS (l.drop (leftS l.length)))) else if l.length = 0 then sha [2] else sha (0 :: l.getD 0 []) := Classical.choose_spec rootS_ex l
theorem rootS_len (l : List (List UInt8)) : (rootS l).length = 32 := by
 rw [rootS_eq]; split
 ·exact sha_len _
 ·split <;> exact sha_len _
def innerS (a b : List UInt8) : List UInt8 := sha (1 :: (a ++ b))
def leafS (x : List UInt8) : List UInt8 := sha (0 :: x)
theorem rootS_two (l : List (List UInt8)) (h : 2 ≤ l.length) (h2 : l.length ≤ 1099511627776) : rootS l = innerS (rootS (l.take (leftS l.length))) (rootS (l.drop (leftS l.length))) := by
 rw [rootS_eq, dif_pos ⟨h, h2⟩]; rfl
theorem rootS_one (x : List UInt8) : rootS [x] = leafS x := by
 rw [rootS_eq, dif_neg (by simp), if_neg (by simp)]; rfl
theorem rootS_none : rootS [] = sha [2] := by
 rw [rootS_eq, dif_neg (by simp), if_pos (by simp)]
theorem inner_eq (a b : List UInt8) (ha : a.length = 32) (hb : b.length = 32) : tree_inner a b = some (innerS a b) := by
 unfold tree_inner
 have hf : [a, b].flatten = a ++ b := by simp
 rw [tagged_eq _ _ (by rw [hf, List.length_append]; omega) (by simp), hf]
 rfl
def Small (l : List (List UInt8)) : Prop := ∀ x ∈ l, x.length ≤ 1000000
theorem small_take {l : List (List UInt8)} (h : Small l) (n : Nat) : Small (l.take n) := fun x hx => h x (List.mem_of_mem_take hx)
theorem small_drop {l : List (List UInt8)} (h : Small l) (n : Nat) : Small (l.drop n) := fun x hx => h x (List.mem_of_mem_drop hx)
theorem root_f_eq : ∀ (k : Nat) (l : List (List UInt8)), l.length < k → l.length ≤ 1000 → Small l → tree_Root_f k l = some (rootS l)
 | 0, l, h, _, _ => by omega
 | k + 1, l, h, h2, hl => by
  rw [tree_Root_f]
  match l, h, h2, hl with
  | [], h, h2, hl =>
   rw [fork_t (by simp), tagged_eq _ _ (by simp) (by simp), rootS_none]; rfl
  | [x], h, h2, hl =>
   have hx := hl x (by simp)
   have hf : [List.getD [x] (Int.toNat (0 : Int)) []].flatten = x := by simp
   rw [fork_f (by simp), fork_t (by simp), need_true (by simp), tagged_eq _ _ (by rw [hf]; omega) (by simp), hf, rootS_one]; rfl
  | x :: y :: r, h, h2, hl =>
   have hn : 2 ≤ (x :: y :: r).length := by simp
   generalize x :: y :: r = l at h h2 hl hn
   obtain ⟨b1, b2, b3⟩ := leftS_b l.length hn (by omega)
   rw [fork_f (by omega), fork_f (by omega), left_eq _ (by omega), andThen_mk, need_true (by omega), cut_to, cut_from, Int.toNat_natCast, root_f_eq k (l.take (leftS l.length)) (by rw [List.length_take]; omega) (by rw [List.length_take]; omega) (small_take hl _), andThen_mk, need_true (by omega),
    root_f_eq k (l.drop (leftS l.length)) (by rw [List.length_drop]; omega) (by rw [List.length_drop]; omega) (small_drop hl _), andThen_mk, inner_eq _ _ (rootS_len _) (rootS_len _), andThen_mk, rootS_two l hn (by omega)]
theorem root_eq (l : List (List UInt8)) (h : l.length < 64) (hl : Small l) : tree_Root l = some (rootS l) := root_f_eq 64 l h (by omega) hl
noncomputable def pathF : Nat → List (List UInt8) → Nat → List (List UInt8)
 | 0, _, _ => []
 | f + 1, l, i => if l.length ≤ 1 then [] else if i < leftS l.length then pathF f (l.take (leftS l.length)) i ++ [rootS (l.drop (leftS l.length))]
   else pathF f (l.drop (leftS l.length)) (i - leftS l.length) ++ [rootS (l.take (leftS l.length))]
def sidesF : Nat → Nat → Nat → List Bool
 | 0, _, _ => []
 | f + 1, i, n => if n ≤ 1 then [] else if i < leftS n then true :: sidesF f i (leftS n) else false :: sidesF f (i - leftS n) (n - leftS n)
theorem path_sides : ∀ (f : Nat) (l : List (List UInt8)) (i : Nat), l.length ≤ 1000 → (pathF f l i).length = (sidesF f i l.length).length
 | 0, _, _, _ => rfl
 | f + 1, l, i, h => by
  rw [pathF, sidesF]
  by_cases h1 : l.length ≤ 1
  ·rw [if_pos h1, if_pos h1]; rfl
  ·obtain ⟨b1, b2, b3⟩ := leftS_b l.length (by omega) (by omega)
   rw [if_neg h1, if_neg h1]
   by_cases hi : i < leftS l.length
   ·rw [if_pos hi, if_pos hi, List.length_append, path_sides f _ _ (by rw [List.length_take]; omega), List.length_take, Nat.min_eq_left (by omega)]; simp
   ·rw [if_neg hi, if_neg hi, List.length_append, path_sides f _ _ (by rw [List.length_drop]; omega), List.length_drop]; simp
theorem pathF_len : ∀ (f : Nat) (l : List (List UInt8)) (i : Nat), (pathF f l i).length ≤ f
 | 0, _, _ => by simp [pathF]
 | f + 1, l, i => by
  rw [pathF]; split
  ·simp
  ·split
   ·have := pathF_len f (l.take (leftS l.length)) i; simp; omega
   ·have := pathF_len f (l.drop (leftS l.length)) (i - leftS l.length); simp; omega
theorem pathF_32 : ∀ (f : Nat) (l : List (List UInt8)) (i : Nat), ∀ x ∈ pathF f l i, x.length = 32
 | 0, _, _, x, hx => by simp [pathF] at hx
 | f + 1, l, i, x, hx => by
  rw [pathF] at hx; split at hx
  ·simp at hx
  ·split at hx
   ·rcases List.mem_append.1 hx with h | h
    ·exact pathF_32 f _ _ x h
    ·simp at h; rw [h]; exact rootS_len _
   ·rcases List.mem_append.1 hx with h | h
    ·exact pathF_32 f _ _ x h
    ·simp at h; rw [h]; exact rootS_len _
abbrev zT : List UInt8 := List.replicate 32 (0 : UInt8)
def revAt (a : List (List UInt8)) (i : Nat) : List (List UInt8) := (List.range a.length).map fun j => if j < i ∨ a.length - 1 - i < j then a.getD (a.length - 1 - j) zT else a.getD j zT
theorem revAt_len (a : List (List UInt8)) (i : Nat) : (revAt a i).length = a.length := by simp [revAt]
theorem revAt_get (a : List (List UInt8)) (i j : Nat) (h : j < a.length) : (revAt a i).getD j zT = if j < i ∨ a.length - 1 - i < j then a.getD (a.length - 1 - j) zT else a.getD j zT := by
 unfold revAt
 rw [List.getD_eq_getElem?_getD, List.getElem?_map, List.getElem?_range h]; rfl
theorem ext_getD {a b : List (List UInt8)} (hl : a.length = b.length) (h : ∀ j, j < a.length → a.getD j zT = b.getD j zT) : a = b := by
 apply List.ext_getElem hl
 intro j h1 h2
 have := h j h1
 rw [List.getD_eq_getElem?_getD, List.getD_eq_getElem?_getD, List.getElem?_eq_getElem h1, List.getElem?_eq_getElem h2] at this
 exact this
theorem getD_set (a : List (List UInt8)) (i j : Nat) (x : List UInt8) (h : i < a.length) : (a.set i x).getD j zT = if i = j then x else a.getD j zT := by
 rw [List.getD_eq_getElem?_getD, List.getElem?_set, List.getD_eq_getElem?_getD]
 split
 ·rename_i e; subst e; simp [h]
 ·rfl
theorem revAt_step (a : List (List UInt8)) (i : Nat) (h : i < a.length - 1 - i) : ((revAt a i).set i ((revAt a i).getD (a.length - 1 - i) zT)).set (a.length - 1 - i) ((revAt a i).getD i zT) = revAt a (i + 1) := by
 apply ext_getD (by simp [revAt_len])
 intro j hj
 rw [List.length_set, List.length_set, revAt_len] at hj
 rw [getD_set _ _ _ _ (by rw [List.length_set, revAt_len]; omega), getD_set _ _ _ _ (by rw [revAt_len]; omega), revAt_get a i _ (by omega), revAt_get a i _ (by omega), revAt_get a i j hj, revAt_get a (i + 1) j hj]
 rw [if_neg (show ¬ (i < i ∨ a.length - 1 - i < i) by omega), if_neg (show ¬ (a.length - 1 - i < i ∨ a.length - 1 - i < a.length - 1 - i) by omega)]
 by_cases e1 : a.length - 1 - i = j
 ·rw [if_pos e1, if_pos (by omega)]; congr 1; omega
 ·rw [if_neg e1]
  by_cases e2 : i = j
  ·rw [if_pos e2, if_pos (by omega)]; congr 1; omega
  ·rw [if_neg e2]
   by_cases e3 : j < i ∨ a.length - 1 - i < j
   ·rw [if_pos e3, if_pos (by omega)]
   ·rw [if_neg e3, if_neg (by omega)]
theorem rev_eq (a : List (List UInt8)) (ha : a.length ≤ 1000000) : slices_Reverse_LHash_Hash_8d4f a = some a.reverse := by
 have main : slices_Reverse_LHash_Hash_8d4f_1 0 ((a.length : Int) - 1) a = some (revAt a (a.length / 2)) := by
  have h0 : revAt a 0 = a := by
   apply ext_getD (revAt_len a 0)
   intro j hj
   rw [revAt_len] at hj
   rw [revAt_get a 0 j hj, if_neg (by omega)]
  unfold slices_Reverse_LHash_Hash_8d4f_1
  have := loop_for (step := fun (s : Int × Int × List (List UInt8)) => slices_Reverse_LHash_Hash_8d4f_1_step s.1 s.2.1 s.2.2) (fun i (_ : Unit) => ((i : Int), (a.length : Int) - 1 - (i : Int), revAt a i)) (fun _ _ => ()) (fun _ => revAt a (a.length / 2)) (a.length / 2) (fun _ _ => True) (fun i w hi _ => ⟨?_, trivial⟩) (fun w _ => ?_) (a.length / 2) 0 () (by omega) trivial
  ·rw [h0] at this
   simpa using this
  ·show slices_Reverse_LHash_Hash_8d4f_1_step (i : Int) ((a.length : Int) - 1 - (i : Int)) (revAt a i) = _
   unfold slices_Reverse_LHash_Hash_8d4f_1_step
   have hl := revAt_len a i
   have e1 : Int.toNat ((a.length : Int) - 1 - (i : Int)) = a.length - 1 - i := by omega
   rw [fork_t (by omega), need_true (by omega), need_true (by omega), List.length_set, need_true (by omega), e1, Int.toNat_natCast, w64_eq (by omega) (by omega), w64_eq (by omega) (by omega), revAt_step a i (by omega), show (a.length : Int) - 1 - (i : Int) - 1 = (a.length : Int) - 1 - ((i + 1 : Nat) : Int) from by omega]
   rfl
  ·show slices_Reverse_LHash_Hash_8d4f_1_step ((a.length / 2 : Nat) : Int) ((a.length : Int) - 1 - ((a.length / 2 : Nat) : Int)) (revAt a (a.length / 2)) = _
   unfold slices_Reverse_LHash_Hash_8d4f_1_step
   rw [fork_f (by omega)]
 unfold slices_Reverse_LHash_Hash_8d4f
 rw [w64_eq (by omega) (by omega), main, andThen_mk]
 congr 1
 apply ext_getD (by rw [revAt_len, List.length_reverse])
 intro j hj
 rw [revAt_len] at hj
 rw [revAt_get a _ j hj]
 have hr : a.reverse.getD j zT = a.getD (a.length - 1 - j) zT := by
  rw [List.getD_eq_getElem?_getD, List.getElem?_reverse hj, List.getD_eq_getElem?_getD]
 rw [hr]
 split
 ·rfl
 ·congr 1; omega
theorem path_loop : ∀ (f : Nat) (l : List (List UInt8)) (i : Nat) (acc : List (List UInt8)), l.length ≤ f + 1 → l.length < 64 → i < l.length ∨ l.length = 0 → acc.length ≤ 1000 - f → f ≤ 100 → Small l → tree_Path_1 l (i : Int) acc = some (acc ++ (pathF f l i).reverse)
 | 0, l, i, acc, h, h2, hi, ha, hf, hs => by
  unfold tree_Path_1
  refine loop_out ?_
  unfold tree_Path_1_step
  rw [fork_f (by show ¬ (1 : Int) < (l.length : Int); omega)]
  simp [pathF]
 | f + 1, l, i, acc, h, h2, hi, ha, hf, hs => by
  by_cases h1 : l.length ≤ 1
  ·rw [pathF, if_pos h1]
   unfold tree_Path_1
   refine loop_out ?_
   unfold tree_Path_1_step
   rw [fork_f (by show ¬ (1 : Int) < (l.length : Int); omega)]
   simp
  ·obtain ⟨b1, b2, b3⟩ := leftS_b l.length (by omega) (by omega)
   rw [pathF, if_neg h1]
   by_cases hl : i < leftS l.length
   ·rw [if_pos hl, List.reverse_append, List.reverse_singleton, ← List.append_assoc]
    have hst : tree_Path_1_step l (i : Int) acc = some (.inl (l.take (leftS l.length), (i : Int), acc ++ [rootS (l.drop (leftS l.length))])) := by
     unfold tree_Path_1_step
     rw [fork_t (by omega), left_eq _ (by omega), andThen_mk, fork_t (by omega), need_true (by omega), cut_from, cut_to, Int.toNat_natCast, root_eq _ (by rw [List.length_drop]; omega) (small_drop hs _), andThen_mk, need_true (by simp; omega), need_true (by omega)]
    rw [← path_loop f (l.take (leftS l.length)) i (acc ++ [rootS (l.drop (leftS l.length))]) (by rw [List.length_take]; omega) (by rw [List.length_take]; omega) (by rw [List.length_take]; omega) (by simp; omega) (by omega) (small_take hs _)]
    unfold tree_Path_1
    rw [loop_next hst]
   ·rw [if_neg hl, List.reverse_append, List.reverse_singleton, ← List.append_assoc]
    have hst : tree_Path_1_step l (i : Int) acc = some (.inl (l.drop (leftS l.length), ((i - leftS l.length : Nat) : Int), acc ++ [rootS (l.take (leftS l.length))])) := by
     unfold tree_Path_1_step
     rw [fork_t (by omega), left_eq _ (by omega), andThen_mk, fork_f (by omega), need_true (by omega), cut_from, cut_to, Int.toNat_natCast, root_eq _ (by rw [List.length_take]; omega) (small_take hs _), andThen_mk, need_true (by simp; omega), need_true (by omega), w64_eq (by omega) (by omega),
      show (i : Int) - ((leftS l.length : Nat) : Int) = ((i - leftS l.length : Nat) : Int) from by omega]
    rw [← path_loop f (l.drop (leftS l.length)) (i - leftS l.length) (acc ++ [rootS (l.take (leftS l.length))]) (by rw [List.length_drop]; omega) (by rw [List.length_drop]; omega) (by rw [List.length_drop]; omega) (by simp; omega) (by omega) (small_drop hs _)]
    unfold tree_Path_1
    rw [loop_next hst]
noncomputable def pathS (l : List (List UInt8)) (i : Int) : List (List UInt8) := if 0 ≤ i ∧ i < (l.length : Int) then pathF l.length l i.toNat else []
theorem path_eq (l : List (List UInt8)) (i : Int) (h : l.length < 64) (hs : Small l) : tree_Path l i = some (pathS l i) := by
 unfold tree_Path pathS
 by_cases h0 : i < 0
 ·rw [fork_t h0, if_neg (by omega)]
 ·rw [fork_f h0]
  by_cases h1 : (l.length : Int) ≤ i
  ·rw [fork_t h1, if_neg (by omega)]
  ·rw [fork_f h1, if_pos (by omega)]
   obtain ⟨k, rfl⟩ := Int.eq_ofNat_of_zero_le (show 0 ≤ i by omega)
   have hl := pathF_len l.length l k
   rw [path_loop l.length l k [] (by omega) h (by omega) (by simp) (by omega) hs, andThen_mk]
   simp only [List.nil_append]
   rw [rev_eq _ (by rw [List.length_reverse]; omega), List.reverse_reverse]
   rfl
theorem sides_loop : ∀ (f i n : Nat) (acc : List Bool), n ≤ f + 1 → n ≤ 1073741824 → i < n ∨ n = 0 → acc.length ≤ 10000000 - f → f ≤ 5000000 → tree_sides_1 (i : Int) (n : Int) acc = some (acc ++ sidesF f i n)
 | 0, i, n, acc, h, h2, hi, ha, hf => by
  unfold tree_sides_1
  refine loop_out ?_
  unfold tree_sides_1_step
  rw [fork_f (by show ¬ (1 : Int) < (n : Int); omega)]
  simp [sidesF]
 | f + 1, i, n, acc, h, h2, hi, ha, hf => by
  by_cases h1 : n ≤ 1
  ·rw [sidesF, if_pos h1]
   unfold tree_sides_1
   refine loop_out ?_
   unfold tree_sides_1_step
   rw [fork_f (by show ¬ (1 : Int) < (n : Int); omega)]
   simp
  ·obtain ⟨b1, b2, b3⟩ := leftS_b n (by omega) (by omega)
   rw [sidesF, if_neg h1]
   by_cases hl : i < leftS n
   ·rw [if_pos hl, show acc ++ true :: sidesF f i (leftS n) = (acc ++ [true]) ++ sidesF f i (leftS n) from by simp]
    have hst : tree_sides_1_step (i : Int) (n : Int) acc = some (.inl ((i : Int), ((leftS n : Nat) : Int), acc ++ [true])) := by
     unfold tree_sides_1_step
     rw [fork_t (by omega), left_eq _ (by omega), andThen_mk, need_true (by simp; omega), decide_eq_true (show (i : Int) < ((leftS n : Nat) : Int) by omega), fork_tt]
    rw [← sides_loop f i (leftS n) (acc ++ [true]) (by omega) (by omega) (by omega) (by simp; omega) (by omega)]
    unfold tree_sides_1
    rw [loop_next hst]
   ·rw [if_neg hl, show acc ++ false :: sidesF f (i - leftS n) (n - leftS n) = (acc ++ [false]) ++ sidesF f (i - leftS n) (n - leftS n) from by simp]
    have hst : tree_sides_1_step (i : Int) (n : Int) acc = some (.inl (((i - leftS n : Nat) : Int), ((n - leftS n : Nat) : Int), acc ++ [false])) := by
     unfold tree_sides_1_step
     rw [fork_t (by omega), left_eq _ (by omega), andThen_mk, need_true (by simp; omega), decide_eq_false (show ¬ (i : Int) < ((leftS n : Nat) : Int) by omega), fork_ff, w64_eq (by omega) (by omega), w64_eq (by omega) (by omega),
      show (i : Int) - ((leftS n : Nat) : Int) = ((i - leftS n : Nat) : Int) from by omega, show (n : Int) - ((leftS n : Nat) : Int) = ((n - leftS n : Nat) : Int) from by omega]
    rw [← sides_loop f (i - leftS n) (n - leftS n) (acc ++ [false]) (by omega) (by omega) (by omega) (by simp; omega) (by omega)]
    unfold tree_sides_1
    rw [loop_next hst]
theorem sides_eq (i n : Nat) (h : i < n) (hn : n ≤ 1000000) : tree_sides (i : Int) (n : Int) = some (sidesF n i n) := by
 unfold tree_sides
 rw [sides_loop n i n [] (by omega) (by omega) (by omega) (by simp) (by omega), andThen_mk]
 rfl
def isS (i n : Int) : Bool := decide (0 ≤ i) && (decide (i < n) && decide (n ≤ 1048576))
theorem is_eq (i n : Int) : tree_is i n = some (isS i n) := by
 unfold tree_is isS
 simp only [fork_ite]
 cases decide (0 ≤ i) <;> cases decide (i < n) <;> simp
theorem isS_iff (i n : Int) : isS i n = true ↔ 0 ≤ i ∧ i < n ∧ n ≤ 1048576 := by
 unfold isS; simp
theorem depth_eq (i n : Int) (hn : n ≤ 1000000 ∨ 1048576 < n) : tree_Depth i n = some (if isS i n then ((sidesF n.toNat i.toNat n.toNat).length : Int) else -1) := by
 unfold tree_Depth
 rw [is_eq, andThen_mk]
 cases h : isS i n with
 | false => rfl
 | true =>
  obtain ⟨h1, h2, h3⟩ := (isS_iff i n).1 h
  obtain ⟨a, rfl⟩ := Int.eq_ofNat_of_zero_le h1
  obtain ⟨b, rfl⟩ := Int.eq_ofNat_of_zero_le (show 0 ≤ n by omega)
  rw [show (!true) = false from rfl, fork_ff, sides_eq a b (by omega) (by omega), andThen_mk]
  rfl
def climb : List Bool → List (List UInt8) → List UInt8 → List UInt8
 | b :: bs, p :: ps, h => climb bs ps (if b then innerS h p else innerS p h)
 | _, _, h => h
theorem climb_snoc : ∀ (bs : List Bool) (ps : List (List UInt8)) (h : List UInt8) (b : Bool) (p : List UInt8), bs.length = ps.length → climb (bs ++ [b]) (ps ++ [p]) h = if b then innerS (climb bs ps h) p else innerS p (climb bs ps h)
 | [], [], h, b, p, _ => rfl
 | x :: bs, y :: ps, h, b, p, e => by
  show climb (bs ++ [b]) (ps ++ [p]) _ = _
  rw [climb_snoc bs ps _ b p (by simpa using e)]
  rfl
 | [], _ :: _, _, _, _, e => by simp at e
 | _ :: _, [], _, _, _, e => by simp at e
theorem climb_32 : ∀ (bs : List Bool) (ps : List (List UInt8)) (h : List UInt8), h.length = 32 → (climb bs ps h).length = 32
 | [], _, h, e => by simpa [climb] using e
 | _ :: _, [], h, e => by simpa [climb] using e
 | b :: bs, p :: ps, h, e => by
  rw [climb]
  exact climb_32 bs ps _ (by split <;> exact sha_len _)
theorem climb_take (bs : List Bool) (ps : List (List UInt8)) (h : List UInt8) (i : Nat) (h1 : i < bs.length) (h2 : i < ps.length) :
  climb (bs.take (i + 1)) (ps.take (i + 1)) h = if bs.getD i false then innerS (climb (bs.take i) (ps.take i) h) (ps.getD i zT) else innerS (ps.getD i zT) (climb (bs.take i) (ps.take i) h) := by
 rw [List.take_add_one, List.take_add_one, List.getElem?_eq_getElem h1, List.getElem?_eq_getElem h2, Option.toList_some, Option.toList_some, climb_snoc _ _ _ _ _ (by simp; omega)]
 rw [List.getD_eq_getElem?_getD, List.getElem?_eq_getElem h1, List.getD_eq_getElem?_getD, List.getElem?_eq_getElem h2]
 rfl
theorem up_loop (z h : List UInt8) (l : List Bool) (p : List (List UInt8)) (hl : l.length = p.length) (hp : ∀ x ∈ p, x.length = 32) (hh : h.length = 32) (hb : p.length ≤ 100000) : tree_Up_1 p (p.length : Int) 0 z h l = some (z, climb l.reverse p h) := by
 unfold tree_Up_1
 have := loop_for (step := fun (s : Int × List UInt8) => tree_Up_1_step p (p.length : Int) s.1 z s.2 l) (fun i (_ : Unit) => ((i : Int), climb (l.reverse.take i) (p.take i) h)) (fun _ _ => ()) (fun _ => (z, climb l.reverse p h)) p.length (fun _ _ => True) (fun i w hi _ => ⟨?_, trivial⟩) (fun w _ => ?_) p.length 0 () (by omega) trivial
 ·exact this
 ·show tree_Up_1_step p (p.length : Int) (i : Int) z (climb (l.reverse.take i) (p.take i) h) l = _
  unfold tree_Up_1_step
  have hg : (p.getD i (List.replicate 32 0)).length = 32 := by
   rw [List.getD_eq_getElem?_getD, List.getElem?_eq_getElem hi]; exact hp _ (List.getElem_mem _)
  have hc := climb_32 (l.reverse.take i) (p.take i) h hh
  have hr : l.getD (l.length - 1 - i) false = l.reverse.getD i false := by
   rw [List.getD_eq_getElem?_getD, List.getD_eq_getElem?_getD, List.getElem?_reverse (by omega)]
  rw [fork_t (by omega), need_true (by omega), w64_eq (n := (l.length : Int) - 1) (by omega) (by omega), w64_eq (by omega) (by omega), need_true (by omega), show Int.toNat ((l.length : Int) - 1 - (i : Int)) = l.length - 1 - i from by omega, hr, Int.toNat_natCast, inner_eq _ _ hc hg, inner_eq _ _ hg hc, andThen_mk, andThen_mk, w64_eq (by omega) (by omega),
   climb_take _ _ _ _ (by rw [List.length_reverse]; omega) hi]
  cases l.reverse.getD i false <;> rfl
 ·show tree_Up_1_step p (p.length : Int) (p.length : Int) z _ l = _
  unfold tree_Up_1_step
  rw [fork_f (by omega), List.take_of_length_le (Nat.le_refl _), List.take_of_length_le (by rw [List.length_reverse]; omega)]
def upS (leaf : List UInt8) (i n : Int) (p : List (List UInt8)) : List UInt8 × Bool :=
 if isS i n ∧ p.length = (sidesF n.toNat i.toNat n.toNat).length then (climb (sidesF n.toNat i.toNat n.toNat).reverse p (leafS leaf), true) else (zT, false)
theorem up_eq (leaf : List UInt8) (hf : leaf.length ≤ 1000000) (i n : Int) (hn : n ≤ 1000000) (p : List (List UInt8)) (hp : ∀ x ∈ p, x.length = 32) (hb : p.length ≤ 100000) : tree_Up leaf i n p = some (upS leaf i n p) := by
 unfold tree_Up upS
 rw [is_eq, andThen_mk]
 cases h : isS i n with
 | false => rw [if_neg (by simp)]; rfl
 | true =>
  obtain ⟨h1, h2, h3⟩ := (isS_iff i n).1 h
  rw [show (!true) = false from rfl, fork_ff, depth_eq i n (.inl hn), h, if_pos rfl, andThen_mk]
  by_cases e : p.length = (sidesF n.toNat i.toNat n.toNat).length
  ·rw [fork_nt (by omega), if_pos ⟨rfl, e⟩, root_eq [leaf] (by simp) (by intro x hx; simp at hx; rw [hx]; exact hf), andThen_mk]
   have hsd := sides_eq i.toNat n.toNat (by omega) (by omega)
   rw [show ((i.toNat : Nat) : Int) = i from by omega, show ((n.toNat : Nat) : Int) = n from by omega] at hsd
   rw [hsd, andThen_mk, up_loop _ _ _ _ e.symm hp (rootS_len _) hb, andThen_mk, rootS_one]
  ·rw [fork_nf (by omega), if_neg (fun h => e h.2)]
theorem path_up : ∀ (f : Nat) (l : List (List UInt8)) (i : Nat), i < l.length → l.length ≤ f + 1 → l.length ≤ 1000 → climb (sidesF f i l.length).reverse (pathF f l i) (leafS (l.getD i [])) = rootS l
 | 0, l, i, hi, h, h2 => by
  match l, hi, h with
  | [x], hi, h =>
   have : i = 0 := by simp at hi; exact hi
   subst this
   rw [rootS_one]; rfl
 | f + 1, l, i, hi, h, h2 => by
  rw [sidesF, pathF]
  by_cases h1 : l.length ≤ 1
  ·rw [if_pos h1, if_pos h1]
   match l, hi, h1 with
   | [x], hi, h1 =>
    have : i = 0 := by simp at hi; exact hi
    subst this
    rw [rootS_one]; rfl
  ·obtain ⟨b1, b2, b3⟩ := leftS_b l.length (by omega) (by omega)
   rw [if_neg h1, if_neg h1, rootS_two l (by omega) (by omega)]
   by_cases hl : i < leftS l.length
   ·rw [if_pos hl, if_pos hl, List.reverse_cons, climb_snoc _ _ _ _ _ (by rw [List.length_reverse, path_sides f _ _ (by rw [List.length_take]; omega), List.length_take, Nat.min_eq_left (by omega)]), if_pos rfl]
    have ih := path_up f (l.take (leftS l.length)) i (by rw [List.length_take]; omega) (by rw [List.length_take]; omega) (by rw [List.length_take]; omega)
    rw [List.length_take, Nat.min_eq_left (by omega)] at ih
    have hg : (l.take (leftS l.length)).getD i [] = l.getD i [] := by
     rw [List.getD_eq_getElem?_getD, List.getD_eq_getElem?_getD, List.getElem?_take_of_lt hl]
    rw [hg] at ih
    rw [ih]
   ·rw [if_neg hl, if_neg hl, List.reverse_cons, climb_snoc _ _ _ _ _ (by rw [List.length_reverse, path_sides f _ _ (by rw [List.length_drop]; omega), List.length_drop]), if_neg (by simp)]
    have ih := path_up f (l.drop (leftS l.length)) (i - leftS l.length) (by rw [List.length_drop]; omega) (by rw [List.length_drop]; omega) (by rw [List.length_drop]; omega)
    rw [List.length_drop] at ih
    have hg : (l.drop (leftS l.length)).getD (i - leftS l.length) [] = l.getD i [] := by
     rw [List.getD_eq_getElem?_getD, List.getD_eq_getElem?_getD, List.getElem?_drop]; congr 2; omega
    rw [hg] at ih
    rw [ih]
abbrev Prf := Int × Int × List Pr × List (List (List UInt8)) × Unit
def leafB (p : Pr) : List UInt8 := txtS p.1 ++ txtS p.2.1
def leavesB (l : List Pr) : List (List UInt8) := l.map leafB
def KvOk (l : List Pr) : Prop := l.length ≤ 60 ∧ ∀ p ∈ l, p.1.length ≤ 100000 ∧ p.2.1.length ≤ 100000
theorem leavesB_len (l : List Pr) : (leavesB l).length = l.length := by simp [leavesB]
theorem leafB_len {p : Pr} (h : p.1.length ≤ 100000 ∧ p.2.1.length ≤ 100000) : (leafB p).length ≤ 200100 := by
 have a := txt_len p.1
 have b := txt_len p.2.1
 unfold leafB; rw [List.length_append]; omega
theorem leavesB_small {l : List Pr} (h : KvOk l) : Small (leavesB l) := by
 intro x hx
 obtain ⟨p, hp, rfl⟩ := List.mem_map.1 hx
 have := leafB_len (h.2 p hp)
 omega
theorem leaf_eq (p : Pr) (h : p.1.length ≤ 100000 ∧ p.2.1.length ≤ 100000) : kv_Leaf p = some (leafB p) := by
 have := vtext_eq [p.1, p.2.1] (by simp) (fun x hx => by
  rcases List.mem_cons.1 hx with rfl | hx
  ·exact h.1
  ·rcases List.mem_cons.1 hx with rfl | hx
   ·exact h.2
   ·cases hx)
 have e : ([p.1, p.2.1] : List (List UInt8)).flatMap txtS = leafB p := by simp [leafB]
 rw [e] at this
 unfold kv_Leaf
 rw [this, andThen_mk]
theorem leavesB_take (l : List Pr) {i : Nat} (hi : i < l.length) : leavesB (l.take i) ++ [leafB (l.getD i zPr)] = leavesB (l.take (i + 1)) := by
 unfold leavesB
 rw [List.take_add_one, List.map_append, List.getElem?_eq_getElem hi, List.getD_eq_getElem?_getD, List.getElem?_eq_getElem hi]; rfl
theorem some1_step (x0 : List Pr) (x1 : Int) (x2 : Int) (x3 : List Pr) (x4 : Int) (x5 : Int) (x6 : Int) (x7 : Int) (x8 : Unit) (x9 : Int) (x10 : Int) (x11 : Unit) (x12 : List (List UInt8)) : prove_Some_1_step x0 x1 x2 x3 x4 x5 x6 x7 x8 x9 x10 x11 x12 =
  (fork (decide (x5 < x4)) (need (0 ≤ x5 ∧ x5 < (List.length x3 : Int)) (andThen (kv_Leaf (List.getD x3 (Int.toNat x5) zPr)) (fun u5 => need (List.length x12 + List.length ([u5] : List (List UInt8)) ≤ 2147483648) (some (.inl ((w64 (x5 + (1 : Int))), (x12 ++ ([u5] : List (List UInt8))))))))) (some (.inr (x0, x1, x2, x6, x7, x8, x9, x10, x11, x12))) : Option ((Int × List (List UInt8)) ⊕ ((List Pr) × Int × Int × Int × Int × Unit × Int × Int × Unit × List (List UInt8)))) := rfl
theorem some2_step (x0 : List Pr) (x1 : Int) (x2 : Int) (x3 : Int) (x4 : Int) (x5 : Unit) (x6 : Int) (x7 : Int) (x8 : Unit) (x9 : List Pr) (x10 : List (List (List UInt8))) (x11 : List (List UInt8)) : prove_Some_2_step x0 x1 x2 x3 x4 x5 x6 x7 x8 x9 x10 x11 =
  (fork (decide (x2 < x1)) (need (0 ≤ x2 ∧ x2 < (List.length x0 : Int)) (need (List.length x9 + List.length ([(List.getD x0 (Int.toNat x2) zPr)] : List Pr) ≤ 2147483648) (andThen (tree_Path x11 x2) (fun u14 => need (List.length x10 + List.length ([u14] : List (List (List UInt8))) ≤ 2147483648) (some (.inl ((w64 (x2 + (1 : Int))), (x9 ++ ([(List.getD x0 (Int.toNat x2) zPr)] : List Pr)), (x10 ++ ([u14] : List (List (List UInt8))))))))))) (some (.inr (x3, x4, x5, x6, x7, x8, x9, x10))) : Option ((Int × (List Pr) × List (List (List UInt8))) ⊕ (Int × Int × Unit × Int × Int × Unit × (List Pr) × List (List (List UInt8))))) := rfl
noncomputable def pathsN (l : List Pr) (f n : Nat) : List (List (List UInt8)) := (List.range n).map fun j => pathS (leavesB l) ((f + j : Nat) : Int)
noncomputable def someN (l : List Pr) (f t : Nat) : Prf := if t ≤ f then ((l.length : Int), 0, [], [], ()) else ((l.length : Int), (f : Int), (l.drop f).take (t - f), pathsN l f (t - f), ())
theorem pathsN_succ (l : List Pr) (f n : Nat) : pathsN l f (n + 1) = pathsN l f n ++ [pathS (leavesB l) ((f + n : Nat) : Int)] := by
 unfold pathsN
 rw [List.range_succ, List.map_append]; rfl
theorem drop_take_succ (l : List Pr) {f n : Nat} (h : f + n < l.length) : (l.drop f).take (n + 1) = (l.drop f).take n ++ [l.getD (f + n) zPr] := by
 rw [List.take_add_one, List.getElem?_drop, List.getElem?_eq_getElem h, List.getD_eq_getElem?_getD, List.getElem?_eq_getElem h]; rfl
theorem psome_eq (l : List Pr) (h : KvOk l) (a b : Int) : prove_Some l a b = some (someN l (max a 0).toNat (min b (l.length : Int)).toNat) := by
 have hl := h.1
 unfold prove_Some
 by_cases c : min b (l.length : Int) ≤ max a 0
 ·rw [fork_t c]
  unfold someN
  rw [if_pos (by omega)]
 ·rw [fork_f c]
  have ef : max a 0 = (((max a 0).toNat : Nat) : Int) := by omega
  have et : min b (l.length : Int) = (((min b (l.length : Int)).toNat : Nat) : Int) := by omega
  generalize hF : (max a 0).toNat = F at *
  generalize hT : (min b (l.length : Int)).toNat = T at *
  rw [ef, et]
  rw [ef, et] at c
  have hFT : F < T := by omega
  have hTl : T ≤ l.length := by omega
  clear hF hT ef et c
  have m1 : prove_Some_1 l (F : Int) (T : Int) l (l.length : Int) 0 0 0 () (l.length : Int) 0 () [] = some (l, (F : Int), (T : Int), 0, 0, (), (l.length : Int), 0, (), leavesB l) := by
   unfold prove_Some_1
   have := loop_for (step := fun (s : Int × List (List UInt8)) => prove_Some_1_step l (F : Int) (T : Int) l (l.length : Int) s.1 0 0 () (l.length : Int) 0 () s.2) (fun i (_ : Unit) => ((i : Int), leavesB (l.take i))) (fun _ _ => ()) (fun _ => (l, (F : Int), (T : Int), 0, 0, (), (l.length : Int), 0, (), leavesB l)) l.length (fun _ _ => True) (fun i w hi _ => ⟨?_, trivial⟩) (fun w _ => ?_) l.length 0 () (by omega) trivial
   ·exact this
   ·show prove_Some_1_step l (F : Int) (T : Int) l (l.length : Int) (i : Int) 0 0 () (l.length : Int) 0 () (leavesB (l.take i)) = _
    rw [some1_step, fork_t (by omega), need_true (by omega), Int.toNat_natCast, leaf_eq _ (h.2 _ (getD_mem hi)), andThen_mk, need_true (by rw [leavesB_len, List.length_take]; simp only [List.length_cons, List.length_nil]; omega), leavesB_take l hi, w64_eq (by omega) (by omega)]
    rfl
   ·show prove_Some_1_step l (F : Int) (T : Int) l (l.length : Int) (l.length : Int) 0 0 () (l.length : Int) 0 () (leavesB (l.take l.length)) = _
    rw [some1_step, fork_f (by omega), List.take_of_length_le (Nat.le_refl _)]
  have m2 : prove_Some_2 l (T : Int) (F : Int) 0 0 () (l.length : Int) (F : Int) () [] [] (leavesB l) = some (0, 0, (), (l.length : Int), (F : Int), (), (l.drop F).take (T - F), pathsN l F (T - F)) := by
   unfold prove_Some_2
   have := loop_for (step := fun (s : Int × (List Pr) × List (List (List UInt8))) => prove_Some_2_step l (T : Int) s.1 0 0 () (l.length : Int) (F : Int) () s.2.1 s.2.2 (leavesB l)) (fun i (_ : Unit) => (((F + i : Nat) : Int), (l.drop F).take i, pathsN l F i)) (fun _ _ => ()) (fun _ => (0, 0, (), (l.length : Int), (F : Int), (), (l.drop F).take (T - F), pathsN l F (T - F))) (T - F) (fun _ _ => True) (fun i w hi _ => ⟨?_, trivial⟩) (fun w _ => ?_) (T - F) 0 () (by omega) trivial
   ·exact this
   ·show prove_Some_2_step l (T : Int) ((F + i : Nat) : Int) 0 0 () (l.length : Int) (F : Int) () ((l.drop F).take i) (pathsN l F i) (leavesB l) = _
    have e1 : ((l.drop F).take i).length ≤ 60 := by rw [List.length_take, List.length_drop]; omega
    have e2 : (pathsN l F i).length = i := by simp [pathsN]
    rw [some2_step, fork_t (by omega), need_true (by omega), Int.toNat_natCast, need_true (by simp only [List.length_cons, List.length_nil]; omega), path_eq (leavesB l) _ (by rw [leavesB_len]; omega) (leavesB_small h), andThen_mk, need_true (by simp only [List.length_cons, List.length_nil]; omega), w64_eq (by omega) (by omega), ← drop_take_succ l (by omega), ← pathsN_succ]
    congr 3
   ·show prove_Some_2_step l (T : Int) ((F + (T - F) : Nat) : Int) 0 0 () (l.length : Int) (F : Int) () ((l.drop F).take (T - F)) (pathsN l F (T - F)) (leavesB l) = _
    rw [some2_step, fork_f (by omega)]
  rw [m1, andThen_mk]
  simp only
  rw [m2, andThen_mk]
  unfold someN
  rw [if_neg (by omega)]
theorem range_eq (l : List Pr) (h : KvOk l) (hr : RiseP l) (a b : List UInt8) : prove_Range l a b = some (someN l (belowN l a - 1) (min (belowN l (maxS a b) + 1) l.length)) := by
 have hl := h.1
 have h1 := below_le l a
 have h2 := below_le l (maxS a b)
 unfold prove_Range
 rw [kfirst_eq l hr (by omega), andThen_mk, kfirst_eq l hr (by omega), andThen_mk, w64_eq (by omega) (by omega), w64_eq (by omega) (by omega), psome_eq l h, andThen_mk]
 congr 2 <;> omega
def sizeP (p : Prf) : Nat := p.2.2.1.length + (p.2.2.2.1.map List.length).sum
theorem psum_take (ps : List (List (List UInt8))) {i : Nat} (hi : i < ps.length) : ((ps.take (i + 1)).map List.length).sum = ((ps.take i).map List.length).sum + (ps.getD i []).length := by
 rw [List.take_add_one, List.map_append, List.sum_append, List.getElem?_eq_getElem hi, List.getD_eq_getElem?_getD, List.getElem?_eq_getElem hi]
 show _ + (_ + 0) = _
 rw [Nat.add_zero]; rfl
theorem size_step (x0 : Int) (x1 : List (List (List UInt8))) (x2 : Int) (x3 : Int) : prove_Size_1_step x0 x1 x2 x3 =
  (fork (decide (x3 < x2)) (need (0 ≤ x3 ∧ x3 < (List.length x1 : Int)) (some (.inl ((w64 (x0 + (List.length (List.getD x1 (Int.toNat x3) ([] : List (List UInt8))) : Int))), (w64 (x3 + (1 : Int))))))) (some (.inr x0)) : Option ((Int × Int) ⊕ (Int))) := rfl
theorem psum_b : ∀ (ps : List (List (List UInt8))), (∀ x ∈ ps, x.length ≤ 1000) → (ps.map List.length).sum ≤ 1000 * ps.length
 | [], _ => Nat.le_refl _
 | x :: ps, h => by
  have a := h x List.mem_cons_self
  have b := psum_b ps fun y hy => h y (List.mem_cons_of_mem _ hy)
  rw [List.map_cons, List.sum_cons, List.length_cons]; omega
theorem size_eq (p : Prf) (h1 : p.2.2.1.length ≤ 1000000) (h2 : p.2.2.2.1.length ≤ 1000000) (h3 : ∀ x ∈ p.2.2.2.1, x.length ≤ 1000) : prove_Size p = some (sizeP p : Int) := by
 obtain ⟨c, f, l, ps, u⟩ := p
 show andThen (prove_Size_1 (l.length : Int) ps (ps.length : Int) 0) (fun o4 => some o4) = _
 simp only at h1 h2 h3
 have : prove_Size_1 (l.length : Int) ps (ps.length : Int) 0 = some ((l.length + (ps.map List.length).sum : Nat) : Int) := by
  unfold prove_Size_1
  have := loop_for (step := fun (s : Int × Int) => prove_Size_1_step s.1 ps (ps.length : Int) s.2) (fun i (_ : Unit) => (((l.length + ((ps.take i).map List.length).sum : Nat) : Int), (i : Int))) (fun _ _ => ()) (fun _ => ((l.length + (ps.map List.length).sum : Nat) : Int)) ps.length (fun _ _ => True) (fun i w hi _ => ⟨?_, trivial⟩) (fun w _ => ?_) ps.length 0 () (by omega) trivial
  ·exact this
  ·show prove_Size_1_step ((l.length + ((ps.take i).map List.length).sum : Nat) : Int) ps (ps.length : Int) (i : Int) = _
   have a := psum_b (ps.take i) fun x hx => h3 x (List.mem_of_mem_take hx)
   have b := h3 _ (getD_mem (z := []) hi)
   rw [List.length_take] at a
   have t := psum_take ps hi
   rw [size_step, fork_t (by omega), need_true (by omega), Int.toNat_natCast, w64_eq (by omega) (by omega), w64_eq (by omega) (by omega), t]
   congr 3; omega
  ·show prove_Size_1_step ((l.length + ((ps.take ps.length).map List.length).sum : Nat) : Int) ps (ps.length : Int) (ps.length : Int) = _
   rw [size_step, fork_f (by omega), List.take_of_length_le (Nat.le_refl _)]
 rw [this, andThen_mk]; rfl
theorem pathsN_b (l : List Pr) (h : l.length ≤ 60) (f n : Nat) : (pathsN l f n).length = n ∧ ∀ x ∈ pathsN l f n, x.length ≤ 60 := by
 refine ⟨by simp [pathsN], fun x hx => ?_⟩
 obtain ⟨j, _, rfl⟩ := List.mem_map.1 hx
 unfold pathS
 split
 ·have := pathF_len (leavesB l).length (leavesB l) ((f + j : Nat) : Int).toNat
  rw [leavesB_len] at this ⊢; omega
 ·exact Nat.zero_le _
def l3 : List Pr := [([97], [], ()), ([99], [], ()), ([101], [], ())]
theorem l3_kv : KvOk l3 := by
 refine ⟨by decide, fun p hp => ?_⟩
 have : ∀ p ∈ l3, p.1.length ≤ 1 ∧ p.2.1.length ≤ 1 := by decide
 have := this p hp; omega
theorem l3_rise : RiseP l3 := by unfold RiseP; decide
def mayP (p : Pr) : Bool := !decide (p.1 = []) && (decide ((p.1.length : Int) ≤ 16) && decide ((p.2.1.length : Int) ≤ 24))
theorem mayP_eq (p : Pr) : kv_may p = some (mayP p) := by
 unfold kv_may mayP
 cases decide (p.1 = []) <;> cases decide ((p.1.length : Int) ≤ 16) <;> rfl
theorem mem_drop_get {l : List Pr} {n : Nat} {p : Pr} (h : p ∈ l.drop n) : ∃ i, n ≤ i ∧ i < l.length ∧ l.getD i zPr = p := by
 obtain ⟨i, hi, rfl⟩ := List.getElem_of_mem h
 rw [List.length_drop] at hi
 refine ⟨n + i, by omega, by omega, ?_⟩
 rw [List.getElem_drop, List.getD_eq_getElem?_getD, List.getElem?_eq_getElem (by omega)]; rfl
theorem within_eq (a lo hi : Int) (h : lo ≤ hi) (h1 : -1099511627776 ≤ lo) (h2 : hi ≤ 1099511627776) : ∃ r, affiantbook_Within a lo hi = some r ∧ lo ≤ r ∧ r ≤ hi := by
 unfold affiantbook_Within
 have hn : w64 (w64 (hi - lo) + 1) = hi - lo + 1 := by simp (disch := omega) only [w64_eq]
 rw [hn, need_true (by omega)]
 have hb : Int.tmod a (hi - lo + 1) < hi - lo + 1 ∧ -(hi - lo + 1) < Int.tmod a (hi - lo + 1) := by
  constructor
  ·exact Int.tmod_lt_of_pos a (by omega)
  ·have := Int.tmod_lt_of_pos (-a) (b := hi - lo + 1) (by omega)
   rw [Int.neg_tmod] at this; omega
 generalize Int.tmod a (hi - lo + 1) = t at hb
 by_cases ht : t < 0
 ·rw [fork_t ht]
  simp (disch := omega) only [w64_eq]
  exact ⟨_, rfl, by omega, by omega⟩
 ·rw [fork_f ht]
  simp (disch := omega) only [w64_eq]
  exact ⟨_, rfl, by omega, by omega⟩
def wv (a : Int) : Int := (affiantbook_Within a 1 9).getD 1
def pw (ps : List Int) (i : Nat) : Int := if i < ps.length then wv (ps.getD i 0) else 1
def keys12 : List (List UInt8) := [[97], [97, 98], [97, 98, 99], [98], [98, 97], [115, 47, 97], [115, 47, 98], [115, 47, 99], [116], [117], [122], [122, 122]]
theorem keys_eq : affiantkeep_keys = some keys12 := rfl
theorem kkey_eq (n : Int) : ∃ i, i < 12 ∧ affiantkeep_Key n = some (keys12.getD i []) := by
 obtain ⟨r, er, r1, r2⟩ := within_eq n 0 11 (by omega) (by omega) (by omega)
 refine ⟨r.toNat, by omega, ?_⟩
 have hk : keys12.length = 12 := rfl
 unfold affiantkeep_Key
 rw [keys_eq, andThen_mk, andThen_mk, hk, show w64 (((12 : Nat) : Int) - 1) = 11 from rfl, er, andThen_mk, need_true (by omega)]
theorem ktext_eq (n : Int) : ∃ x, affiantkeep_Text n = some x ∧ x.length ≤ 8 := by
 obtain ⟨r, er, r1, r2⟩ := within_eq n 0 4 (by omega) (by omega) (by omega)
 unfold affiantkeep_Text
 rw [er, andThen_mk, need_true (by show 0 ≤ r ∧ r < ((5 : Nat) : Int); omega)]
 refine ⟨_, rfl, ?_⟩
 have : ∀ i, i < 5 → (([([] : List UInt8), ([49] : List UInt8), ([120] : List UInt8), ([118, 97, 108, 117, 101] : List UInt8), ([49, 50, 51, 52, 53, 54, 55, 56] : List UInt8)] : List (List UInt8)).getD i []).length ≤ 8 := by decide
 exact this r.toNat (by omega)
abbrev Mp := List (List UInt8 × List UInt8)
def MpOk (m : Mp) : Prop := ∀ p ∈ m, p.2.length ≤ 8
theorem mapPut_ok {m : Mp} (h : MpOk m) (x y : List UInt8) (hy : y.length ≤ 8) : MpOk (mapPut x y m) := by
 induction m with
 | nil => intro p hp; rcases List.mem_cons.1 hp with rfl | hp; exact hy; cases hp
 | cons q m ih =>
  intro p hp
  rw [mapPut] at hp
  cases c : decide (x = q.1) with
  | true =>
   rw [c, cond_true] at hp
   rcases List.mem_cons.1 hp with rfl | hp
   ·exact hy
   ·exact h p (List.mem_cons_of_mem _ hp)
  | false =>
   rw [c, cond_false] at hp
   rcases List.mem_cons.1 hp with rfl | hp
   ·exact h p List.mem_cons_self
   ·exact ih (fun r hr => h r (List.mem_cons_of_mem _ hr)) p hp
theorem mapGet_ok {m : Mp} (h : MpOk m) {x y : List UInt8} (hg : mapGet x m = some y) : y.length ≤ 8 := by
 induction m with
 | nil => cases hg
 | cons q m ih =>
  rw [mapGet] at hg
  cases c : decide (x = q.1) with
  | true => rw [c, cond_true] at hg; injection hg with hg; subst hg; exact h q List.mem_cons_self
  | false => rw [c, cond_false] at hg; exact ih (fun r hr => h r (List.mem_cons_of_mem _ hr)) hg
theorem ps1_step (x0 : List Int) (x1 : Int) (x2 : List (List UInt8 × List UInt8)) : affiantkeep_Pairs_1_step x0 x1 x2 =
  (fork (decide (x1 < (List.length x0 : Int))) (fork (decide (x1 < (12 : Int))) (need (0 ≤ x1 ∧ x1 < (List.length x0 : Int)) (andThen (affiantkeep_Key (List.getD x0 (Int.toNat x1) (0 : Int))) (fun u5 => andThen (affiantkeep_Text (w64 (Int.tdiv (List.getD x0 (Int.toNat x1) (0 : Int)) (12 : Int)))) (fun u7 => some (.inl ((w64 (x1 + (1 : Int))), (mapPut u5 u7 x2))))))) (some (.inr x2))) (some (.inr x2)) : Option ((Int × List (List UInt8 × List UInt8)) ⊕ (List (List UInt8 × List UInt8)))) := rfl
theorem ps2_step (x0 : Int) (x1 : Int) (x2 : List (List UInt8 × List UInt8)) (x3 : List Pr) (x4 : List (List UInt8)) : affiantkeep_Pairs_2_step x0 x1 x2 x3 x4 =
  (fork (decide (x1 < x0)) (need (0 ≤ x1 ∧ x1 < (List.length x4 : Int)) (fork (Option.isSome (mapGet (List.getD x4 (Int.toNat x1) ([] : List UInt8)) x2)) (need (List.length x3 + List.length ([((List.getD x4 (Int.toNat x1) ([] : List UInt8)), (Option.getD (mapGet (List.getD x4 (Int.toNat x1) ([] : List UInt8)) x2) ([] : List UInt8)), ())] : List Pr) ≤ 2147483648) (some (.inl ((w64 (x1 + (1 : Int))), (x3 ++ ([((List.getD x4 (Int.toNat x1) ([] : List UInt8)), (Option.getD (mapGet (List.getD x4 (Int.toNat x1) ([] : List UInt8)) x2) ([] : List UInt8)), ())] : List Pr)))))) (some (.inl ((w64 (x1 + (1 : Int))), x3))))) (some (.inr x3)) : Option ((Int × List Pr) ⊕ (List Pr))) := rfl
theorem pairs_1 (ns : List Int) (hn : ns.length ≤ 140737488355328) : ∀ (k i : Nat) (m : Mp), i + k = min ns.length 12 → MpOk m → ∃ m', affiantkeep_Pairs_1 ns (i : Int) m = some m' ∧ MpOk m'
 | 0, i, m, h, hm => by
  refine ⟨m, ?_, hm⟩
  unfold affiantkeep_Pairs_1
  refine loop_out ?_
  show affiantkeep_Pairs_1_step ns (i : Int) m = _
  rw [ps1_step]
  by_cases c : i < ns.length
  ·rw [fork_t (by omega), fork_f (by omega)]
  ·rw [fork_f (by omega)]
 | k + 1, i, m, h, hm => by
  obtain ⟨j, hj, ej⟩ := kkey_eq (ns.getD i 0)
  obtain ⟨x, ex, hx⟩ := ktext_eq (w64 (Int.tdiv (ns.getD i 0) 12))
  obtain ⟨m', e', h'⟩ := pairs_1 ns hn k (i + 1) (mapPut (keys12.getD j []) x m) (by omega) (mapPut_ok hm _ _ hx)
  refine ⟨m', ?_, h'⟩
  unfold affiantkeep_Pairs_1 at e' ⊢
  have hs : affiantkeep_Pairs_1_step ns (i : Int) m = some (.inl (((i + 1 : Nat) : Int), mapPut (keys12.getD j []) x m)) := by
   rw [ps1_step, fork_t (by omega), fork_t (by omega), need_true (by omega), Int.toNat_natCast, ej, andThen_mk, ex, andThen_mk, w64_eq (by omega) (by omega)]; rfl
  exact (loop_next (step := fun (s : Int × Mp) => affiantkeep_Pairs_1_step ns s.1 s.2) (s := ((i : Int), m)) hs).trans e'
def pairAt (m : Mp) (k : List UInt8) : List Pr := match mapGet k m with
 | some v => [(k, v, ())]
 | none => []
def pairsM (m : Mp) : List Pr := keys12.flatMap (pairAt m)
theorem flatMap_len1 {α β : Type} (f : α → List β) (hf : ∀ x, (f x).length ≤ 1) : ∀ l : List α, (l.flatMap f).length ≤ l.length
 | [] => Nat.le_refl _
 | x :: l => by
  have := flatMap_len1 f hf l
  have := hf x
  rw [List.flatMap_cons, List.length_append, List.length_cons]; omega
theorem pairAt_len (m : Mp) (k : List UInt8) : (pairAt m k).length ≤ 1 := by
 unfold pairAt
 split <;> simp
theorem pairs_2 (m : Mp) : affiantkeep_Pairs_2 12 0 m [] keys12 = some (pairsM m) := by
 unfold affiantkeep_Pairs_2
 have := loop_for (step := fun (s : Int × List Pr) => affiantkeep_Pairs_2_step 12 s.1 m s.2 keys12) (fun i (_ : Unit) => ((i : Int), (keys12.take i).flatMap (pairAt m))) (fun _ _ => ()) (fun _ => pairsM m) 12 (fun _ _ => True) (fun i w hi _ => ⟨?_, trivial⟩) (fun w _ => ?_) 12 0 () (by omega) trivial
 ·exact this
 ·show affiantkeep_Pairs_2_step 12 (i : Int) m ((keys12.take i).flatMap (pairAt m)) keys12 = _
  have hk : keys12.length = 12 := rfl
  have b := flatMap_len1 (pairAt m) (pairAt_len m) (keys12.take i)
  rw [List.length_take] at b
  have t := flat_take (pairAt m) keys12 [] (i := i) (by omega)
  rw [ps2_step, fork_t (by omega), need_true (by omega), Int.toNat_natCast, w64_eq (by omega) (by omega)]
  cases c : mapGet (keys12.getD i []) m with
  | none =>
   have e : pairAt m (keys12.getD i []) = [] := by unfold pairAt; rw [c]
   rw [e, List.append_nil] at t
   rw [Option.isSome_none, fork_ff, ← t]; rfl
  | some v =>
   have e : pairAt m (keys12.getD i []) = [(keys12.getD i [], v, ())] := by unfold pairAt; rw [c]
   rw [e] at t
   rw [Option.isSome_some, fork_tt, need_true (by simp only [List.length_cons, List.length_nil]; omega), Option.getD_some, ← t]; rfl
 ·show affiantkeep_Pairs_2_step 12 ((12 : Nat) : Int) m ((keys12.take 12).flatMap (pairAt m)) keys12 = _
  rw [ps2_step, fork_f (by omega)]; rfl
def RowOk (l : List Pr) : Prop := RiseP l ∧ l.length ≤ 12 ∧ (∀ p ∈ l, p.1 ∈ keys12) ∧ ∀ p ∈ l, p.2.1.length ≤ 8
theorem keys_rise : keys12.Pairwise (fun a b => sless a b = true) := by decide
theorem keys_b : ∀ k ∈ keys12, 1 ≤ k.length ∧ k.length ≤ 3 := by decide
theorem pairAt_mem {m : Mp} {k : List UInt8} {p : Pr} (h : p ∈ pairAt m k) : p.1 = k ∧ mapGet k m = some p.2.1 := by
 unfold pairAt at h
 split at h
 ·rename_i v e
  rw [List.mem_singleton] at h; subst h; exact ⟨rfl, e⟩
 ·cases h
theorem pairsM_rise (m : Mp) : ∀ ks : List (List UInt8), ks.Pairwise (fun a b => sless a b = true) → RiseP (ks.flatMap (pairAt m))
 | [], _ => List.Pairwise.nil
 | k :: ks, h => by
  obtain ⟨h1, h2⟩ := List.pairwise_cons.1 h
  rw [List.flatMap_cons]
  refine List.pairwise_append.2 ⟨?_, pairsM_rise m ks h2, fun a ha b hb => ?_⟩
  ·unfold pairAt
   split
   ·exact List.pairwise_singleton _ _
   ·exact List.Pairwise.nil
  ·obtain ⟨k', hk', hb'⟩ := List.mem_flatMap.1 hb
   rw [(pairAt_mem ha).1, (pairAt_mem hb').1]
   exact h1 k' hk'
theorem pairs_eq (ns : List Int) (hn : ns.length ≤ 140737488355328) : ∃ l, affiantkeep_Pairs ns = some l ∧ RowOk l := by
 obtain ⟨m, e, hm⟩ := pairs_1 ns hn (min ns.length 12) 0 [] (by omega) (fun p hp => by cases hp)
 refine ⟨pairsM m, ?_, pairsM_rise m keys12 keys_rise, flatMap_len1 (pairAt m) (pairAt_len m) keys12, fun p hp => ?_, fun p hp => ?_⟩
 ·have hk : keys12.length = 12 := rfl
  unfold affiantkeep_Pairs
  rw [show (0 : Int) = ((0 : Nat) : Int) from rfl, e, andThen_mk, keys_eq, andThen_mk, hk]
  exact congrArg (fun x => andThen x _) (pairs_2 m)
 ·obtain ⟨k', hk', hb'⟩ := List.mem_flatMap.1 hp
  rw [(pairAt_mem hb').1]; exact hk'
 ·obtain ⟨k', hk', hb'⟩ := List.mem_flatMap.1 hp
  exact mapGet_ok hm (pairAt_mem hb').2
theorem row_kv {l : List Pr} (h : RowOk l) : KvOk l := ⟨by have := h.2.1; omega, fun p hp => ⟨by have := keys_b _ (h.2.2.1 p hp); omega, by have := h.2.2.2 p hp; omega⟩⟩
theorem krise_ext : ∀ {a b : List Pr}, RiseP a → RiseP b → (∀ q, q ∈ a ↔ q ∈ b) → a = b
 | [], [], _, _, _ => rfl
 | [], y :: b, _, _, h => by cases (h y).2 List.mem_cons_self
 | x :: a, [], _, _, h => by cases (h x).1 List.mem_cons_self
 | x :: a, y :: b, ha, hb, h => by
  obtain ⟨a1, a2⟩ := List.pairwise_cons.1 ha
  obtain ⟨b1, b2⟩ := List.pairwise_cons.1 hb
  have e : x = y := by
   rcases List.mem_cons.1 ((h x).1 List.mem_cons_self) with e | e
   ·exact e
   ·rcases List.mem_cons.1 ((h y).2 List.mem_cons_self) with e2 | e2
    ·exact e2.symm
    ·have := sless_trans _ _ _ (b1 x e) (a1 y e2)
     rw [sless_irr] at this; cases this
  subst e
  congr 1
  refine krise_ext a2 b2 fun q => ⟨fun hq => ?_, fun hq => ?_⟩
  ·rcases List.mem_cons.1 ((h q).1 (List.mem_cons_of_mem _ hq)) with e | e
   ·have := a1 q hq
    rw [e, sless_irr] at this; cases this
   ·exact e
  ·rcases List.mem_cons.1 ((h q).2 (List.mem_cons_of_mem _ hq)) with e | e
   ·have := b1 q hq
    rw [e, sless_irr] at this; cases this
   ·exact e
def boundS (n : Nat) (r : List UInt8) : List UInt8 := sha (83 :: (oneS (n : Int) ++ r))
noncomputable def rootL (l : List Pr) : List UInt8 := boundS l.length (rootS (leavesB l))
theorem sr_step (x0 : List Pr) (x1 : List Pr) (x2 : Int) (x3 : Int) (x4 : List UInt8) (x5 : List (List UInt8)) : store_Root_1_step x0 x1 x2 x3 x4 x5 =
  (fork (decide (x3 < x2)) (need (0 ≤ x3 ∧ x3 < (List.length x1 : Int)) (andThen (kv_Leaf (List.getD x1 (Int.toNat x3) zPr)) (fun u4 => need (List.length x5 + List.length ([u4] : List (List UInt8)) ≤ 2147483648) (some (.inl ((w64 (x3 + (1 : Int))), (x5 ++ ([u4] : List (List UInt8))))))))) (some (.inr (x0, x4, x5))) : Option ((Int × List (List UInt8)) ⊕ ((List Pr) × List UInt8 × List (List UInt8)))) := rfl
theorem stroot_eq (l : List Pr) (h : KvOk l) : store_Root l = some (rootL l) := by
 have hl := h.1
 have m1 : store_Root_1 l l (l.length : Int) 0 (List.replicate 32 0) [] = some (l, List.replicate 32 0, leavesB l) := by
  unfold store_Root_1
  have := loop_for (step := fun (s : Int × List (List UInt8)) => store_Root_1_step l l (l.length : Int) s.1 (List.replicate 32 0) s.2) (fun i (_ : Unit) => ((i : Int), leavesB (l.take i))) (fun _ _ => ()) (fun _ => (l, List.replicate 32 0, leavesB l)) l.length (fun _ _ => True) (fun i w hi _ => ⟨?_, trivial⟩) (fun w _ => ?_) l.length 0 () (by omega) trivial
  ·exact this
  ·show store_Root_1_step l l (l.length : Int) (i : Int) (List.replicate 32 0) (leavesB (l.take i)) = _
   rw [sr_step, fork_t (by omega), need_true (by omega), Int.toNat_natCast, leaf_eq _ (h.2 _ (getD_mem hi)), andThen_mk, need_true (by rw [leavesB_len, List.length_take]; simp only [List.length_cons, List.length_nil]; omega), leavesB_take l hi, w64_eq (by omega) (by omega)]
   rfl
  ·show store_Root_1_step l l (l.length : Int) (l.length : Int) (List.replicate 32 0) (leavesB (l.take l.length)) = _
   rw [sr_step, fork_f (by omega), List.take_of_length_le (Nat.le_refl _)]
 have hp : putS [(l.length : Int)] = oneS l.length := by simp [putS]
 have h1 := oneS_len (l.length : Int)
 have h2 := rootS_len (leavesB l)
 have hf : [oneS (l.length : Int), rootS (leavesB l)].flatten = oneS (l.length : Int) ++ rootS (leavesB l) := by simp
 unfold store_Root
 rw [m1, andThen_mk]
 dsimp only
 rw [root_eq _ (by rw [leavesB_len]; omega) (leavesB_small h), andThen_mk, put_eq _ (by simp), andThen_mk, hp, tagged_eq _ _ (by rw [hf, List.length_append]; omega) (by simp), hf]
 rfl
abbrev hq (a b : List UInt8) : Bool := Ty.beq (.arr 32 (.int .u8)) a b
theorem hq_iff (a b : List UInt8) : hq a b = true ↔ a = b := Ty.beq_iff (.arr 32 (.int .u8)) rfl a b
def okP (l : List Pr) (i : Nat) : Bool := mayP (l.getD i zPr) && (i == 0 || sless (l.getD (i - 1) zPr).1 (l.getD i zPr).1)
def rightP (l : List Pr) : Bool := (List.range l.length).all (okP l) && decide (l.length ≤ 30)
theorem kr_step (x0 : List Pr) (x1 : List Pr) (x2 : Int) (x3 : Int) : kv_Right_1_step x0 x1 x2 x3 =
  (fork (decide (x3 < x2)) (need (0 ≤ x3 ∧ x3 < (List.length x1 : Int)) (andThen (kv_may (List.getD x1 (Int.toNat x3) zPr)) (fun u4 => fork (!u4) (some (.inr (.inl false))) (fork (decide ((0 : Int) < x3)) (need (0 ≤ (w64 (x3 - (1 : Int))) ∧ (w64 (x3 - (1 : Int))) < (List.length x0 : Int)) (fork (!sless (List.getD x0 (Int.toNat (w64 (x3 - (1 : Int)))) zPr).1 (List.getD x1 (Int.toNat x3) zPr).1) (some (.inr (.inl false))) (some (.inl (w64 (x3 + (1 : Int))))))) (some (.inl (w64 (x3 + (1 : Int))))))))) (some (.inr (.inr x0))) : Option ((Int) ⊕ ((Bool) ⊕ (List Pr)))) := rfl
theorem kright_eq (l : List Pr) (hl : l.length ≤ 1073741824) : kv_Right l = some (rightP l) := by
 have main : kv_Right_1 l l (l.length : Int) 0 = some (scan (fun i => if okP l i then none else some (.inl false)) (.inr l) 0 l.length) := by
  unfold kv_Right_1
  have step : ∀ i, i < l.length → kv_Right_1_step l l (l.length : Int) (i : Int) = if okP l i then some (.inl ((i + 1 : Nat) : Int)) else some (.inr (.inl false)) := by
   intro i hi
   rw [kr_step]
   simp (disch := omega) only [fork_t, w64_eq, need_true, Int.toNat_natCast, mayP_eq, andThen_mk]
   unfold okP
   by_cases hm : mayP (l.getD i zPr)
   ·rw [hm]
    rw [show (!true) = false from rfl, fork_ff, Bool.true_and]
    by_cases h0 : i = 0
    ·subst h0; rw [fork_f (by omega)]; rfl
    ·rw [fork_t (by omega), need_true (by omega), show Int.toNat ((i : Int) - 1) = i - 1 from by omega]
     have : (i == 0) = false := by simp [h0]
     rw [this, Bool.false_or]
     by_cases hs : sless (l.getD (i - 1) zPr).1 (l.getD i zPr).1
     ·rw [hs]; rfl
     ·rw [Bool.not_eq_true] at hs; rw [hs]; rfl
   ·rw [Bool.not_eq_true] at hm; rw [hm]; rfl
  refine loop_scan (step := fun (s : Int) => kv_Right_1_step l l (l.length : Int) s) (fun i => (i : Int)) _ _ l.length (fun i hi h => ?_) (fun i r hi h => ?_) ?_ l.length 0 (by omega)
  ·by_cases hk : okP l i
   ·exact (step i hi).trans (if_pos hk)
   ·rw [if_neg hk] at h; cases h
  ·by_cases hk : okP l i
   ·rw [if_pos hk] at h; cases h
   ·rw [if_neg hk] at h; injection h with h; subst h
    exact (step i hi).trans (if_neg hk)
  ·rw [kr_step, fork_f (by omega)]
 unfold kv_Right
 rw [main, andThen_mk]
 unfold rightP
 by_cases hall : (List.range l.length).all (okP l)
 ·rw [scan_none _ _ (fun j _ h => if_pos (List.all_eq_true.1 hall j (by simp; omega))), hall, Bool.true_and]
  dsimp only
  congr 1
  exact decide_eq_decide.2 (by omega)
 ·rw [Bool.not_eq_true] at hall
  have : ∃ j, j < l.length ∧ okP l j = false := by
   rw [List.all_eq_false] at hall
   obtain ⟨j, hj, hk⟩ := hall
   exact ⟨j, by simpa using hj, by simpa using hk⟩
  obtain ⟨j, hj⟩ := Nat.find_of this
  have hsc : scan (fun i => if okP l i then none else some (.inl false)) (.inr l : Bool ⊕ List Pr) 0 l.length = .inl false := by
   refine scan_some l.length 0 j (Nat.zero_le _) (by omega) (fun j' _ h => if_pos ?_) (if_neg ?_)
   ·have := hj.2 j' h
    cases hk : okP l j' with
    | true => rfl
    | false => exact absurd ⟨by omega, hk⟩ this
   ·rw [hj.1.2]; simp
  rw [hall, hsc]
  rfl
theorem rightP_iff (l : List Pr) : rightP l = true ↔ RiseP l ∧ (∀ p ∈ l, mayP p = true) ∧ l.length ≤ 30 := by
 have e : ∀ j, (l.map (·.1)).getD j [] = (l.getD j zPr).1 := fun j => by
  rw [List.getD_eq_getElem?_getD, List.getD_eq_getElem?_getD, List.getElem?_map]
  cases l[j]? <;> rfl
 unfold rightP
 rw [Bool.and_eq_true, decide_eq_true_eq]
 constructor
 ·rintro ⟨h1, h2⟩
  have key0 : ∀ i, i < l.length → okP l i = true := fun i hi => List.all_eq_true.1 h1 i (List.mem_range.2 hi)
  have hinc : incN (l.map fun p : Pr => p.1) = true := by
   refine List.all_eq_true.2 fun i hi => ?_
   have hi := List.mem_range.1 hi
   rw [List.length_map] at hi
   have := key0 (i + 1) (by omega)
   unfold okP at this
   simp only [Bool.and_eq_true, Bool.or_eq_true, beq_iff_eq] at this
   have t := this.2.resolve_left (by omega)
   rw [Nat.add_sub_cancel] at t
   rw [e, e]; exact t
  refine ⟨List.pairwise_map.1 (incN_pair _ hinc), fun p hp => ?_, h2⟩
  ·obtain ⟨i, hi, rfl⟩ := List.getElem_of_mem hp
   have := key0 i hi
   unfold okP at this
   rw [Bool.and_eq_true, List.getD_eq_getElem?_getD, List.getElem?_eq_getElem hi] at this
   exact this.1
 ·rintro ⟨h1, h2, h3⟩
  refine ⟨List.all_eq_true.2 fun i hi => ?_, h3⟩
  have hi := List.mem_range.1 hi
  unfold okP
  rw [Bool.and_eq_true, Bool.or_eq_true, beq_iff_eq]
  refine ⟨h2 _ (getD_mem hi), ?_⟩
  by_cases c : i = 0
  ·exact .inl c
  ·exact .inr (krise_get h1 (by omega) hi)
theorem mayP_b {p : Pr} (h : mayP p = true) : 1 ≤ p.1.length ∧ p.1.length ≤ 16 ∧ p.2.1.length ≤ 24 := by
 unfold mayP at h
 simp only [Bool.and_eq_true, Bool.not_eq_true', decide_eq_true_eq, decide_eq_false_iff_not, ← List.length_eq_zero_iff] at h
 omega
theorem rightP_kv {l : List Pr} (h : rightP l = true) : KvOk l ∧ RiseP l := by
 obtain ⟨h1, h2, h3⟩ := (rightP_iff l).1 h
 exact ⟨⟨by omega, fun p hp => by have := mayP_b (h2 p hp); omega⟩, h1⟩
noncomputable def provenAt (p : Prf) (i : Nat) : List UInt8 × Bool := upS (leafB (p.2.2.1.getD i zPr)) (p.2.1 + (i : Int)) p.1 (p.2.2.2.1.getD i [])
noncomputable def soundAt (root : List UInt8) (p : Prf) (i : Nat) : Bool := (provenAt p i).2 && hq (boundS p.1.toNat (provenAt p i).1) root
noncomputable def soundS (root : List UInt8) (p : Prf) : Bool :=
 decide (0 ≤ p.1 ∧ p.1 ≤ 30 ∧ p.2.2.2.1.length = p.2.2.1.length) && (rightP p.2.2.1 && (decide (0 ≤ p.2.1 ∧ p.2.1 ≤ p.1 - (p.2.2.1.length : Int)) && (if p.1 = 0 then hq root (rootL []) else (decide (0 < p.2.2.1.length) && (List.range p.2.2.1.length).all (soundAt root p)))))
def PrfOk (p : Prf) : Prop := (∀ x ∈ p.2.2.2.1, x.length ≤ 1000 ∧ ∀ h ∈ x, h.length = 32) ∧ p.2.2.1.length ≤ 1000000 ∧ p.2.2.2.1.length ≤ 1000000
theorem upS_32 (leaf : List UInt8) (i n : Int) (p : List (List UInt8)) : (upS leaf i n p).1.length = 32 := by
 unfold upS
 split
 ·exact climb_32 _ _ _ (sha_len _)
 ·simp
theorem whole_eq (n : Nat) (r : List UInt8) (hr : r.length = 32) : check_whole (n : Int) r = some (boundS n r) := by
 have hp : putS [(n : Int)] = oneS n := by simp [putS]
 have h1 := oneS_len (n : Int)
 have hf : [oneS (n : Int), r].flatten = oneS (n : Int) ++ r := by simp
 unfold check_whole
 rw [put_eq _ (by simp), andThen_mk, hp, tagged_eq _ _ (by rw [hf, List.length_append]; omega) (by simp), hf]
 rfl
theorem cs_step (x0 : List Pr) (x1 : Int) (x2 : Int) (x3 : List UInt8) (x4 : Prf) : check_Sound_1_step x0 x1 x2 x3 x4 =
  (fork (decide (x2 < x1)) (need (0 ≤ x2 ∧ x2 < (List.length x0 : Int)) (andThen (kv_Leaf (List.getD x0 (Int.toNat x2) zPr)) (fun u16 => need (0 ≤ x2 ∧ x2 < (List.length x4.2.2.2.1 : Int)) (andThen (tree_Up u16 (w64 (x4.2.1 + x2)) x4.1 (List.getD x4.2.2.2.1 (Int.toNat x2) ([] : List (List UInt8)))) (fun u19 => fork (!u19.2) (some (.inr (.inl ()))) (andThen (check_whole x4.1 u19.1) (fun u22 => fork (!(Ty.beq (.arr 32 (.int .u8)) u22 x3)) (some (.inr (.inl ()))) (some (.inl (w64 (x2 + (1 : Int)))))))))))) (some (.inr (.inr ()))) : Option ((Int) ⊕ ((Unit) ⊕ (Unit)))) := rfl
theorem scan_all {ρ : Type} (f : Nat → Bool) (r r0 : ρ) (n : Nat) : scan (fun i => if f i then none else some r) r0 0 n = if (List.range n).all f then r0 else r := by
 by_cases h : (List.range n).all f = true
 ·rw [if_pos h]
  exact scan_none _ _ fun j _ hj => if_pos (List.all_eq_true.1 h j (List.mem_range.2 (by omega)))
 ·rw [if_neg h]
  rw [Bool.not_eq_true, List.all_eq_false] at h
  obtain ⟨j, hj, hf⟩ := h
  obtain ⟨k, hk⟩ := Nat.find_of (p := fun j => j < n ∧ ¬ f j = true) ⟨j, List.mem_range.1 hj, hf⟩
  refine scan_some n 0 k (Nat.zero_le _) (by omega) (fun j' _ h => if_pos ?_) (if_neg hk.1.2)
  exact Classical.byContradiction fun q => hk.2 j' h ⟨by omega, q⟩
theorem path_ok {p : Prf} (h : PrfOk p) (i : Nat) : (∀ x ∈ p.2.2.2.1.getD i [], x.length = 32) ∧ (p.2.2.2.1.getD i []).length ≤ 100000 := by
 by_cases c : i < p.2.2.2.1.length
 ·have := h.1 _ (getD_mem (z := []) c)
  exact ⟨this.2, by omega⟩
 ·rw [List.getD_eq_getElem?_getD, List.getElem?_eq_none (by omega)]; simp
theorem checkSound_eq (root : List UInt8) (p : Prf) (h : PrfOk p) : check_Sound root p = some (soundS root p) := by
 have hn := h.2.1
 unfold check_Sound soundS
 by_cases c1 : p.1 < 0
 ·rw [fork_t c1, decide_eq_false (fun q => absurd q.1 (by omega))]; rfl
 rw [fork_f c1]
 by_cases c2 : 30 < p.1
 ·rw [fork_t c2, decide_eq_false (fun q => absurd q.2.1 (by omega))]; rfl
 rw [fork_f c2]
 by_cases c3 : p.2.2.2.1.length = p.2.2.1.length
 case neg => rw [fork_nf (by omega), decide_eq_false (fun q => c3 q.2.2)]; rfl
 rw [fork_nt (by omega), kright_eq _ (by omega), andThen_mk, decide_eq_true (p := 0 ≤ p.1 ∧ p.1 ≤ 30 ∧ p.2.2.2.1.length = p.2.2.1.length) ⟨by omega, by omega, c3⟩, Bool.true_and]
 cases c4 : rightP p.2.2.1 with
 | false => rfl
 | true =>
  obtain ⟨hk, hr⟩ := rightP_kv c4
  have hl := hk.1
  rw [Bool.not_true, fork_ff, Bool.true_and]
  by_cases c5 : p.2.1 < 0
  ·rw [fork_t c5, decide_eq_false (fun q => absurd q.1 (by omega))]; rfl
  rw [fork_f c5, w64_eq (by omega) (by omega)]
  by_cases c6 : p.1 - (p.2.2.1.length : Int) < p.2.1
  ·rw [fork_t c6, decide_eq_false (fun q => absurd q.2 (by omega))]; rfl
  rw [fork_f c6, decide_eq_true (p := 0 ≤ p.2.1 ∧ p.2.1 ≤ p.1 - (p.2.2.1.length : Int)) ⟨by omega, by omega⟩, Bool.true_and]
  by_cases c7 : p.1 = 0
  ·rw [fork_t c7, if_pos c7, stroot_eq [] ⟨by simp, by simp⟩, andThen_mk]
  rw [fork_f c7, if_neg c7]
  by_cases c8 : p.2.2.1.length = 0
  ·rw [fork_t (by omega), decide_eq_false (by omega)]; rfl
  rw [fork_f (by omega), decide_eq_true (p := 0 < p.2.2.1.length) (by omega), Bool.true_and]
  have m : check_Sound_1 p.2.2.1 (p.2.2.1.length : Int) 0 root p = some (scan (fun i => if soundAt root p i then none else some (.inl ())) (.inr ()) 0 p.2.2.1.length) := by
   unfold check_Sound_1
   have step : ∀ i, i < p.2.2.1.length → check_Sound_1_step p.2.2.1 (p.2.2.1.length : Int) (i : Int) root p = if soundAt root p i then some (.inl ((i + 1 : Nat) : Int)) else some (.inr (.inl ())) := by
    intro i hi
    obtain ⟨po1, po2⟩ := path_ok h i
    have hlf := hk.2 _ (getD_mem (z := zPr) hi)
    have hlb := leafB_len hlf
    have hnum : p.1 = ((p.1.toNat : Nat) : Int) := by omega
    have hw : check_whole p.1 (upS (leafB (p.2.2.1.getD i zPr)) (p.2.1 + (i : Int)) p.1 (p.2.2.2.1.getD i [])).1 = some (boundS p.1.toNat (upS (leafB (p.2.2.1.getD i zPr)) (p.2.1 + (i : Int)) p.1 (p.2.2.2.1.getD i [])).1) := by
     have := whole_eq p.1.toNat _ (upS_32 (leafB (p.2.2.1.getD i zPr)) (p.2.1 + (i : Int)) p.1 (p.2.2.2.1.getD i []))
     rw [← hnum] at this; exact this
    rw [cs_step, fork_t (by omega), need_true (by omega), Int.toNat_natCast, leaf_eq _ hlf, andThen_mk, need_true (by omega), w64_eq (n := p.2.1 + (i : Int)) (by omega) (by omega), up_eq _ (by omega) _ _ (by omega) _ po1 po2, andThen_mk, hw, andThen_mk, w64_eq (by omega) (by omega)]
    unfold soundAt provenAt
    cases (upS (leafB (p.2.2.1.getD i zPr)) (p.2.1 + (i : Int)) p.1 (p.2.2.2.1.getD i [])).2 with
    | false => rfl
    | true =>
     rw [Bool.not_true, fork_ff, Bool.true_and]
     unfold hq
     cases Ty.beq (.arr 32 (.int .u8)) (boundS p.1.toNat (upS (leafB (p.2.2.1.getD i zPr)) (p.2.1 + (i : Int)) p.1 (p.2.2.2.1.getD i [])).1) root <;> rfl
   refine loop_scan (step := fun (s : Int) => check_Sound_1_step p.2.2.1 (p.2.2.1.length : Int) s root p) (fun i => (i : Int)) _ _ p.2.2.1.length (fun i hi h => ?_) (fun i r hi h => ?_) ?_ p.2.2.1.length 0 (by omega)
   ·by_cases hk : soundAt root p i
    ·exact (step i hi).trans (if_pos hk)
    ·rw [if_neg hk] at h; cases h
   ·by_cases hk : soundAt root p i
    ·rw [if_pos hk] at h; cases h
    ·rw [if_neg hk] at h; injection h with h; subst h
     exact (step i hi).trans (if_neg hk)
   ·rw [cs_step, fork_f (by omega)]
  rw [m, andThen_mk, scan_all]
  cases (List.range p.2.2.1.length).all (soundAt root p) <;> rfl
theorem sound_kv {root : List UInt8} {p : Prf} (h : soundS root p = true) : KvOk p.2.2.1 ∧ RiseP p.2.2.1 := by
 unfold soundS at h
 rw [Bool.and_eq_true, Bool.and_eq_true] at h
 exact rightP_kv h.2.1
theorem sound_num {root : List UInt8} {p : Prf} (h : soundS root p = true) : 0 ≤ p.1 ∧ p.1 ≤ 30 ∧ 0 ≤ p.2.1 ∧ p.2.1 ≤ p.1 - (p.2.2.1.length : Int) ∧ (p.2.2.1.length = 0 ↔ p.1 = 0) := by
 unfold soundS at h
 simp only [Bool.and_eq_true, decide_eq_true_eq] at h
 obtain ⟨⟨h1, h2, _⟩, _, ⟨h3, h4⟩, h5⟩ := h
 refine ⟨h1, h2, h3, h4, fun e => ?_, fun e => by omega⟩
 apply Classical.byContradiction
 intro c
 rw [if_neg c, Bool.and_eq_true, decide_eq_true_eq] at h5
 omega
def inR (a b : List UInt8) (p : Pr) : Bool := !sless p.1 a && sless p.1 b
def rangeF (l : List Pr) (a b : List UInt8) : List Pr := l.filter (inR a b)
theorem mem_cutL {l : List Pr} {a b : Nat} {q : Pr} : q ∈ cutL l (a : Int) (b : Int) ↔ ∃ i, a ≤ i ∧ i < b ∧ i < l.length ∧ l.getD i zPr = q := by
 unfold cutL
 rw [Int.toNat_natCast, Int.toNat_natCast]
 constructor
 ·intro h
  obtain ⟨i, h1, h2, h3⟩ := mem_drop_get h
  rw [List.length_take] at h2
  rw [List.getD_eq_getElem?_getD, List.getElem?_take, if_pos (by omega), ← List.getD_eq_getElem?_getD] at h3
  exact ⟨i, h1, by omega, by omega, h3⟩
 ·rintro ⟨i, h1, h2, h3, rfl⟩
  have e : (l.take b).drop a = (l.drop a).take (b - a) := by rw [List.drop_take]
  have hm : ((l.take b).drop a).getD (i - a) zPr = l.getD i zPr := by
   rw [List.getD_eq_getElem?_getD, List.getD_eq_getElem?_getD, List.getElem?_drop, List.getElem?_take, if_pos (by omega)]
   congr 2; omega
  rw [← hm]
  exact getD_mem (by rw [List.length_drop, List.length_take]; omega)
theorem kvRange_eq (l : List Pr) (hr : RiseP l) (hl : l.length ≤ 1000) (a b : List UInt8) : kv_Range l a b = some (rangeF l a b) := by
 have h1 := below_le l a
 have h2 := below_le l b
 have e : cutL l ((belowN l a : Nat) : Int) ((max (belowN l a) (belowN l b) : Nat) : Int) = rangeF l a b := by
  refine krise_ext ?_ (hr.sublist List.filter_sublist) fun q => ?_
  ·unfold cutL
   exact (hr.sublist (List.take_sublist _ _)).sublist (List.drop_sublist _ _)
  ·rw [mem_cutL]
   unfold rangeF inR
   rw [List.mem_filter, Bool.and_eq_true, Bool.not_eq_true']
   constructor
   ·rintro ⟨i, g1, g2, g3, rfl⟩
    refine ⟨getD_mem g3, ?_, (below_iff hr b g3).2 (by omega)⟩
    cases c : sless (l.getD i zPr).1 a with
    | false => rfl
    | true => have := (below_iff hr a g3).1 c; omega
   ·rintro ⟨g1, g2, g3⟩
    obtain ⟨i, hi, rfl⟩ := List.getElem_of_mem g1
    have hg : l.getD i zPr = l[i] := by rw [List.getD_eq_getElem?_getD, List.getElem?_eq_getElem hi]; rfl
    rw [← hg] at g2 g3
    have := (below_iff hr b hi).1 g3
    refine ⟨i, ?_, by omega, hi, hg⟩
    apply Classical.byContradiction
    intro c
    rw [(below_iff hr a hi).2 (by omega)] at g2; cases g2
 unfold kv_Range
 rw [kfirst_eq l hr hl, andThen_mk, kfirst_eq l hr hl, andThen_mk, show max (belowN l a : Int) (belowN l b : Int) = ((max (belowN l a) (belowN l b) : Nat) : Int) from by omega, need_true (by omega), e]
 unfold slices_Clone_LPair_Pair
 have hle : (rangeF l a b).length ≤ l.length := List.length_filter_le _ _
 rw [need_true (by omega), andThen_mk]
def beginsS (p : Prf) (a : List UInt8) : Bool := decide (p.2.1 = 0) || sless (p.2.2.1.getD 0 zPr).1 a
def endsS (p : Prf) (m : List UInt8) : Bool := decide (p.2.1 + (p.2.2.1.length : Int) = p.1) || !sless (p.2.2.1.getD (p.2.2.1.length - 1) zPr).1 m
noncomputable def rangeS (root a b : List UInt8) (p : Prf) : List Pr × Bool :=
 if soundS root p then (if p.2.2.1.length = 0 then ([], true) else if beginsS p a && endsS p (maxS a b) then (rangeF p.2.2.1 a b, true) else ([], false)) else ([], false)
theorem checkRange_eq (root a b : List UInt8) (p : Prf) (h : PrfOk p) : check_Range root a b p = some (rangeS root a b p) := by
 unfold check_Range rangeS
 rw [checkSound_eq root p h, andThen_mk]
 cases hs : soundS root p with
 | false => rfl
 | true =>
  obtain ⟨hk, hr⟩ := sound_kv hs
  have hl := hk.1
  obtain ⟨n1, n2, n3, n4, n5⟩ := sound_num hs
  rw [Bool.not_true, fork_ff, if_pos rfl, kvRange_eq _ hr (by omega), andThen_mk]
  by_cases c : p.2.2.1.length = 0
  ·rw [fork_t (by omega), if_pos c]
  rw [fork_f (by omega), if_neg c, w64_eq (n := p.2.1 + _) (by omega) (by omega), w64_eq (by omega) (by omega), need_true (by omega), need_true (by omega), show Int.toNat ((p.2.2.1.length : Int) - 1) = p.2.2.1.length - 1 from by omega, show Int.toNat (0 : Int) = 0 from rfl]
  unfold beginsS endsS
  by_cases c1 : p.2.1 = 0
  ·rw [fork_t c1, decide_eq_true c1, Bool.true_or, Bool.true_and]
   by_cases c2 : p.2.1 + (p.2.2.1.length : Int) = p.1
   ·rw [fork_t c2, decide_eq_true c2]; rfl
   ·rw [fork_f c2, decide_eq_false c2, Bool.false_or]
    show fork (!(!sless (p.2.2.1.getD (p.2.2.1.length - 1) zPr).1 (maxS a b))) _ _ = _
    cases sless (p.2.2.1.getD (p.2.2.1.length - 1) zPr).1 (maxS a b) <;> rfl
  ·rw [fork_f c1, decide_eq_false c1, Bool.false_or]
   by_cases c2 : p.2.1 + (p.2.2.1.length : Int) = p.1
   ·rw [fork_t c2, decide_eq_true c2, Bool.true_or, Bool.and_true]
    show fork (!sless (p.2.2.1.getD 0 zPr).1 a) _ _ = _
    cases sless (p.2.2.1.getD 0 zPr).1 a <;> rfl
   ·rw [fork_f c2, decide_eq_false c2, Bool.false_or, need_true (by omega)]
    show fork (!sless (p.2.2.1.getD 0 zPr).1 a) _ (fork (!(!sless (p.2.2.1.getD (p.2.2.1.length - 1) zPr).1 (maxS a b))) _ _) = _
    cases sless (p.2.2.1.getD 0 zPr).1 a <;> cases sless (p.2.2.1.getD (p.2.2.1.length - 1) zPr).1 (maxS a b) <;> rfl
theorem rangeS_sound {root a b : List UInt8} {p : Prf} (h : (rangeS root a b p).2 = true) : soundS root p = true := by
 unfold rangeS at h
 cases hs : soundS root p with
 | true => rfl
 | false => rw [hs, if_neg (by simp)] at h; cases h
noncomputable def absS (root k : List UInt8) (p : Prf) : Bool := (rangeS root k k p).2 && !isAt p.2.2.1 k
theorem checkAbsent_eq (root k : List UInt8) (p : Prf) (h : PrfOk p) : check_Absent root k p = some (absS root k p) := by
 unfold check_Absent absS
 rw [checkRange_eq root k k p h, andThen_mk]
 cases hs : (rangeS root k k p).2 with
 | false => rfl
 | true =>
  obtain ⟨hk, hr⟩ := sound_kv (rangeS_sound hs)
  have hl := hk.1
  rw [Bool.not_true, fork_ff, kget_eq _ hr (by omega), andThen_mk, Bool.true_and]
  cases isAt p.2.2.1 k <;> rfl
def costS (p : Prf) : Int := if p.1 = 0 then 2 else (sizeP p : Int) + (p.2.2.1.length : Int)
theorem checkCost_eq (p : Prf) (h : PrfOk p) : check_Cost p = some (costS p) := by
 have hb := psum_b p.2.2.2.1 fun x hx => (h.1 x hx).1
 have h1 := h.2.1
 have h2 := h.2.2
 unfold check_Cost costS
 by_cases c : p.1 = 0
 ·rw [fork_t c, if_pos c]
 ·have hz : sizeP p = p.2.2.1.length + (p.2.2.2.1.map List.length).sum := rfl
  rw [fork_f c, if_neg c, size_eq p h1 h2 (fun x hx => (h.1 x hx).1), andThen_mk, w64_eq (by omega) (by omega)]
theorem someN_ok (l : List Pr) (h : KvOk l) (F T : Nat) (hT : T ≤ 1000) : PrfOk (someN l F T) := by
 have hl := h.1
 unfold someN
 by_cases c : T ≤ F
 ·rw [if_pos c]; exact ⟨by simp, by simp, by simp⟩
 ·rw [if_neg c]
  obtain ⟨a, b⟩ := pathsN_b l hl F (T - F)
  refine ⟨fun x hx => ⟨by have := b x hx; omega, ?_⟩, by show ((l.drop F).take (T - F)).length ≤ _; rw [List.length_take, List.length_drop]; omega, by show (pathsN l F (T - F)).length ≤ _; omega⟩
  obtain ⟨j, _, rfl⟩ := List.mem_map.1 hx
  unfold pathS
  split
  ·exact pathF_32 _ _ _
  ·simp
theorem up_path (l : List Pr) (hl : l.length ≤ 60) (i : Nat) (hi : i < l.length) : upS (leafB (l.getD i zPr)) (i : Int) (l.length : Int) (pathS (leavesB l) (i : Int)) = (rootS (leavesB l), true) := by
 have hg : (leavesB l).getD i [] = leafB (l.getD i zPr) := by
  unfold leavesB
  rw [List.getD_eq_getElem?_getD, List.getD_eq_getElem?_getD, List.getElem?_map, List.getElem?_eq_getElem hi]; rfl
 have hp := path_up l.length (leavesB l) i (by rw [leavesB_len]; omega) (by rw [leavesB_len]; omega) (by rw [leavesB_len]; omega)
 have hs := path_sides l.length (leavesB l) i (by rw [leavesB_len]; omega)
 rw [leavesB_len, hg] at hp
 rw [leavesB_len] at hs
 have e : pathS (leavesB l) (i : Int) = pathF l.length (leavesB l) i := by
  unfold pathS
  rw [leavesB_len, if_pos (by omega), Int.toNat_natCast]
 unfold upS
 rw [e, if_pos ⟨(isS_iff _ _).2 (by omega), by rw [Int.toNat_natCast, Int.toNat_natCast]; exact hs⟩, Int.toNat_natCast, Int.toNat_natCast, hp]
theorem row_right {l : List Pr} (h : RowOk l) : rightP l = true := by
 rw [rightP_iff]
 refine ⟨h.1, fun p hp => ?_, by have := h.2.1; omega⟩
 have := keys_b _ (h.2.2.1 p hp)
 have h3 := h.2.2.2 p hp
 unfold mayP
 have hne : p.1 ≠ [] := fun e => by rw [e] at this; simp at this
 simp only [Bool.and_eq_true, Bool.not_eq_true', decide_eq_true_eq, decide_eq_false_iff_not]
 exact ⟨hne, by omega, by omega⟩
theorem right_sub {l m : List Pr} (h : rightP l = true) (hs : m.Sublist l) : rightP m = true := by
 obtain ⟨h1, h2, h3⟩ := (rightP_iff l).1 h
 exact (rightP_iff m).2 ⟨h1.sublist hs, fun p hp => h2 p (hs.subset hp), Nat.le_trans hs.length_le h3⟩
theorem someN_parts (l : List Pr) {F T : Nat} (h : F < T) : someN l F T = ((l.length : Int), (F : Int), (l.drop F).take (T - F), pathsN l F (T - F), ()) := by unfold someN; rw [if_neg (by omega)]
theorem sound_some (root : List UInt8) (l : List Pr) (h : rightP l = true) (F T : Nat) (hT : T ≤ l.length) : soundS root (someN l F T) = if l.length = 0 then hq root (rootL []) else decide (F < T) && hq (rootL l) root := by
 obtain ⟨hk, hr⟩ := rightP_kv h
 have h30 := ((rightP_iff l).1 h).2.2
 by_cases c : F < T
 ·have e1 : ((l.drop F).take (T - F)).length = T - F := by rw [List.length_take, List.length_drop]; omega
  obtain ⟨e2, e3⟩ := pathsN_b l hk.1 F (T - F)
  have hat : ∀ i, i < T - F → soundAt root (someN l F T) i = hq (rootL l) root := fun i hi => by
   have g1 : ((l.drop F).take (T - F)).getD i zPr = l.getD (F + i) zPr := by
    rw [List.getD_eq_getElem?_getD, List.getD_eq_getElem?_getD, List.getElem?_take, if_pos hi, List.getElem?_drop]
   have g2 : (pathsN l F (T - F)).getD i [] = pathS (leavesB l) ((F + i : Nat) : Int) := by
    unfold pathsN
    rw [List.getD_eq_getElem?_getD, List.getElem?_map, List.getElem?_range hi]; rfl
   have hu := up_path l hk.1 (F + i) (by omega)
   unfold soundAt provenAt
   rw [someN_parts l c]
   dsimp only
   rw [g1, g2, show (F : Int) + (i : Int) = ((F + i : Nat) : Int) from by omega, hu, Int.toNat_natCast]
   rfl
  rw [if_neg (by omega), decide_eq_true c, Bool.true_and]
  have hall : (List.range (T - F)).all (soundAt root (someN l F T)) = hq (rootL l) root := by
   cases hv : hq (rootL l) root with
   | true => exact List.all_eq_true.2 fun i hi => by rw [hat i (List.mem_range.1 hi), hv]
   | false => exact List.all_eq_false.2 ⟨0, List.mem_range.2 (by omega), by rw [hat 0 (by omega), hv]; simp⟩
  unfold soundS
  rw [someN_parts l c] at hall ⊢
  dsimp only at hall ⊢
  rw [e1, e2, hall, right_sub h ((List.take_sublist _ _).trans (List.drop_sublist _ _)), decide_eq_true (p := 0 ≤ (l.length : Int) ∧ (l.length : Int) ≤ 30 ∧ T - F = T - F) ⟨by omega, by omega, rfl⟩, decide_eq_true (p := 0 ≤ (F : Int) ∧ (F : Int) ≤ (l.length : Int) - ((T - F : Nat) : Int)) ⟨by omega, by omega⟩, if_neg (by omega), decide_eq_true (p := 0 < T - F) (by omega)]
  rfl
 ·have es : someN l F T = ((l.length : Int), 0, [], [], ()) := by unfold someN; rw [if_pos (by omega)]
  have hn : rightP ([] : List Pr) = true := rfl
  rw [decide_eq_false c, Bool.false_and]
  unfold soundS
  rw [es]
  dsimp only
  rw [hn, decide_eq_true (p := 0 ≤ (l.length : Int) ∧ (l.length : Int) ≤ 30 ∧ ([] : List (List (List UInt8))).length = ([] : List Pr).length) ⟨by omega, by omega, rfl⟩, decide_eq_true (p := 0 ≤ (0 : Int) ∧ (0 : Int) ≤ (l.length : Int) - (([] : List Pr).length : Int)) ⟨by omega, by simp⟩, Bool.true_and, Bool.true_and, Bool.true_and]
  by_cases c0 : l.length = 0
  ·rw [if_pos c0, if_pos (by omega)]
  ·rw [if_neg c0, if_neg (by omega)]; rfl
theorem rootL_self (l : List Pr) (h : rightP l = true) (F T : Nat) (hT : T ≤ l.length) : soundS (rootL l) (someN l F T) = (decide (l.length = 0) || decide (F < T)) := by
 rw [sound_some _ l h F T hT]
 by_cases c : l.length = 0
 ·have : l = [] := List.length_eq_zero_iff.1 c
  subst this
  rw [if_pos c, decide_eq_true c]
  exact (hq_iff _ _).2 rfl
 ·rw [if_neg c, decide_eq_false c, Bool.false_or, (hq_iff (rootL l) (rootL l)).2 rfl, Bool.and_true]
theorem range_part (l : List Pr) (hr : RiseP l) (a b : List UInt8) (F T : Nat) (hFT : F < T) (hT : T ≤ l.length) (h1 : F = 0 ∨ F < belowN l a) (h2 : T = l.length ∨ belowN l (maxS a b) < T) : rangeF ((l.drop F).take (T - F)) a b = rangeF l a b := by
 have hm : sless b a = true ∨ belowN l b ≤ belowN l (maxS a b) := by
  unfold maxS
  cases c : sless a b with
  | true => exact .inr (Nat.le_refl _)
  | false =>
   rcases sless_tot a b c with e | e
   ·exact .inr (by rw [e]; exact Nat.le_refl _)
   ·exact .inl e
 refine krise_ext (((hr.sublist (List.drop_sublist _ _)).sublist (List.take_sublist _ _)).sublist List.filter_sublist) (hr.sublist List.filter_sublist) fun q => ?_
 unfold rangeF
 rw [List.mem_filter, List.mem_filter]
 refine ⟨fun h => ⟨List.mem_of_mem_drop (List.mem_of_mem_take h.1), h.2⟩, fun h => ⟨?_, h.2⟩⟩
 obtain ⟨g1, g2⟩ := h
 unfold inR at g2
 rw [Bool.and_eq_true, Bool.not_eq_true'] at g2
 obtain ⟨i, hi, rfl⟩ := List.getElem_of_mem g1
 have hg : l.getD i zPr = l[i] := by rw [List.getD_eq_getElem?_getD, List.getElem?_eq_getElem hi]; rfl
 rw [← hg] at g2 ⊢
 have q1 := (below_iff hr b hi).1 g2.2
 have q2 : belowN l a ≤ i := by
  apply Classical.byContradiction
  intro c
  rw [(below_iff hr a hi).2 (by omega)] at g2; cases g2.1
 have q3 : i < T := by
  rcases hm with e | e
  ·have := sless_trans _ _ _ g2.2 e
   rw [g2.1] at this; cases this
  ·omega
 have hm2 : ((l.drop F).take (T - F)).getD (i - F) zPr = l.getD i zPr := by
  rw [List.getD_eq_getElem?_getD, List.getD_eq_getElem?_getD, List.getElem?_take, if_pos (by omega), List.getElem?_drop]
  congr 2; omega
 rw [← hm2]
 exact getD_mem (by rw [List.length_take, List.length_drop]; omega)
theorem ends_get (l : List Pr) {F T : Nat} (hFT : F < T) (hT : T ≤ l.length) : ((l.drop F).take (T - F)).length = T - F ∧ ((l.drop F).take (T - F)).getD 0 zPr = l.getD F zPr ∧ ((l.drop F).take (T - F)).getD (T - F - 1) zPr = l.getD (T - 1) zPr := by
 refine ⟨by rw [List.length_take, List.length_drop]; omega, ?_, ?_⟩
 ·rw [List.getD_eq_getElem?_getD, List.getD_eq_getElem?_getD, List.getElem?_take, if_pos (by omega), List.getElem?_drop]; rfl
 ·rw [List.getD_eq_getElem?_getD, List.getD_eq_getElem?_getD, List.getElem?_take, if_pos (by omega), List.getElem?_drop]
  congr 2; omega
theorem rangeS_some (l : List Pr) (h : rightP l = true) (a b : List UInt8) (F T : Nat) (hT : T ≤ l.length) :
  rangeS (rootL l) a b (someN l F T) = if l.length = 0 ∨ (F < T ∧ (F = 0 ∨ F < belowN l a) ∧ (T = l.length ∨ belowN l (maxS a b) < T)) then (rangeF l a b, true) else ([], false) := by
 obtain ⟨hk, hr⟩ := rightP_kv h
 unfold rangeS
 rw [rootL_self l h F T hT]
 by_cases c0 : l.length = 0
 ·have e0 : l = [] := List.length_eq_zero_iff.1 c0
  have es : someN l F T = ((l.length : Int), 0, [], [], ()) := by unfold someN; rw [if_pos (by omega)]
  rw [decide_eq_true c0, Bool.true_or, if_pos rfl, es, if_pos (by rfl), if_pos (.inl c0), e0]; rfl
 rw [decide_eq_false c0, Bool.false_or]
 by_cases c : F < T
 ·obtain ⟨e1, e2, e3⟩ := ends_get l c hT
  rw [decide_eq_true c, if_pos rfl]
  have hb : beginsS (someN l F T) a = decide (F = 0 ∨ F < belowN l a) := by
   unfold beginsS
   rw [someN_parts l c]
   dsimp only
   rw [e2, Bool.eq_iff_iff, Bool.or_eq_true, decide_eq_true_eq, decide_eq_true_eq, below_iff hr a (by omega)]
   omega
  have he : endsS (someN l F T) (maxS a b) = decide (T = l.length ∨ belowN l (maxS a b) < T) := by
   unfold endsS
   rw [someN_parts l c]
   dsimp only
   rw [e1, e3, Bool.eq_iff_iff, Bool.or_eq_true, decide_eq_true_eq, decide_eq_true_eq, Bool.not_eq_true', ← Bool.not_eq_true, below_iff hr _ (by omega)]
   omega
  rw [hb, he, someN_parts l c]
  dsimp only
  rw [e1, if_neg (by omega)]
  by_cases q : (F = 0 ∨ F < belowN l a) ∧ (T = l.length ∨ belowN l (maxS a b) < T)
  ·have hP : l.length = 0 ∨ (F < T ∧ (F = 0 ∨ F < belowN l a) ∧ (T = l.length ∨ belowN l (maxS a b) < T)) := .inr ⟨c, q⟩
   rw [decide_eq_true q.1, decide_eq_true q.2, Bool.true_and, if_pos rfl, if_pos hP, range_part l hr a b F T c hT q.1 q.2]
  ·have hP : ¬ (l.length = 0 ∨ (F < T ∧ (F = 0 ∨ F < belowN l a) ∧ (T = l.length ∨ belowN l (maxS a b) < T))) := fun e => e.elim c0 (fun e => q e.2)
   have hQ : ¬ (decide (F = 0 ∨ F < belowN l a) && decide (T = l.length ∨ belowN l (maxS a b) < T)) = true := by
    rw [Bool.and_eq_true, decide_eq_true_eq, decide_eq_true_eq]; exact q
   rw [if_neg hP, if_neg hQ]
 ·have hP : ¬ (l.length = 0 ∨ (F < T ∧ (F = 0 ∨ F < belowN l a) ∧ (T = l.length ∨ belowN l (maxS a b) < T))) := fun e => e.elim c0 (fun e => c e.1)
  rw [decide_eq_false c, if_neg (by simp), if_neg hP]
theorem l3_right : rightP l3 = true := by decide
theorem law_CheckRuns : affiantlaw9_CheckRuns = some true := by
 have r := range_eq l3 l3_kv l3_rise [98] [100]
 rw [show belowN l3 [98] = 1 from by decide, show belowN l3 (maxS [98] [100]) = 2 from by decide, show min (2 + 1) l3.length = 3 from rfl, show (1 : Nat) - 1 = 0 from rfl] at r
 have s := psome_eq l3 l3_kv 0 2
 rw [show (max (0 : Int) 0).toNat = 0 from rfl, show (min (2 : Int) (l3.length : Int)).toNat = 2 from rfl] at s
 have c1 := checkRange_eq (rootL l3) [98] [100] _ (someN_ok l3 l3_kv 0 3 (by omega))
 rw [rangeS_some l3 l3_right _ _ 0 3 (by decide), if_pos (.inr ⟨by omega, .inl rfl, .inl rfl⟩)] at c1
 have c2 := checkRange_eq (rootL l3) [98] [100] _ (someN_ok l3 l3_kv 0 2 (by omega))
 rw [rangeS_some l3 l3_right _ _ 0 2 (by decide), if_neg (by decide)] at c2
 have c3 := checkAbsent_eq (rootL l3) [98] _ (someN_ok l3 l3_kv 0 2 (by omega))
 have ha : absS (rootL l3) [98] (someN l3 0 2) = true := by
  unfold absS
  rw [rangeS_some l3 l3_right _ _ 0 2 (by decide), if_pos (by decide), someN_parts l3 (by decide)]
  decide
 rw [ha] at c3
 have hf : rangeF l3 [98] [100] = [([99], [], ())] := by decide
 rw [hf] at c1
 unfold affiantlaw9_CheckRuns
 show andThen (store_Root l3) (fun u1 => andThen (prove_Range l3 [98] [100]) (fun u3 => andThen (check_Range u1 [98] [100] u3) (fun u5 => andThen (prove_Some l3 0 2) (fun u7 => andThen (check_Range u1 [98] [100] u7) (fun u9 => _))))) = _
 rw [stroot_eq l3 l3_kv, andThen_mk, r, andThen_mk, c1, andThen_mk, s, andThen_mk, c2, andThen_mk]
 dsimp only
 rw [fork_tt, fork_t (by rfl), need_true (by decide), fork_t (by rfl), Bool.not_false, fork_tt]
 show andThen (prove_Some l3 0 2) _ = _
 rw [s, andThen_mk, c3, andThen_mk]
theorem someN_whole (l : List Pr) (h2 : 2 ≤ l.length) : someN l 0 l.length = ((l.length : Int), (0 : Int), l, pathsN l 0 l.length, ()) := by
 rw [someN_parts l (by omega), List.drop_zero, Nat.sub_zero, List.take_of_length_le (Nat.le_refl _)]; rfl
theorem less_cost (l : List Pr) (h2 : 2 ≤ l.length) : costS (someN l 0 1) < costS (someN l 0 l.length) := by
 obtain ⟨n, hn⟩ : ∃ n, l.length = n + 1 := ⟨l.length - 1, by omega⟩
 have e1 : pathsN l 0 1 = [pathS (leavesB l) ((0 + 0 : Nat) : Int)] := rfl
 have e2 : pathsN l 0 l.length = pathS (leavesB l) ((0 + 0 : Nat) : Int) :: (List.range n).map fun j => pathS (leavesB l) ((0 + (j + 1) : Nat) : Int) := by
  unfold pathsN
  rw [hn, List.range_succ_eq_map, List.map_cons, List.map_map]; rfl
 unfold costS sizeP
 rw [someN_parts l (show 0 < 1 by omega), someN_parts l (show 0 < l.length by omega)]
 dsimp only
 have l1 : ((l.drop 0).take (1 - 0)).length = 1 := by rw [List.length_take, List.length_drop]; omega
 have l2 : ((l.drop 0).take (l.length - 0)).length = l.length := by rw [List.length_take, List.length_drop]; omega
 rw [if_neg (by omega), if_neg (by omega), l1, l2, Nat.sub_zero, Nat.sub_zero, e1, e2, List.map_cons, List.map_cons, List.map_nil, List.sum_cons, List.sum_cons, List.sum_nil]
 omega
theorem less_tail (l : List Pr) (hrow : RowOk l) (h2 : 2 ≤ l.length) (q : Prf) (hq : PrfOk q) (hs : soundS (rootL l) q = false) : (andThen (prove_Some l (0 : Int) (1 : Int)) (fun u16 => andThen (check_Sound (rootL l) (someN l 0 l.length)) (fun u18 => fork u18 (andThen (check_Sound (rootL l) q) (fun u21 => fork (!u21) (andThen (check_Cost (someN l 0 l.length)) (fun u24 => andThen (check_Cost u16) (fun u26 => fork (decide (u26 < u24)) (andThen (check_Cost ((0 : Int), (0 : Int), ([] : List (List UInt8 × List UInt8 × Unit)), ([] : List (List (List UInt8))), ())) (fun u29 => fork (decide (u29 = (2 : Int))) (andThen (affiantlaw9_CheckRuns) (fun u32 => some u32)) (none))) (none)))) (none))) (none)))) = some true := by
 have hk := row_kv hrow
 have hrt := row_right hrow
 have s := psome_eq l hk 0 1
 rw [show (max (0 : Int) 0).toNat = 0 from rfl, show (min (1 : Int) (l.length : Int)).toNat = 1 from by omega] at s
 have ok := someN_ok l hk 0 l.length (by have := hrow.2.1; omega)
 have ok1 := someN_ok l hk 0 1 (by omega)
 have z0 : PrfOk ((0 : Int), (0 : Int), ([] : List Pr), ([] : List (List (List UInt8))), ()) := ⟨by simp, by simp, by simp⟩
 have d := checkSound_eq (rootL l) _ ok
 rw [rootL_self l hrt 0 l.length (Nat.le_refl _), decide_eq_true (show 0 < l.length by omega), Bool.or_true] at d
 rw [s, andThen_mk, d, andThen_mk, fork_tt, checkSound_eq (rootL l) q hq, hs, andThen_mk, Bool.not_false, fork_tt, checkCost_eq _ ok, andThen_mk, checkCost_eq _ ok1, andThen_mk, fork_t (less_cost l h2), checkCost_eq _ z0, andThen_mk, fork_t (by rfl), law_CheckRuns]
 rfl
theorem swap_not (l : List Pr) (hr : RiseP l) (h2 : 2 ≤ l.length) : rightP (List.set (List.set l 0 (l.getD 1 zPr)) 1 (l.getD 0 zPr)) = false := by
 rw [← Bool.not_eq_true]
 intro h
 obtain ⟨_, r⟩ := rightP_kv h
 have a := krise_get hr (i := 0) (j := 1) (by omega) (by omega)
 have b := krise_get r (i := 0) (j := 1) (by omega) (by rw [List.length_set, List.length_set]; omega)
 match l, h2 with
 | x :: y :: r, _ =>
  have a : sless x.1 y.1 = true := a
  have b : sless y.1 x.1 = true := b
  have := sless_trans _ _ _ a b
  rw [sless_irr] at this; cases this
theorem law_CheckLess (y0 : List Int) (y1 y2 : Int) (w0 : Wf (.slice (.int .i64)) y0) (w1 : Wf (.int .i64) y1) (w2 : Wf (.int .i64) y2) : affiantlaw9_CheckLess y0 y1 y2 = some true := by
 have e8 : tyBytes (.int .i64) = 8 := rfl
 have hp0 : y0.length ≤ 140737488355328 := by have := w0.1; rw [e8] at this; omega
 obtain ⟨l, el, hrow⟩ := pairs_eq y0 hp0
 have hk := row_kv hrow
 have hrt := row_right hrow
 have hl := hrow.2.1
 have hr := hrow.1
 unfold affiantlaw9_CheckLess
 rw [el, andThen_mk]
 by_cases h2 : l.length < 2
 ·rw [fork_t (by omega), law_CheckRuns]; rfl
 have h2 : 2 ≤ l.length := by omega
 rw [fork_f (by omega), stroot_eq l hk, andThen_mk]
 have s := psome_eq l hk 0 (l.length : Int)
 rw [show (max (0 : Int) 0).toNat = 0 from rfl, show (min (l.length : Int) (l.length : Int)).toNat = l.length from by omega] at s
 have pw := someN_whole l h2
 obtain ⟨pl, pb⟩ := pathsN_b l hk.1 0 l.length
 have ok := someN_ok l hk 0 l.length (by omega)
 have ok' := ok
 rw [pw] at ok'
 have okp : ∀ x ∈ pathsN l 0 l.length, x.length ≤ 1000 ∧ ∀ h ∈ x, h.length = 32 := ok'.1
 obtain ⟨w, ew, wl, wh⟩ := within_eq y1 0 4 (by omega) (by omega) (by omega)
 rw [s, andThen_mk]
 have q1 : (someN l 0 l.length).1 = (l.length : Int) := by rw [pw]
 have q2 : (someN l 0 l.length).2.1 = 0 := by rw [pw]
 have q3 : (someN l 0 l.length).2.2.1 = l := by rw [pw]
 have q4 : (someN l 0 l.length).2.2.2.1 = pathsN l 0 l.length := by rw [pw]
 simp only [q1, q2, q3, q4]
 rw [need_true (by rw [List.length_nil]; omega), need_true (by rw [List.length_nil]; omega), ew, andThen_mk]
 by_cases c0 : w = 0
 ·rw [fork_t c0, need_true (by rw [List.nil_append, pl]; omega)]
  refine less_tail l hrow h2 _ ⟨fun x hx => okp x ?_, ?_, ?_⟩ ?_
  ·have hx : x ∈ cutL ([] ++ pathsN l 0 l.length) 1 (([] ++ pathsN l 0 l.length : List (List (List UInt8))).length : Int) := hx
   rw [List.nil_append, cut_from] at hx
   exact List.mem_of_mem_drop hx
  ·show ([] ++ l : List Pr).length ≤ _; rw [List.nil_append]; omega
  ·show (cutL ([] ++ pathsN l 0 l.length) 1 (([] ++ pathsN l 0 l.length : List (List (List UInt8))).length : Int)).length ≤ _
   rw [List.nil_append, cut_from, List.length_drop]; omega
  ·unfold soundS
   rw [decide_eq_false, Bool.false_and]
   dsimp only
   rw [List.nil_append, List.nil_append, cut_from, List.length_drop, pl]
   rintro ⟨_, _, h⟩
   have : (Int.toNat 1) = 1 := rfl
   omega
 rw [fork_f c0]
 by_cases c1 : w = 1
 ·rw [fork_t c1, need_true (by rw [List.nil_append, pl, List.length_singleton]; omega)]
  refine less_tail l hrow h2 _ ⟨fun x hx => ?_, ?_, ?_⟩ ?_
  ·have hx : x ∈ ([] ++ pathsN l 0 l.length) ++ [[]] := hx
   rw [List.nil_append] at hx
   rcases List.mem_append.1 hx with hx | hx
   ·exact okp x hx
   ·rw [List.mem_singleton.1 hx]; exact ⟨by simp, by simp⟩
  ·show ([] ++ l : List Pr).length ≤ _; rw [List.nil_append]; omega
  ·show (([] ++ pathsN l 0 l.length) ++ [[]]).length ≤ _
   rw [List.nil_append, List.length_append, List.length_singleton]; omega
  ·unfold soundS
   rw [decide_eq_false, Bool.false_and]
   dsimp only
   rw [List.nil_append, List.nil_append, List.length_append, List.length_singleton, pl]
   rintro ⟨_, _, h⟩
   omega
 rw [fork_f c1]
 by_cases c2 : w = 2
 ·rw [fork_t c2, need_true (by rw [List.nil_append]; omega), need_true (by rw [List.nil_append]; omega), need_true (by rw [List.nil_append, List.length_set]; omega)]
  refine less_tail l hrow h2 _ ⟨fun x hx => okp x ?_, ?_, ?_⟩ ?_
  ·have hx : x ∈ [] ++ pathsN l 0 l.length := hx
   rw [List.nil_append] at hx; exact hx
  ·show (List.set (List.set ([] ++ l) _ _) _ _ : List Pr).length ≤ _; rw [List.length_set, List.length_set, List.nil_append]; omega
  ·show ([] ++ pathsN l 0 l.length).length ≤ _
   rw [List.nil_append]; omega
  ·have h := swap_not l hr h2
   unfold soundS
   dsimp only
   rw [List.nil_append, List.nil_append, show Int.toNat (0 : Int) = 0 from rfl, show Int.toNat (1 : Int) = 1 from rfl, show (([] : List UInt8), ([] : List UInt8), ()) = zPr from rfl, h, Bool.false_and, Bool.and_false]
 rw [fork_f c2]
 have hF : ∀ k : Int, k ≠ 0 → soundS (rootL l) ((l.length : Int), k, [] ++ l, [] ++ pathsN l 0 l.length, ()) = false := by
  intro k hk
  unfold soundS
  dsimp only
  rw [List.nil_append, List.nil_append, decide_eq_false (p := 0 ≤ k ∧ k ≤ (l.length : Int) - (l.length : Int)) (by omega), Bool.false_and, Bool.and_false, Bool.and_false]
 have hO : ∀ k : Int, PrfOk ((l.length : Int), k, [] ++ l, [] ++ pathsN l 0 l.length, ()) := fun k => ok'
 obtain ⟨v, ev, vl, vh⟩ := within_eq y2 0 1099511627776 (by omega) (by omega) (by omega)
 by_cases c3 : w = 3
 ·rw [fork_t c3, ev, andThen_mk]
  exact less_tail l hrow h2 _ (hO _) (hF _ (by rw [w64_eq (by omega) (by omega)]; omega))
 ·rw [fork_f c3, ev, andThen_mk]
  exact less_tail l hrow h2 _ (hO _) (hF _ (by rw [w64_eq (by omega) (by omega)]; omega))
end Go.Ax.V
