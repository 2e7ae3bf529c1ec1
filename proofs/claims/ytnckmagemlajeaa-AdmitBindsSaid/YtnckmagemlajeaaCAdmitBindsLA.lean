/-
  A store's roots; what is in rows; the document's own rows.
-/
import Derived.Test.YtnckmagemlajeaaAxC
import Derived.Test.YtnckmagemlajeaaCAdmitBindsP
namespace Go.Ax.V
open Go.Ax
set_option linter.unusedVariables false
set_option linter.unusedSimpArgs false
def runFor {τ : Type} (f : Nat → τ → τ) : Nat → Nat → τ → τ
 | _, 0, t => t
 | i, k + 1, t => runFor f (i + 1) k (f i t)
theorem runFor_inv {τ : Type} {f : Nat → τ → τ} {I : Nat → τ → Prop} {n : Nat} (h : ∀ i t, i < n → I i t → I (i + 1) (f i t)) : ∀ {k i : Nat} {t : τ}, i + k = n → I i t → I n (runFor f i k t)
  | 0, i, t, e, h0 => by have : i = n := by omega
                         subst this; exact h0
  | k + 1, i, t, e, h0 => runFor_inv (i := i + 1) h (by omega) (h i t (by omega) h0)
theorem loop_for {σ ρ τ : Type} {step : σ → Option (σ ⊕ ρ)} (st : Nat → τ → σ) (f : Nat → τ → τ) (g : τ → ρ) (n : Nat) (I : Nat → τ → Prop)
    (h1 : ∀ i t, i < n → I i t → step (st i t) = some (.inl (st (i + 1) (f i t))) ∧ I (i + 1) (f i t))
    (h2 : ∀ t, I n t → step (st n t) = some (.inr (g t))) : ∀ (k i : Nat) (t : τ), i + k = n → I i t → loop step (st i t) = some (g (runFor f i k t))
  | 0, i, t, e, h => by have : i = n := by omega
                        subst this; exact loop_out (h2 t h)
  | k + 1, i, t, e, h => by
    rw [loop_next (h1 i t (by omega) h).1]
    exact loop_for st f g n I h1 h2 k (i + 1) (f i t) (by omega) (h1 i t (by omega) h).2
theorem Nat.find_of {p : Nat → Prop} (h : ∃ n, p n) : ∃ n, p n ∧ ∀ m, m < n → ¬ p m := by
 obtain ⟨n, hn⟩ := h
 induction n using Nat.strongRecOn with
 | _ n ih =>
  by_cases hx : ∃ m, m < n ∧ p m
  ·obtain ⟨m, hm, hp⟩ := hx; exact ih m hm hp
  ·exact ⟨n, hn, fun m hm hp => hx ⟨m, hm, hp⟩⟩
def scan {ρ : Type} (bad : Nat → Option ρ) (r0 : ρ) : Nat → Nat → ρ
 | _, 0 => r0
 | i, k + 1 => match bad i with
  | some r => r
  | none => scan bad r0 (i + 1) k
theorem scan_none {ρ : Type} {bad : Nat → Option ρ} {r0 : ρ} : ∀ (k i : Nat), (∀ j, i ≤ j → j < i + k → bad j = none) → scan bad r0 i k = r0
 | 0, i, _ => rfl
 | k + 1, i, h => by
  rw [scan, h i (Nat.le_refl _) (by omega)]
  exact scan_none k (i + 1) fun j h1 h2 => h j (by omega) (by omega)
theorem scan_some {ρ : Type} {bad : Nat → Option ρ} {r0 r : ρ} : ∀ (k i j : Nat), i ≤ j → j < i + k → (∀ j', i ≤ j' → j' < j → bad j' = none) → bad j = some r → scan bad r0 i k = r
 | 0, i, j, h1, h2, _, _ => by omega
 | k + 1, i, j, h1, h2, h3, h4 => by
  rw [scan]
  by_cases e : i = j
  ·subst e; rw [h4]
  ·rw [h3 i (Nat.le_refl _) (by omega)]
   exact scan_some k (i + 1) j (by omega) (by omega) (fun j' g1 g2 => h3 j' (by omega) g2) h4
theorem loop_scan {σ ρ : Type} {step : σ → Option (σ ⊕ ρ)} (st : Nat → σ) (bad : Nat → Option ρ) (r0 : ρ) (n : Nat) (h1 : ∀ i, i < n → bad i = none → step (st i) = some (.inl (st (i + 1))))
    (h2 : ∀ i r, i < n → bad i = some r → step (st i) = some (.inr r)) (h3 : step (st n) = some (.inr r0)) : ∀ (k i : Nat), i + k = n → loop step (st i) = some (scan bad r0 i k)
  | 0, i, e => by have : i = n := by omega
                  subst this; exact loop_out h3
  | k + 1, i, e => by
    rw [scan]
    split
    · rename_i r hr; exact loop_out (h2 i r (by omega) hr)
    · rename_i hn
      rw [loop_next (h1 i (by omega) hn)]
      exact loop_scan st bad r0 n h1 h2 h3 k (i + 1) (by omega)
theorem andThen_mk {α β : Type} {a : α} {k : α → Option β} : andThen (some a) k = k a := rfl
theorem fork_t {α : Type} {p : Prop} [Decidable p] {x y : Option α} (h : p) : fork (decide p) x y = x := by rw [decide_eq_true h]; rfl
theorem fork_f {α : Type} {p : Prop} [Decidable p] {x y : Option α} (h : ¬ p) : fork (decide p) x y = y := by rw [decide_eq_false h]; rfl
theorem fork_nt {α : Type} {p : Prop} [Decidable p] {x y : Option α} (h : p) : fork (!decide p) x y = y := by rw [decide_eq_true h]; rfl
theorem fork_nf {α : Type} {p : Prop} [Decidable p] {x y : Option α} (h : ¬ p) : fork (!decide p) x y = x := by rw [decide_eq_false h]; rfl
theorem fork_tt {α : Type} {x y : Option α} : fork true x y = x := rfl
theorem fork_ff {α : Type} {x y : Option α} : fork false x y = y := rfl
theorem fork_ite {α : Type} {b : Bool} {x y : Option α} : fork b x y = if b then x else y := by cases b <;> rfl
theorem cut_to {α : Type} (l : List α) (u : Int) : cutL l 0 u = l.take u.toNat := rfl
theorem cut_from {α : Type} (l : List α) (u : Int) : cutL l u (l.length : Int) = l.drop u.toNat := by
 unfold cutL; rw [Int.toNat_natCast, List.take_of_length_le (Nat.le_refl _)]
theorem getD_mem {α : Type} {l : List α} {i : Nat} {z : α} (h : i < l.length) : l.getD i z ∈ l := by
 rw [List.getD_eq_getElem?_getD, List.getElem?_eq_getElem h]; exact List.getElem_mem _
theorem sless_irr : ∀ a : List UInt8, sless a a = false
 | [] => rfl
 | x :: a => by
  rw [sless, sless_irr a]
  simp
theorem sless_trans : ∀ a b c : List UInt8, sless a b = true → sless b c = true → sless a c = true
 | _, [], _, h, _ => by cases ‹List UInt8› <;> simp [sless] at h
 | _, _ :: _, [], _, h => by simp [sless] at h
 | [], _ :: _, _ :: _, _, _ => rfl
 | x :: a, y :: b, z :: c, h1, h2 => by
  simp only [sless, Bool.or_eq_true, Bool.and_eq_true, decide_eq_true_eq, beq_iff_eq] at h1 h2 ⊢
  rcases h1 with h1 | ⟨rfl, h1⟩
  ·rcases h2 with h2 | ⟨rfl, h2⟩
   ·exact .inl (UInt8.lt_trans h1 h2)
   ·exact .inl h1
  ·rcases h2 with h2 | ⟨rfl, h2⟩
   ·exact .inl h2
   ·exact .inr ⟨rfl, sless_trans a b c h1 h2⟩
def incN (ns : List (List UInt8)) : Bool := (List.range (ns.length - 1)).all fun i => sless (ns.getD i []) (ns.getD (i + 1) [])
theorem incN_pair : ∀ (ns : List (List UInt8)), incN ns = true → ns.Pairwise (fun a b => sless a b = true)
 | [], _ => List.Pairwise.nil
 | [x], _ => List.pairwise_singleton _ _
 | x :: y :: ns, h => by
  have hall : ∀ i, i < ns.length + 1 → sless ((x :: y :: ns).getD i []) ((x :: y :: ns).getD (i + 1) []) = true := fun i hi => List.all_eq_true.1 h i (by simp; omega)
  have ih := incN_pair (y :: ns) (List.all_eq_true.2 fun i hi => by
   have := hall (i + 1) (by simp at hi; omega)
   exact this)
  have h0 : sless x y = true := hall 0 (by omega)
  refine List.pairwise_cons.2 ⟨fun z hz => ?_, ih⟩
  rcases List.mem_cons.1 hz with rfl | hz
  ·exact h0
  ·exact sless_trans _ _ _ h0 ((List.pairwise_cons.1 ih).1 z hz)
abbrev Pr := List UInt8 × List UInt8 × Unit
def zPr : Pr := ([], [], ())
abbrev PT : Ty := .fld .str (.fld .str .unit)
theorem pbeq (a b : Pr) : Ty.beq PT a b = decide (a = b) := by
 rw [Bool.eq_iff_iff, Ty.beq_iff PT rfl a b, decide_eq_true_eq]
theorem sless_tot : ∀ a b : List UInt8, sless a b = false → a = b ∨ sless b a = true
 | [], [], _ => .inl rfl
 | _ :: _, [], _ => .inr rfl
 | [], _ :: _, h => by simp [sless] at h
 | x :: a, y :: b, h => by
  simp only [sless, Bool.or_eq_false_iff, Bool.and_eq_false_iff, decide_eq_false_iff_not, beq_eq_false_iff_ne, ne_eq] at h
  obtain ⟨h1, h2⟩ := h
  by_cases e : x = y
  ·subst e
   rcases sless_tot a b (h2.resolve_left (fun q => q rfl)) with rfl | h
   ·exact .inl rfl
   ·exact .inr (by simp [sless, h])
  ·right
   have : y < x := by
    rcases UInt8.lt_or_lt_of_ne e with q | q
    ·exact absurd q h1
    ·exact q
   simp [sless, this]
theorem cmp_neg : ∀ a b : List UInt8, (cmpS a b < 0) ↔ sless a b = true
 | [], [] => by simp [cmpS, Lib.compareBytes, sless]
 | [], _ :: _ => by simp [cmpS, Lib.compareBytes, sless]
 | _ :: _, [] => by simp [cmpS, Lib.compareBytes, sless]
 | x :: a, y :: b => by
  have ih := cmp_neg a b
  unfold cmpS at ih
  unfold cmpS
  rw [Lib.compareBytes, sless]
  by_cases h : x < y
  ·simp [h]
  ·rw [if_neg h]
   by_cases h2 : y < x
   ·have hne : x ≠ y := fun e => by subst e; exact h h2
    rw [if_pos h2]; simp [h, hne]
   ·have he : x = y := UInt8.le_antisymm (UInt8.not_lt.1 h2) (UInt8.not_lt.1 h)
    rw [if_neg h2, ih]; simp [he]
theorem cmp_zero : ∀ a b : List UInt8, (cmpS a b = 0) ↔ a = b
 | [], [] => by simp [cmpS, Lib.compareBytes]
 | [], _ :: _ => by simp [cmpS, Lib.compareBytes]
 | _ :: _, [] => by simp [cmpS, Lib.compareBytes]
 | x :: a, y :: b => by
  have ih := cmp_zero a b
  unfold cmpS at ih
  unfold cmpS
  rw [Lib.compareBytes]
  by_cases h : x < y
  ·have hne : x ≠ y := fun e => by subst e; exact UInt8.lt_irrefl _ h
   rw [if_pos h]; simp [hne]
  ·rw [if_neg h]
   by_cases h2 : y < x
   ·have hne : x ≠ y := fun e => by subst e; exact h h2
    rw [if_pos h2]; simp [hne]
   ·have he : x = y := UInt8.le_antisymm (UInt8.not_lt.1 h2) (UInt8.not_lt.1 h)
    rw [if_neg h2, ih]; simp [he]
def belowN : List Pr → List UInt8 → Nat
 | [], _ => 0
 | p :: r, k => bif sless p.1 k then belowN r k + 1 else 0
theorem below_le : ∀ (l : List Pr) (k : List UInt8), belowN l k ≤ l.length
 | [], _ => Nat.le_refl _
 | p :: r, k => by
  have := below_le r k
  unfold belowN
  cases sless p.1 k
  ·exact Nat.zero_le _
  ·rw [cond_true, List.length_cons]; omega
theorem below_lt : ∀ (l : List Pr) (k : List UInt8) (i : Nat), i < belowN l k → sless (l.getD i zPr).1 k = true
 | [], _, i, h => by unfold belowN at h; omega
 | p :: r, k, i, h => by
  unfold belowN at h
  cases e : sless p.1 k with
  | false => rw [e, cond_false] at h; omega
  | true =>
   rw [e, cond_true] at h
   match i with
   | 0 => exact e
   | j + 1 => exact below_lt r k j (by omega)
theorem below_at : ∀ (l : List Pr) (k : List UInt8), belowN l k < l.length → sless (l.getD (belowN l k) zPr).1 k = false
 | [], _, h => by simp at h
 | p :: r, k, h => by
  unfold belowN at h ⊢
  cases e : sless p.1 k with
  | false => exact e
  | true =>
   rw [e, cond_true, List.length_cons] at h
   exact below_at r k (by omega)
theorem below_uniq (l : List Pr) (k : List UInt8) (n : Nat) (hn : n ≤ l.length) (h1 : ∀ i, i < n → sless (l.getD i zPr).1 k = true) (h2 : n < l.length → sless (l.getD n zPr).1 k = false) : belowN l k = n := by
 rcases Nat.lt_trichotomy (belowN l k) n with h | h | h
 ·have a := h1 _ h
  rw [below_at l k (by omega)] at a; cases a
 ·exact h
 ·have a := below_lt l k n h
  have b := below_le l k
  rw [h2 (by omega)] at a; cases a
def RiseP (l : List Pr) : Prop := l.Pairwise (fun a b => sless a.1 b.1 = true)
theorem krise_get {l : List Pr} (h : RiseP l) {i j : Nat} (hij : i < j) (hj : j < l.length) : sless (l.getD i zPr).1 (l.getD j zPr).1 = true := by
 rw [List.getD_eq_getElem?_getD, List.getD_eq_getElem?_getD, List.getElem?_eq_getElem hj, List.getElem?_eq_getElem (by omega)]
 exact List.pairwise_iff_getElem.1 h i j (by omega) hj hij
theorem below_iff {l : List Pr} (h : RiseP l) (k : List UInt8) {i : Nat} (hi : i < l.length) : sless (l.getD i zPr).1 k = true ↔ i < belowN l k := by
 refine ⟨fun hs => ?_, below_lt l k i⟩
 apply Classical.byContradiction
 intro hn
 have b := below_at l k (by omega)
 rcases Nat.lt_or_ge (belowN l k) i with c | c
 ·rw [sless_trans _ _ _ (krise_get h c hi) hs] at b; cases b
 ·have : belowN l k = i := by omega
  rw [this, hs] at b; cases b
theorem below_mono (l : List Pr) (a b : List UInt8) (h : sless a b = false) : belowN l b ≤ belowN l a := by
 apply Nat.le_of_not_lt
 intro hc
 have hl := below_le l b
 have h1 := below_lt l b _ hc
 have h2 := below_at l a (by omega)
 rcases sless_tot a b h with rfl | q
 ·rw [h1] at h2; cases h2
 ·rw [sless_trans _ _ _ h1 q] at h2; cases h2
def isAt (l : List Pr) (k : List UInt8) : Bool := decide (belowN l k < l.length ∧ (l.getD (belowN l k) zPr).1 = k)
theorem isAt_iff {l : List Pr} (h : RiseP l) (k : List UInt8) : isAt l k = true ↔ ∃ p ∈ l, p.1 = k := by
 unfold isAt
 rw [decide_eq_true_eq]
 constructor
 ·rintro ⟨h1, h2⟩
  exact ⟨_, getD_mem h1, h2⟩
 ·rintro ⟨p, hp, e⟩
  obtain ⟨i, hi, rfl⟩ := List.getElem_of_mem hp
  have hg : l.getD i zPr = l[i] := by rw [List.getD_eq_getElem?_getD, List.getElem?_eq_getElem hi]; rfl
  have : belowN l k = i := by
   refine below_uniq l k i (by omega) (fun j hj => ?_) fun _ => ?_
   ·rw [← e, ← hg]; exact krise_get h hj hi
   ·rw [hg, e]; exact sless_irr k
  rw [this, hg]; exact ⟨hi, e⟩
theorem mid_eq (i j : Nat) (h : i + j ≤ 1073741824) : w64 ((UInt64.toNat (UInt64.ofNat (UInt64.toNat (UInt64.ofNat (Int.toNat ((w64 ((i : Int) + (j : Int))) % 18446744073709551616))) >>> (Int.toNat (1 : Int)))) : Nat) : Int) = (((i + j) / 2 : Nat) : Int) := by
 rw [w64_eq (n := (i : Int) + (j : Int)) (by omega) (by omega)]
 have e1 : Int.toNat (((i : Int) + (j : Int)) % 18446744073709551616) = i + j := by omega
 have e2 : UInt64.toNat (UInt64.ofNat (i + j)) = i + j := by rw [UInt64.toNat_ofNat']; omega
 have e3 : (i + j) >>> (Int.toNat (1 : Int)) = (i + j) / 2 := rfl
 have e4 : UInt64.toNat (UInt64.ofNat ((i + j) / 2)) = (i + j) / 2 := by rw [UInt64.toNat_ofNat']; omega
 rw [e1, e2, e3, e4, w64_eq (by omega) (by omega)]
theorem placeF_eq (p : Pr) (k : List UInt8) : kv_placeF1 p k = some (cmpS p.1 k) := rfl
theorem bs_step (x0 : List Pr) (x1 : List UInt8) (x2 : Int) (x3 : Int) (x4 : Int) : slices_BinarySearchFunc_LPair_Pair_string_1a7a_1_step x0 x1 x2 x3 x4 =
  (fork (decide (x3 < x4)) (need (0 ≤ (w64 ((UInt64.toNat (UInt64.ofNat (UInt64.toNat (UInt64.ofNat (Int.toNat ((w64 (x3 + x4)) % 18446744073709551616))) >>> (Int.toNat (1 : Int)))) : Nat) : Int)) ∧ (w64 ((UInt64.toNat (UInt64.ofNat (UInt64.toNat (UInt64.ofNat (Int.toNat ((w64 (x3 + x4)) % 18446744073709551616))) >>> (Int.toNat (1 : Int)))) : Nat) : Int)) < (List.length x0 : Int)) (andThen (kv_placeF1 (List.getD x0 (Int.toNat (w64 ((UInt64.toNat (UInt64.ofNat (UInt64.toNat (UInt64.ofNat (Int.toNat ((w64 (x3 + x4)) % 18446744073709551616))) >>> (Int.toNat (1 : Int)))) : Nat) : Int))) zPr) x1) (fun u4 => fork (decide (u4 < (0 : Int))) (some (.inl ((w64 ((w64 ((UInt64.toNat (UInt64.ofNat (UInt64.toNat (UInt64.ofNat (Int.toNat ((w64 (x3 + x4)) % 18446744073709551616))) >>> (Int.toNat (1 : Int)))) : Nat) : Int)) + (1 : Int))), x4))) (some (.inl (x3, (w64 ((UInt64.toNat (UInt64.ofNat (UInt64.toNat (UInt64.ofNat (Int.toNat ((w64 (x3 + x4)) % 18446744073709551616))) >>> (Int.toNat (1 : Int)))) : Nat) : Int)))))))) (some (.inr (x0, x1, x2, x3))) : Option ((Int × Int) ⊕ ((List Pr) × List UInt8 × Int × Int))) := rfl
theorem bs_loop (l : List Pr) (hr : RiseP l) (hl : l.length ≤ 1000) (k : List UInt8) : ∀ (m i j : Nat), j - i ≤ m → i ≤ belowN l k → belowN l k ≤ j → j ≤ l.length →
  slices_BinarySearchFunc_LPair_Pair_string_1a7a_1 l k (l.length : Int) (i : Int) (j : Int) = some (l, k, (l.length : Int), (belowN l k : Int))
 | m, i, j, hm, h1, h2, h3 => by
  unfold slices_BinarySearchFunc_LPair_Pair_string_1a7a_1
  by_cases c : i < j
  ·have hs : slices_BinarySearchFunc_LPair_Pair_string_1a7a_1_step l k (l.length : Int) (i : Int) (j : Int) = some (.inl (if (i + j) / 2 < belowN l k then ((((i + j) / 2 + 1 : Nat) : Int), (j : Int)) else ((i : Int), (((i + j) / 2 : Nat) : Int)))) := by
    rw [bs_step, fork_t (by omega), mid_eq i j (by omega), need_true (by omega), Int.toNat_natCast, placeF_eq, andThen_mk, w64_eq (by omega) (by omega)]
    by_cases q : (i + j) / 2 < belowN l k
    ·rw [if_pos q, fork_t ((cmp_neg _ _).2 (below_lt l k _ q))]; rfl
    ·rw [if_neg q, fork_f (fun e => q ((below_iff hr k (by omega)).1 ((cmp_neg _ _).1 e)))]
   rw [loop_next hs]
   match m with
   | 0 => omega
   | m + 1 =>
    by_cases q : (i + j) / 2 < belowN l k
    ·rw [if_pos q]
     exact bs_loop l hr hl k m ((i + j) / 2 + 1) j (by omega) (by omega) h2 h3
    ·rw [if_neg q]
     exact bs_loop l hr hl k m i ((i + j) / 2) (by omega) h1 (by omega) (by omega)
  ·have : i = belowN l k := by omega
   subst this
   exact loop_out (by rw [bs_step, fork_f (by omega)])
theorem place_eq (l : List Pr) (hr : RiseP l) (hl : l.length ≤ 1000) (k : List UInt8) : kv_place l k = some ((belowN l k : Int), isAt l k) := by
 have hb := below_le l k
 have h : slices_BinarySearchFunc_LPair_Pair_string_1a7a l k = some ((belowN l k : Int), isAt l k) := by
  unfold slices_BinarySearchFunc_LPair_Pair_string_1a7a
  rw [show ((0 : Int)) = ((0 : Nat) : Int) from rfl, bs_loop l hr hl k l.length 0 l.length (by omega) (by omega) hb (Nat.le_refl _), andThen_mk]
  simp only
  unfold isAt
  by_cases c : belowN l k < l.length
  ·rw [fork_t (by omega), need_true (by omega), placeF_eq, andThen_mk, Int.toNat_natCast]
   congr 2
   exact decide_eq_decide.2 ⟨fun e => ⟨c, (cmp_zero _ _).1 e⟩, fun e => (cmp_zero _ _).2 e.2⟩
  ·rw [fork_f (by omega), decide_eq_false (fun e => c e.1)]
 unfold kv_place
 rw [h, andThen_mk]
theorem kfirst_eq (l : List Pr) (hr : RiseP l) (hl : l.length ≤ 1000) (k : List UInt8) : kv_First l k = some (belowN l k : Int) := by
 unfold kv_First
 rw [place_eq l hr hl, andThen_mk]
theorem kget_eq (l : List Pr) (hr : RiseP l) (hl : l.length ≤ 1000) (k : List UInt8) : kv_Get l k = some (if isAt l k then ((l.getD (belowN l k) zPr).2.1, true) else ([], false)) := by
 unfold kv_Get
 rw [place_eq l hr hl, andThen_mk]
 cases c : isAt l k with
 | false => rfl
 | true =>
  have := c
  unfold isAt at this
  rw [decide_eq_true_eq] at this
  rw [Bool.not_true, fork_ff, need_true (by omega), Int.toNat_natCast]; rfl
theorem ofInt_nat (a : Nat) : (BitVec.ofInt 64 (a : Int)).toNat = a % 18446744073709551616 := by
 rw [BitVec.toNat_ofInt]; omega
theorem band_nat (a b : Nat) (ha : a < 9223372036854775808) (hb : b < 9223372036854775808) : band (a : Int) (b : Int) = ((a &&& b : Nat) : Int) := by
 unfold band
 have hle : a &&& b ≤ a := Nat.and_le_left
 rw [BitVec.toNat_and, ofInt_nat, ofInt_nat, Nat.mod_eq_of_lt (by omega), Nat.mod_eq_of_lt (by omega)]
 exact w64_eq (by omega) (by omega)
theorem bor_nat (a b : Nat) (h : (a ||| b) < 9223372036854775808) : bor (a : Int) (b : Int) = ((a ||| b : Nat) : Int) := by
 unfold bor
 have h1 : a ≤ a ||| b := Nat.left_le_or
 have h2 : b ≤ a ||| b := Nat.right_le_or
 rw [BitVec.toNat_or, ofInt_nat, ofInt_nat, Nat.mod_eq_of_lt (by omega), Nat.mod_eq_of_lt (by omega)]
 exact w64_eq (by omega) (by omega)
theorem band127 (a : Nat) (ha : a < 9223372036854775808) : band (a : Int) 127 = ((a % 128 : Nat) : Int) := by
 rw [show (127 : Int) = ((127 : Nat) : Int) from rfl, band_nat a 127 ha (by omega), show (127 : Nat) = 2 ^ 7 - 1 from rfl, Nat.and_two_pow_sub_one_eq_mod]
theorem or_high (a c k : Nat) (h : a < 2 ^ k) : a ||| (c * 2 ^ k) = a + c * 2 ^ k := by
 rw [Nat.or_comm, ← Nat.shiftLeft_eq, ← Nat.shiftLeft_add_eq_or_of_lt h, Nat.add_comm]
theorem bor128 (a : Nat) (h : a < 128) : bor (a : Int) 128 = ((a + 128 : Nat) : Int) := by
 have e := or_high a 1 7 h
 rw [show (128 : Int) = ((128 : Nat) : Int) from rfl, bor_nat a 128 (by simp only [Nat.one_mul] at e; rw [show (128 : Nat) = 2 ^ 7 from rfl, e]; omega)]
 simp only [Nat.one_mul] at e
 rw [show (128 : Nat) = 2 ^ 7 from rfl, e]
theorem ishr_nat (a k : Nat) (hk : k ≤ 64) : ishr (a : Int) k = ((a / 2 ^ k : Nat) : Int) := by
 unfold ishr
 rw [Nat.min_eq_left hk, Int.fdiv_eq_ediv_of_nonneg _ (by exact_mod_cast Nat.zero_le _)]
 exact_mod_cast rfl
theorem u8_ofInt (a : Nat) : UInt8.ofNat (Int.toNat ((a : Int) % 256)) = UInt8.ofNat a := by
 rw [show Int.toNat ((a : Int) % 256) = a % 256 from by omega]
 apply UInt8.toNat_inj.1
 simp
def putF : Nat → Nat → List UInt8
 | 0, n => [UInt8.ofNat n]
 | f + 1, n => if n < 128 then [UInt8.ofNat n] else UInt8.ofNat (n % 128 + 128) :: putF f (n / 128)
def oneS (n : Int) : List UInt8 := if 0 ≤ n ∧ n ≤ 1099511627775 then putF 6 n.toNat else []
theorem putF_len : ∀ (f n : Nat), (putF f n).length ≤ f + 1
 | 0, _ => by simp [putF]
 | f + 1, n => by
  rw [putF]; split
  ·simp
  ·have := putF_len f (n / 128); simp; omega
theorem oneS_len (n : Int) : (oneS n).length ≤ 7 := by
 unfold oneS; split
 ·exact putF_len 6 _
 ·simp
theorem one_loop : ∀ (f n : Nat) (acc : List UInt8), n < 128 ^ (f + 1) → n < 9223372036854775808 → acc.length ≤ 1000 - f → f ≤ 10 → ∃ (m : Nat) (l : List UInt8), vint_one_1 (n : Int) acc = some ((m : Int), acc ++ l) ∧ l ++ [UInt8.ofNat m] = putF f n ∧ (acc ++ l).length ≤ 1000
 | 0, n, acc, h, h2, ha, _ => by
  refine ⟨n, [], ?_, rfl, by simp; omega⟩
  rw [List.append_nil]
  unfold vint_one_1
  refine loop_out ?_
  show vint_one_1_step (n : Int) acc = _
  unfold vint_one_1_step
  rw [fork_f (by omega)]
 | f + 1, n, acc, h, h2, ha, hf => by
  by_cases hn : n < 128
  ·refine ⟨n, [], ?_, by rw [putF, if_pos hn]; rfl, by simp; omega⟩
   rw [List.append_nil]
   unfold vint_one_1
   refine loop_out ?_
   show vint_one_1_step (n : Int) acc = _
   unfold vint_one_1_step
   rw [fork_f (by omega)]
  ·have hs : vint_one_1_step (n : Int) acc = some (.inl (((n / 128 : Nat) : Int), acc ++ [UInt8.ofNat (n % 128 + 128)])) := by
    unfold vint_one_1_step
    rw [fork_t (by omega), need_true (by simp; omega), band127 n (by omega), bor128 _ (by omega), u8_ofInt, show Int.toNat 7 = 7 from rfl, ishr_nat n 7 (by omega)]
   have hd : n / 128 < 128 ^ (f + 1) := by
    rw [Nat.div_lt_iff_lt_mul (by omega)]
    have : 128 ^ (f + 1 + 1) = 128 ^ (f + 1) * 128 := Nat.pow_succ ..
    omega
   obtain ⟨m, l, h4, h5, h6⟩ := one_loop f (n / 128) (acc ++ [UInt8.ofNat (n % 128 + 128)]) hd (by omega) (by simp; omega) (by omega)
   refine ⟨m, UInt8.ofNat (n % 128 + 128) :: l, ?_, ?_, ?_⟩
   ·unfold vint_one_1 at h4 ⊢
    rw [loop_next (s' := (((n / 128 : Nat) : Int), acc ++ [UInt8.ofNat (n % 128 + 128)])) hs, h4]
    simp
   ·rw [putF, if_neg hn, ← h5]; rfl
   ·simpa using h6
theorem one_eq' (n : Int) : vint_one n = some (oneS n) := by
 unfold vint_one oneS
 by_cases h0 : n < 0
 ·rw [fork_t h0, if_neg (by omega)]
 ·rw [fork_f h0]
  by_cases h1 : 1099511627775 < n
  ·rw [fork_t h1, if_neg (by omega)]
  ·rw [fork_f h1, if_pos (by omega)]
   obtain ⟨k, rfl⟩ := Int.eq_ofNat_of_zero_le (show 0 ≤ n by omega)
   obtain ⟨m, l, h2, h3, h4⟩ := one_loop 6 k [] (by omega) (by omega) (by simp) (by omega)
   rw [h2, andThen_mk]
   simp only [List.nil_append] at h4 ⊢
   rw [need_true (by simp; omega), u8_ofInt, h3]
   rfl
def putS (l : List Int) : List UInt8 := l.flatMap oneS
theorem put_len : ∀ (l : List Int), (putS l).length ≤ 7 * l.length
 | [] => by simp [putS]
 | n :: l => by
  have := put_len l
  have h := oneS_len n
  unfold putS at this ⊢
  rw [List.flatMap_cons, List.length_append, List.length_cons]; omega
theorem flat_take {α β : Type} (f : α → List β) (l : List α) (z : α) {i : Nat} (h : i < l.length) : (l.take (i + 1)).flatMap f = (l.take i).flatMap f ++ f (l.getD i z) := by
 rw [List.take_add_one, List.flatMap_append, List.getD_eq_getElem?_getD]
 congr 1
 rw [List.getElem?_eq_getElem h]
 simp only [Option.toList_some, Option.getD_some, List.flatMap_cons, List.flatMap_nil, List.append_nil]
theorem put_eq (l : List Int) (hl : l.length ≤ 100000000) : vint_Put l = some (putS l) := by
 have main : vint_Put_1 l (l.length : Int) 0 [] = some (putS l) := by
  unfold vint_Put_1
  have := loop_for (step := fun (s : Int × List UInt8) => vint_Put_1_step l (l.length : Int) s.1 s.2) (fun i (_ : Unit) => ((i : Int), putS (l.take i))) (fun _ _ => ()) (fun _ => putS l) l.length (fun _ _ => True) (fun i w hi _ => ⟨?_, trivial⟩) (fun w _ => ?_) l.length 0 () (by omega) trivial
  ·exact this
  ·show vint_Put_1_step l (l.length : Int) (i : Int) (putS (l.take i)) = _
   unfold vint_Put_1_step
   have b := put_len (l.take i)
   have b2 := oneS_len (l.getD i 0)
   rw [List.length_take] at b
   rw [fork_t (by omega), need_true (by omega), one_eq', andThen_mk, Int.toNat_natCast, need_true (by omega), w64_eq (by omega) (by omega)]
   unfold putS
   rw [flat_take oneS l 0 hi]
   rfl
  ·show vint_Put_1_step l (l.length : Int) (l.length : Int) (putS (l.take l.length)) = _
   unfold vint_Put_1_step
   rw [fork_f (by omega), List.take_of_length_le (Nat.le_refl _)]
 unfold vint_Put
 rw [main, andThen_mk]
abbrev Rdr := List UInt8 × Bool × Unit
def numF : Nat → Nat → Nat → List UInt8 → Int × Rdr
 | 0, _, _, l => (0, l, true, ())
 | k + 1, i, acc, [] => (0, [], true, ())
 | k + 1, i, acc, b :: l => if b.toNat < 128 then (if 1099511627775 < acc + b.toNat * 128 ^ i ∨ (b = 0 ∧ 0 < i) then (0, l, true, ()) else (((acc + b.toNat * 128 ^ i : Nat) : Int), l, false, ()))
   else numF k (i + 1) (acc + (b.toNat % 128) * 128 ^ i) l
def numS (r : Rdr) : Int × Rdr := if r.2.1 then (0, (r.1, true, ())) else numF 6 0 0 r.1
theorem putF_small {n : Nat} (h : n < 128) : ∀ f, putF f n = [UInt8.ofNat n]
 | 0 => rfl
 | f + 1 => by rw [putF, if_pos h]
theorem numF_put : ∀ (f k i acc n : Nat) (rest : List UInt8), i + k = 6 → (0 < i → 1 ≤ n) → acc + n * 128 ^ i ≤ 1099511627775 → acc < 128 ^ i → k ≤ f + 1 → (n < 128 → 1 ≤ k) → numF k i acc (putF f n ++ rest) = (((acc + n * 128 ^ i : Nat) : Int), rest, false, ())
 | f, k, i, acc, n, rest, hi, hn, hb, ha, hk, h1 => by
  by_cases hs : n < 128
  ·rw [putF_small hs f]
   obtain ⟨k, rfl⟩ : ∃ k', k = k' + 1 := ⟨k - 1, by have := h1 hs; omega⟩
   show numF (k + 1) i acc (UInt8.ofNat n :: rest) = _
   have hb' : (UInt8.ofNat n).toNat = n := by rw [UInt8.toNat_ofNat']; omega
   rw [numF, hb', if_pos hs, if_neg]
   rintro (h | ⟨h, h0⟩)
   ·omega
   ·have := hn h0
    rw [← UInt8.toNat_inj, hb'] at h
    have : n = 0 := h
    omega
  ·have hpow : 128 ^ (i + 1) = 128 ^ i * 128 := Nat.pow_succ ..
   have hi6 : i < 5 := by
    rcases Nat.lt_or_ge i 5 with h | h
    ·exact h
    ·have : 128 ^ 5 ≤ 128 ^ i := Nat.pow_le_pow_right (by omega) h
     have : 128 * 128 ^ i ≤ n * 128 ^ i := Nat.mul_le_mul_right _ (by omega)
     omega
   obtain ⟨k, rfl⟩ : ∃ k', k = k' + 1 := ⟨k - 1, by omega⟩
   obtain ⟨f, rfl⟩ : ∃ f', f = f' + 1 := ⟨f - 1, by omega⟩
   rw [putF, if_neg hs, List.cons_append]
   have hb' : (UInt8.ofNat (n % 128 + 128)).toNat = n % 128 + 128 := by rw [UInt8.toNat_ofNat']; omega
   rw [numF, hb', if_neg (by omega), show (n % 128 + 128) % 128 = n % 128 from by omega]
   have he : acc + n % 128 * 128 ^ i + n / 128 * 128 ^ (i + 1) = acc + n * 128 ^ i := by
    have hn2 : n * 128 ^ i = (n % 128 + 128 * (n / 128)) * 128 ^ i := by congr 1; omega
    rw [hpow, hn2, Nat.add_mul, Nat.add_assoc]; congr 2; rw [Nat.mul_comm (128 ^ i) 128, ← Nat.mul_assoc, Nat.mul_comm (n / 128) 128]
   have hm : (n % 128) * 128 ^ i ≤ 127 * 128 ^ i := Nat.mul_le_mul_right _ (by omega)
   rw [numF_put f k (i + 1) _ (n / 128) rest (by omega) (fun _ => by omega) (by rw [he]; exact hb) (by omega) (by omega) (fun _ => by omega), he]
theorem num_put (n : Int) (h0 : 0 ≤ n) (h1 : n ≤ 1099511627775) (rest : List UInt8) : numS (oneS n ++ rest, false, ()) = (n, rest, false, ()) := by
 unfold numS oneS
 rw [if_neg (by simp), if_pos ⟨h0, h1⟩]
 have := numF_put 6 6 0 0 n.toNat rest rfl (fun h => by omega) (by omega) (by decide) (by omega) (fun _ => by omega)
 rw [this]
 congr 1
 omega
set_option maxRecDepth 100000
def rotr (x : UInt32) (n : Nat) : UInt32 := UInt32.ofNat (x.toNat <<< (32 - n)) ||| UInt32.ofNat (x.toNat >>> n)
def shr (x : UInt32) (n : Nat) : UInt32 := UInt32.ofNat (x.toNat >>> n)
def byteW (b : List UInt8) (i k : Nat) : UInt32 := UInt32.ofNat (UInt32.toNat (UInt32.ofNat (UInt8.toNat (List.getD b i 0))) <<< k)
def word (b : List UInt8) (i : Nat) : UInt32 := ((byteW b (4 * i) 24 ||| byteW b (4 * i + 1) 16) ||| byteW b (4 * i + 2) 8) ||| UInt32.ofNat (UInt8.toNat (List.getD b (4 * i + 3) 0))
def sprd1 (b : List UInt8) (i : Nat) (w : List UInt32) : List UInt32 := w.set i (word b i)
def sprd2 (i : Nat) (w : List UInt32) : List UInt32 :=
 w.set i (((w.getD (i - 16) 0 + ((rotr (w.getD (i - 15) 0) 7 ^^^ rotr (w.getD (i - 15) 0) 18) ^^^ shr (w.getD (i - 15) 0) 3)) + w.getD (i - 7) 0) + ((rotr (w.getD (i - 2) 0) 17 ^^^ rotr (w.getD (i - 2) 0) 19) ^^^ shr (w.getD (i - 2) 0) 10))
def spreadS (b : List UInt8) : List UInt32 := runFor sprd2 16 48 (runFor (sprd1 b) 0 16 (List.replicate 64 0))
abbrev W8 := UInt32 × UInt32 × UInt32 × UInt32 × UInt32 × UInt32 × UInt32 × UInt32
def roundS (k w : List UInt32) (i : Nat) (s : W8) : W8 :=
 match s with
 | (a, b, c, d, e, f, g, h) =>
  let one := (((h + ((rotr e 6 ^^^ rotr e 11) ^^^ rotr e 25)) + ((e &&& f) ^^^ ((~~~e) &&& g))) + k.getD i 0) + w.getD i 0
  (one + (((rotr a 2 ^^^ rotr a 13) ^^^ rotr a 22) + (((a &&& b) ^^^ (a &&& c)) ^^^ (b &&& c))), a, b, c, d + one, e, f, g)
def list8 (s : W8) : List UInt32 := [s.1, s.2.1, s.2.2.1, s.2.2.2.1, s.2.2.2.2.1, s.2.2.2.2.2.1, s.2.2.2.2.2.2.1, s.2.2.2.2.2.2.2]
def tup8 (h : List UInt32) : W8 := (h.getD 0 0, h.getD 1 0, h.getD 2 0, h.getD 3 0, h.getD 4 0, h.getD 5 0, h.getD 6 0, h.getD 7 0)
def addS (v : List UInt32) (i : Nat) (h : List UInt32) : List UInt32 := h.set i (h.getD i 0 + v.getD i 0)
def mixS (k : List UInt32) (b : List UInt8) (h : List UInt32) : List UInt32 :=
 runFor (addS (list8 (runFor (roundS k (spreadS b)) 0 64 (tup8 h)))) 0 8 h
def kS : List UInt32 := [1116352408, 1899447441, 3049323471, 3921009573, 961987163, 1508970993, 2453635748, 2870763221, 3624381080, 310598401, 607225278, 1426881987, 1925078388, 2162078206, 2614888103, 3248222580, 3835390401, 4022224774, 264347078, 604807628, 770255983, 1249150122, 1555081692, 1996064986, 2554220882, 2821834349, 2952996808, 3210313671, 3336571891, 3584528711, 113926993, 338241895, 666307205, 773529912, 1294757372, 1396182291, 1695183700, 1986661051, 2177026350, 2456956037, 2730485921, 2820302411, 3259730800, 3345764771, 3516065817, 3600352804, 4094571909, 275423344, 430227734, 506948616, 659060556, 883997877, 958139571, 1322822218, 1537002063, 1747873779, 1955562222, 2024104815, 2227730452, 2361852424, 2428436474, 2756734187, 3204031479, 3329325298]
def h0S : List UInt32 := [1779033703, 3144134277, 1013904242, 2773480762, 1359893119, 2600822924, 528734635, 1541459225]
def byteAt (n : UInt64) (i : Nat) : UInt8 := UInt8.ofNat (UInt64.toNat (UInt64.ofNat (UInt64.toNat n >>> (8 * i))))
def bitsOf (b : List UInt8) : UInt64 := UInt64.ofNat b.length * 8
def padS (b : List UInt8) : List UInt8 :=
 b ++ 128 :: (List.replicate ((b.length + 8) / 64 * 64 + 55 - b.length) 0 ++ [byteAt (bitsOf b) 7, byteAt (bitsOf b) 6, byteAt (bitsOf b) 5, byteAt (bitsOf b) 4, byteAt (bitsOf b) 3, byteAt (bitsOf b) 2, byteAt (bitsOf b) 1, byteAt (bitsOf b) 0])
def blocksS : Nat → List UInt8 → List UInt32 → List UInt32
 | 0, _, h => h
 | n + 1, l, h => blocksS n (l.drop 64) (mixS kS (l.take 64) h)
def outB (x : UInt32) (j : Nat) : UInt8 := UInt8.ofNat (UInt32.toNat (UInt32.ofNat (UInt32.toNat x >>> (24 - 8 * j))))
def outS (h : List UInt32) : List UInt8 := h.flatMap fun x => [outB x 0, outB x 1, outB x 2, outB x 3]
def sha (b : List UInt8) : List UInt8 := outS (blocksS ((b.length + 8) / 64 + 1) (padS b) h0S)
theorem right7 (x : UInt32) : sha_right x 7 = some (rotr x 7) := rfl
theorem right18 (x : UInt32) : sha_right x 18 = some (rotr x 18) := rfl
theorem right17 (x : UInt32) : sha_right x 17 = some (rotr x 17) := rfl
theorem right19 (x : UInt32) : sha_right x 19 = some (rotr x 19) := rfl
theorem right6 (x : UInt32) : sha_right x 6 = some (rotr x 6) := rfl
theorem right11 (x : UInt32) : sha_right x 11 = some (rotr x 11) := rfl
theorem right25 (x : UInt32) : sha_right x 25 = some (rotr x 25) := rfl
theorem right2 (x : UInt32) : sha_right x 2 = some (rotr x 2) := rfl
theorem right13 (x : UInt32) : sha_right x 13 = some (rotr x 13) := rfl
theorem right22 (x : UInt32) : sha_right x 22 = some (rotr x 22) := rfl
theorem spread1_step (b : List UInt8) (hb : b.length = 64) (z w : List UInt32) {i : Nat} (hi : i < 16) :
  sha_spread_1_step b (i : Int) z w = some (.inl (((i + 1 : Nat) : Int), sprd1 b i w)) := by
 unfold sha_spread_1_step
 have e0 : Int.toNat (4 * (i : Int)) = 4 * i := by omega
 have e1 : Int.toNat (4 * (i : Int) + 1) = 4 * i + 1 := by omega
 have e2 : Int.toNat (4 * (i : Int) + 2) = 4 * i + 2 := by omega
 have e3 : Int.toNat (4 * (i : Int) + 3) = 4 * i + 3 := by omega
 simp (disch := omega) only [fork_t, w64_eq, need_true, hb, e0, e1, e2, e3, Int.toNat_natCast]
 rfl
theorem spread_1 (b : List UInt8) (hb : b.length = 64) (z : List UInt32) : sha_spread_1 b 0 z z = some (z, runFor (sprd1 b) 0 16 z) := by
 unfold sha_spread_1
 refine loop_for (fun i w => ((i : Int), w)) (sprd1 b) (fun w => (z, w)) 16 (fun _ _ => True) (fun i w hi _ => ⟨spread1_step b hb z w hi, trivial⟩) (fun w _ => ?_) 16 0 z rfl trivial
 unfold sha_spread_1_step
 rfl
theorem spread2_step (z w : List UInt32) {i : Nat} (h1 : 16 ≤ i) (hi : i < 64) :
  sha_spread_2_step (i : Int) z w = some (.inl (((i + 1 : Nat) : Int), sprd2 i w)) := by
 unfold sha_spread_2_step
 have e0 : Int.toNat ((i : Int) - 15) = i - 15 := by omega
 have e1 : Int.toNat ((i : Int) - 2) = i - 2 := by omega
 have e2 : Int.toNat ((i : Int) - 16) = i - 16 := by omega
 have e3 : Int.toNat ((i : Int) - 7) = i - 7 := by omega
 simp (disch := omega) only [fork_t, w64_eq, need_true, e0, e1, e2, e3, Int.toNat_natCast, right7, right18, right17, right19, andThen_mk]
 rfl
theorem spread_2 (z w : List UInt32) : sha_spread_2 16 z w = some (z, runFor sprd2 16 48 w) := by
 unfold sha_spread_2
 refine loop_for (fun i w => ((i : Int), w)) sprd2 (fun w => (z, w)) 64 (fun i _ => 16 ≤ i) (fun i w hi h => ⟨spread2_step z w h hi, by omega⟩) (fun w _ => ?_) 48 16 w rfl (Nat.le_refl _)
 unfold sha_spread_2_step
 rfl
theorem spread_eq (b : List UInt8) (hb : b.length = 64) : sha_spread b = some (spreadS b) := by
 unfold sha_spread
 rw [spread_1 b hb, andThen_mk, spread_2, andThen_mk, spreadS]
theorem mix1_step (k w hz : List UInt32) (s : W8) {i : Nat} (hi : i < 64) :
  sha_mix_655a_1_step s.1 s.2.1 s.2.2.1 s.2.2.2.1 s.2.2.2.2.1 s.2.2.2.2.2.1 s.2.2.2.2.2.2.1 s.2.2.2.2.2.2.2 (i : Int) hz k w =
   some (.inl ((roundS k w i s).1, (roundS k w i s).2.1, (roundS k w i s).2.2.1, (roundS k w i s).2.2.2.1, (roundS k w i s).2.2.2.2.1, (roundS k w i s).2.2.2.2.2.1, (roundS k w i s).2.2.2.2.2.2.1, (roundS k w i s).2.2.2.2.2.2.2, ((i + 1 : Nat) : Int))) := by
 obtain ⟨a, b, c, d, e, f, g, h⟩ := s
 unfold sha_mix_655a_1_step
 simp (disch := omega) only [fork_t, w64_eq, need_true, Int.toNat_natCast, right6, right11, right25, right2, right13, right22, andThen_mk]
 rfl
theorem mix_1 (k w hz : List UInt32) (s : W8) : sha_mix_655a_1 s.1 s.2.1 s.2.2.1 s.2.2.2.1 s.2.2.2.2.1 s.2.2.2.2.2.1 s.2.2.2.2.2.2.1 s.2.2.2.2.2.2.2 0 hz k w =
   some ((runFor (roundS k w) 0 64 s).1, (runFor (roundS k w) 0 64 s).2.1, (runFor (roundS k w) 0 64 s).2.2.1, (runFor (roundS k w) 0 64 s).2.2.2.1, (runFor (roundS k w) 0 64 s).2.2.2.2.1, (runFor (roundS k w) 0 64 s).2.2.2.2.2.1, (runFor (roundS k w) 0 64 s).2.2.2.2.2.2.1, (runFor (roundS k w) 0 64 s).2.2.2.2.2.2.2, hz, k) := by
 unfold sha_mix_655a_1
 refine loop_for (fun i (s : W8) => (s.1, s.2.1, s.2.2.1, s.2.2.2.1, s.2.2.2.2.1, s.2.2.2.2.2.1, s.2.2.2.2.2.2.1, s.2.2.2.2.2.2.2, (i : Int))) (roundS k w)
  (fun (s : W8) => (s.1, s.2.1, s.2.2.1, s.2.2.2.1, s.2.2.2.2.1, s.2.2.2.2.2.1, s.2.2.2.2.2.2.1, s.2.2.2.2.2.2.2, hz, k)) 64 (fun _ _ => True) (fun i s hi _ => ⟨mix1_step k w hz s hi, trivial⟩) (fun s _ => ?_) 64 0 s rfl trivial
 unfold sha_mix_655a_1_step
 rfl
theorem mix_2 (v h k : List UInt32) : sha_mix_655a_2 v 0 h k = some (runFor (addS v) 0 8 h, k) := by
 unfold sha_mix_655a_2
 refine loop_for (fun i w => ((i : Int), w)) (addS v) (fun w => (w, k)) 8 (fun _ _ => True) (fun i w hi _ => ⟨?_, trivial⟩) (fun w _ => ?_) 8 0 h rfl trivial
 ·unfold sha_mix_655a_2_step
  simp (disch := omega) only [fork_t, w64_eq, need_true, Int.toNat_natCast]
  rfl
 ·unfold sha_mix_655a_2_step
  rfl
theorem mix_eq (b : List UInt8) (hb : b.length = 64) (h k : List UInt32) : sha_mix_655a b h k = some (mixS k b h, k) := by
 unfold sha_mix_655a
 rw [spread_eq b hb, andThen_mk]
 have := mix_1 k (spreadS b) h (tup8 h)
 simp only [tup8] at this
 rw [show (Int.toNat (0 : Int)) = 0 from rfl, show (Int.toNat (1 : Int)) = 1 from rfl, show (Int.toNat (2 : Int)) = 2 from rfl, show (Int.toNat (3 : Int)) = 3 from rfl, show (Int.toNat (4 : Int)) = 4 from rfl,
  show (Int.toNat (5 : Int)) = 5 from rfl, show (Int.toNat (6 : Int)) = 6 from rfl, show (Int.toNat (7 : Int)) = 7 from rfl, this, andThen_mk, mix_2, andThen_mk]
 rfl
set_option maxRecDepth 100000
theorem blocks_eq (n : Nat) (h : n ≤ 1073741824) : sha_Blocks (n : Int) = some (((n + 8) / 64 + 1 : Nat) : Int) := by
 unfold sha_Blocks
 have e : Int.tdiv ((n : Int) + 8) 64 = (((n + 8) / 64 : Nat) : Int) := by
  rw [Int.tdiv_eq_ediv_of_nonneg (by omega)]; omega
 simp (disch := omega) only [w64_eq, e]
 rfl
theorem set_app {α : Type} (a l : List α) (k : Nat) (x : α) : (a ++ l).set (a.length + k) x = a ++ l.set k x := by
 rw [List.set_append_right _ _ (by omega)]
 congr 2; omega
theorem padded_loop (x0 : UInt64) (n : Nat) (hn : 8 ≤ n) (hn2 : n ≤ 2147483648) (l : List UInt8) (hl : l.length = n) : sha_padded_1 x0 0 l = some (runFor (fun i (w : List UInt8) => w.set (n - 1 - i) (byteAt x0 i)) 0 8 l) := by
 unfold sha_padded_1
 refine loop_for (fun i w => ((i : Int), w)) (fun i (w : List UInt8) => w.set (n - 1 - i) (byteAt x0 i)) (fun w => w) 8 (fun _ w => w.length = n) (fun i w hi hw => ⟨?_, by simp [hw]⟩) (fun w _ => ?_) 8 0 l rfl hl
 ·unfold sha_padded_1_step
  have e0 : Int.toNat ((n : Int) - 1 - (i : Int)) = n - 1 - i := by omega
  have e1 : Int.toNat (8 * (i : Int)) = 8 * i := by omega
  simp (disch := omega) only [fork_t, w64_eq, need_true, hw, e0, e1]
  rfl
 ·unfold sha_padded_1_step
  rfl
theorem padded_eq (b : List UInt8) (hb : b.length ≤ 1073741824) : sha_padded b = some (padS b) := by
 unfold sha_padded
 rw [blocks_eq _ hb, andThen_mk]
 have hN : w64 ((((b.length + 8) / 64 + 1 : Nat) : Int) * 64) = (((b.length + 8) / 64 * 64 + 64 : Nat) : Int) := by
  rw [w64_eq (by omega) (by omega)]; omega
 generalize hn : (b.length + 8) / 64 * 64 + 64 = n at hN
 rw [hN, need_true (by omega), Int.toNat_natCast, List.length_replicate, List.take_of_length_le (by omega), List.drop_replicate]
 have hz : n - b.length = ((b.length + 8) / 64 * 64 + 55 - b.length) + 1 + 8 := by omega
 have hl : (b ++ List.replicate (n - b.length) (0 : UInt8)).length = n := by simp; omega
 rw [hl, need_true (by omega), Int.toNat_natCast]
 have hbits : UInt64.ofNat (Int.toNat ((b.length : Int) % 18446744073709551616)) * 8 = bitsOf b := by
  unfold bitsOf; congr 2; omega
 rw [hbits, padded_loop (bitsOf b) n (by omega) (by omega) _ (by rw [List.length_set, hl]), andThen_mk]
 congr 1
 have h1 : (b ++ List.replicate (n - b.length) (0 : UInt8)).set b.length 128 = (b ++ 128 :: List.replicate ((b.length + 8) / 64 * 64 + 55 - b.length) 0) ++ [0, 0, 0, 0, 0, 0, 0, 0] := by
  rw [hz]
  generalize (b.length + 8) / 64 * 64 + 55 - b.length = z
  have h := set_app b (List.replicate ((z + 8) + 1) (0 : UInt8)) 0 128
  rw [Nat.add_zero b.length] at h
  rw [show z + 1 + 8 = (z + 8) + 1 from by omega, h, List.replicate_succ, List.set_cons_zero, ← List.replicate_append_replicate, List.append_assoc]
  rfl
 rw [h1]
 have hA : (b ++ 128 :: List.replicate ((b.length + 8) / 64 * 64 + 55 - b.length) (0 : UInt8)).length = n - 8 := by simp; omega
 generalize hA2 : (b ++ 128 :: List.replicate ((b.length + 8) / 64 * 64 + 55 - b.length) (0 : UInt8)) = A at hA
 have ix : ∀ i, i < 8 → n - 1 - i = A.length + (7 - i) := by intro i hi; omega
 simp only [runFor]
 rw [ix 0 (by omega), ix (0 + 1) (by omega), ix (0 + 1 + 1) (by omega), ix (0 + 1 + 1 + 1) (by omega), ix (0 + 1 + 1 + 1 + 1) (by omega), ix (0 + 1 + 1 + 1 + 1 + 1) (by omega), ix (0 + 1 + 1 + 1 + 1 + 1 + 1) (by omega), ix (0 + 1 + 1 + 1 + 1 + 1 + 1 + 1) (by omega)]
 simp only [set_app]
 unfold padS
 rw [show ∀ x : List UInt8, b ++ 128 :: (List.replicate ((b.length + 8) / 64 * 64 + 55 - b.length) 0 ++ x) = A ++ x from fun x => by rw [← hA2]; simp]
 rfl
theorem pad_len (b : List UInt8) : (padS b).length = 64 * ((b.length + 8) / 64 + 1) := by
 unfold padS
 simp
 omega
theorem runFor_len {α : Type} {f : Nat → List α → List α} (h : ∀ i w, (f i w).length = w.length) : ∀ (k i : Nat) (w : List α), (runFor f i k w).length = w.length
 | 0, _, _ => rfl
 | k + 1, i, w => by rw [runFor, runFor_len h k, h]
theorem mixS_len (k : List UInt32) (b : List UInt8) (h : List UInt32) : (mixS k b h).length = h.length := runFor_len (fun i w => by simp [addS]) _ _ _
theorem blocksS_len : ∀ (n : Nat) (l : List UInt8) (h : List UInt32), (blocksS n l h).length = h.length
 | 0, _, _ => rfl
 | n + 1, l, h => by rw [blocksS, blocksS_len n, mixS_len]
theorem sum_1 (out : List UInt8) : ∀ (n : Nat) (l : List UInt8), l.length = 64 * n → l.length ≤ 2147483648 → ∀ h, sha_Sum_1 l out h kS = some (out, blocksS n l h)
 | 0, l, hl, _, h => by
  unfold sha_Sum_1
  refine loop_out ?_
  unfold sha_Sum_1_step
  show fork (decide ((0 : Int) < (l.length : Int))) _ _ = _
  rw [fork_f (by omega)]; rfl
 | n + 1, l, hl, hl2, h => by
  have hm := mix_eq (l.take 64) (by rw [List.length_take]; omega) h kS
  have hs : sha_Sum_1_step l out h kS = some (.inl (l.drop 64, mixS kS (l.take 64) h, kS)) := by
   unfold sha_Sum_1_step
   rw [fork_t (by omega), need_true (by omega), show cutL l (0 : Int) (64 : Int) = l.take 64 from rfl, hm, andThen_mk, need_true (by omega)]
   have : cutL l (64 : Int) (l.length : Int) = l.drop 64 := by
    unfold cutL; rw [Int.toNat_natCast, List.take_of_length_le (Nat.le_refl _)]; rfl
   rw [this]
  have ih := sum_1 out n (l.drop 64) (by rw [List.length_drop]; omega) (by rw [List.length_drop]; omega) (mixS kS (l.take 64) h)
  unfold sha_Sum_1 at ih ⊢
  rw [loop_next (s' := (l.drop 64, mixS kS (l.take 64) h, kS)) hs, ih]
  rfl
def outRow (x : UInt32) (i : Nat) (acc : List UInt8) : List UInt8 := runFor (fun j (acc : List UInt8) => acc.set (4 * i + j) (outB x j)) 0 4 acc
theorem sum_2 (x : UInt32) (h : List UInt32) (z acc : List UInt8) {i : Nat} (hi : i < 8) : sha_Sum_2 (i : Int) x h (i : Int) 0 z acc = some (h, (i : Int), z, outRow x i acc) := by
 unfold sha_Sum_2
 refine loop_for (fun j acc => ((j : Int), acc)) (fun j (acc : List UInt8) => acc.set (4 * i + j) (outB x j)) (fun acc => (h, (i : Int), z, acc)) 4 (fun _ _ => True) (fun j acc hj _ => ⟨?_, trivial⟩) (fun acc _ => ?_) 4 0 acc rfl trivial
 ·unfold sha_Sum_2_step
  have e0 : Int.toNat (4 * (i : Int) + (j : Int)) = 4 * i + j := by omega
  have e1 : Int.toNat (24 - 8 * (j : Int)) = 24 - 8 * j := by omega
  simp (disch := omega) only [fork_t, w64_eq, need_true, e0, e1]
  rfl
 ·unfold sha_Sum_2_step
  rfl
theorem sum_3 (h : List UInt32) (z acc : List UInt8) : sha_Sum_3 h 0 z acc = some (z, runFor (fun i acc => outRow (h.getD i 0) i acc) 0 8 acc) := by
 unfold sha_Sum_3
 refine loop_for (fun i acc => (h, (i : Int), z, acc)) (fun i acc => outRow (h.getD i 0) i acc) (fun acc => (z, acc)) 8 (fun _ _ => True) (fun i acc hi _ => ⟨?_, trivial⟩) (fun acc _ => ?_) 8 0 acc rfl trivial
 ·show sha_Sum_3_step h (i : Int) z acc = _
  unfold sha_Sum_3_step
  rw [fork_t (by omega), need_true (by omega), Int.toNat_natCast, sum_2 _ _ _ _ hi, andThen_mk]
  rw [w64_eq (by show (-9223372036854775808 : Int) ≤ (i : Int) + 1; omega) (by show (i : Int) + 1 ≤ 9223372036854775807; omega)]
  rfl
 ·unfold sha_Sum_3_step
  rfl
theorem out_eq8 (a b c d e f g i : UInt32) : runFor (fun j acc => outRow (List.getD [a, b, c, d, e, f, g, i] j 0) j acc) 0 8 (List.replicate 32 (0 : UInt8)) = outS [a, b, c, d, e, f, g, i] := by kernel_rfl
theorem out_eq (h : List UInt32) (hh : h.length = 8) : runFor (fun i acc => outRow (h.getD i 0) i acc) 0 8 (List.replicate 32 (0 : UInt8)) = outS h := by
 match h, hh with
 | [a, b, c, d, e, f, g, i], _ => exact out_eq8 a b c d e f g i
theorem first_eq : sha_first = some h0S := by kernel_rfl
theorem added_eq : sha_added = some kS := by kernel_rfl
theorem sum_eq (b : List UInt8) (hb : b.length ≤ 1073741824) : sha_Sum b = some (sha b) := by
 unfold sha_Sum
 rw [first_eq, andThen_mk, added_eq, andThen_mk, padded_eq b hb, andThen_mk, sum_1 _ _ _ (pad_len b) (by rw [pad_len]; omega), andThen_mk]
 simp only [sum_3, andThen_mk]
 rw [out_eq _ (by rw [blocksS_len]; rfl)]
 rfl
theorem sha_len (b : List UInt8) : (sha b).length = 32 := by
 unfold sha outS
 have : (blocksS ((b.length + 8) / 64 + 1) (padS b) h0S).length = 8 := by rw [blocksS_len]; rfl
 generalize blocksS ((b.length + 8) / 64 + 1) (padS b) h0S = h at this
 match h, this with
 | [a, b, c, d, e, f, g, i], _ => rfl
theorem getD_take {α : Type} (l : List (List α)) {i : Nat} (h : i < l.length) : (l.take i).flatten ++ l.getD i [] = (l.take (i + 1)).flatten := by
 rw [List.take_add_one, List.flatten_append, List.getD_eq_getElem?_getD, List.getElem?_eq_getElem h]
 simp
theorem take_flat_le {α : Type} (l : List (List α)) (i : Nat) : ((l.take i).flatten).length ≤ l.flatten.length := by
 conv => rhs; rw [← List.take_append_drop i l]
 rw [List.flatten_append, List.length_append]; omega
theorem tagged_eq (t : UInt8) (l : List (List UInt8)) (h : l.flatten.length ≤ 1073741823) (hl : l.length ≤ 1073741823) : sha_Tagged t l = some (sha (t :: l.flatten)) := by
 unfold sha_Tagged
 have : ∀ z, sha_Tagged_1 l (l.length : Int) 0 z [t] = some (z, t :: l.flatten) := by
  intro z
  unfold sha_Tagged_1
  have := loop_for (step := fun (s : Int × List UInt8) => sha_Tagged_1_step l (l.length : Int) s.1 z s.2) (fun i (_ : Unit) => ((i : Int), t :: (l.take i).flatten)) (fun _ _ => ()) (fun _ => (z, t :: l.flatten)) l.length (fun _ _ => True) (fun i w hi _ => ⟨?_, trivial⟩) (fun w _ => ?_) l.length 0 () (by omega) trivial
  ·exact this
  ·unfold sha_Tagged_1_step
   have e := getD_take l hi
   have le := take_flat_le l (i + 1)
   rw [← e, List.length_append] at le
   simp (disch := omega) only [fork_t, w64_eq, need_true, Int.toNat_natCast]
   rw [need_true (by rw [List.length_cons]; omega), List.cons_append, e]
   rfl
  ·unfold sha_Tagged_1_step
   rw [fork_f (by omega), List.take_of_length_le (Nat.le_refl _)]
 rw [this, andThen_mk]
 simp only []
 rw [sum_eq _ (by rw [List.length_cons]; omega), andThen_mk]
set_option maxRecDepth 100000
theorem rotr_comm (x : UInt32) (n : Nat) : UInt32.ofNat (x.toNat >>> n) ||| UInt32.ofNat (x.toNat <<< (32 - n)) = rotr x n := UInt32.or_comm _ _
theorem turn7 (x : UInt32) : affiantref1_turn x 7 = some (rotr x 7) := congrArg some (rotr_comm x 7)
theorem turn18 (x : UInt32) : affiantref1_turn x 18 = some (rotr x 18) := congrArg some (rotr_comm x 18)
theorem turn17 (x : UInt32) : affiantref1_turn x 17 = some (rotr x 17) := congrArg some (rotr_comm x 17)
theorem turn19 (x : UInt32) : affiantref1_turn x 19 = some (rotr x 19) := congrArg some (rotr_comm x 19)
theorem turn6 (x : UInt32) : affiantref1_turn x 6 = some (rotr x 6) := congrArg some (rotr_comm x 6)
theorem turn11 (x : UInt32) : affiantref1_turn x 11 = some (rotr x 11) := congrArg some (rotr_comm x 11)
theorem turn25 (x : UInt32) : affiantref1_turn x 25 = some (rotr x 25) := congrArg some (rotr_comm x 25)
theorem turn2 (x : UInt32) : affiantref1_turn x 2 = some (rotr x 2) := congrArg some (rotr_comm x 2)
theorem turn13 (x : UInt32) : affiantref1_turn x 13 = some (rotr x 13) := congrArg some (rotr_comm x 13)
theorem turn22 (x : UInt32) : affiantref1_turn x 22 = some (rotr x 22) := congrArg some (rotr_comm x 22)
theorem rblock_1 (b : List UInt8) (hb : b.length = 64) (k h v z : List UInt32) : affiantref1_block_1 b k 0 h v z = some (k, h, v, runFor (sprd1 b) 0 16 z) := by
 unfold affiantref1_block_1
 refine loop_for (fun i w => ((i : Int), w)) (sprd1 b) (fun w => (k, h, v, w)) 16 (fun _ _ => True) (fun i w hi _ => ⟨?_, trivial⟩) (fun w _ => ?_) 16 0 z rfl trivial
 ·unfold affiantref1_block_1_step
  have e0 : Int.toNat (4 * (i : Int)) = 4 * i := by omega
  have e1 : Int.toNat (4 * (i : Int) + 1) = 4 * i + 1 := by omega
  have e2 : Int.toNat (4 * (i : Int) + 2) = 4 * i + 2 := by omega
  have e3 : Int.toNat (4 * (i : Int) + 3) = 4 * i + 3 := by omega
  simp (disch := omega) only [fork_t, w64_eq, need_true, hb, e0, e1, e2, e3, Int.toNat_natCast]
  rfl
 ·unfold affiantref1_block_1_step
  rfl
theorem rblock_2 (k h v z : List UInt32) : affiantref1_block_2 k 16 h v z = some (k, h, v, runFor sprd2 16 48 z) := by
 unfold affiantref1_block_2
 refine loop_for (fun i w => ((i : Int), w)) sprd2 (fun w => (k, h, v, w)) 64 (fun i _ => 16 ≤ i) (fun i w hi hh => ⟨?_, by omega⟩) (fun w _ => ?_) 48 16 z rfl (Nat.le_refl _)
 ·unfold affiantref1_block_2_step
  have e0 : Int.toNat ((i : Int) - 15) = i - 15 := by omega
  have e1 : Int.toNat ((i : Int) - 2) = i - 2 := by omega
  have e2 : Int.toNat ((i : Int) - 16) = i - 16 := by omega
  have e3 : Int.toNat ((i : Int) - 7) = i - 7 := by omega
  simp (disch := omega) only [fork_t, w64_eq, need_true, e0, e1, e2, e3, Int.toNat_natCast, turn7, turn18, turn17, turn19, andThen_mk]
  rfl
 ·unfold affiantref1_block_2_step
  rfl
theorem rblock_3 (k h v w : List UInt32) (hk : k.length = 64) (s : W8) : affiantref1_block_3 k 0 h v w (list8 s) = some (h, v, list8 (runFor (roundS k w) 0 64 s)) := by
 unfold affiantref1_block_3
 refine loop_for (fun i (s : W8) => ((i : Int), list8 s)) (roundS k w) (fun s => (h, v, list8 s)) 64 (fun _ _ => True) (fun i s hi _ => ⟨?_, trivial⟩) (fun s _ => ?_) 64 0 s rfl trivial
 ·obtain ⟨a, b, c, d, e, f, g, x⟩ := s
  unfold affiantref1_block_3_step
  simp (disch := omega) only [fork_t, w64_eq, need_true, hk, Int.toNat_natCast, turn6, turn11, turn25, turn2, turn13, turn22, andThen_mk]
  rw [show roundS k w i (a, b, c, d, e, f, g, x) = ((((((x + ((rotr e 6 ^^^ rotr e 11) ^^^ rotr e 25)) + ((e &&& f) ^^^ ((~~~e) &&& g))) + k.getD i 0) + w.getD i 0) + ((rotr a 2 ^^^ rotr a 13) ^^^ rotr a 22)) + (((a &&& b) ^^^ (a &&& c)) ^^^ (b &&& c)), a, b, c,
   d + ((((x + ((rotr e 6 ^^^ rotr e 11) ^^^ rotr e 25)) + ((e &&& f) ^^^ ((~~~e) &&& g))) + k.getD i 0) + w.getD i 0), e, f, g) from by simp only [roundS, UInt32.add_assoc]]
  rfl
 ·unfold affiantref1_block_3_step
  rfl
theorem rblock_4 (h z v : List UInt32) : affiantref1_block_4 0 h z v = some (runFor (addS v) 0 8 h, z) := by
 unfold affiantref1_block_4
 refine loop_for (fun i w => ((i : Int), w)) (addS v) (fun w => (w, z)) 8 (fun _ _ => True) (fun i w hi _ => ⟨?_, trivial⟩) (fun w _ => ?_) 8 0 h rfl trivial
 ·unfold affiantref1_block_4_step
  simp (disch := omega) only [fork_t, w64_eq, need_true, Int.toNat_natCast]
  rfl
 ·unfold affiantref1_block_4_step
  rfl
theorem list8_tup8 (h : List UInt32) (hh : h.length = 8) : list8 (tup8 h) = h := by
 match h, hh with
 | [a, b, c, d, e, f, g, i], _ => rfl
theorem rblock_eq (h : List UInt32) (hh : h.length = 8) (b : List UInt8) (hb : b.length = 64) (k : List UInt32) (hk : k.length = 64) : affiantref1_block h b k = some (mixS k b h) := by
 unfold affiantref1_block
 simp only [rblock_1 b hb, rblock_2, andThen_mk]
 have h3 := rblock_3 k h (List.replicate 8 0) (spreadS b) hk (tup8 h)
 rw [list8_tup8 h hh] at h3
 rw [show runFor sprd2 16 48 (runFor (sprd1 b) 0 16 (List.replicate 64 0)) = spreadS b from by rw [spreadS], h3, andThen_mk]
 simp only [rblock_4, andThen_mk]
 rw [mixS]
theorem tmod64 (n : Nat) : Int.tmod (n : Int) 64 = ((n % 64 : Nat) : Int) := by
 rw [Int.tmod_eq_emod_of_nonneg (by omega)]; omega
theorem rsum_1 (b : List UInt8) (hb : b.length ≤ 1073741824) (out : List UInt8) (k h : List UInt32) :
  affiantref1_Sum_1 b out k h (b ++ [128]) = some (b, out, k, h, (b ++ [128]) ++ List.replicate ((b.length + 8) / 64 * 64 + 55 - b.length) 0) := by
 unfold affiantref1_Sum_1
 generalize hz : (b.length + 8) / 64 * 64 + 55 - b.length = z
 have := loop_for (step := fun s => affiantref1_Sum_1_step b out k h s) (fun i (_ : Unit) => (b ++ [128]) ++ List.replicate i (0 : UInt8)) (fun _ _ => ()) (fun _ => (b, out, k, h, (b ++ [128]) ++ List.replicate z 0)) z (fun _ _ => True) (fun i w hi _ => ⟨?_, trivial⟩) (fun w _ => ?_) z 0 () (by omega) trivial
 ·simpa using this
 ·unfold affiantref1_Sum_1_step
  rw [tmod64, fork_nf (by simp; omega), need_true (by simp; omega), List.append_assoc, List.append_assoc, List.append_assoc, ← List.replicate_succ']
 ·unfold affiantref1_Sum_1_step
  rw [tmod64, fork_nt (by simp; omega)]
theorem u64_toNat8 {j : Nat} (h : j < 8) : (UInt64.ofNat (Int.toNat ((8 * ((7 : Int) - (j : Int))) % 18446744073709551616))).toNat = 8 * (7 - j) := by
 have : Int.toNat ((8 * ((7 : Int) - (j : Int))) % 18446744073709551616) = 8 * (7 - j) := by omega
 rw [this, UInt64.toNat_ofNat']; omega
theorem rsum_2 (b : List UInt8) (hb : b.length ≤ 1073741824) (out m : List UInt8) (hm : m.length ≤ 1073741924) (k h : List UInt32) :
  affiantref1_Sum_2 b 7 out k h m = some (out, k, h, runFor (fun j (l : List UInt8) => l ++ [byteAt (bitsOf b) (7 - j)]) 0 8 m) := by
 unfold affiantref1_Sum_2
 refine loop_for (step := fun (s : Int × List UInt8) => affiantref1_Sum_2_step b s.1 out k h s.2) (fun j l => ((7 : Int) - (j : Int), l)) (fun j (l : List UInt8) => l ++ [byteAt (bitsOf b) (7 - j)]) (fun l => (out, k, h, l)) 8 (fun j l => l.length = m.length + j) (fun j l hj hl => ⟨?_, by simp [hl]; omega⟩) (fun l _ => ?_) 8 0 m rfl rfl
 ·unfold affiantref1_Sum_2_step
  have hbits : UInt64.ofNat (Int.toNat ((8 * (b.length : Int)) % 18446744073709551616)) = bitsOf b := by
   rw [show Int.toNat ((8 * (b.length : Int)) % 18446744073709551616) = b.length * 8 from by omega, UInt64.ofNat_mul]; rfl
  simp (disch := omega) only [fork_t, w64_eq, hbits]
  rw [need_true (by omega), need_true (by simp; omega), u64_toNat8 hj, Int.toNat_natCast]
  rw [show (7 : Int) - (j : Int) - 1 = 7 - ((j + 1 : Nat) : Int) from by omega]
  rfl
 ·unfold affiantref1_Sum_2_step
  rfl
theorem rsum_3g (l out : List UInt8) (n : Nat) (hl : l.length = 64 * n) (hn : 64 * n ≤ 2147483648) (h : List UInt32) (hh : h.length = 8) :
  affiantref1_Sum_3 l 0 out kS h = some (out, runFor (fun j h => mixS kS ((l.drop (64 * j)).take 64) h) 0 n h) := by
 unfold affiantref1_Sum_3
 refine loop_for (step := fun (s : Int × List UInt32) => affiantref1_Sum_3_step l s.1 out kS s.2) (fun j h => (((64 * j : Nat) : Int), h)) (fun j h => mixS kS ((l.drop (64 * j)).take 64) h) (fun h => (out, h)) n (fun j h => h.length = 8) (fun j h hj hh => ⟨?_, by rw [mixS_len, hh]⟩) (fun l _ => ?_) n 0 h (by omega) hh
 ·unfold affiantref1_Sum_3_step
  have hc : cutL l ((64 * j : Nat) : Int) (((64 * j : Nat) : Int) + 64) = (l.drop (64 * j)).take 64 := by
   unfold cutL
   rw [Int.toNat_natCast, show Int.toNat (((64 * j : Nat) : Int) + 64) = 64 * j + 64 from by omega, List.drop_take]
   congr 1; omega
  simp (disch := omega) only [fork_t, w64_eq, need_true, hc]
  rw [rblock_eq h hh _ (by rw [List.length_take, List.length_drop]; omega) _ rfl, andThen_mk]
  rfl
 ·unfold affiantref1_Sum_3_step
  rw [fork_f (by omega)]
theorem blocksS_run (l : List UInt8) : ∀ (n j : Nat) (h : List UInt32), runFor (fun j h => mixS kS ((l.drop (64 * j)).take 64) h) j n h = blocksS n (l.drop (64 * j)) h
 | 0, _, _ => rfl
 | n + 1, j, h => by
  rw [runFor, blocksS_run l n (j + 1), blocksS, List.drop_drop]
  rfl
def outRow4 (x : UInt32) (i : Nat) (acc : List UInt8) : List UInt8 := (((acc.set (4 * i) (outB x 0)).set (4 * i + 1) (outB x 1)).set (4 * i + 2) (outB x 2)).set (4 * i + 3) (outB x 3)
theorem rsum_4 (h : List UInt32) (z acc : List UInt8) : affiantref1_Sum_4 h 0 z acc = some (z, runFor (fun i acc => outRow4 (h.getD i 0) i acc) 0 8 acc) := by
 unfold affiantref1_Sum_4
 refine loop_for (step := fun (s : Int × List UInt8) => affiantref1_Sum_4_step h s.1 z s.2) (fun i acc => ((i : Int), acc)) (fun i acc => outRow4 (h.getD i 0) i acc) (fun acc => (z, acc)) 8 (fun _ _ => True) (fun i acc hi _ => ⟨?_, trivial⟩) (fun acc _ => ?_) 8 0 acc rfl trivial
 ·unfold affiantref1_Sum_4_step
  have e0 : Int.toNat (4 * (i : Int)) = 4 * i := by omega
  have e1 : Int.toNat (4 * (i : Int) + 1) = 4 * i + 1 := by omega
  have e2 : Int.toNat (4 * (i : Int) + 2) = 4 * i + 2 := by omega
  have e3 : Int.toNat (4 * (i : Int) + 3) = 4 * i + 3 := by omega
  have hx : ∀ x : UInt32, outB x 3 = UInt8.ofNat x.toNat := by intro x; simp [outB]
  simp (disch := omega) only [fork_t, w64_eq, need_true, e0, e1, e2, e3, Int.toNat_natCast]
  rw [outRow4, hx]
  rfl
 ·unfold affiantref1_Sum_4_step
  rfl
theorem rout_eq8 (a b c d e f g i : UInt32) : runFor (fun j acc => outRow4 (List.getD [a, b, c, d, e, f, g, i] j 0) j acc) 0 8 (List.replicate 32 (0 : UInt8)) = outS [a, b, c, d, e, f, g, i] := by kernel_rfl
theorem rout_eq (h : List UInt32) (hh : h.length = 8) : runFor (fun i acc => outRow4 (h.getD i 0) i acc) 0 8 (List.replicate 32 (0 : UInt8)) = outS h := by
 match h, hh with
 | [a, b, c, d, e, f, g, i], _ => exact rout_eq8 a b c d e f g i
theorem const_eq : affiantref1_constants = some kS := by kernel_rfl
theorem rpad_eq (b : List UInt8) : runFor (fun j (l : List UInt8) => l ++ [byteAt (bitsOf b) (7 - j)]) 0 8 ((b ++ [128]) ++ List.replicate ((b.length + 8) / 64 * 64 + 55 - b.length) 0) = padS b := by
 unfold padS
 simp only [runFor, List.append_assoc]
 rfl
theorem rsum_eq (b : List UInt8) (hb : b.length ≤ 1073741824) : affiantref1_Sum b = some (sha b) := by
 unfold affiantref1_Sum
 have h0 : (List.set (List.set (List.set (List.set (List.set (List.set (List.set (List.set (List.replicate 8 (0 : UInt32)) 0 (1779033703 : UInt32)) 1 (3144134277 : UInt32)) 2 (1013904242 : UInt32)) 3 (2773480762 : UInt32)) 4 (1359893119 : UInt32)) 5 (2600822924 : UInt32)) 6 (528734635 : UInt32)) 7 (1541459225 : UInt32)) = h0S := by kernel_rfl
 rw [const_eq, andThen_mk, need_true (by simp; omega), need_true (by simp; omega), h0, List.nil_append, rsum_1 b hb, andThen_mk]
 simp only [rsum_2 b hb _ _ (show ((b ++ [128]) ++ List.replicate ((b.length + 8) / 64 * 64 + 55 - b.length) (0 : UInt8)).length ≤ 1073741924 by simp; omega), andThen_mk, rpad_eq]
 rw [rsum_3g _ _ ((b.length + 8) / 64 + 1) (pad_len b) (by omega) _ rfl, andThen_mk, blocksS_run]
 simp only [rsum_4, andThen_mk]
 rw [rout_eq _ (by rw [blocksS_len]; rfl)]
 rfl
theorem rtagged_eq (t : UInt8) (l : List (List UInt8)) (h : l.flatten.length ≤ 1073741823) (hl : l.length ≤ 1073741823) : affiantref1_Tagged t l = some (sha (t :: l.flatten)) := by
 unfold affiantref1_Tagged
 have : ∀ z, affiantref1_Tagged_1 l (l.length : Int) 0 z [t] = some (z, t :: l.flatten) := by
  intro z
  unfold affiantref1_Tagged_1
  have := loop_for (step := fun (s : Int × List UInt8) => affiantref1_Tagged_1_step l (l.length : Int) s.1 z s.2) (fun i (_ : Unit) => ((i : Int), t :: (l.take i).flatten)) (fun _ _ => ()) (fun _ => (z, t :: l.flatten)) l.length (fun _ _ => True) (fun i w hi _ => ⟨?_, trivial⟩) (fun w _ => ?_) l.length 0 () (by omega) trivial
  ·exact this
  ·unfold affiantref1_Tagged_1_step
   have e := getD_take l hi
   have le := take_flat_le l (i + 1)
   rw [← e, List.length_append] at le
   simp (disch := omega) only [fork_t, w64_eq, need_true, Int.toNat_natCast]
   rw [need_true (by rw [List.length_cons]; omega), List.cons_append, e]
   rfl
  ·unfold affiantref1_Tagged_1_step
   rw [fork_f (by omega), List.take_of_length_le (Nat.le_refl _)]
 rw [this, andThen_mk]
 simp only []
 rw [rsum_eq _ (by rw [List.length_cons]; omega), andThen_mk]
theorem rput_loop : ∀ (f k n : Nat), n < 128 ^ (f + 1) → f < k → f ≤ 100 → n ≤ 1099511627775 → affiantref1_Put_f k (n : Int) = some (putF f n)
 | f, 0, n, h, hk, hf, hn => by omega
 | f, k + 1, n, h, hk, hf, hn => by
  rw [affiantref1_Put_f, fork_f (by omega), fork_f (by omega)]
  by_cases h1 : n < 128
  ·rw [fork_t (by omega), putF_small h1 f, u8_ofInt]
  ·rw [fork_f (by omega)]
   cases f with
   | zero => simp at h; omega
   | succ f =>
    have hd : n / 128 < 128 ^ (f + 1) := by
     rw [Nat.div_lt_iff_lt_mul (by omega)]
     have : 128 ^ (f + 1 + 1) = 128 ^ (f + 1) * 128 := Nat.pow_succ ..
     omega
    rw [show Int.toNat 7 = 7 from rfl, ishr_nat n 7 (by omega), show n / 2 ^ 7 = n / 128 from rfl, rput_loop f k (n / 128) hd (by omega) (by omega) (by omega), andThen_mk, band127 n (by omega), bor128 _ (by omega), u8_ofInt]
    have := putF_len f (n / 128)
    rw [need_true (by simp; omega), putF, if_neg h1]; rfl
theorem rput_eq (n : Int) : affiantref1_Put n = some (oneS n) := by
 unfold affiantref1_Put oneS
 by_cases h0 : n < 0
 ·rw [affiantref1_Put_f, fork_t h0, if_neg (by omega)]
 ·by_cases h1 : 1099511627775 < n
  ·rw [affiantref1_Put_f, fork_f h0, fork_t h1, if_neg (by omega)]
  ·rw [if_pos (by omega)]
   obtain ⟨k, rfl⟩ := Int.eq_ofNat_of_zero_le (show 0 ≤ n by omega)
   exact rput_loop 6 64 k (by omega) (by omega) (by omega) (by omega)
def txtS (x : List UInt8) : List UInt8 := oneS x.length ++ x
theorem txt_len (x : List UInt8) : (txtS x).length ≤ x.length + 7 := by
 have := oneS_len (x.length : Int)
 unfold txtS; rw [List.length_append]; omega
theorem vtext_eq (l : List (List UInt8)) (hl : l.length ≤ 1000) (h : ∀ x ∈ l, x.length ≤ 100000) : vint_Text l = some (l.flatMap txtS) := by
 have hlen : ∀ i, ((l.take i).flatMap txtS).length ≤ 100007 * i := by
  intro i
  have : ∀ (m : List (List UInt8)), (∀ x ∈ m, x.length ≤ 100000) → (m.flatMap txtS).length ≤ 100007 * m.length := by
   intro m
   induction m with
   | nil => intro _; simp
   | cons a m ih => intro hm; have h1 := ih (fun x hx => hm x (List.mem_cons_of_mem _ hx)); have h2 := hm a List.mem_cons_self; have h3 := txt_len a; rw [List.flatMap_cons, List.length_append, List.length_cons]; omega
  have := this (l.take i) fun x hx => h x (List.mem_of_mem_take hx)
  rw [List.length_take] at this; omega
 have main : vint_Text_1 l (l.length : Int) 0 [] = some (l.flatMap txtS) := by
  unfold vint_Text_1
  have := loop_for (step := fun (s : Int × List UInt8) => vint_Text_1_step l (l.length : Int) s.1 s.2) (fun i (_ : Unit) => ((i : Int), (l.take i).flatMap txtS)) (fun _ _ => ()) (fun _ => l.flatMap txtS) l.length (fun _ _ => True) (fun i w hi _ => ⟨?_, trivial⟩) (fun w _ => ?_) l.length 0 () (by omega) trivial
  ·exact this
  ·show vint_Text_1_step l (l.length : Int) (i : Int) ((l.take i).flatMap txtS) = _
   unfold vint_Text_1_step
   have b := hlen i
   have hm : (l.getD i []).length ≤ 100000 := h _ (getD_mem hi)
   have b2 := oneS_len ((l.getD i []).length : Int)
   rw [fork_t (by omega), need_true (by omega), Int.toNat_natCast, one_eq', andThen_mk, need_true (by omega), need_true (by rw [List.length_append]; omega), w64_eq (by omega) (by omega), List.append_assoc, flat_take txtS l [] hi]
   rfl
  ·show vint_Text_1_step l (l.length : Int) (l.length : Int) ((l.take l.length).flatMap txtS) = _
   unfold vint_Text_1_step
   rw [fork_f (by omega), List.take_of_length_le (Nat.le_refl _)]
 unfold vint_Text
 rw [main, andThen_mk]
theorem rtext_eq (x : List UInt8) (hx : x.length ≤ 100000) : affiantref1_Text x = some (txtS x) := by
 have := oneS_len (x.length : Int)
 unfold affiantref1_Text
 rw [rput_eq, andThen_mk, need_true (by omega)]
 rfl
def leftF : Nat → Nat → Nat → Nat
 | 0, k, n => k
 | f + 1, k, n => if 2 * k < n then leftF f (2 * k) n else k
def leftS (n : Nat) : Nat := leftF 40 1 n
theorem pow_help (k f : Nat) : 2 * (2 * k) * 2 ^ f = 2 * k * (2 ^ f * 2) := by
 rw [Nat.mul_comm (2 ^ f) 2, ← Nat.mul_assoc (2 * k) 2 (2 ^ f)]; congr 1; omega
theorem leftF_b : ∀ (f k n : Nat), 1 ≤ k → k < n → n ≤ 2 * k * 2 ^ f → k ≤ leftF f k n ∧ leftF f k n < n ∧ n ≤ 2 * leftF f k n
 | 0, k, n, h1, h2, h3 => by
  simp only [Nat.pow_zero, Nat.mul_one] at h3
  exact ⟨Nat.le_refl _, h2, h3⟩
 | f + 1, k, n, h1, h2, h3 => by
  rw [leftF]
  split
  ·rename_i h
   have := leftF_b f (2 * k) n (by omega) h (by rw [Nat.pow_succ] at h3; rw [pow_help]; exact h3)
   exact ⟨by omega, this.2⟩
  ·exact ⟨Nat.le_refl _, h2, by omega⟩
theorem leftS_b (n : Nat) (h : 2 ≤ n) (h2 : n ≤ 1099511627776) : 1 ≤ leftS n ∧ leftS n < n ∧ n ≤ 2 * leftS n := leftF_b 40 1 n (by omega) (by omega) (by omega)
theorem left_loop : ∀ (f k n : Nat), n ≤ 2 * k * 2 ^ f → 1 ≤ k → n ≤ 1073741824 → k ≤ 1073741824 → tree_left_1 (n : Int) (k : Int) = some ((leftF f k n : Nat) : Int)
 | 0, k, n, h, h1, h2, hk => by
  unfold tree_left_1
  refine loop_out ?_
  unfold tree_left_1_step
  simp only [Nat.pow_zero, Nat.mul_one] at h
  rw [w64_eq (by omega) (by omega), fork_f (by omega)]
  rfl
 | f + 1, k, n, h, h1, h2, hk => by
  rw [leftF]
  split
  ·rename_i hlt
   rw [← left_loop f (2 * k) n (by rw [Nat.pow_succ] at h; rw [pow_help]; exact h) (by omega) h2 (by omega)]
   have hs : tree_left_1_step (n : Int) (k : Int) = some (.inl ((2 * k : Nat) : Int)) := by
    unfold tree_left_1_step
    rw [w64_eq (by omega) (by omega), w64_eq (by omega) (by omega), fork_t (by omega), show (k : Int) * 2 = ((2 * k : Nat) : Int) from by omega]
   unfold tree_left_1
   rw [loop_next hs]
  ·rename_i hlt
   unfold tree_left_1
   refine loop_out ?_
   unfold tree_left_1_step
   rw [w64_eq (by omega) (by omega), fork_f (by omega)]
theorem left_eq (n : Nat) (h : n ≤ 1073741824) : tree_left (n : Int) = some ((leftS n : Nat) : Int) := by
 unfold tree_left
 rw [show (1 : Int) = ((1 : Nat) : Int) from rfl, left_loop 40 1 n (by omega) (by omega) h (by omega), andThen_mk]
 rfl
def rootW (l : List (List UInt8)) : List UInt8 :=
 if h : 2 ≤ l.length ∧ l.length ≤ 1099511627776 then sha (1 :: (rootW (l.take (leftS l.length)) ++ rootW (l.drop (leftS l.length))))
 else if l.length = 0 then sha [2] else sha (0 :: l.getD 0 [])
termination_by l.length
decreasing_by
 ·have := leftS_b l.length h.1 h.2; simp; omega
 ·have := leftS_b l.length h.1 h.2; simp; omega
theorem rootS_ex : ∃ f : List (List UInt8) → List UInt8, ∀ l, f l = if h : 2 ≤ l.length ∧ l.length ≤ 1099511627776 then sha (1 :: (f (l.take (leftS l.length)) ++ f (l.drop (leftS l.length)))) else if l.length = 0 then sha [2] else sha (0 :: l.getD 0 []) :=
 ⟨rootW, fun l => by rw [rootW]⟩
noncomputable def rootS : List (List UInt8) → List UInt8 := Classical.choose rootS_ex
theorem rootS_eq (l : List (List UInt8)) : rootS l = if h : 2 ≤ l.length ∧ l.length ≤ 1099511627776 then sha (1 :: (rootS (l.take (leftS l.length)) ++ rootS (l.drop (leftS l.length)))) else if l.length = 0 then sha [2] else sha (0 :: l.getD 0 []) := Classical.choose_spec rootS_ex l
theorem rootS_len (l : List (List UInt8)) : (rootS l).length = 32 := by
 rw [rootS_eq]; split
 ·exact sha_len _
 ·split <;> exact sha_len _
def innerS (a b : List UInt8) : List UInt8 := sha (1 :: (a ++ b))
def leafS (x : List UInt8) : List UInt8 := sha (0 :: x)
theorem rootS_two (l : List (List UInt8)) (h : 2 ≤ l.length) (h2 : l.length ≤ 1099511627776) : rootS l = innerS (rootS (l.take (leftS l.length))) (rootS (l.drop (leftS l.length))) := by
 rw [rootS_eq, dif_pos ⟨h, h2⟩]; rfl
theorem rootS_one (x : List UInt8) : rootS [x] = leafS x := by
 rw [rootS_eq, dif_neg (by simp), if_neg (by simp)]; rfl
theorem rootS_none : rootS [] = sha [2] := by
 rw [rootS_eq, dif_neg (by simp), if_pos (by simp)]
theorem inner_eq (a b : List UInt8) (ha : a.length = 32) (hb : b.length = 32) : tree_inner a b = some (innerS a b) := by
 unfold tree_inner
 have hf : [a, b].flatten = a ++ b := by simp
 rw [tagged_eq _ _ (by rw [hf, List.length_append]; omega) (by simp), hf]
 rfl
def Small (l : List (List UInt8)) : Prop := ∀ x ∈ l, x.length ≤ 1000000
theorem small_take {l : List (List UInt8)} (h : Small l) (n : Nat) : Small (l.take n) := fun x hx => h x (List.mem_of_mem_take hx)
theorem small_drop {l : List (List UInt8)} (h : Small l) (n : Nat) : Small (l.drop n) := fun x hx => h x (List.mem_of_mem_drop hx)
theorem root_f_eq : ∀ (k : Nat) (l : List (List UInt8)), l.length < k → l.length ≤ 1000 → Small l → tree_Root_f k l = some (rootS l)
 | 0, l, h, _, _ => by omega
 | k + 1, l, h, h2, hl => by
  rw [tree_Root_f]
  match l, h, h2, hl with
  | [], h, h2, hl =>
   rw [fork_t (by simp), tagged_eq _ _ (by simp) (by simp), rootS_none]; rfl
  | [x], h, h2, hl =>
   have hx := hl x (by simp)
   have hf : [List.getD [x] (Int.toNat (0 : Int)) []].flatten = x := by simp
   rw [fork_f (by simp), fork_t (by simp), need_true (by simp), tagged_eq _ _ (by rw [hf]; omega) (by simp), hf, rootS_one]; rfl
  | x :: y :: r, h, h2, hl =>
   have hn : 2 ≤ (x :: y :: r).length := by simp
   generalize x :: y :: r = l at h h2 hl hn
   obtain ⟨b1, b2, b3⟩ := leftS_b l.length hn (by omega)
   rw [fork_f (by omega), fork_f (by omega), left_eq _ (by omega), andThen_mk, need_true (by omega), cut_to, cut_from, Int.toNat_natCast, root_f_eq k (l.take (leftS l.length)) (by rw [List.length_take]; omega) (by rw [List.length_take]; omega) (small_take hl _), andThen_mk, need_true (by omega),
    root_f_eq k (l.drop (leftS l.length)) (by rw [List.length_drop]; omega) (by rw [List.length_drop]; omega) (small_drop hl _), andThen_mk, inner_eq _ _ (rootS_len _) (rootS_len _), andThen_mk, rootS_two l hn (by omega)]
theorem root_eq (l : List (List UInt8)) (h : l.length < 64) (hl : Small l) : tree_Root l = some (rootS l) := root_f_eq 64 l h (by omega) hl
noncomputable def pathF : Nat → List (List UInt8) → Nat → List (List UInt8)
 | 0, _, _ => []
 | f + 1, l, i => if l.length ≤ 1 then [] else if i < leftS l.length then pathF f (l.take (leftS l.length)) i ++ [rootS (l.drop (leftS l.length))]
   else pathF f (l.drop (leftS l.length)) (i - leftS l.length) ++ [rootS (l.take (leftS l.length))]
def sidesF : Nat → Nat → Nat → List Bool
 | 0, _, _ => []
 | f + 1, i, n => if n ≤ 1 then [] else if i < leftS n then true :: sidesF f i (leftS n) else false :: sidesF f (i - leftS n) (n - leftS n)
theorem pathF_fuel : ∀ (f g : Nat) (l : List (List UInt8)) (i : Nat), l.length ≤ f + 1 → l.length ≤ g + 1 → l.length ≤ 1000 → pathF f l i = pathF g l i
 | 0, g, l, i, h, _, _ => by
  cases g with
  | zero => rfl
  | succ g => rw [pathF, pathF, if_pos h]
 | f + 1, 0, l, i, _, h, _ => by rw [pathF, pathF, if_pos h]
 | f + 1, g + 1, l, i, h, h2, h3 => by
  rw [pathF, pathF]
  by_cases h1 : l.length ≤ 1
  ·rw [if_pos h1, if_pos h1]
  ·obtain ⟨b1, b2, b3⟩ := leftS_b l.length (by omega) (by omega)
   rw [if_neg h1, if_neg h1, pathF_fuel f g (l.take (leftS l.length)) i (by rw [List.length_take]; omega) (by rw [List.length_take]; omega) (by rw [List.length_take]; omega), pathF_fuel f g (l.drop (leftS l.length)) _ (by rw [List.length_drop]; omega) (by rw [List.length_drop]; omega) (by rw [List.length_drop]; omega)]
theorem path_sides : ∀ (f : Nat) (l : List (List UInt8)) (i : Nat), l.length ≤ 1000 → (pathF f l i).length = (sidesF f i l.length).length
 | 0, _, _, _ => rfl
 | f + 1, l, i, h => by
  rw [pathF, sidesF]
  by_cases h1 : l.length ≤ 1
  ·rw [if_pos h1, if_pos h1]; rfl
  ·obtain ⟨b1, b2, b3⟩ := leftS_b l.length (by omega) (by omega)
   rw [if_neg h1, if_neg h1]
   by_cases hi : i < leftS l.length
   ·rw [if_pos hi, if_pos hi, List.length_append, path_sides f _ _ (by rw [List.length_take]; omega), List.length_take, Nat.min_eq_left (by omega)]; simp
   ·rw [if_neg hi, if_neg hi, List.length_append, path_sides f _ _ (by rw [List.length_drop]; omega), List.length_drop]; simp
theorem pathF_len : ∀ (f : Nat) (l : List (List UInt8)) (i : Nat), (pathF f l i).length ≤ f
 | 0, _, _ => by simp [pathF]
 | f + 1, l, i => by
  rw [pathF]; split
  ·simp
  ·split
   ·have := pathF_len f (l.take (leftS l.length)) i; simp; omega
   ·have := pathF_len f (l.drop (leftS l.length)) (i - leftS l.length); simp; omega
theorem pathF_32 : ∀ (f : Nat) (l : List (List UInt8)) (i : Nat), ∀ x ∈ pathF f l i, x.length = 32
 | 0, _, _, x, hx => by simp [pathF] at hx
 | f + 1, l, i, x, hx => by
  rw [pathF] at hx; split at hx
  ·simp at hx
  ·split at hx
   ·rcases List.mem_append.1 hx with h | h
    ·exact pathF_32 f _ _ x h
    ·simp at h; rw [h]; exact rootS_len _
   ·rcases List.mem_append.1 hx with h | h
    ·exact pathF_32 f _ _ x h
    ·simp at h; rw [h]; exact rootS_len _
abbrev zT : List UInt8 := List.replicate 32 (0 : UInt8)
noncomputable def pathS (l : List (List UInt8)) (i : Int) : List (List UInt8) := if 0 ≤ i ∧ i < (l.length : Int) then pathF l.length l i.toNat else []
theorem sides_loop : ∀ (f i n : Nat) (acc : List Bool), n ≤ f + 1 → n ≤ 1073741824 → i < n ∨ n = 0 → acc.length ≤ 10000000 - f → f ≤ 5000000 → tree_sides_1 (i : Int) (n : Int) acc = some (acc ++ sidesF f i n)
 | 0, i, n, acc, h, h2, hi, ha, hf => by
  unfold tree_sides_1
  refine loop_out ?_
  unfold tree_sides_1_step
  rw [fork_f (by show ¬ (1 : Int) < (n : Int); omega)]
  simp [sidesF]
 | f + 1, i, n, acc, h, h2, hi, ha, hf => by
  by_cases h1 : n ≤ 1
  ·rw [sidesF, if_pos h1]
   unfold tree_sides_1
   refine loop_out ?_
   unfold tree_sides_1_step
   rw [fork_f (by show ¬ (1 : Int) < (n : Int); omega)]
   simp
  ·obtain ⟨b1, b2, b3⟩ := leftS_b n (by omega) (by omega)
   rw [sidesF, if_neg h1]
   by_cases hl : i < leftS n
   ·rw [if_pos hl, show acc ++ true :: sidesF f i (leftS n) = (acc ++ [true]) ++ sidesF f i (leftS n) from by simp]
    have hst : tree_sides_1_step (i : Int) (n : Int) acc = some (.inl ((i : Int), ((leftS n : Nat) : Int), acc ++ [true])) := by
     unfold tree_sides_1_step
     rw [fork_t (by omega), left_eq _ (by omega), andThen_mk, need_true (by simp; omega), decide_eq_true (show (i : Int) < ((leftS n : Nat) : Int) by omega), fork_tt]
    rw [← sides_loop f i (leftS n) (acc ++ [true]) (by omega) (by omega) (by omega) (by simp; omega) (by omega)]
    unfold tree_sides_1
    rw [loop_next hst]
   ·rw [if_neg hl, show acc ++ false :: sidesF f (i - leftS n) (n - leftS n) = (acc ++ [false]) ++ sidesF f (i - leftS n) (n - leftS n) from by simp]
    have hst : tree_sides_1_step (i : Int) (n : Int) acc = some (.inl (((i - leftS n : Nat) : Int), ((n - leftS n : Nat) : Int), acc ++ [false])) := by
     unfold tree_sides_1_step
     rw [fork_t (by omega), left_eq _ (by omega), andThen_mk, need_true (by simp; omega), decide_eq_false (show ¬ (i : Int) < ((leftS n : Nat) : Int) by omega), fork_ff, w64_eq (by omega) (by omega), w64_eq (by omega) (by omega),
      show (i : Int) - ((leftS n : Nat) : Int) = ((i - leftS n : Nat) : Int) from by omega, show (n : Int) - ((leftS n : Nat) : Int) = ((n - leftS n : Nat) : Int) from by omega]
    rw [← sides_loop f (i - leftS n) (n - leftS n) (acc ++ [false]) (by omega) (by omega) (by omega) (by simp; omega) (by omega)]
    unfold tree_sides_1
    rw [loop_next hst]
theorem sides_eq (i n : Nat) (h : i < n) (hn : n ≤ 1000000) : tree_sides (i : Int) (n : Int) = some (sidesF n i n) := by
 unfold tree_sides
 rw [sides_loop n i n [] (by omega) (by omega) (by omega) (by simp) (by omega), andThen_mk]
 rfl
def isS (i n : Int) : Bool := decide (0 ≤ i) && (decide (i < n) && decide (n ≤ 1048576))
theorem is_eq (i n : Int) : tree_is i n = some (isS i n) := by
 unfold tree_is isS
 simp only [fork_ite]
 cases decide (0 ≤ i) <;> cases decide (i < n) <;> simp
theorem isS_iff (i n : Int) : isS i n = true ↔ 0 ≤ i ∧ i < n ∧ n ≤ 1048576 := by
 unfold isS; simp
theorem depth_eq (i n : Int) (hn : n ≤ 1000000 ∨ 1048576 < n) : tree_Depth i n = some (if isS i n then ((sidesF n.toNat i.toNat n.toNat).length : Int) else -1) := by
 unfold tree_Depth
 rw [is_eq, andThen_mk]
 cases h : isS i n with
 | false => rfl
 | true =>
  obtain ⟨h1, h2, h3⟩ := (isS_iff i n).1 h
  obtain ⟨a, rfl⟩ := Int.eq_ofNat_of_zero_le h1
  obtain ⟨b, rfl⟩ := Int.eq_ofNat_of_zero_le (show 0 ≤ n by omega)
  rw [show (!true) = false from rfl, fork_ff, sides_eq a b (by omega) (by omega), andThen_mk]
  rfl
def climb : List Bool → List (List UInt8) → List UInt8 → List UInt8
 | b :: bs, p :: ps, h => climb bs ps (if b then innerS h p else innerS p h)
 | _, _, h => h
theorem climb_snoc : ∀ (bs : List Bool) (ps : List (List UInt8)) (h : List UInt8) (b : Bool) (p : List UInt8), bs.length = ps.length → climb (bs ++ [b]) (ps ++ [p]) h = if b then innerS (climb bs ps h) p else innerS p (climb bs ps h)
 | [], [], h, b, p, _ => rfl
 | x :: bs, y :: ps, h, b, p, e => by
  show climb (bs ++ [b]) (ps ++ [p]) _ = _
  rw [climb_snoc bs ps _ b p (by simpa using e)]
  rfl
 | [], _ :: _, _, _, _, e => by simp at e
 | _ :: _, [], _, _, _, e => by simp at e
theorem climb_32 : ∀ (bs : List Bool) (ps : List (List UInt8)) (h : List UInt8), h.length = 32 → (climb bs ps h).length = 32
 | [], _, h, e => by simpa [climb] using e
 | _ :: _, [], h, e => by simpa [climb] using e
 | b :: bs, p :: ps, h, e => by
  rw [climb]
  exact climb_32 bs ps _ (by split <;> exact sha_len _)
theorem climb_take (bs : List Bool) (ps : List (List UInt8)) (h : List UInt8) (i : Nat) (h1 : i < bs.length) (h2 : i < ps.length) :
  climb (bs.take (i + 1)) (ps.take (i + 1)) h = if bs.getD i false then innerS (climb (bs.take i) (ps.take i) h) (ps.getD i zT) else innerS (ps.getD i zT) (climb (bs.take i) (ps.take i) h) := by
 rw [List.take_add_one, List.take_add_one, List.getElem?_eq_getElem h1, List.getElem?_eq_getElem h2, Option.toList_some, Option.toList_some, climb_snoc _ _ _ _ _ (by simp; omega)]
 rw [List.getD_eq_getElem?_getD, List.getElem?_eq_getElem h1, List.getD_eq_getElem?_getD, List.getElem?_eq_getElem h2]
 rfl
theorem up_loop (z h : List UInt8) (l : List Bool) (p : List (List UInt8)) (hl : l.length = p.length) (hp : ∀ x ∈ p, x.length = 32) (hh : h.length = 32) (hb : p.length ≤ 100000) : tree_Up_1 p (p.length : Int) 0 z h l = some (z, climb l.reverse p h) := by
 unfold tree_Up_1
 have := loop_for (step := fun (s : Int × List UInt8) => tree_Up_1_step p (p.length : Int) s.1 z s.2 l) (fun i (_ : Unit) => ((i : Int), climb (l.reverse.take i) (p.take i) h)) (fun _ _ => ()) (fun _ => (z, climb l.reverse p h)) p.length (fun _ _ => True) (fun i w hi _ => ⟨?_, trivial⟩) (fun w _ => ?_) p.length 0 () (by omega) trivial
 ·exact this
 ·show tree_Up_1_step p (p.length : Int) (i : Int) z (climb (l.reverse.take i) (p.take i) h) l = _
  unfold tree_Up_1_step
  have hg : (p.getD i (List.replicate 32 0)).length = 32 := by
   rw [List.getD_eq_getElem?_getD, List.getElem?_eq_getElem hi]; exact hp _ (List.getElem_mem _)
  have hc := climb_32 (l.reverse.take i) (p.take i) h hh
  have hr : l.getD (l.length - 1 - i) false = l.reverse.getD i false := by
   rw [List.getD_eq_getElem?_getD, List.getD_eq_getElem?_getD, List.getElem?_reverse (by omega)]
  rw [fork_t (by omega), need_true (by omega), w64_eq (n := (l.length : Int) - 1) (by omega) (by omega), w64_eq (by omega) (by omega), need_true (by omega), show Int.toNat ((l.length : Int) - 1 - (i : Int)) = l.length - 1 - i from by omega, hr, Int.toNat_natCast, inner_eq _ _ hc hg, inner_eq _ _ hg hc, andThen_mk, andThen_mk, w64_eq (by omega) (by omega),
   climb_take _ _ _ _ (by rw [List.length_reverse]; omega) hi]
  cases l.reverse.getD i false <;> rfl
 ·show tree_Up_1_step p (p.length : Int) (p.length : Int) z _ l = _
  unfold tree_Up_1_step
  rw [fork_f (by omega), List.take_of_length_le (Nat.le_refl _), List.take_of_length_le (by rw [List.length_reverse]; omega)]
def upS (leaf : List UInt8) (i n : Int) (p : List (List UInt8)) : List UInt8 × Bool :=
 if isS i n ∧ p.length = (sidesF n.toNat i.toNat n.toNat).length then (climb (sidesF n.toNat i.toNat n.toNat).reverse p (leafS leaf), true) else (zT, false)
theorem up_eq (leaf : List UInt8) (hf : leaf.length ≤ 1000000) (i n : Int) (hn : n ≤ 1000000) (p : List (List UInt8)) (hp : ∀ x ∈ p, x.length = 32) (hb : p.length ≤ 100000) : tree_Up leaf i n p = some (upS leaf i n p) := by
 unfold tree_Up upS
 rw [is_eq, andThen_mk]
 cases h : isS i n with
 | false => rw [if_neg (by simp)]; rfl
 | true =>
  obtain ⟨h1, h2, h3⟩ := (isS_iff i n).1 h
  rw [show (!true) = false from rfl, fork_ff, depth_eq i n (.inl hn), h, if_pos rfl, andThen_mk]
  by_cases e : p.length = (sidesF n.toNat i.toNat n.toNat).length
  ·rw [fork_nt (by omega), if_pos ⟨rfl, e⟩, root_eq [leaf] (by simp) (by intro x hx; simp at hx; rw [hx]; exact hf), andThen_mk]
   have hsd := sides_eq i.toNat n.toNat (by omega) (by omega)
   rw [show ((i.toNat : Nat) : Int) = i from by omega, show ((n.toNat : Nat) : Int) = n from by omega] at hsd
   rw [hsd, andThen_mk, up_loop _ _ _ _ e.symm hp (rootS_len _) hb, andThen_mk, rootS_one]
  ·rw [fork_nf (by omega), if_neg (fun h => e h.2)]
theorem path_up : ∀ (f : Nat) (l : List (List UInt8)) (i : Nat), i < l.length → l.length ≤ f + 1 → l.length ≤ 1000 → climb (sidesF f i l.length).reverse (pathF f l i) (leafS (l.getD i [])) = rootS l
 | 0, l, i, hi, h, h2 => by
  match l, hi, h with
  | [x], hi, h =>
   have : i = 0 := by simp at hi; exact hi
   subst this
   rw [rootS_one]; rfl
 | f + 1, l, i, hi, h, h2 => by
  rw [sidesF, pathF]
  by_cases h1 : l.length ≤ 1
  ·rw [if_pos h1, if_pos h1]
   match l, hi, h1 with
   | [x], hi, h1 =>
    have : i = 0 := by simp at hi; exact hi
    subst this
    rw [rootS_one]; rfl
  ·obtain ⟨b1, b2, b3⟩ := leftS_b l.length (by omega) (by omega)
   rw [if_neg h1, if_neg h1, rootS_two l (by omega) (by omega)]
   by_cases hl : i < leftS l.length
   ·rw [if_pos hl, if_pos hl, List.reverse_cons, climb_snoc _ _ _ _ _ (by rw [List.length_reverse, path_sides f _ _ (by rw [List.length_take]; omega), List.length_take, Nat.min_eq_left (by omega)]), if_pos rfl]
    have ih := path_up f (l.take (leftS l.length)) i (by rw [List.length_take]; omega) (by rw [List.length_take]; omega) (by rw [List.length_take]; omega)
    rw [List.length_take, Nat.min_eq_left (by omega)] at ih
    have hg : (l.take (leftS l.length)).getD i [] = l.getD i [] := by
     rw [List.getD_eq_getElem?_getD, List.getD_eq_getElem?_getD, List.getElem?_take_of_lt hl]
    rw [hg] at ih
    rw [ih]
   ·rw [if_neg hl, if_neg hl, List.reverse_cons, climb_snoc _ _ _ _ _ (by rw [List.length_reverse, path_sides f _ _ (by rw [List.length_drop]; omega), List.length_drop]), if_neg (by simp)]
    have ih := path_up f (l.drop (leftS l.length)) (i - leftS l.length) (by rw [List.length_drop]; omega) (by rw [List.length_drop]; omega) (by rw [List.length_drop]; omega)
    rw [List.length_drop] at ih
    have hg : (l.drop (leftS l.length)).getD (i - leftS l.length) [] = l.getD i [] := by
     rw [List.getD_eq_getElem?_getD, List.getD_eq_getElem?_getD, List.getElem?_drop]; congr 2; omega
    rw [hg] at ih
    rw [ih]
theorem half_loop : ∀ (f k n : Nat), n ≤ 2 * k * 2 ^ f → 1 ≤ k → n ≤ 1073741824 → k ≤ 1073741824 → affiantref1_half_1 (n : Int) (k : Int) = some ((leftF f k n : Nat) : Int)
 | 0, k, n, h, h1, h2, hk => by
  unfold affiantref1_half_1
  refine loop_out ?_
  unfold affiantref1_half_1_step
  simp only [Nat.pow_zero, Nat.mul_one] at h
  rw [w64_eq (by omega) (by omega), fork_f (by omega)]
  rfl
 | f + 1, k, n, h, h1, h2, hk => by
  rw [leftF]
  split
  ·rename_i hlt
   rw [← half_loop f (2 * k) n (by rw [Nat.pow_succ] at h; rw [pow_help]; exact h) (by omega) h2 (by omega)]
   have hs : affiantref1_half_1_step (n : Int) (k : Int) = some (.inl ((2 * k : Nat) : Int)) := by
    unfold affiantref1_half_1_step
    rw [w64_eq (by omega) (by omega), fork_t (by omega), show 2 * (k : Int) = ((2 * k : Nat) : Int) from by omega]
   unfold affiantref1_half_1
   rw [loop_next hs]
  ·rename_i hlt
   unfold affiantref1_half_1
   refine loop_out ?_
   unfold affiantref1_half_1_step
   rw [w64_eq (by omega) (by omega), fork_f (by omega)]
theorem half_eq (n : Nat) (h : n ≤ 1073741824) : affiantref1_half (n : Int) = some ((leftS n : Nat) : Int) := by
 unfold affiantref1_half
 rw [show (1 : Int) = ((1 : Nat) : Int) from rfl, half_loop 40 1 n (by omega) (by omega) h (by omega), andThen_mk]
 rfl
theorem rinner_eq (a b : List UInt8) (ha : a.length = 32) (hb : b.length = 32) : affiantref1_Tagged 1 [a, b] = some (innerS a b) := by
 have hf : [a, b].flatten = a ++ b := by simp
 rw [rtagged_eq _ _ (by rw [hf, List.length_append]; omega) (by simp), hf]
 rfl
theorem rleaf_eq (x : List UInt8) (hx : x.length ≤ 1000000) : affiantref1_Tagged 0 [x] = some (leafS x) := by
 have hf : [x].flatten = x := by simp
 rw [rtagged_eq _ _ (by rw [hf]; omega) (by simp), hf]
 rfl
theorem rroot_f_eq : ∀ (k : Nat) (l : List (List UInt8)), l.length < k → l.length ≤ 1000 → Small l → affiantref1_Root_f k l = some (rootS l)
 | 0, l, h, _, _ => by omega
 | k + 1, l, h, h2, hl => by
  rw [affiantref1_Root_f]
  match l, h, h2, hl with
  | [], h, h2, hl =>
   rw [fork_t (by simp), rtagged_eq _ _ (by simp) (by simp), rootS_none]; rfl
  | [x], h, h2, hl =>
   have hx := hl x (by simp)
   have hf : [List.getD [x] (Int.toNat (0 : Int)) []].flatten = x := by simp
   rw [fork_f (by simp), fork_t (by simp), need_true (by simp), rtagged_eq _ _ (by rw [hf]; omega) (by simp), hf, rootS_one]; rfl
  | x :: y :: r, h, h2, hl =>
   have hn : 2 ≤ (x :: y :: r).length := by simp
   generalize x :: y :: r = l at h h2 hl hn
   obtain ⟨b1, b2, b3⟩ := leftS_b l.length hn (by omega)
   rw [fork_f (by omega), fork_f (by omega), half_eq _ (by omega), andThen_mk, need_true (by omega), cut_to, cut_from, Int.toNat_natCast, rroot_f_eq k (l.take (leftS l.length)) (by rw [List.length_take]; omega) (by rw [List.length_take]; omega) (small_take hl _), andThen_mk, need_true (by omega),
    rroot_f_eq k (l.drop (leftS l.length)) (by rw [List.length_drop]; omega) (by rw [List.length_drop]; omega) (small_drop hl _), andThen_mk, rinner_eq _ _ (rootS_len _) (rootS_len _), andThen_mk, rootS_two l hn (by omega)]
theorem rroot_eq (l : List (List UInt8)) (h : l.length < 64) (hl : Small l) : affiantref1_Root l = some (rootS l) := rroot_f_eq 64 l h (by omega) hl
theorem rpath_f_eq : ∀ (k : Nat) (l : List (List UInt8)) (i : Int), l.length < k → l.length < 64 → Small l → affiantref1_Path_f k l i = some (if 0 ≤ i ∧ i < (l.length : Int) then pathF l.length l i.toNat else [])
 | 0, l, i, h, _, _ => by omega
 | k + 1, l, i, h, h2, hl => by
  rw [affiantref1_Path_f]
  by_cases h0 : i < 0
  ·rw [fork_t h0, if_neg (by omega)]
  ·rw [fork_f h0]
   by_cases h1 : (l.length : Int) ≤ i
   ·rw [fork_t h1, if_neg (by omega)]
   ·rw [fork_f h1, if_pos (by omega)]
    by_cases h3 : l.length = 1
    ·rw [fork_t (by omega), h3, pathF, if_pos (by omega)]
    ·rw [fork_f (by omega), half_eq _ (by omega), andThen_mk]
     obtain ⟨b1, b2, b3⟩ := leftS_b l.length (by omega) (by omega)
     obtain ⟨q, hq⟩ : ∃ q, l.length = q + 1 := ⟨l.length - 1, by omega⟩
     have hp : pathF l.length l i.toNat = if i.toNat < leftS l.length then pathF q (l.take (leftS l.length)) i.toNat ++ [rootS (l.drop (leftS l.length))] else pathF q (l.drop (leftS l.length)) (i.toNat - leftS l.length) ++ [rootS (l.take (leftS l.length))] := by
      conv => lhs; rw [hq]
      rw [pathF, if_neg (by omega)]
     rw [hp]
     by_cases h4 : i.toNat < leftS l.length
     ·have lt : (l.take (leftS l.length)).length = leftS l.length := by rw [List.length_take]; omega
      have hpl := pathF_len q (l.take (leftS l.length)) i.toNat
      rw [if_pos h4, fork_t (by omega), need_true (by omega), cut_to, cut_from, Int.toNat_natCast, rpath_f_eq k (l.take (leftS l.length)) i (by omega) (by omega) (small_take hl _), andThen_mk, if_pos (by omega), need_true (by omega), rroot_eq _ (by rw [List.length_drop]; omega) (small_drop hl _), andThen_mk,
       pathF_fuel _ q _ _ (by omega) (by omega) (by omega), need_true (by simp; omega)]
     ·have ld : (l.drop (leftS l.length)).length = l.length - leftS l.length := by rw [List.length_drop]
      have hpl := pathF_len q (l.drop (leftS l.length)) (i.toNat - leftS l.length)
      rw [if_neg h4, fork_f (by omega), need_true (by omega), cut_to, cut_from, Int.toNat_natCast, w64_eq (by omega) (by omega), rpath_f_eq k (l.drop (leftS l.length)) (i - ((leftS l.length : Nat) : Int)) (by omega) (by omega) (small_drop hl _), andThen_mk, if_pos (by omega), need_true (by omega), rroot_eq _ (by rw [List.length_take]; omega) (small_take hl _), andThen_mk,
       show Int.toNat (i - ((leftS l.length : Nat) : Int)) = i.toNat - leftS l.length from by omega, pathF_fuel _ q _ _ (by omega) (by omega) (by omega), need_true (by simp; omega)]
theorem rpath_eq (l : List (List UInt8)) (i : Int) (h : l.length < 64) (hl : Small l) : affiantref1_Path l i = some (pathS l i) := rpath_f_eq 64 l i h h hl
theorem sidesF_fuel : ∀ (f g i n : Nat), n ≤ f + 1 → n ≤ g + 1 → n ≤ 1000 → sidesF f i n = sidesF g i n
 | 0, g, i, n, h, _, _ => by
  cases g with
  | zero => rfl
  | succ g => rw [sidesF, sidesF, if_pos h]
 | f + 1, 0, i, n, _, h, _ => by rw [sidesF, sidesF, if_pos h]
 | f + 1, g + 1, i, n, h, h2, h3 => by
  rw [sidesF, sidesF]
  by_cases h1 : n ≤ 1
  ·rw [if_pos h1, if_pos h1]
  ·obtain ⟨b1, b2, b3⟩ := leftS_b n (by omega) (by omega)
   rw [if_neg h1, if_neg h1, sidesF_fuel f g i (leftS n) (by omega) (by omega) (by omega), sidesF_fuel f g (i - leftS n) (n - leftS n) (by omega) (by omega) (by omega)]
theorem rup_f_eq : ∀ (k : Nat) (leaf : List UInt8) (i n : Nat) (p : List (List UInt8)), n < k → i < n → n < 64 → leaf.length ≤ 1000000 → (∀ x ∈ p, x.length = 32) → p.length ≤ 100000 →
  ∃ x, affiantref1_Up_f k leaf (i : Int) (n : Int) p = some (x, decide (p.length = (sidesF n i n).length)) ∧ x.length = 32 ∧ (p.length = (sidesF n i n).length → x = climb (sidesF n i n).reverse p (leafS leaf))
 | 0, leaf, i, n, p, h, _, _, _, _, _ => by omega
 | k + 1, leaf, i, n, p, h, hi, h2, hf, hp, hb => by
  rw [affiantref1_Up_f, fork_f (by omega), fork_f (by omega), fork_f (by omega)]
  by_cases h1 : n = 1
  ·subst h1
   rw [fork_t (by omega), rleaf_eq leaf hf, andThen_mk]
   have e : sidesF 1 i 1 = [] := by rw [sidesF, if_pos (by omega)]
   rw [e]
   refine ⟨leafS leaf, ?_, sha_len _, fun h => ?_⟩
   ·rw [show decide ((p.length : Int) = 0) = decide (p.length = ([] : List Bool).length) from decide_eq_decide.2 (by simp)]
   ·have : p = [] := List.eq_nil_of_length_eq_zero (by simpa using h)
    subst this; rfl
  ·obtain ⟨b1, b2, b3⟩ := leftS_b n (by omega) (by omega)
   obtain ⟨q, rfl⟩ : ∃ q, n = q + 1 := ⟨n - 1, by omega⟩
   have hsd : sidesF (q + 1) i (q + 1) = if i < leftS (q + 1) then true :: sidesF q i (leftS (q + 1)) else false :: sidesF q (i - leftS (q + 1)) (q + 1 - leftS (q + 1)) := by
    rw [sidesF, if_neg (by omega)]
   rw [fork_f (by omega)]
   by_cases h0 : p.length = 0
   ·rw [fork_t (by omega)]
    refine ⟨zT, ?_, by simp, fun h => ?_⟩
    ·rw [decide_eq_false (by rw [hsd]; split <;> simp [h0])]
    ·exfalso
     rw [hsd] at h
     split at h <;> simp [h0] at h
   ·have hpl : p = p.take (p.length - 1) ++ [p.getD (p.length - 1) zT] := by
     rw [List.getD_eq_getElem?_getD, List.getElem?_eq_getElem (by omega)]
     conv => lhs; rw [← List.take_append_drop (p.length - 1) p, List.drop_eq_getElem_cons (by omega), List.drop_of_length_le (by omega)]
     rfl
    have hg : (p.getD (p.length - 1) (List.replicate 32 0)).length = 32 := by
     rw [List.getD_eq_getElem?_getD, List.getElem?_eq_getElem (by omega)]; exact hp _ (List.getElem_mem _)
    have hpt : ∀ x ∈ p.take (p.length - 1), x.length = 32 := fun x hx => hp x (List.mem_of_mem_take hx)
    have htl : (p.take (p.length - 1)).length = p.length - 1 := by rw [List.length_take]; omega
    have e1 : w64 ((p.length : Int) - 1) = ((p.length - 1 : Nat) : Int) := by rw [w64_eq (by omega) (by omega)]; omega
    rw [fork_f (by omega), half_eq (q + 1) (by omega), andThen_mk, e1, need_true (by omega), cut_to, Int.toNat_natCast]
    by_cases h4 : i < leftS (q + 1)
    ·obtain ⟨x, x1, x2, x3⟩ := rup_f_eq k leaf i (leftS (q + 1)) (p.take (p.length - 1)) (by omega) h4 (by omega) hf hpt (by omega)
     rw [sidesF_fuel _ q _ _ (by omega) (by omega) (by omega)] at x1 x3
     rw [fork_t (by omega), need_true (by omega), x1, andThen_mk]
     simp only
     rw [rinner_eq _ _ x2 hg, andThen_mk, hsd, if_pos h4]
     refine ⟨innerS x (p.getD (p.length - 1) (List.replicate 32 0)), ?_, sha_len _, fun h => ?_⟩
     ·rw [show decide ((p.take (p.length - 1)).length = (sidesF q i (leftS (q + 1))).length) = decide (p.length = (true :: sidesF q i (leftS (q + 1))).length) from decide_eq_decide.2 (by rw [htl, List.length_cons]; omega)]
     ·rw [List.length_cons] at h
      rw [x3 (by omega), List.reverse_cons]
      conv => rhs; rw [hpl]
      rw [climb_snoc _ _ _ _ _ (by rw [List.length_reverse]; omega), if_pos rfl]
    ·obtain ⟨x, x1, x2, x3⟩ := rup_f_eq k leaf (i - leftS (q + 1)) (q + 1 - leftS (q + 1)) (p.take (p.length - 1)) (by omega) (by omega) (by omega) hf hpt (by omega)
     rw [sidesF_fuel _ q _ _ (by omega) (by omega) (by omega)] at x1 x3
     rw [fork_f (by omega), need_true (by omega), w64_eq (by omega) (by omega), w64_eq (by omega) (by omega), show (i : Int) - ((leftS (q + 1) : Nat) : Int) = ((i - leftS (q + 1) : Nat) : Int) from by omega, show ((q + 1 : Nat) : Int) - ((leftS (q + 1) : Nat) : Int) = ((q + 1 - leftS (q + 1) : Nat) : Int) from by omega, x1, andThen_mk]
     simp only
     rw [rinner_eq _ _ hg x2, andThen_mk, hsd, if_neg h4]
     refine ⟨innerS (p.getD (p.length - 1) (List.replicate 32 0)) x, ?_, sha_len _, fun h => ?_⟩
     ·rw [show decide ((p.take (p.length - 1)).length = (sidesF q (i - leftS (q + 1)) (q + 1 - leftS (q + 1))).length) = decide (p.length = (false :: sidesF q (i - leftS (q + 1)) (q + 1 - leftS (q + 1))).length) from decide_eq_decide.2 (by rw [htl, List.length_cons]; omega)]
     ·rw [List.length_cons] at h
      rw [x3 (by omega), List.reverse_cons]
      conv => rhs; rw [hpl]
      rw [climb_snoc _ _ _ _ _ (by rw [List.length_reverse]; omega), if_neg (by simp)]
theorem rup_eq (leaf : List UInt8) (hf : leaf.length ≤ 1000000) (i n : Int) (hn : n < 64) (p : List (List UInt8)) (hp : ∀ x ∈ p, x.length = 32) (hb : p.length ≤ 100000) : ∃ x, affiantref1_Up leaf i n p = some (x, (upS leaf i n p).2) ∧ ((upS leaf i n p).2 = true → x = (upS leaf i n p).1) ∧ x.length = 32 := by
 unfold affiantref1_Up
 by_cases h0 : i < 0
 ·rw [affiantref1_Up_f, fork_t h0]
  have : upS leaf i n p = (zT, false) := if_neg (fun h => by have := (isS_iff i n).1 h.1; omega)
  rw [this]
  exact ⟨_, rfl, fun h => (by cases h), rfl⟩
 ·by_cases h1 : n ≤ i
  ·rw [affiantref1_Up_f, fork_f h0, fork_t h1]
   have : upS leaf i n p = (zT, false) := if_neg (fun h => by have := (isS_iff i n).1 h.1; omega)
   rw [this]
   exact ⟨_, rfl, fun h => (by cases h), rfl⟩
  ·obtain ⟨a, rfl⟩ := Int.eq_ofNat_of_zero_le (show 0 ≤ i by omega)
   obtain ⟨b, rfl⟩ := Int.eq_ofNat_of_zero_le (show 0 ≤ n by omega)
   obtain ⟨x, x1, x2, x3⟩ := rup_f_eq 64 leaf a b p (by omega) (by omega) (by omega) hf hp hb
   have hi : isS (a : Int) (b : Int) = true := (isS_iff _ _).2 (by omega)
   unfold upS
   simp only [Int.toNat_natCast, hi, true_and]
   by_cases e : p.length = (sidesF b a b).length
   ·rw [if_pos e]
    rw [decide_eq_true e] at x1
    exact ⟨x, x1, fun _ => x3 e, x2⟩
   ·rw [if_neg e]
    rw [decide_eq_false e] at x1
    exact ⟨x, x1, fun h => (by cases h), x2⟩
abbrev Prf := Int × Int × List Pr × List (List (List UInt8)) × Unit
def leafB (p : Pr) : List UInt8 := txtS p.1 ++ txtS p.2.1
def leavesB (l : List Pr) : List (List UInt8) := l.map leafB
def KvOk (l : List Pr) : Prop := l.length ≤ 60 ∧ ∀ p ∈ l, p.1.length ≤ 100000 ∧ p.2.1.length ≤ 100000
theorem leavesB_len (l : List Pr) : (leavesB l).length = l.length := by simp [leavesB]
theorem leafB_len {p : Pr} (h : p.1.length ≤ 100000 ∧ p.2.1.length ≤ 100000) : (leafB p).length ≤ 200100 := by
 have a := txt_len p.1
 have b := txt_len p.2.1
 unfold leafB; rw [List.length_append]; omega
theorem leavesB_small {l : List Pr} (h : KvOk l) : Small (leavesB l) := by
 intro x hx
 obtain ⟨p, hp, rfl⟩ := List.mem_map.1 hx
 have := leafB_len (h.2 p hp)
 omega
theorem leaf_eq (p : Pr) (h : p.1.length ≤ 100000 ∧ p.2.1.length ≤ 100000) : kv_Leaf p = some (leafB p) := by
 have := vtext_eq [p.1, p.2.1] (by simp) (fun x hx => by
  rcases List.mem_cons.1 hx with rfl | hx
  ·exact h.1
  ·rcases List.mem_cons.1 hx with rfl | hx
   ·exact h.2
   ·cases hx)
 have e : ([p.1, p.2.1] : List (List UInt8)).flatMap txtS = leafB p := by simp [leafB]
 rw [e] at this
 unfold kv_Leaf
 rw [this, andThen_mk]
theorem leavesB_take (l : List Pr) {i : Nat} (hi : i < l.length) : leavesB (l.take i) ++ [leafB (l.getD i zPr)] = leavesB (l.take (i + 1)) := by
 unfold leavesB
 rw [List.take_add_one, List.map_append, List.getElem?_eq_getElem hi, List.getD_eq_getElem?_getD, List.getElem?_eq_getElem hi]; rfl
noncomputable def pathsN (l : List Pr) (f n : Nat) : List (List (List UInt8)) := (List.range n).map fun j => pathS (leavesB l) ((f + j : Nat) : Int)
noncomputable def someN (l : List Pr) (f t : Nat) : Prf := if t ≤ f then ((l.length : Int), 0, [], [], ()) else ((l.length : Int), (f : Int), (l.drop f).take (t - f), pathsN l f (t - f), ())
theorem pathsN_succ (l : List Pr) (f n : Nat) : pathsN l f (n + 1) = pathsN l f n ++ [pathS (leavesB l) ((f + n : Nat) : Int)] := by
 unfold pathsN
 rw [List.range_succ, List.map_append]; rfl
theorem drop_take_succ (l : List Pr) {f n : Nat} (h : f + n < l.length) : (l.drop f).take (n + 1) = (l.drop f).take n ++ [l.getD (f + n) zPr] := by
 rw [List.take_add_one, List.getElem?_drop, List.getElem?_eq_getElem h, List.getD_eq_getElem?_getD, List.getElem?_eq_getElem h]; rfl
theorem maxS_self (a : List UInt8) : maxS a a = a := by unfold maxS; cases sless a a <;> rfl
theorem pathsN_b (l : List Pr) (h : l.length ≤ 60) (f n : Nat) : (pathsN l f n).length = n ∧ ∀ x ∈ pathsN l f n, x.length ≤ 60 := by
 refine ⟨by simp [pathsN], fun x hx => ?_⟩
 obtain ⟨j, _, rfl⟩ := List.mem_map.1 hx
 unfold pathS
 split
 ·have := pathF_len (leavesB l).length (leavesB l) ((f + j : Nat) : Int).toNat
  rw [leavesB_len] at this ⊢; omega
 ·exact Nat.zero_le _
def mayP (p : Pr) : Bool := !decide (p.1 = []) && (decide ((p.1.length : Int) ≤ 16) && decide ((p.2.1.length : Int) ≤ 24))
theorem mayP_eq (p : Pr) : kv_may p = some (mayP p) := by
 unfold kv_may mayP
 cases decide (p.1 = []) <;> cases decide ((p.1.length : Int) ≤ 16) <;> rfl
theorem isAt_lt {l : List Pr} {k : List UInt8} (h : isAt l k = true) : belowN l k < l.length ∧ (l.getD (belowN l k) zPr).1 = k := by
 unfold isAt at h; rw [decide_eq_true_eq] at h; exact h
theorem mem_drop_get {l : List Pr} {n : Nat} {p : Pr} (h : p ∈ l.drop n) : ∃ i, n ≤ i ∧ i < l.length ∧ l.getD i zPr = p := by
 obtain ⟨i, hi, rfl⟩ := List.getElem_of_mem h
 rw [List.length_drop] at hi
 refine ⟨n + i, by omega, by omega, ?_⟩
 rw [List.getElem_drop, List.getD_eq_getElem?_getD, List.getElem?_eq_getElem (by omega)]; rfl
theorem within_eq (a lo hi : Int) (h : lo ≤ hi) (h1 : -1099511627776 ≤ lo) (h2 : hi ≤ 1099511627776) : ∃ r, affiantbook_Within a lo hi = some r ∧ lo ≤ r ∧ r ≤ hi := by
 unfold affiantbook_Within
 have hn : w64 (w64 (hi - lo) + 1) = hi - lo + 1 := by simp (disch := omega) only [w64_eq]
 rw [hn, need_true (by omega)]
 have hb : Int.tmod a (hi - lo + 1) < hi - lo + 1 ∧ -(hi - lo + 1) < Int.tmod a (hi - lo + 1) := by
  constructor
  ·exact Int.tmod_lt_of_pos a (by omega)
  ·have := Int.tmod_lt_of_pos (-a) (b := hi - lo + 1) (by omega)
   rw [Int.neg_tmod] at this; omega
 generalize Int.tmod a (hi - lo + 1) = t at hb
 by_cases ht : t < 0
 ·rw [fork_t ht]
  simp (disch := omega) only [w64_eq]
  exact ⟨_, rfl, by omega, by omega⟩
 ·rw [fork_f ht]
  simp (disch := omega) only [w64_eq]
  exact ⟨_, rfl, by omega, by omega⟩
theorem rfirst_step (x0 : List Pr) (x1 : List UInt8) (x2 : Int) : affiantref1_First_1_step x0 x1 x2 =
  (fork (decide (x2 < (List.length x0 : Int))) (need (0 ≤ x2 ∧ x2 < (List.length x0 : Int)) (fork (sless (List.getD x0 (Int.toNat x2) zPr).1 x1) (some (.inl (w64 (x2 + (1 : Int))))) (some (.inr x2)))) (some (.inr x2)) : Option ((Int) ⊕ (Int))) := rfl
theorem rleaves_step (x0 : List Pr) (x1 : Int) (x2 : Int) (x3 : List (List UInt8)) : affiantref1_leaves_1_step x0 x1 x2 x3 =
  (fork (decide (x2 < x1)) (need (0 ≤ x2 ∧ x2 < (List.length x0 : Int)) (andThen (affiantref1_Leaf (List.getD x0 (Int.toNat x2) zPr)) (fun u4 => need (List.length x3 + List.length ([u4] : List (List UInt8)) ≤ 2147483648) (some (.inl ((w64 (x2 + (1 : Int))), (x3 ++ ([u4] : List (List UInt8))))))))) (some (.inr x3)) : Option ((Int × List (List UInt8)) ⊕ (List (List UInt8)))) := rfl
theorem rprove_step (x0 : List Pr) (x1 : Int) (x2 : Int) (x3 : Int) (x4 : Int) (x5 : Unit) (x6 : Int) (x7 : Int) (x8 : Unit) (x9 : List Pr) (x10 : List (List (List UInt8))) : affiantref1_Prove_1_step x0 x1 x2 x3 x4 x5 x6 x7 x8 x9 x10 =
  (fork (decide (x2 < x1)) (need (0 ≤ x2 ∧ x2 < (List.length x0 : Int)) (need (List.length x9 + List.length ([(List.getD x0 (Int.toNat x2) zPr)] : List Pr) ≤ 2147483648) (andThen (affiantref1_leaves x0) (fun u6 => andThen (affiantref1_Path u6 x2) (fun u8 => need (List.length x10 + List.length ([u8] : List (List (List UInt8))) ≤ 2147483648) (some (.inl ((w64 (x2 + (1 : Int))), (x9 ++ ([(List.getD x0 (Int.toNat x2) zPr)] : List Pr)), (x10 ++ ([u8] : List (List (List UInt8)))))))))))) (some (.inr (x3, x4, x5, x6, x7, x8, x9, x10))) : Option ((Int × (List Pr) × List (List (List UInt8))) ⊕ (Int × Int × Unit × Int × Int × Unit × (List Pr) × List (List (List UInt8))))) := rfl
theorem rfirst_loop (l : List Pr) (hl : l.length ≤ 1000) (k : List UInt8) : ∀ (m i : Nat), i + m = belowN l k → affiantref1_First_1 l k (i : Int) = some (belowN l k : Int)
 | 0, i, h => by
  have hb := below_le l k
  unfold affiantref1_First_1
  refine loop_out ?_
  show affiantref1_First_1_step l k (i : Int) = _
  have hi : i = belowN l k := by omega
  rw [rfirst_step]
  by_cases c : i < l.length
  ·rw [fork_t (by omega), need_true (by omega), Int.toNat_natCast, hi, below_at l k (by omega), fork_ff]
  ·rw [fork_f (by omega), hi]
 | m + 1, i, h => by
  have hb := below_le l k
  have ih := rfirst_loop l hl k m (i + 1) (by omega)
  unfold affiantref1_First_1 at ih ⊢
  have hs : affiantref1_First_1_step l k (i : Int) = some (.inl ((i + 1 : Nat) : Int)) := by
   rw [rfirst_step, fork_t (by omega), need_true (by omega), Int.toNat_natCast, below_lt l k i (by omega), fork_tt, w64_eq (by omega) (by omega)]; rfl
  rw [loop_next hs]
  exact ih
theorem rfirst_eq (l : List Pr) (hl : l.length ≤ 1000) (k : List UInt8) : affiantref1_First l k = some (belowN l k : Int) := by
 unfold affiantref1_First
 rw [show (0 : Int) = ((0 : Nat) : Int) from rfl, rfirst_loop l hl k (belowN l k) 0 (by omega), andThen_mk]
theorem rLeaf_eq (p : Pr) (h : p.1.length ≤ 100000 ∧ p.2.1.length ≤ 100000) : affiantref1_Leaf p = some (leafB p) := by
 have a := txt_len p.1
 have b := txt_len p.2.1
 unfold affiantref1_Leaf
 rw [rtext_eq _ h.1, andThen_mk, rtext_eq _ h.2, andThen_mk, need_true (by omega)]; rfl
theorem rleaves_eq (l : List Pr) (h : KvOk l) : affiantref1_leaves l = some (leavesB l) := by
 have hl := h.1
 have m1 : affiantref1_leaves_1 l (l.length : Int) 0 [] = some (leavesB l) := by
  unfold affiantref1_leaves_1
  have := loop_for (step := fun (s : Int × List (List UInt8)) => affiantref1_leaves_1_step l (l.length : Int) s.1 s.2) (fun i (_ : Unit) => ((i : Int), leavesB (l.take i))) (fun _ _ => ()) (fun _ => leavesB l) l.length (fun _ _ => True) (fun i w hi _ => ⟨?_, trivial⟩) (fun w _ => ?_) l.length 0 () (by omega) trivial
  ·exact this
  ·show affiantref1_leaves_1_step l (l.length : Int) (i : Int) (leavesB (l.take i)) = _
   rw [rleaves_step, fork_t (by omega), need_true (by omega), Int.toNat_natCast, rLeaf_eq _ (h.2 _ (getD_mem hi)), andThen_mk, need_true (by rw [leavesB_len, List.length_take]; simp only [List.length_cons, List.length_nil]; omega), leavesB_take l hi, w64_eq (by omega) (by omega)]
   rfl
  ·show affiantref1_leaves_1_step l (l.length : Int) (l.length : Int) (leavesB (l.take l.length)) = _
   rw [rleaves_step, fork_f (by omega), List.take_of_length_le (Nat.le_refl _)]
 unfold affiantref1_leaves
 rw [m1, andThen_mk]
theorem rprove_eq (l : List Pr) (h : KvOk l) (F T : Nat) (hT : T ≤ l.length) : affiantref1_Prove l (F : Int) (T : Int) = some (someN l F T) := by
 have hl := h.1
 unfold affiantref1_Prove someN
 by_cases c : T ≤ F
 ·rw [fork_t (by omega), if_pos c]
 ·rw [fork_f (by omega), if_neg c]
  have m2 : affiantref1_Prove_1 l (T : Int) (F : Int) 0 0 () (l.length : Int) (F : Int) () [] [] = some (0, 0, (), (l.length : Int), (F : Int), (), (l.drop F).take (T - F), pathsN l F (T - F)) := by
   unfold affiantref1_Prove_1
   have := loop_for (step := fun (s : Int × (List Pr) × List (List (List UInt8))) => affiantref1_Prove_1_step l (T : Int) s.1 0 0 () (l.length : Int) (F : Int) () s.2.1 s.2.2) (fun i (_ : Unit) => (((F + i : Nat) : Int), (l.drop F).take i, pathsN l F i)) (fun _ _ => ()) (fun _ => (0, 0, (), (l.length : Int), (F : Int), (), (l.drop F).take (T - F), pathsN l F (T - F))) (T - F) (fun _ _ => True) (fun i w hi _ => ⟨?_, trivial⟩) (fun w _ => ?_) (T - F) 0 () (by omega) trivial
   ·exact this
   ·show affiantref1_Prove_1_step l (T : Int) ((F + i : Nat) : Int) 0 0 () (l.length : Int) (F : Int) () ((l.drop F).take i) (pathsN l F i) = _
    have e1 : ((l.drop F).take i).length ≤ 60 := by rw [List.length_take, List.length_drop]; omega
    have e2 : (pathsN l F i).length = i := by simp [pathsN]
    rw [rprove_step, fork_t (by omega), need_true (by omega), Int.toNat_natCast, need_true (by simp only [List.length_cons, List.length_nil]; omega), rleaves_eq l h, andThen_mk, rpath_eq (leavesB l) _ (by rw [leavesB_len]; omega) (leavesB_small h), andThen_mk, need_true (by simp only [List.length_cons, List.length_nil]; omega), w64_eq (by omega) (by omega), ← drop_take_succ l (by omega), ← pathsN_succ]
    congr 3
   ·show affiantref1_Prove_1_step l (T : Int) ((F + (T - F) : Nat) : Int) 0 0 () (l.length : Int) (F : Int) () ((l.drop F).take (T - F)) (pathsN l F (T - F)) = _
    rw [rprove_step, fork_f (by omega)]
  rw [m2, andThen_mk]
theorem rcover_eq (l : List Pr) (h : KvOk l) (a b : List UInt8) : affiantref1_Cover l a b = some (someN l (belowN l a - 1) (min (belowN l (maxS a b) + 1) l.length)) := by
 have hl := h.1
 have h1 := below_le l a
 have h2 := below_le l b
 unfold affiantref1_Cover
 rw [rfirst_eq l (by omega), andThen_mk, rfirst_eq l (by omega), andThen_mk]
 have key : ∀ n : Nat, n ≤ l.length → affiantref1_Prove l (max (w64 ((belowN l a : Int) - (1 : Int))) (0 : Int)) (min (w64 ((n : Int) + (1 : Int))) (List.length l : Int)) = some (someN l (belowN l a - 1) (min (n + 1) l.length)) := fun n hn => by
  rw [w64_eq (by omega) (by omega), w64_eq (by omega) (by omega), show max ((belowN l a : Int) - 1) 0 = ((belowN l a - 1 : Nat) : Int) from by omega, show min ((n : Int) + 1) (l.length : Int) = ((min (n + 1) l.length : Nat) : Int) from by omega]
  exact rprove_eq l h _ _ (by omega)
 by_cases c : belowN l b < belowN l a
 ·have hs : sless a b = false := by
   cases hs : sless a b with
   | false => rfl
   | true =>
    have hs2 : sless b a = false := by
     cases q : sless b a with
     | false => rfl
     | true => have := sless_trans _ _ _ hs q; rw [sless_irr] at this; cases this
    have := below_mono l b a hs2
    omega
  have hm : maxS a b = a := by unfold maxS; rw [hs]; rfl
  rw [fork_t (by omega), key _ h1, andThen_mk, hm]
 ·rw [fork_f (by omega), key _ h2, andThen_mk]
  cases hs : sless a b with
  | true =>
   have hm : maxS a b = b := by unfold maxS; rw [hs]; rfl
   rw [hm]
  | false =>
   have hm : maxS a b = a := by unfold maxS; rw [hs]; rfl
   have := below_mono l a b hs
   rw [hm, show belowN l b = belowN l a from by omega]
def keys12 : List (List UInt8) := [[97], [97, 98], [97, 98, 99], [98], [98, 97], [115, 47, 97], [115, 47, 98], [115, 47, 99], [116], [117], [122], [122, 122]]
theorem keys_eq : affiantkeep_keys = some keys12 := rfl
theorem kkey_eq (n : Int) : ∃ i, i < 12 ∧ affiantkeep_Key n = some (keys12.getD i []) := by
 obtain ⟨r, er, r1, r2⟩ := within_eq n 0 11 (by omega) (by omega) (by omega)
 refine ⟨r.toNat, by omega, ?_⟩
 have hk : keys12.length = 12 := rfl
 unfold affiantkeep_Key
 rw [keys_eq, andThen_mk, andThen_mk, hk, show w64 (((12 : Nat) : Int) - 1) = 11 from rfl, er, andThen_mk, need_true (by omega)]
theorem ktext_eq (n : Int) : ∃ x, affiantkeep_Text n = some x ∧ x.length ≤ 8 := by
 obtain ⟨r, er, r1, r2⟩ := within_eq n 0 4 (by omega) (by omega) (by omega)
 unfold affiantkeep_Text
 rw [er, andThen_mk, need_true (by show 0 ≤ r ∧ r < ((5 : Nat) : Int); omega)]
 refine ⟨_, rfl, ?_⟩
 have : ∀ i, i < 5 → (([([] : List UInt8), ([49] : List UInt8), ([120] : List UInt8), ([118, 97, 108, 117, 101] : List UInt8), ([49, 50, 51, 52, 53, 54, 55, 56] : List UInt8)] : List (List UInt8)).getD i []).length ≤ 8 := by decide
 exact this r.toNat (by omega)
abbrev Mp := List (List UInt8 × List UInt8)
def MpOk (m : Mp) : Prop := ∀ p ∈ m, p.2.length ≤ 8
theorem mapPut_ok {m : Mp} (h : MpOk m) (x y : List UInt8) (hy : y.length ≤ 8) : MpOk (mapPut x y m) := by
 induction m with
 | nil => intro p hp; rcases List.mem_cons.1 hp with rfl | hp; exact hy; cases hp
 | cons q m ih =>
  intro p hp
  rw [mapPut] at hp
  cases c : decide (x = q.1) with
  | true =>
   rw [c, cond_true] at hp
   rcases List.mem_cons.1 hp with rfl | hp
   ·exact hy
   ·exact h p (List.mem_cons_of_mem _ hp)
  | false =>
   rw [c, cond_false] at hp
   rcases List.mem_cons.1 hp with rfl | hp
   ·exact h p List.mem_cons_self
   ·exact ih (fun r hr => h r (List.mem_cons_of_mem _ hr)) p hp
theorem mapGet_ok {m : Mp} (h : MpOk m) {x y : List UInt8} (hg : mapGet x m = some y) : y.length ≤ 8 := by
 induction m with
 | nil => cases hg
 | cons q m ih =>
  rw [mapGet] at hg
  cases c : decide (x = q.1) with
  | true => rw [c, cond_true] at hg; injection hg with hg; subst hg; exact h q List.mem_cons_self
  | false => rw [c, cond_false] at hg; exact ih (fun r hr => h r (List.mem_cons_of_mem _ hr)) hg
theorem ps1_step (x0 : List Int) (x1 : Int) (x2 : List (List UInt8 × List UInt8)) : affiantkeep_Pairs_1_step x0 x1 x2 =
  (fork (decide (x1 < (List.length x0 : Int))) (fork (decide (x1 < (12 : Int))) (need (0 ≤ x1 ∧ x1 < (List.length x0 : Int)) (andThen (affiantkeep_Key (List.getD x0 (Int.toNat x1) (0 : Int))) (fun u5 => andThen (affiantkeep_Text (w64 (Int.tdiv (List.getD x0 (Int.toNat x1) (0 : Int)) (12 : Int)))) (fun u7 => some (.inl ((w64 (x1 + (1 : Int))), (mapPut u5 u7 x2))))))) (some (.inr x2))) (some (.inr x2)) : Option ((Int × List (List UInt8 × List UInt8)) ⊕ (List (List UInt8 × List UInt8)))) := rfl
theorem ps2_step (x0 : Int) (x1 : Int) (x2 : List (List UInt8 × List UInt8)) (x3 : List Pr) (x4 : List (List UInt8)) : affiantkeep_Pairs_2_step x0 x1 x2 x3 x4 =
  (fork (decide (x1 < x0)) (need (0 ≤ x1 ∧ x1 < (List.length x4 : Int)) (fork (Option.isSome (mapGet (List.getD x4 (Int.toNat x1) ([] : List UInt8)) x2)) (need (List.length x3 + List.length ([((List.getD x4 (Int.toNat x1) ([] : List UInt8)), (Option.getD (mapGet (List.getD x4 (Int.toNat x1) ([] : List UInt8)) x2) ([] : List UInt8)), ())] : List Pr) ≤ 2147483648) (some (.inl ((w64 (x1 + (1 : Int))), (x3 ++ ([((List.getD x4 (Int.toNat x1) ([] : List UInt8)), (Option.getD (mapGet (List.getD x4 (Int.toNat x1) ([] : List UInt8)) x2) ([] : List UInt8)), ())] : List Pr)))))) (some (.inl ((w64 (x1 + (1 : Int))), x3))))) (some (.inr x3)) : Option ((Int × List Pr) ⊕ (List Pr))) := rfl
theorem pairs_1 (ns : List Int) (hn : ns.length ≤ 140737488355328) : ∀ (k i : Nat) (m : Mp), i + k = min ns.length 12 → MpOk m → ∃ m', affiantkeep_Pairs_1 ns (i : Int) m = some m' ∧ MpOk m'
 | 0, i, m, h, hm => by
  refine ⟨m, ?_, hm⟩
  unfold affiantkeep_Pairs_1
  refine loop_out ?_
  show affiantkeep_Pairs_1_step ns (i : Int) m = _
  rw [ps1_step]
  by_cases c : i < ns.length
  ·rw [fork_t (by omega), fork_f (by omega)]
  ·rw [fork_f (by omega)]
 | k + 1, i, m, h, hm => by
  obtain ⟨j, hj, ej⟩ := kkey_eq (ns.getD i 0)
  obtain ⟨x, ex, hx⟩ := ktext_eq (w64 (Int.tdiv (ns.getD i 0) 12))
  obtain ⟨m', e', h'⟩ := pairs_1 ns hn k (i + 1) (mapPut (keys12.getD j []) x m) (by omega) (mapPut_ok hm _ _ hx)
  refine ⟨m', ?_, h'⟩
  unfold affiantkeep_Pairs_1 at e' ⊢
  have hs : affiantkeep_Pairs_1_step ns (i : Int) m = some (.inl (((i + 1 : Nat) : Int), mapPut (keys12.getD j []) x m)) := by
   rw [ps1_step, fork_t (by omega), fork_t (by omega), need_true (by omega), Int.toNat_natCast, ej, andThen_mk, ex, andThen_mk, w64_eq (by omega) (by omega)]; rfl
  exact (loop_next (step := fun (s : Int × Mp) => affiantkeep_Pairs_1_step ns s.1 s.2) (s := ((i : Int), m)) hs).trans e'
def pairAt (m : Mp) (k : List UInt8) : List Pr := match mapGet k m with
 | some v => [(k, v, ())]
 | none => []
def pairsM (m : Mp) : List Pr := keys12.flatMap (pairAt m)
theorem flatMap_len1 {α β : Type} (f : α → List β) (hf : ∀ x, (f x).length ≤ 1) : ∀ l : List α, (l.flatMap f).length ≤ l.length
 | [] => Nat.le_refl _
 | x :: l => by
  have := flatMap_len1 f hf l
  have := hf x
  rw [List.flatMap_cons, List.length_append, List.length_cons]; omega
theorem pairAt_len (m : Mp) (k : List UInt8) : (pairAt m k).length ≤ 1 := by
 unfold pairAt
 split <;> simp
theorem pairs_2 (m : Mp) : affiantkeep_Pairs_2 12 0 m [] keys12 = some (pairsM m) := by
 unfold affiantkeep_Pairs_2
 have := loop_for (step := fun (s : Int × List Pr) => affiantkeep_Pairs_2_step 12 s.1 m s.2 keys12) (fun i (_ : Unit) => ((i : Int), (keys12.take i).flatMap (pairAt m))) (fun _ _ => ()) (fun _ => pairsM m) 12 (fun _ _ => True) (fun i w hi _ => ⟨?_, trivial⟩) (fun w _ => ?_) 12 0 () (by omega) trivial
 ·exact this
 ·show affiantkeep_Pairs_2_step 12 (i : Int) m ((keys12.take i).flatMap (pairAt m)) keys12 = _
  have hk : keys12.length = 12 := rfl
  have b := flatMap_len1 (pairAt m) (pairAt_len m) (keys12.take i)
  rw [List.length_take] at b
  have t := flat_take (pairAt m) keys12 [] (i := i) (by omega)
  rw [ps2_step, fork_t (by omega), need_true (by omega), Int.toNat_natCast, w64_eq (by omega) (by omega)]
  cases c : mapGet (keys12.getD i []) m with
  | none =>
   have e : pairAt m (keys12.getD i []) = [] := by unfold pairAt; rw [c]
   rw [e, List.append_nil] at t
   rw [Option.isSome_none, fork_ff, ← t]; rfl
  | some v =>
   have e : pairAt m (keys12.getD i []) = [(keys12.getD i [], v, ())] := by unfold pairAt; rw [c]
   rw [e] at t
   rw [Option.isSome_some, fork_tt, need_true (by simp only [List.length_cons, List.length_nil]; omega), Option.getD_some, ← t]; rfl
 ·show affiantkeep_Pairs_2_step 12 ((12 : Nat) : Int) m ((keys12.take 12).flatMap (pairAt m)) keys12 = _
  rw [ps2_step, fork_f (by omega)]; rfl
def RowOk (l : List Pr) : Prop := RiseP l ∧ l.length ≤ 12 ∧ (∀ p ∈ l, p.1 ∈ keys12) ∧ ∀ p ∈ l, p.2.1.length ≤ 8
theorem keys_rise : keys12.Pairwise (fun a b => sless a b = true) := by decide
theorem keys_b : ∀ k ∈ keys12, 1 ≤ k.length ∧ k.length ≤ 3 := by decide
theorem pairAt_mem {m : Mp} {k : List UInt8} {p : Pr} (h : p ∈ pairAt m k) : p.1 = k ∧ mapGet k m = some p.2.1 := by
 unfold pairAt at h
 split at h
 ·rename_i v e
  rw [List.mem_singleton] at h; subst h; exact ⟨rfl, e⟩
 ·cases h
theorem pairsM_rise (m : Mp) : ∀ ks : List (List UInt8), ks.Pairwise (fun a b => sless a b = true) → RiseP (ks.flatMap (pairAt m))
 | [], _ => List.Pairwise.nil
 | k :: ks, h => by
  obtain ⟨h1, h2⟩ := List.pairwise_cons.1 h
  rw [List.flatMap_cons]
  refine List.pairwise_append.2 ⟨?_, pairsM_rise m ks h2, fun a ha b hb => ?_⟩
  ·unfold pairAt
   split
   ·exact List.pairwise_singleton _ _
   ·exact List.Pairwise.nil
  ·obtain ⟨k', hk', hb'⟩ := List.mem_flatMap.1 hb
   rw [(pairAt_mem ha).1, (pairAt_mem hb').1]
   exact h1 k' hk'
theorem pairs_eq (ns : List Int) (hn : ns.length ≤ 140737488355328) : ∃ l, affiantkeep_Pairs ns = some l ∧ RowOk l := by
 obtain ⟨m, e, hm⟩ := pairs_1 ns hn (min ns.length 12) 0 [] (by omega) (fun p hp => by cases hp)
 refine ⟨pairsM m, ?_, pairsM_rise m keys12 keys_rise, flatMap_len1 (pairAt m) (pairAt_len m) keys12, fun p hp => ?_, fun p hp => ?_⟩
 ·have hk : keys12.length = 12 := rfl
  unfold affiantkeep_Pairs
  rw [show (0 : Int) = ((0 : Nat) : Int) from rfl, e, andThen_mk, keys_eq, andThen_mk, hk]
  exact congrArg (fun x => andThen x _) (pairs_2 m)
 ·obtain ⟨k', hk', hb'⟩ := List.mem_flatMap.1 hp
  rw [(pairAt_mem hb').1]; exact hk'
 ·obtain ⟨k', hk', hb'⟩ := List.mem_flatMap.1 hp
  exact mapGet_ok hm (pairAt_mem hb').2
theorem row_kv {l : List Pr} (h : RowOk l) : KvOk l := ⟨by have := h.2.1; omega, fun p hp => ⟨by have := keys_b _ (h.2.2.1 p hp); omega, by have := h.2.2.2 p hp; omega⟩⟩
theorem loop_ex {σ ρ : Type} {step : σ → Option (σ ⊕ ρ)} (I : Nat → σ → Prop) (Q : ρ → Prop)
  (h : ∀ k s, I k s → (∃ r, step s = some (.inr r) ∧ Q r) ∨ (∃ j s', k = j + 1 ∧ step s = some (.inl s') ∧ I j s')) : ∀ k s, I k s → ∃ r, loop step s = some r ∧ Q r := by
 intro k
 induction k with
 | zero =>
  intro s hi
  rcases h 0 s hi with ⟨r, e, q⟩ | ⟨j, s', hk, e, hi'⟩
  ·exact ⟨r, loop_out e, q⟩
  ·omega
 | succ k ih =>
  intro s hi
  rcases h (k + 1) s hi with ⟨r, e, q⟩ | ⟨j, s', hk, e, hi'⟩
  ·exact ⟨r, loop_out e, q⟩
  ·have : j = k := by omega
   subst this
   obtain ⟨r, e2, q⟩ := ih s' hi'
   exact ⟨r, (loop_next e).trans e2, q⟩
theorem krise_ext : ∀ {a b : List Pr}, RiseP a → RiseP b → (∀ q, q ∈ a ↔ q ∈ b) → a = b
 | [], [], _, _, _ => rfl
 | [], y :: b, _, _, h => by cases (h y).2 List.mem_cons_self
 | x :: a, [], _, _, h => by cases (h x).1 List.mem_cons_self
 | x :: a, y :: b, ha, hb, h => by
  obtain ⟨a1, a2⟩ := List.pairwise_cons.1 ha
  obtain ⟨b1, b2⟩ := List.pairwise_cons.1 hb
  have e : x = y := by
   rcases List.mem_cons.1 ((h x).1 List.mem_cons_self) with e | e
   ·exact e
   ·rcases List.mem_cons.1 ((h y).2 List.mem_cons_self) with e2 | e2
    ·exact e2.symm
    ·have := sless_trans _ _ _ (b1 x e) (a1 y e2)
     rw [sless_irr] at this; cases this
  subst e
  congr 1
  refine krise_ext a2 b2 fun q => ⟨fun hq => ?_, fun hq => ?_⟩
  ·rcases List.mem_cons.1 ((h q).1 (List.mem_cons_of_mem _ hq)) with e | e
   ·have := a1 q hq
    rw [e, sless_irr] at this; cases this
   ·exact e
  ·rcases List.mem_cons.1 ((h q).2 (List.mem_cons_of_mem _ hq)) with e | e
   ·have := b1 q hq
    rw [e, sless_irr] at this; cases this
   ·exact e
def boundS (n : Nat) (r : List UInt8) : List UInt8 := sha (83 :: (oneS (n : Int) ++ r))
noncomputable def rootL (l : List Pr) : List UInt8 := boundS l.length (rootS (leavesB l))
theorem sr_step (x0 : List Pr) (x1 : List Pr) (x2 : Int) (x3 : Int) (x4 : List UInt8) (x5 : List (List UInt8)) : store_Root_1_step x0 x1 x2 x3 x4 x5 =
  (fork (decide (x3 < x2)) (need (0 ≤ x3 ∧ x3 < (List.length x1 : Int)) (andThen (kv_Leaf (List.getD x1 (Int.toNat x3) zPr)) (fun u4 => need (List.length x5 + List.length ([u4] : List (List UInt8)) ≤ 2147483648) (some (.inl ((w64 (x3 + (1 : Int))), (x5 ++ ([u4] : List (List UInt8))))))))) (some (.inr (x0, x4, x5))) : Option ((Int × List (List UInt8)) ⊕ ((List Pr) × List UInt8 × List (List UInt8)))) := rfl
theorem stroot_eq (l : List Pr) (h : KvOk l) : store_Root l = some (rootL l) := by
 have hl := h.1
 have m1 : store_Root_1 l l (l.length : Int) 0 (List.replicate 32 0) [] = some (l, List.replicate 32 0, leavesB l) := by
  unfold store_Root_1
  have := loop_for (step := fun (s : Int × List (List UInt8)) => store_Root_1_step l l (l.length : Int) s.1 (List.replicate 32 0) s.2) (fun i (_ : Unit) => ((i : Int), leavesB (l.take i))) (fun _ _ => ()) (fun _ => (l, List.replicate 32 0, leavesB l)) l.length (fun _ _ => True) (fun i w hi _ => ⟨?_, trivial⟩) (fun w _ => ?_) l.length 0 () (by omega) trivial
  ·exact this
  ·show store_Root_1_step l l (l.length : Int) (i : Int) (List.replicate 32 0) (leavesB (l.take i)) = _
   rw [sr_step, fork_t (by omega), need_true (by omega), Int.toNat_natCast, leaf_eq _ (h.2 _ (getD_mem hi)), andThen_mk, need_true (by rw [leavesB_len, List.length_take]; simp only [List.length_cons, List.length_nil]; omega), leavesB_take l hi, w64_eq (by omega) (by omega)]
   rfl
  ·show store_Root_1_step l l (l.length : Int) (l.length : Int) (List.replicate 32 0) (leavesB (l.take l.length)) = _
   rw [sr_step, fork_f (by omega), List.take_of_length_le (Nat.le_refl _)]
 have hp : putS [(l.length : Int)] = oneS l.length := by simp [putS]
 have h1 := oneS_len (l.length : Int)
 have h2 := rootS_len (leavesB l)
 have hf : [oneS (l.length : Int), rootS (leavesB l)].flatten = oneS (l.length : Int) ++ rootS (leavesB l) := by simp
 unfold store_Root
 rw [m1, andThen_mk]
 dsimp only
 rw [root_eq _ (by rw [leavesB_len]; omega) (leavesB_small h), andThen_mk, put_eq _ (by simp), andThen_mk, hp, tagged_eq _ _ (by rw [hf, List.length_append]; omega) (by simp), hf]
 rfl
theorem filter_take_succ (l : List Pr) (f : Pr → Bool) {i : Nat} (h : i < l.length) : (l.take (i + 1)).filter f = (l.take i).filter f ++ (if f (l.getD i zPr) then [l.getD i zPr] else []) := by
 rw [List.take_add_one, List.filter_append, List.getElem?_eq_getElem h, List.getD_eq_getElem?_getD, List.getElem?_eq_getElem h]
 show _ ++ List.filter f [l[i]] = _ ++ (if f l[i] then [l[i]] else [])
 rw [List.filter_cons]; rfl
end Go.Ax.V
