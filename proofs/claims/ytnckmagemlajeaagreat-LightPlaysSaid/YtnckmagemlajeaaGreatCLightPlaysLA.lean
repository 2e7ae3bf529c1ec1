/-
  Sets of one to four validators, and some of their names.
-/
import Derived.Test.YtnckmagemlajeaaGreatAxC
import Derived.Test.YtnckmagemlajeaaGreatCLightPlaysP
namespace Go.Ax.V
open Go.Ax
set_option linter.unusedVariables false
set_option linter.unusedSimpArgs false
def K84 {τ : Type} (f : Nat → τ → τ) : Nat → Nat → τ → τ
 | _, 0, t => t
 | i, k + 1, t => K84 f (i + 1) k (f i t)
theorem K47 {σ ρ τ : Type} {step : σ → Option (σ ⊕ ρ)} (st : Nat → τ → σ) (f : Nat → τ → τ) (g : τ → ρ) (n : Nat) (I : Nat → τ → Prop)
    (h1 : ∀ i t, i < n → I i t → step (st i t) = some (.inl (st (i + 1) (f i t))) ∧ I (i + 1) (f i t))
    (h2 : ∀ t, I n t → step (st n t) = some (.inr (g t))) : ∀ (k i : Nat) (t : τ), i + k = n → I i t → loop step (st i t) = some (g (K84 f i k t))
  | 0, i, t, e, h => by have : i = n := by omega
                        subst this; exact J3y (h2 t h)
  | k + 1, i, t, e, h => by
    rw [J3x (h1 i t (by omega) h).1]
    exact K47 st f g n I h1 h2 k (i + 1) (f i t) (by omega) (h1 i t (by omega) h).2
theorem Nat.find_of {p : Nat → Prop} (h : ∃ n, p n) : ∃ n, p n ∧ ∀ m, m < n → ¬ p m := by
 obtain ⟨n, hn⟩ := h
 induction n using Nat.strongRecOn with
 | _ n ih =>
  by_cases hx : ∃ m, m < n ∧ p m
  ·obtain ⟨m, hm, hp⟩ := hx; exact ih m hm hp
  ·exact ⟨n, hn, fun m hm hp => hx ⟨m, hm, hp⟩⟩
def scan {ρ : Type} (bad : Nat → Option ρ) (r0 : ρ) : Nat → Nat → ρ
 | _, 0 => r0
 | i, k + 1 => match bad i with
  | some r => r
  | none => scan bad r0 (i + 1) k
theorem K8b {ρ : Type} {bad : Nat → Option ρ} {r0 : ρ} : ∀ (k i : Nat), (∀ j, i ≤ j → j < i + k → bad j = none) → scan bad r0 i k = r0
 | 0, i, _ => rfl
 | k + 1, i, h => by
  rw [scan, h i (Nat.le_refl _) (by omega)]
  exact K8b k (i + 1) fun j h1 h2 => h j (by omega) (by omega)
theorem K8c {ρ : Type} {bad : Nat → Option ρ} {r0 r : ρ} : ∀ (k i j : Nat), i ≤ j → j < i + k → (∀ j', i ≤ j' → j' < j → bad j' = none) → bad j = some r → scan bad r0 i k = r
 | 0, i, j, h1, h2, _, _ => by omega
 | k + 1, i, j, h1, h2, h3, h4 => by
  rw [scan]
  by_cases e : i = j
  ·subst e; rw [h4]
  ·rw [h3 i (Nat.le_refl _) (by omega)]
   exact K8c k (i + 1) j (by omega) (by omega) (fun j' g1 g2 => h3 j' (by omega) g2) h4
theorem K48 {σ ρ : Type} {step : σ → Option (σ ⊕ ρ)} (st : Nat → σ) (bad : Nat → Option ρ) (r0 : ρ) (n : Nat) (h1 : ∀ i, i < n → bad i = none → step (st i) = some (.inl (st (i + 1))))
    (h2 : ∀ i r, i < n → bad i = some r → step (st i) = some (.inr r)) (h3 : step (st n) = some (.inr r0)) : ∀ (k i : Nat), i + k = n → loop step (st i) = some (scan bad r0 i k)
  | 0, i, e => by have : i = n := by omega
                  subst this; exact J3y h3
  | k + 1, i, e => by
    rw [scan]
    split
    · rename_i r hr; exact J3y (h2 i r (by omega) hr)
    · rename_i hn
      rw [J3x (h1 i (by omega) hn)]
      exact K48 st bad r0 n h1 h2 h3 k (i + 1) (by omega)
theorem K05 {α β : Type} {a : α} {k : α → Option β} : andThen (some a) k = k a := rfl
theorem K2e {α : Type} {p : Prop} [Decidable p] {x y : Option α} (h : p) : fork (decide p) x y = x := by rw [decide_eq_true h]; rfl
theorem K28 {α : Type} {p : Prop} [Decidable p] {x y : Option α} (h : ¬ p) : fork (decide p) x y = y := by rw [decide_eq_false h]; rfl
theorem K2d {α : Type} {p : Prop} [Decidable p] {x y : Option α} (h : p) : fork (!decide p) x y = y := by rw [decide_eq_true h]; rfl
theorem K2c {α : Type} {p : Prop} [Decidable p] {x y : Option α} (h : ¬ p) : fork (!decide p) x y = x := by rw [decide_eq_false h]; rfl
theorem K2f {α : Type} {x y : Option α} : fork true x y = x := rfl
theorem K29 {α : Type} {x y : Option α} : fork false x y = y := rfl
theorem K2b {α : Type} {b : Bool} {x y : Option α} : fork b x y = if b then x else y := by cases b <;> rfl
theorem K17 {α : Type} (l : List α) (u : Int) : cutL l 0 u = l.take u.toNat := rfl
theorem K16 {α : Type} (l : List α) (u : Int) : cutL l u (l.length : Int) = l.drop u.toNat := by
 unfold cutL; rw [Int.toNat_natCast, List.take_of_length_le (Nat.le_refl _)]
theorem beq_self (t : Ty) (h : t.comp = true) (x : t.den) : Ty.beq t x x = true := (Ty.beq_iff t h x x).2 rfl
theorem K0e (x : List UInt8) : Ty.beq (.arr 32 (.int .u8)) x x = true := beq_self (.arr 32 (.int .u8)) rfl x
abbrev Val := List UInt8 × Int × List UInt8 × Unit
def zVal : Val := (([] : List UInt8), (0 : Int), (List.replicate 32 (0 : UInt8)), ())
theorem Kah : ((([] : List UInt8), (0 : Int), (List.replicate 32 (0 : UInt8)), ()) : Val) = zVal := rfl
theorem index_eq (l : List (List UInt8)) (x : List UInt8) (hl : l.length ≤ 1073741824) : qe l x = some (l.contains x) := by
 have h : qh_1 l x (l.length : Int) 0 = some (scan (fun i => if x = l.getD i [] then some (.inl (i : Int)) else none) (.inr ()) 0 l.length) := by
  unfold qh_1
  refine K48 (step := fun (s : Int) => qh_1_step l x (l.length : Int) s) (fun i => (i : Int)) _ _ l.length (fun i hi h => ?_) (fun i r hi h => ?_) ?_ l.length 0 (by omega)
  ·unfold qh_1_step
   simp (disch := omega) only [K2e, J6z, J4c, Int.toNat_natCast]
   by_cases e : x = l.getD i []
   ·rw [if_pos e] at h; cases h
   ·rw [K28 e]; rfl
  ·unfold qh_1_step
   simp (disch := omega) only [K2e, J6z, J4c, Int.toNat_natCast]
   by_cases e : x = l.getD i []
   ·rw [if_pos e] at h; rw [K2e e]; injection h with h; subst h; rfl
   ·rw [if_neg e] at h; cases h
  ·unfold qh_1_step
   rw [K28 (by omega)]
 unfold qe qh
 rw [h, K05]
 by_cases hx : x ∈ l
 ·have hm : ∃ j, j < l.length ∧ x = l.getD j [] := by
   obtain ⟨j, hj, e⟩ := List.getElem_of_mem hx
   exact ⟨j, hj, by rw [List.getD_eq_getElem?_getD, List.getElem?_eq_getElem hj]; exact e.symm⟩
  obtain ⟨j, hj⟩ := Nat.find_of (p := fun j => j < l.length ∧ x = l.getD j []) hm
  rw [K8c l.length 0 j (Nat.zero_le _) (by omega) (fun j' _ h => ?_) (if_pos hj.1.2)]
  ·simp [andThen, hx]
  ·rw [if_neg]
   intro e
   exact hj.2 j' h ⟨by omega, e⟩
 ·rw [K8b _ _ (fun j _ h => ?_)]
  ·simp [andThen, hx]
  ·rw [if_neg]
   intro e
   apply hx
   rw [e, List.getD_eq_getElem?_getD, List.getElem?_eq_getElem (by omega : j < l.length)]
   exact List.getElem_mem _
def pow (p : Val → Bool) (l : List Val) : Int := ((l.filter p).map (·.2.1)).sum
def K02 (l : List Val) : Prop := l.length ≤ 1000 ∧ ∀ v ∈ l, 0 ≤ v.2.1 ∧ v.2.1 ≤ 2097152
theorem K5o (p : Val → Bool) : ∀ (l : List Val), (∀ v ∈ l, 0 ≤ v.2.1 ∧ v.2.1 ≤ 2097152) → 0 ≤ pow p l ∧ pow p l ≤ 2097152 * l.length
 | [], _ => by simp [pow]
 | v :: l, h => by
  have ih := K5o p l fun w hw => h w (List.mem_cons_of_mem _ hw)
  have hv := h v (List.mem_cons_self)
  unfold pow at ih ⊢
  by_cases hp : p v
  ·rw [List.filter_cons_of_pos hp]; simp only [List.map_cons, List.sum_cons, List.length_cons]; omega
  ·rw [List.filter_cons_of_neg hp]; simp only [List.length_cons]; omega
theorem K5v (p : Val → Bool) (l : List Val) {i : Nat} (h : i < l.length) : pow p (l.take (i + 1)) = pow p (l.take i) + (if p (l.getD i zVal) then (l.getD i zVal).2.1 else 0) := by
 unfold pow
 rw [List.take_add_one, List.getElem?_eq_getElem h, List.getD_eq_getElem?_getD, List.getElem?_eq_getElem h]
 simp only [Option.toList_some, Option.getD_some, List.filter_append, List.map_append, List.sum_append]
 by_cases hp : p l[i]
 ·rw [List.filter_cons_of_pos hp]; simp [hp]
 ·rw [List.filter_cons_of_neg hp]; simp [hp]
theorem K2i {α : Type} {l : List α} {i : Nat} {z : α} (h : i < l.length) : l.getD i z ∈ l := by
 rw [List.getD_eq_getElem?_getD, List.getElem?_eq_getElem h]; exact List.getElem_mem _
theorem K9s (l : List Val) (h : K02 l) : q3d l = some (pow (fun _ => true) l) := by
 have main : q3d_1 0 l (l.length : Int) 0 = some (pow (fun _ => true) l) := by
  unfold q3d_1
  have := K47 (step := fun (s : Int × Int) => q3d_1_step s.1 l (l.length : Int) s.2) (fun i (_ : Unit) => (pow (fun _ => true) (l.take i), (i : Int))) (fun _ _ => ()) (fun _ => pow (fun _ => true) l) l.length (fun _ _ => True) (fun i w hi _ => ⟨?_, trivial⟩) (fun w _ => ?_) l.length 0 () (by omega) trivial
  ·exact this
  ·unfold q3d_1_step
   simp only [Kah]
   have b := K5o (fun _ => true) (l.take i) fun v hv => h.2 v (List.mem_of_mem_take hv)
   have hm := h.2 _ (K2i (z := zVal) hi)
   have hl := h.1
   have t := K5v (fun _ => true) l hi
   rw [List.length_take] at b
   simp only [if_true] at t
   simp (disch := omega) only [K2e, J6z, J4c, Int.toNat_natCast]
   rw [t]
   rfl
  ·unfold q3d_1_step
   rw [K28 (by omega), List.take_of_length_le (Nat.le_refl _)]
 unfold q3d
 rw [main, K05]
theorem tally_eq (l : List Val) (h : K02 l) (ns : List (List UInt8)) (hn : ns.length ≤ 1073741824) : q39 l ns = some (pow (fun v => ns.contains v.1) l, pow (fun _ => true) l) := by
 have hl := h.1
 have main : q39_1 l ns 0 l (l.length : Int) 0 = some (l, pow (fun v => ns.contains v.1) l) := by
  unfold q39_1
  have := K47 (step := fun (s : Int × Int) => q39_1_step l ns s.1 l (l.length : Int) s.2) (fun i (_ : Unit) => (pow (fun v => ns.contains v.1) (l.take i), (i : Int))) (fun _ _ => ()) (fun _ => (l, pow (fun v => ns.contains v.1) l)) l.length (fun _ _ => True) (fun i w hi _ => ⟨?_, trivial⟩) (fun w _ => ?_) l.length 0 () (by omega) trivial
  ·exact this
  ·unfold q39_1_step
   simp only [Kah]
   have b := K5o (fun v => ns.contains v.1) (l.take i) fun v hv => h.2 v (List.mem_of_mem_take hv)
   have hm := h.2 _ (K2i (z := zVal) hi)
   have t := K5v (fun v => ns.contains v.1) l hi
   rw [List.length_take] at b
   simp (disch := omega) only [K2e, J6z, J4c, Int.toNat_natCast, index_eq _ _ hn, K05]
   by_cases hc : ns.contains (l.getD i zVal).1
   ·rw [if_pos hc] at t
    rw [hc, K2f, t]
    rfl
   ·rw [if_neg hc] at t
    rw [Bool.not_eq_true] at hc
    rw [hc, K29, t, Int.add_zero]
    rfl
  ·unfold q39_1_step
   rw [K28 (by omega), List.take_of_length_le (Nat.le_refl _)]
 have b1 := K5o (fun v => ns.contains v.1) l h.2
 have b2 := K5o (fun _ => true) l h.2
 unfold q39
 rw [main, K05, J4c (by show Int.natAbs (pow _ l) < _; omega), K9s l h, K05, J4c (by omega)]
theorem K58 (t : Int × Int) (n d : Int) (h1 : 0 ≤ t.1 ∧ t.1 ≤ 4294967296) (h2 : 0 ≤ t.2 ∧ t.2 ≤ 4294967296) (hn : 0 ≤ n ∧ n ≤ 1000) (hd : 0 ≤ d ∧ d ≤ 1000) : q3o t n d = some (decide (t.2 * n < t.1 * d)) := by
 unfold q3o
 have b1 : 0 ≤ t.2 * n ∧ t.2 * n ≤ 4294967296 * 1000 := ⟨Int.mul_nonneg h2.1 hn.1, Int.mul_le_mul h2.2 hn.2 hn.1 (by omega)⟩
 have b2 : 0 ≤ t.1 * d ∧ t.1 * d ≤ 4294967296 * 1000 := ⟨Int.mul_nonneg h1.1 hd.1, Int.mul_le_mul h1.2 hd.2 hd.1 (by omega)⟩
 rw [J6z (by omega) (by omega), J6z (by omega) (by omega)]
def mayS (v : Val) : Bool := !decide (v.1 = []) && (decide ((v.1.length : Int) ≤ 16) && (decide (1 ≤ v.2.1) && decide (v.2.1 ≤ 1048576)))
theorem may_eq (v : Val) : q3u v = some (mayS v) := by
 unfold q3u mayS
 simp only [K2b]
 split
 ·rename_i h; rw [h]; split
  ·rename_i h; rw [h]; split
   ·rename_i h; rw [h]; simp
   ·rename_i h; rw [Bool.not_eq_true] at h; rw [h]; simp
  ·rename_i h; rw [Bool.not_eq_true] at h; rw [h]; simp
 ·rename_i h; rw [Bool.not_eq_true] at h; rw [h]; simp
def okAt (l : List Val) (i : Nat) : Bool := mayS (l.getD i zVal) && (i == 0 || sless (l.getD (i - 1) zVal).1 (l.getD i zVal).1)
def K6o (l : List Val) : Bool := (List.range l.length).all (okAt l) && (decide (1 ≤ l.length) && decide (l.length ≤ 5))
theorem right_eq (l : List Val) (hl : l.length ≤ 1073741824) : q32 l = some (K6o l) := by
 have main : q32_1 l l (l.length : Int) 0 = some (scan (fun i => if okAt l i then none else some (.inl false)) (.inr l) 0 l.length) := by
  unfold q32_1
  have step : ∀ i, i < l.length → q32_1_step l l (l.length : Int) (i : Int) = if okAt l i then some (.inl ((i + 1 : Nat) : Int)) else some (.inr (.inl false)) := by
   intro i hi
   unfold q32_1_step
   simp only [Kah]
   simp (disch := omega) only [K2e, J6z, J4c, Int.toNat_natCast, may_eq, K05]
   unfold okAt
   by_cases hm : mayS (l.getD i zVal)
   ·rw [hm]
    rw [show (!true) = false from rfl, K29, Bool.true_and]
    by_cases h0 : i = 0
    ·subst h0; rw [K28 (by omega)]; rfl
    ·rw [K2e (by omega), J4c (by omega), show Int.toNat ((i : Int) - 1) = i - 1 from by omega]
     have : (i == 0) = false := by simp [h0]
     rw [this, Bool.false_or]
     by_cases hs : sless (l.getD (i - 1) zVal).1 (l.getD i zVal).1
     ·rw [hs]; rfl
     ·rw [Bool.not_eq_true] at hs; rw [hs]; rfl
   ·rw [Bool.not_eq_true] at hm; rw [hm]; rfl
  refine K48 (step := fun (s : Int) => q32_1_step l l (l.length : Int) s) (fun i => (i : Int)) _ _ l.length (fun i hi h => ?_) (fun i r hi h => ?_) ?_ l.length 0 (by omega)
  ·by_cases hk : okAt l i
   ·exact (step i hi).trans (if_pos hk)
   ·rw [if_neg hk] at h; cases h
  ·by_cases hk : okAt l i
   ·rw [if_pos hk] at h; cases h
   ·rw [if_neg hk] at h; injection h with h; subst h
    exact (step i hi).trans (if_neg hk)
  ·unfold q32_1_step
   rw [K28 (by omega)]
 unfold q32
 rw [main, K05]
 unfold K6o
 by_cases hall : (List.range l.length).all (okAt l)
 ·rw [K8b _ _ (fun j _ h => if_pos (List.all_eq_true.1 hall j (by simp; omega))), hall, Bool.true_and]
  simp only [K2b]
  by_cases h1 : 1 ≤ l.length
  ·rw [decide_eq_true h1, decide_eq_true (show (1 : Int) ≤ (l.length : Int) by omega), if_pos rfl, Bool.true_and]
   congr 1
   exact decide_eq_decide.2 (by omega)
  ·rw [decide_eq_false h1, decide_eq_false (show ¬ (1 : Int) ≤ (l.length : Int) by omega)]; rfl
 ·rw [Bool.not_eq_true] at hall
  have : ∃ j, j < l.length ∧ okAt l j = false := by
   rw [List.all_eq_false] at hall
   obtain ⟨j, hj, hk⟩ := hall
   exact ⟨j, by simpa using hj, by simpa using hk⟩
  obtain ⟨j, hj⟩ := Nat.find_of this
  have hsc : scan (fun i => if okAt l i then none else some (.inl false)) (.inr l : Bool ⊕ List Val) 0 l.length = .inl false := by
   refine K8c l.length 0 j (Nat.zero_le _) (by omega) (fun j' _ h => if_pos ?_) (if_neg ?_)
   ·have := hj.2 j' h
    cases hk : okAt l j' with
    | true => rfl
    | false => exact absurd ⟨by omega, hk⟩ this
   ·rw [hj.1.2]; simp
  rw [hall, hsc]
  rfl
theorem K5q (p : Val → Bool) (v : Val) (l : List Val) : pow p (v :: l) = (if p v then v.2.1 else 0) + pow p l := by
 unfold pow
 by_cases h : p v
 ·rw [List.filter_cons_of_pos h, if_pos h]; simp
 ·rw [List.filter_cons_of_neg h, if_neg h]; simp
theorem K5s (p : Val → Bool) : pow p [] = 0 := rfl
theorem K5p {p q : Val → Bool} : ∀ {l : List Val}, (∀ v ∈ l, p v = q v) → pow p l = pow q l
 | [], _ => rfl
 | v :: l, h => by rw [K5q, K5q, h v List.mem_cons_self, K5p fun w hw => h w (List.mem_cons_of_mem _ hw)]
theorem K5t {p : Val → Bool} : ∀ {l : List Val}, (∀ v ∈ l, p v = false) → pow p l = 0
 | [], _ => rfl
 | v :: l, h => by rw [K5q, h v List.mem_cons_self, K5t fun w hw => h w (List.mem_cons_of_mem _ hw)]; rfl
theorem pow_or {p q : Val → Bool} : ∀ {l : List Val}, (∀ v ∈ l, p v = true → q v = false) → pow (fun v => p v || q v) l = pow p l + pow q l
 | [], _ => rfl
 | v :: l, h => by
  rw [K5q, K5q, K5q, pow_or fun w hw => h w (List.mem_cons_of_mem _ hw)]
  have := h v List.mem_cons_self
  cases hp : p v <;> cases hq : q v <;> simp [hp, hq] at this ⊢ <;> omega
theorem K95 : ∀ a : List UInt8, sless a a = false
 | [] => rfl
 | x :: a => by
  rw [sless, K95 a]
  simp
theorem K98 : ∀ a b c : List UInt8, sless a b = true → sless b c = true → sless a c = true
 | _, [], _, h, _ => by cases ‹List UInt8› <;> simp [sless] at h
 | _, _ :: _, [], _, h => by simp [sless] at h
 | [], _ :: _, _ :: _, _, _ => rfl
 | x :: a, y :: b, z :: c, h1, h2 => by
  simp only [sless, Bool.or_eq_true, Bool.and_eq_true, decide_eq_true_eq, beq_iff_eq] at h1 h2 ⊢
  rcases h1 with h1 | ⟨rfl, h1⟩
  ·rcases h2 with h2 | ⟨rfl, h2⟩
   ·exact .inl (UInt8.lt_trans h1 h2)
   ·exact .inl h1
  ·rcases h2 with h2 | ⟨rfl, h2⟩
   ·exact .inl h2
   ·exact .inr ⟨rfl, K98 a b c h1 h2⟩
def incN (ns : List (List UInt8)) : Bool := (List.range (ns.length - 1)).all fun i => sless (ns.getD i []) (ns.getD (i + 1) [])
theorem K34 : ∀ (ns : List (List UInt8)), incN ns = true → ns.Pairwise (fun a b => sless a b = true)
 | [], _ => List.Pairwise.nil
 | [x], _ => List.pairwise_singleton _ _
 | x :: y :: ns, h => by
  have hall : ∀ i, i < ns.length + 1 → sless ((x :: y :: ns).getD i []) ((x :: y :: ns).getD (i + 1) []) = true := fun i hi => List.all_eq_true.1 h i (by simp; omega)
  have ih := K34 (y :: ns) (List.all_eq_true.2 fun i hi => by
   have := hall (i + 1) (by simp at hi; omega)
   exact this)
  have h0 : sless x y = true := hall 0 (by omega)
  refine List.pairwise_cons.2 ⟨fun z hz => ?_, ih⟩
  rcases List.mem_cons.1 hz with rfl | hz
  ·exact h0
  ·exact K98 _ _ _ h0 ((List.pairwise_cons.1 ih).1 z hz)
theorem incN_of : ∀ (ns : List (List UInt8)), ns.Pairwise (fun a b => sless a b = true) → incN ns = true := by
 intro ns h
 refine List.all_eq_true.2 fun i hi => ?_
 have hi : i < ns.length - 1 := by simpa using hi
 rw [List.getD_eq_getElem?_getD, List.getD_eq_getElem?_getD, List.getElem?_eq_getElem (by omega), List.getElem?_eq_getElem (by omega)]
 exact List.pairwise_iff_getElem.1 h i (i + 1) (by omega) (by omega) (by omega)
theorem K33 {ns : List (List UInt8)} (h : incN ns = true) : ns.Nodup :=
 (K34 ns h).imp fun {a b} hab e => by subst e; rw [K95] at hab; cases hab
def findS (l : List Val) (x : List UInt8) : Val × Bool := match l.find? (fun v => decide (v.1 = x)) with
 | some v => (v, true)
 | none => (zVal, false)
theorem K88 (l : List Val) (x : List UInt8) : ∀ (k i : Nat), i + k = l.length → scan (fun i => if (l.getD i zVal).1 = x then some (.inl (true, l.getD i zVal)) else none) (.inr zVal : (Bool × Val) ⊕ Val) i k =
  match (l.drop i).find? (fun v => decide (v.1 = x)) with | some v => .inl (true, v) | none => .inr zVal
 | 0, i, h => by rw [List.drop_of_length_le (by omega)]; rfl
 | k + 1, i, h => by
  have hd : l.drop i = l.getD i zVal :: l.drop (i + 1) := by
   rw [List.drop_eq_getElem_cons (by omega), List.getD_eq_getElem?_getD, List.getElem?_eq_getElem (by omega)]; rfl
  rw [scan, hd]
  by_cases e : (l.getD i zVal).1 = x
  ·rw [if_pos e, List.find?_cons_of_pos (by simpa using e)]
  ·rw [if_neg e, List.find?_cons_of_neg (by simpa using e)]
   exact K88 l x k (i + 1) (by omega)
theorem K1o (x : List UInt8) (l : List Val) (n i : Int) (z : Val) : q3r_1_step x l n i z = (fork (decide (i < n)) (need (0 ≤ i ∧ i < (l.length : Int)) (fork (decide ((l.getD (Int.toNat i) zVal).1 = x)) (some (.inr (.inl (true, l.getD (Int.toNat i) zVal)))) (some (.inl (w64 (i + 1)))))) (some (.inr (.inr z))) : Option (Int ⊕ ((Bool × Val) ⊕ Val))) := rfl
theorem find_eq (l : List Val) (hl : l.length ≤ 1073741824) (x : List UInt8) : q3r l x = some (findS l x) := by
 have h : q3r_1 x l (l.length : Int) 0 zVal = some (scan (fun i => if (l.getD i zVal).1 = x then some (.inl (true, l.getD i zVal)) else none) (.inr zVal) 0 l.length) := by
  unfold q3r_1
  refine K48 (step := fun (s : Int) => q3r_1_step x l (l.length : Int) s zVal) (fun i => (i : Int)) _ _ l.length (fun i hi h => ?_) (fun i r hi h => ?_) ?_ l.length 0 (by omega)
  ·rw [K1o, K2e (by omega), J4c (by omega), Int.toNat_natCast, J6z (by omega) (by omega)]
   by_cases e : (l.getD i zVal).1 = x
   ·rw [if_pos e] at h; cases h
   ·rw [K28 e]; rfl
  ·rw [K1o, K2e (by omega), J4c (by omega), Int.toNat_natCast]
   by_cases e : (l.getD i zVal).1 = x
   ·rw [if_pos e] at h; injection h with h; subst h; rw [K2e e]
   ·rw [if_neg e] at h; cases h
  ·unfold q3r_1_step
   rw [K28 (by omega)]
 unfold q3r
 simp only [Kah]
 rw [h, K05, K88 l x l.length 0 (by omega), List.drop_zero]
 unfold findS
 cases l.find? (fun v => decide (v.1 = x)) <;> rfl
def Dist (l : List Val) : Prop := (l.map (·.1)).Nodup
theorem K1n {l : List Val} (hd : Dist l) {v : Val} (hv : v ∈ l) : findS l v.1 = (v, true) := by
 have : l.find? (fun w => decide (w.1 = v.1)) = some v := by
  induction l with
  | nil => cases hv
  | cons w l ih =>
   unfold Dist at hd
   rw [List.map_cons, List.nodup_cons] at hd
   rcases List.mem_cons.1 hv with rfl | hv
   ·rw [List.find?_cons_of_pos (by simp)]
   ·rw [List.find?_cons_of_neg]
    ·exact ih hd.2 hv
    ·simp only [decide_eq_true_eq]
     intro e
     exact hd.1 (by rw [e]; exact List.mem_map_of_mem hv)
 unfold findS
 rw [this]
set_option maxRecDepth 100000
def rotr (x : UInt32) (n : Nat) : UInt32 := UInt32.ofNat (x.toNat <<< (32 - n)) ||| UInt32.ofNat (x.toNat >>> n)
def shr (x : UInt32) (n : Nat) : UInt32 := UInt32.ofNat (x.toNat >>> n)
def byteW (b : List UInt8) (i k : Nat) : UInt32 := UInt32.ofNat (UInt32.toNat (UInt32.ofNat (UInt8.toNat (List.getD b i 0))) <<< k)
def word (b : List UInt8) (i : Nat) : UInt32 := ((byteW b (4 * i) 24 ||| byteW b (4 * i + 1) 16) ||| byteW b (4 * i + 2) 8) ||| UInt32.ofNat (UInt8.toNat (List.getD b (4 * i + 3) 0))
def sprd1 (b : List UInt8) (i : Nat) (w : List UInt32) : List UInt32 := w.set i (word b i)
def sprd2 (i : Nat) (w : List UInt32) : List UInt32 :=
 w.set i (((w.getD (i - 16) 0 + ((rotr (w.getD (i - 15) 0) 7 ^^^ rotr (w.getD (i - 15) 0) 18) ^^^ shr (w.getD (i - 15) 0) 3)) + w.getD (i - 7) 0) + ((rotr (w.getD (i - 2) 0) 17 ^^^ rotr (w.getD (i - 2) 0) 19) ^^^ shr (w.getD (i - 2) 0) 10))
def K9f (b : List UInt8) : List UInt32 := K84 sprd2 16 48 (K84 (sprd1 b) 0 16 (List.replicate 64 0))
abbrev W8 := UInt32 × UInt32 × UInt32 × UInt32 × UInt32 × UInt32 × UInt32 × UInt32
def K7m (k w : List UInt32) (i : Nat) (s : W8) : W8 :=
 match s with
 | (a, b, c, d, e, f, g, h) =>
  let one := (((h + ((rotr e 6 ^^^ rotr e 11) ^^^ rotr e 25)) + ((e &&& f) ^^^ ((~~~e) &&& g))) + k.getD i 0) + w.getD i 0
  (one + (((rotr a 2 ^^^ rotr a 13) ^^^ rotr a 22) + (((a &&& b) ^^^ (a &&& c)) ^^^ (b &&& c))), a, b, c, d + one, e, f, g)
def list8 (s : W8) : List UInt32 := [s.1, s.2.1, s.2.2.1, s.2.2.2.1, s.2.2.2.2.1, s.2.2.2.2.2.1, s.2.2.2.2.2.2.1, s.2.2.2.2.2.2.2]
def tup8 (h : List UInt32) : W8 := (h.getD 0 0, h.getD 1 0, h.getD 2 0, h.getD 3 0, h.getD 4 0, h.getD 5 0, h.getD 6 0, h.getD 7 0)
def addS (v : List UInt32) (i : Nat) (h : List UInt32) : List UInt32 := h.set i (h.getD i 0 + v.getD i 0)
def mixS (k : List UInt32) (b : List UInt8) (h : List UInt32) : List UInt32 :=
 K84 (addS (list8 (K84 (K7m k (K9f b)) 0 64 (tup8 h)))) 0 8 h
def kS : List UInt32 := [1116352408, 1899447441, 3049323471, 3921009573, 961987163, 1508970993, 2453635748, 2870763221, 3624381080, 310598401, 607225278, 1426881987, 1925078388, 2162078206, 2614888103, 3248222580, 3835390401, 4022224774, 264347078, 604807628, 770255983, 1249150122, 1555081692, 1996064986, 2554220882, 2821834349, 2952996808, 3210313671, 3336571891, 3584528711, 113926993, 338241895, 666307205, 773529912, 1294757372, 1396182291, 1695183700, 1986661051, 2177026350, 2456956037, 2730485921, 2820302411, 3259730800, 3345764771, 3516065817, 3600352804, 4094571909, 275423344, 430227734, 506948616, 659060556, 883997877, 958139571, 1322822218, 1537002063, 1747873779, 1955562222, 2024104815, 2227730452, 2361852424, 2428436474, 2756734187, 3204031479, 3329325298]
def h0S : List UInt32 := [1779033703, 3144134277, 1013904242, 2773480762, 1359893119, 2600822924, 528734635, 1541459225]
def K0q (n : UInt64) (i : Nat) : UInt8 := UInt8.ofNat (UInt64.toNat (UInt64.ofNat (UInt64.toNat n >>> (8 * i))))
def bitsOf (b : List UInt8) : UInt64 := UInt64.ofNat b.length * 8
def padS (b : List UInt8) : List UInt8 :=
 b ++ 128 :: (List.replicate ((b.length + 8) / 64 * 64 + 55 - b.length) 0 ++ [K0q (bitsOf b) 7, K0q (bitsOf b) 6, K0q (bitsOf b) 5, K0q (bitsOf b) 4, K0q (bitsOf b) 3, K0q (bitsOf b) 2, K0q (bitsOf b) 1, K0q (bitsOf b) 0])
def K0l : Nat → List UInt8 → List UInt32 → List UInt32
 | 0, _, h => h
 | n + 1, l, h => K0l n (l.drop 64) (mixS kS (l.take 64) h)
def outB (x : UInt32) (j : Nat) : UInt8 := UInt8.ofNat (UInt32.toNat (UInt32.ofNat (UInt32.toNat x >>> (24 - 8 * j))))
def outS (h : List UInt32) : List UInt8 := h.flatMap fun x => [outB x 0, outB x 1, outB x 2, outB x 3]
def sha (b : List UInt8) : List UInt8 := outS (K0l ((b.length + 8) / 64 + 1) (padS b) h0S)
theorem right7 (x : UInt32) : q3n x 7 = some (rotr x 7) := rfl
theorem right18 (x : UInt32) : q3n x 18 = some (rotr x 18) := rfl
theorem right17 (x : UInt32) : q3n x 17 = some (rotr x 17) := rfl
theorem right19 (x : UInt32) : q3n x 19 = some (rotr x 19) := rfl
theorem right6 (x : UInt32) : q3n x 6 = some (rotr x 6) := rfl
theorem right11 (x : UInt32) : q3n x 11 = some (rotr x 11) := rfl
theorem right25 (x : UInt32) : q3n x 25 = some (rotr x 25) := rfl
theorem right2 (x : UInt32) : q3n x 2 = some (rotr x 2) := rfl
theorem right13 (x : UInt32) : q3n x 13 = some (rotr x 13) := rfl
theorem right22 (x : UInt32) : q3n x 22 = some (rotr x 22) := rfl
theorem K9d (b : List UInt8) (hb : b.length = 64) (z w : List UInt32) {i : Nat} (hi : i < 16) :
  q3b_1_step b (i : Int) z w = some (.inl (((i + 1 : Nat) : Int), sprd1 b i w)) := by
 unfold q3b_1_step
 have e0 : Int.toNat (4 * (i : Int)) = 4 * i := by omega
 have e1 : Int.toNat (4 * (i : Int) + 1) = 4 * i + 1 := by omega
 have e2 : Int.toNat (4 * (i : Int) + 2) = 4 * i + 2 := by omega
 have e3 : Int.toNat (4 * (i : Int) + 3) = 4 * i + 3 := by omega
 simp (disch := omega) only [K2e, J6z, J4c, hb, e0, e1, e2, e3, Int.toNat_natCast]
 rfl
theorem spread_1 (b : List UInt8) (hb : b.length = 64) (z : List UInt32) : q3b_1 b 0 z z = some (z, K84 (sprd1 b) 0 16 z) := by
 unfold q3b_1
 refine K47 (fun i w => ((i : Int), w)) (sprd1 b) (fun w => (z, w)) 16 (fun _ _ => True) (fun i w hi _ => ⟨K9d b hb z w hi, trivial⟩) (fun w _ => ?_) 16 0 z rfl trivial
 unfold q3b_1_step
 rfl
theorem K9e (z w : List UInt32) {i : Nat} (h1 : 16 ≤ i) (hi : i < 64) :
  q3b_2_step (i : Int) z w = some (.inl (((i + 1 : Nat) : Int), sprd2 i w)) := by
 unfold q3b_2_step
 have e0 : Int.toNat ((i : Int) - 15) = i - 15 := by omega
 have e1 : Int.toNat ((i : Int) - 2) = i - 2 := by omega
 have e2 : Int.toNat ((i : Int) - 16) = i - 16 := by omega
 have e3 : Int.toNat ((i : Int) - 7) = i - 7 := by omega
 simp (disch := omega) only [K2e, J6z, J4c, e0, e1, e2, e3, Int.toNat_natCast, right7, right18, right17, right19, K05]
 rfl
theorem spread_2 (z w : List UInt32) : q3b_2 16 z w = some (z, K84 sprd2 16 48 w) := by
 unfold q3b_2
 refine K47 (fun i w => ((i : Int), w)) sprd2 (fun w => (z, w)) 64 (fun i _ => 16 ≤ i) (fun i w hi h => ⟨K9e z w h hi, by omega⟩) (fun w _ => ?_) 48 16 w rfl (Nat.le_refl _)
 unfold q3b_2_step
 rfl
theorem K9g (b : List UInt8) (hb : b.length = 64) : q3b b = some (K9f b) := by
 unfold q3b
 rw [spread_1 b hb, K05, spread_2, K05, K9f]
theorem K4j (k w hz : List UInt32) (s : W8) {i : Nat} (hi : i < 64) :
  q2u_1_step s.1 s.2.1 s.2.2.1 s.2.2.2.1 s.2.2.2.2.1 s.2.2.2.2.2.1 s.2.2.2.2.2.2.1 s.2.2.2.2.2.2.2 (i : Int) hz k w =
   some (.inl ((K7m k w i s).1, (K7m k w i s).2.1, (K7m k w i s).2.2.1, (K7m k w i s).2.2.2.1, (K7m k w i s).2.2.2.2.1, (K7m k w i s).2.2.2.2.2.1, (K7m k w i s).2.2.2.2.2.2.1, (K7m k w i s).2.2.2.2.2.2.2, ((i + 1 : Nat) : Int))) := by
 obtain ⟨a, b, c, d, e, f, g, h⟩ := s
 unfold q2u_1_step
 simp (disch := omega) only [K2e, J6z, J4c, Int.toNat_natCast, right6, right11, right25, right2, right13, right22, K05]
 rfl
theorem mix_1 (k w hz : List UInt32) (s : W8) : q2u_1 s.1 s.2.1 s.2.2.1 s.2.2.2.1 s.2.2.2.2.1 s.2.2.2.2.2.1 s.2.2.2.2.2.2.1 s.2.2.2.2.2.2.2 0 hz k w =
   some ((K84 (K7m k w) 0 64 s).1, (K84 (K7m k w) 0 64 s).2.1, (K84 (K7m k w) 0 64 s).2.2.1, (K84 (K7m k w) 0 64 s).2.2.2.1, (K84 (K7m k w) 0 64 s).2.2.2.2.1, (K84 (K7m k w) 0 64 s).2.2.2.2.2.1, (K84 (K7m k w) 0 64 s).2.2.2.2.2.2.1, (K84 (K7m k w) 0 64 s).2.2.2.2.2.2.2, hz, k) := by
 unfold q2u_1
 refine K47 (fun i (s : W8) => (s.1, s.2.1, s.2.2.1, s.2.2.2.1, s.2.2.2.2.1, s.2.2.2.2.2.1, s.2.2.2.2.2.2.1, s.2.2.2.2.2.2.2, (i : Int))) (K7m k w)
  (fun (s : W8) => (s.1, s.2.1, s.2.2.1, s.2.2.2.1, s.2.2.2.2.1, s.2.2.2.2.2.1, s.2.2.2.2.2.2.1, s.2.2.2.2.2.2.2, hz, k)) 64 (fun _ _ => True) (fun i s hi _ => ⟨K4j k w hz s hi, trivial⟩) (fun s _ => ?_) 64 0 s rfl trivial
 unfold q2u_1_step
 rfl
theorem mix_2 (v h k : List UInt32) : q2u_2 v 0 h k = some (K84 (addS v) 0 8 h, k) := by
 unfold q2u_2
 refine K47 (fun i w => ((i : Int), w)) (addS v) (fun w => (w, k)) 8 (fun _ _ => True) (fun i w hi _ => ⟨?_, trivial⟩) (fun w _ => ?_) 8 0 h rfl trivial
 ·unfold q2u_2_step
  simp (disch := omega) only [K2e, J6z, J4c, Int.toNat_natCast]
  rfl
 ·unfold q2u_2_step
  rfl
theorem mix_eq (b : List UInt8) (hb : b.length = 64) (h k : List UInt32) : q2u b h k = some (mixS k b h, k) := by
 unfold q2u
 rw [K9g b hb, K05]
 have := mix_1 k (K9f b) h (tup8 h)
 simp only [tup8] at this
 rw [show (Int.toNat (0 : Int)) = 0 from rfl, show (Int.toNat (1 : Int)) = 1 from rfl, show (Int.toNat (2 : Int)) = 2 from rfl, show (Int.toNat (3 : Int)) = 3 from rfl, show (Int.toNat (4 : Int)) = 4 from rfl,
  show (Int.toNat (5 : Int)) = 5 from rfl, show (Int.toNat (6 : Int)) = 6 from rfl, show (Int.toNat (7 : Int)) = 7 from rfl, this, K05, mix_2, K05]
 rfl
set_option maxRecDepth 100000
theorem K0o (n : Nat) (h : n ≤ 1073741824) : q34 (n : Int) = some (((n + 8) / 64 + 1 : Nat) : Int) := by
 unfold q34
 have e : Int.tdiv ((n : Int) + 8) 64 = (((n + 8) / 64 : Nat) : Int) := by
  rw [Int.tdiv_eq_ediv_of_nonneg (by omega)]; omega
 simp (disch := omega) only [J6z, e]
 rfl
theorem K8n {α : Type} (a l : List α) (k : Nat) (x : α) : (a ++ l).set (a.length + k) x = a ++ l.set k x := by
 rw [List.set_append_right _ _ (by omega)]
 congr 2; omega
theorem K5b (x0 : UInt64) (n : Nat) (hn : 8 ≤ n) (hn2 : n ≤ 2147483648) (l : List UInt8) (hl : l.length = n) : q35_1 x0 0 l = some (K84 (fun i (w : List UInt8) => w.set (n - 1 - i) (K0q x0 i)) 0 8 l) := by
 unfold q35_1
 refine K47 (fun i w => ((i : Int), w)) (fun i (w : List UInt8) => w.set (n - 1 - i) (K0q x0 i)) (fun w => w) 8 (fun _ w => w.length = n) (fun i w hi hw => ⟨?_, by simp [hw]⟩) (fun w _ => ?_) 8 0 l rfl hl
 ·unfold q35_1_step
  have e0 : Int.toNat ((n : Int) - 1 - (i : Int)) = n - 1 - i := by omega
  have e1 : Int.toNat (8 * (i : Int)) = 8 * i := by omega
  simp (disch := omega) only [K2e, J6z, J4c, hw, e0, e1]
  rfl
 ·unfold q35_1_step
  rfl
theorem K5a (b : List UInt8) (hb : b.length ≤ 1073741824) : q35 b = some (padS b) := by
 unfold q35
 rw [K0o _ hb, K05]
 have hN : w64 ((((b.length + 8) / 64 + 1 : Nat) : Int) * 64) = (((b.length + 8) / 64 * 64 + 64 : Nat) : Int) := by
  rw [J6z (by omega) (by omega)]; omega
 generalize hn : (b.length + 8) / 64 * 64 + 64 = n at hN
 rw [hN, J4c (by omega), Int.toNat_natCast, List.length_replicate, List.take_of_length_le (by omega), List.drop_replicate]
 have hz : n - b.length = ((b.length + 8) / 64 * 64 + 55 - b.length) + 1 + 8 := by omega
 have hl : (b ++ List.replicate (n - b.length) (0 : UInt8)).length = n := by simp; omega
 rw [hl, J4c (by omega), Int.toNat_natCast]
 have hbits : UInt64.ofNat (Int.toNat ((b.length : Int) % 18446744073709551616)) * 8 = bitsOf b := by
  unfold bitsOf; congr 2; omega
 rw [hbits, K5b (bitsOf b) n (by omega) (by omega) _ (by rw [List.length_set, hl]), K05]
 congr 1
 have h1 : (b ++ List.replicate (n - b.length) (0 : UInt8)).set b.length 128 = (b ++ 128 :: List.replicate ((b.length + 8) / 64 * 64 + 55 - b.length) 0) ++ [0, 0, 0, 0, 0, 0, 0, 0] := by
  rw [hz]
  generalize (b.length + 8) / 64 * 64 + 55 - b.length = z
  have h := K8n b (List.replicate ((z + 8) + 1) (0 : UInt8)) 0 128
  rw [Nat.add_zero b.length] at h
  rw [show z + 1 + 8 = (z + 8) + 1 from by omega, h, List.replicate_succ, List.set_cons_zero, ← List.replicate_append_replicate, List.append_assoc]
  rfl
 rw [h1]
 have hA : (b ++ 128 :: List.replicate ((b.length + 8) / 64 * 64 + 55 - b.length) (0 : UInt8)).length = n - 8 := by simp; omega
 generalize hA2 : (b ++ 128 :: List.replicate ((b.length + 8) / 64 * 64 + 55 - b.length) (0 : UInt8)) = A at hA
 have ix : ∀ i, i < 8 → n - 1 - i = A.length + (7 - i) := by intro i hi; omega
 simp only [K84]
 rw [ix 0 (by omega), ix (0 + 1) (by omega), ix (0 + 1 + 1) (by omega), ix (0 + 1 + 1 + 1) (by omega), ix (0 + 1 + 1 + 1 + 1) (by omega), ix (0 + 1 + 1 + 1 + 1 + 1) (by omega), ix (0 + 1 + 1 + 1 + 1 + 1 + 1) (by omega), ix (0 + 1 + 1 + 1 + 1 + 1 + 1 + 1) (by omega)]
 simp only [K8n]
 unfold padS
 rw [show ∀ x : List UInt8, b ++ 128 :: (List.replicate ((b.length + 8) / 64 * 64 + 55 - b.length) 0 ++ x) = A ++ x from fun x => by rw [← hA2]; simp]
 rfl
theorem K59 (b : List UInt8) : (padS b).length = 64 * ((b.length + 8) / 64 + 1) := by
 unfold padS
 simp
 omega
theorem K85 {α : Type} {f : Nat → List α → List α} (h : ∀ i w, (f i w).length = w.length) : ∀ (k i : Nat) (w : List α), (K84 f i k w).length = w.length
 | 0, _, _ => rfl
 | k + 1, i, w => by rw [K84, K85 h k, h]
theorem K4k (k : List UInt32) (b : List UInt8) (h : List UInt32) : (mixS k b h).length = h.length := K85 (fun i w => by simp [addS]) _ _ _
theorem K0m : ∀ (n : Nat) (l : List UInt8) (h : List UInt32), (K0l n l h).length = h.length
 | 0, _, _ => rfl
 | n + 1, l, h => by rw [K0l, K0m n, K4k]
theorem sum_1 (out : List UInt8) : ∀ (n : Nat) (l : List UInt8), l.length = 64 * n → l.length ≤ 2147483648 → ∀ h, q3z_1 l out h kS = some (out, K0l n l h)
 | 0, l, hl, _, h => by
  unfold q3z_1
  refine J3y ?_
  unfold q3z_1_step
  show fork (decide ((0 : Int) < (l.length : Int))) _ _ = _
  rw [K28 (by omega)]; rfl
 | n + 1, l, hl, hl2, h => by
  have hm := mix_eq (l.take 64) (by rw [List.length_take]; omega) h kS
  have hs : q3z_1_step l out h kS = some (.inl (l.drop 64, mixS kS (l.take 64) h, kS)) := by
   unfold q3z_1_step
   rw [K2e (by omega), J4c (by omega), show cutL l (0 : Int) (64 : Int) = l.take 64 from rfl, hm, K05, J4c (by omega)]
   have : cutL l (64 : Int) (l.length : Int) = l.drop 64 := by
    unfold cutL; rw [Int.toNat_natCast, List.take_of_length_le (Nat.le_refl _)]; rfl
   rw [this]
  have ih := sum_1 out n (l.drop 64) (by rw [List.length_drop]; omega) (by rw [List.length_drop]; omega) (mixS kS (l.take 64) h)
  unfold q3z_1 at ih ⊢
  rw [J3x (s' := (l.drop 64, mixS kS (l.take 64) h, kS)) hs, ih]
  rfl
def K55 (x : UInt32) (i : Nat) (acc : List UInt8) : List UInt8 := K84 (fun j (acc : List UInt8) => acc.set (4 * i + j) (outB x j)) 0 4 acc
theorem sum_2 (x : UInt32) (h : List UInt32) (z acc : List UInt8) {i : Nat} (hi : i < 8) : q3z_2 (i : Int) x h (i : Int) 0 z acc = some (h, (i : Int), z, K55 x i acc) := by
 unfold q3z_2
 refine K47 (fun j acc => ((j : Int), acc)) (fun j (acc : List UInt8) => acc.set (4 * i + j) (outB x j)) (fun acc => (h, (i : Int), z, acc)) 4 (fun _ _ => True) (fun j acc hj _ => ⟨?_, trivial⟩) (fun acc _ => ?_) 4 0 acc rfl trivial
 ·unfold q3z_2_step
  have e0 : Int.toNat (4 * (i : Int) + (j : Int)) = 4 * i + j := by omega
  have e1 : Int.toNat (24 - 8 * (j : Int)) = 24 - 8 * j := by omega
  simp (disch := omega) only [K2e, J6z, J4c, e0, e1]
  rfl
 ·unfold q3z_2_step
  rfl
theorem sum_3 (h : List UInt32) (z acc : List UInt8) : q3z_3 h 0 z acc = some (z, K84 (fun i acc => K55 (h.getD i 0) i acc) 0 8 acc) := by
 unfold q3z_3
 refine K47 (fun i acc => (h, (i : Int), z, acc)) (fun i acc => K55 (h.getD i 0) i acc) (fun acc => (z, acc)) 8 (fun _ _ => True) (fun i acc hi _ => ⟨?_, trivial⟩) (fun acc _ => ?_) 8 0 acc rfl trivial
 ·show q3z_3_step h (i : Int) z acc = _
  unfold q3z_3_step
  rw [K2e (by omega), J4c (by omega), Int.toNat_natCast, sum_2 _ _ _ _ hi, K05]
  rw [J6z (by show (-9223372036854775808 : Int) ≤ (i : Int) + 1; omega) (by show (i : Int) + 1 ≤ 9223372036854775807; omega)]
  rfl
 ·unfold q3z_3_step
  rfl
theorem out_eq8 (a b c d e f g i : UInt32) : K84 (fun j acc => K55 (List.getD [a, b, c, d, e, f, g, i] j 0) j acc) 0 8 (List.replicate 32 (0 : UInt8)) = outS [a, b, c, d, e, f, g, i] := by kernel_rfl
theorem out_eq (h : List UInt32) (hh : h.length = 8) : K84 (fun i acc => K55 (h.getD i 0) i acc) 0 8 (List.replicate 32 (0 : UInt8)) = outS h := by
 match h, hh with
 | [a, b, c, d, e, f, g, i], _ => exact out_eq8 a b c d e f g i
theorem first_eq : q3l = some h0S := by kernel_rfl
theorem added_eq : q3g = some kS := by kernel_rfl
theorem sum_eq (b : List UInt8) (hb : b.length ≤ 1073741824) : q3z b = some (sha b) := by
 unfold q3z
 rw [first_eq, K05, added_eq, K05, K5a b hb, K05, sum_1 _ _ _ (K59 b) (by rw [K59]; omega), K05]
 simp only [sum_3, K05]
 rw [out_eq _ (by rw [K0m]; rfl)]
 rfl
theorem K8t (b : List UInt8) : (sha b).length = 32 := by
 unfold sha outS
 have : (K0l ((b.length + 8) / 64 + 1) (padS b) h0S).length = 8 := by rw [K0m]; rfl
 generalize K0l ((b.length + 8) / 64 + 1) (padS b) h0S = h at this
 match h, this with
 | [a, b, c, d, e, f, g, i], _ => rfl
theorem getD_take {α : Type} (l : List (List α)) {i : Nat} (h : i < l.length) : (l.take i).flatten ++ l.getD i [] = (l.take (i + 1)).flatten := by
 rw [List.take_add_one, List.flatten_append, List.getD_eq_getElem?_getD, List.getElem?_eq_getElem h]
 simp
theorem K9l {α : Type} (l : List (List α)) (i : Nat) : ((l.take i).flatten).length ≤ l.flatten.length := by
 conv => rhs; rw [← List.take_append_drop i l]
 rw [List.flatten_append, List.length_append]; omega
theorem K9k (t : UInt8) (l : List (List UInt8)) (h : l.flatten.length ≤ 1073741823) (hl : l.length ≤ 1073741823) : q31 t l = some (sha (t :: l.flatten)) := by
 unfold q31
 have : ∀ z, q31_1 l (l.length : Int) 0 z [t] = some (z, t :: l.flatten) := by
  intro z
  unfold q31_1
  have := K47 (step := fun (s : Int × List UInt8) => q31_1_step l (l.length : Int) s.1 z s.2) (fun i (_ : Unit) => ((i : Int), t :: (l.take i).flatten)) (fun _ _ => ()) (fun _ => (z, t :: l.flatten)) l.length (fun _ _ => True) (fun i w hi _ => ⟨?_, trivial⟩) (fun w _ => ?_) l.length 0 () (by omega) trivial
  ·exact this
  ·unfold q31_1_step
   have e := getD_take l hi
   have le := K9l l (i + 1)
   rw [← e, List.length_append] at le
   simp (disch := omega) only [K2e, J6z, J4c, Int.toNat_natCast]
   rw [J4c (by rw [List.length_cons]; omega), List.cons_append, e]
   rfl
  ·unfold q31_1_step
   rw [K28 (by omega), List.take_of_length_le (Nat.le_refl _)]
 rw [this, K05]
 simp only []
 rw [sum_eq _ (by rw [List.length_cons]; omega), K05]
theorem K51 (a : Nat) : (BitVec.ofInt 64 (a : Int)).toNat = a % 18446744073709551616 := by
 rw [BitVec.toNat_ofInt]; omega
theorem K08 (a b : Nat) (ha : a < 9223372036854775808) (hb : b < 9223372036854775808) : band (a : Int) (b : Int) = ((a &&& b : Nat) : Int) := by
 unfold band
 have hle : a &&& b ≤ a := Nat.and_le_left
 rw [BitVec.toNat_and, K51, K51, Nat.mod_eq_of_lt (by omega), Nat.mod_eq_of_lt (by omega)]
 exact J6z (by omega) (by omega)
theorem bor_nat (a b : Nat) (h : (a ||| b) < 9223372036854775808) : bor (a : Int) (b : Int) = ((a ||| b : Nat) : Int) := by
 unfold bor
 have h1 : a ≤ a ||| b := Nat.left_le_or
 have h2 : b ≤ a ||| b := Nat.right_le_or
 rw [BitVec.toNat_or, K51, K51, Nat.mod_eq_of_lt (by omega), Nat.mod_eq_of_lt (by omega)]
 exact J6z (by omega) (by omega)
theorem K07 (a : Nat) (ha : a < 9223372036854775808) : band (a : Int) 127 = ((a % 128 : Nat) : Int) := by
 rw [show (127 : Int) = ((127 : Nat) : Int) from rfl, K08 a 127 ha (by omega), show (127 : Nat) = 2 ^ 7 - 1 from rfl, Nat.and_two_pow_sub_one_eq_mod]
theorem or_high (a c k : Nat) (h : a < 2 ^ k) : a ||| (c * 2 ^ k) = a + c * 2 ^ k := by
 rw [Nat.or_comm, ← Nat.shiftLeft_eq, ← Nat.shiftLeft_add_eq_or_of_lt h, Nat.add_comm]
theorem bor128 (a : Nat) (h : a < 128) : bor (a : Int) 128 = ((a + 128 : Nat) : Int) := by
 have e := or_high a 1 7 h
 rw [show (128 : Int) = ((128 : Nat) : Int) from rfl, bor_nat a 128 (by simp only [Nat.one_mul] at e; rw [show (128 : Nat) = 2 ^ 7 from rfl, e]; omega)]
 simp only [Nat.one_mul] at e
 rw [show (128 : Nat) = 2 ^ 7 from rfl, e]
theorem K3c (a k : Nat) (hk : k ≤ 64) : ishr (a : Int) k = ((a / 2 ^ k : Nat) : Int) := by
 unfold ishr
 rw [Nat.min_eq_left hk, Int.fdiv_eq_ediv_of_nonneg _ (by exact_mod_cast Nat.zero_le _)]
 exact_mod_cast rfl
theorem K9x (a : Nat) : UInt8.ofNat (Int.toNat ((a : Int) % 256)) = UInt8.ofNat a := by
 rw [show Int.toNat ((a : Int) % 256) = a % 256 from by omega]
 apply UInt8.toNat_inj.1
 simp
abbrev zH : List UInt8 := List.replicate 32 (0 : UInt8)
def secS (seed : List UInt8) (i v : Nat) : List UInt8 := sha (115 :: (seed ++ [UInt8.ofNat i, UInt8.ofNat v]))
def pubS (s : List UInt8) : List UInt8 := sha (112 :: s)
def keyS (ps : List (List UInt8)) : List UInt8 := sha (107 :: ps.flatten)
def digS (m : List UInt8) : List UInt8 := sha (109 :: m)
def bitN (d : List UInt8) (i : Nat) : Nat := ((d.getD (i / 8) 0).toNat >>> (7 - i % 8)) % 2
theorem K0f (d : List UInt8) (i : Nat) : bitN d i ≤ 1 := by unfold bitN; omega
abbrev One := List (List UInt8) × List (List UInt8) × Unit
theorem pub_eq (s : List UInt8) (hs : s.length = 32) : q3e s = some (pubS s) := by
 unfold q3e
 have hf : [s].flatten = s := by simp
 rw [K9k _ _ (by rw [hf]; omega) (by simp), hf]
 rfl
theorem K8f (seed : List UInt8) (i v : Nat) : (secS seed i v).length = 32 := K8t _
theorem K5w (s : List UInt8) : (pubS s).length = 32 := K8t _
theorem K3e (s : List (List UInt8)) : (keyS s).length = 32 := K8t _
theorem K1q (m : List (List UInt8)) (hm : ∀ x ∈ m, x.length = 32) : m.flatten.length = 32 * m.length := by
 induction m with
 | nil => rfl
 | cons a m ih => rw [List.flatten_cons, List.length_append, ih (fun x hx => hm x (List.mem_cons_of_mem _ hx)), hm a List.mem_cons_self, List.length_cons]; omega
theorem K1t (l : List (List UInt8)) {i : Nat} (h : i < l.length) : (l.take i).flatten ++ l.getD i zH = (l.take (i + 1)).flatten := by
 rw [List.take_add_one, List.flatten_append, List.getD_eq_getElem?_getD, List.getElem?_eq_getElem h]
 simp
theorem K2g (l : List (List UInt8)) (h : ∀ x ∈ l, x.length = 32) (i : Nat) : (l.getD i zH).length = 32 := by
 rw [List.getD_eq_getElem?_getD]
 cases e : l[i]? with
 | none => rfl
 | some x => exact h x (List.mem_of_getElem? e)
theorem key_eq (l : List (List UInt8)) (hl : l.length ≤ 1000) (h : ∀ x ∈ l, x.length = 32) : q3w l = some (keyS l) := by
 have hlen : ∀ i, ((l.take i).flatten).length ≤ 32 * l.length := fun i => by
  rw [K1q _ fun x hx => h x (List.mem_of_mem_take hx), List.length_take]; omega
 have main : ∀ z, q3w_1 l (l.length : Int) 0 z [] = some (z, l.flatten) := by
  intro z
  unfold q3w_1
  have := K47 (step := fun (s : Int × List UInt8) => q3w_1_step l (l.length : Int) s.1 z s.2) (fun i (_ : Unit) => ((i : Int), (l.take i).flatten)) (fun _ _ => ()) (fun _ => (z, l.flatten)) l.length (fun _ _ => True) (fun i w hi _ => ⟨?_, trivial⟩) (fun w _ => ?_) l.length 0 () (by omega) trivial
  ·exact this
  ·show q3w_1_step l (l.length : Int) (i : Int) z (l.take i).flatten = _
   unfold q3w_1_step
   have b := hlen i
   have hm : (l.getD i (List.replicate 32 0)).length = 32 := K2g l h i
   rw [K2e (by omega), J4c (by omega), Int.toNat_natCast, J4c (by omega), J6z (by omega) (by omega), K1t l hi]
   rfl
  ·show q3w_1_step l (l.length : Int) (l.length : Int) z (l.take l.length).flatten = _
   unfold q3w_1_step
   rw [K28 (by omega), List.take_of_length_le (Nat.le_refl _)]
 unfold q3w
 have hf : [l.flatten].flatten = l.flatten := by simp
 have := K1q l h
 rw [main, K05]
 simp only
 rw [K9k _ _ (by rw [hf]; omega) (by simp), hf]
 rfl
theorem bit_eq (d : List UInt8) (i : Nat) (hi : i < 256) : q41 d (i : Int) = some ((bitN d i : Nat) : Int) := by
 unfold q41
 have e1 : Int.tdiv (i : Int) 8 = ((i / 8 : Nat) : Int) := by rw [Int.tdiv_eq_ediv_of_nonneg (by omega)]; omega
 have e2 : Int.tmod (i : Int) 8 = ((i % 8 : Nat) : Int) := by rw [Int.tmod_eq_emod_of_nonneg (by omega)]; omega
 rw [e1, e2, J6z (by omega) (by omega), J6z (by omega) (by omega), J4c (by omega), J4c (by omega), Int.toNat_natCast, show Int.toNat (7 - ((i % 8 : Nat) : Int)) = 7 - i % 8 from by omega]
 generalize hx : d.getD (i / 8) 0 = x
 have hlt := x.toNat_lt
 have hs : x.toNat >>> (7 - i % 8) ≤ x.toNat := by rw [Nat.shiftRight_eq_div_pow]; exact Nat.div_le_self _ _
 rw [UInt8.toNat_ofNat', Nat.mod_eq_of_lt (by omega)]
 have hb := K08 (x.toNat >>> (7 - i % 8)) 1 (by omega) (by omega)
 rw [show ((1 : Nat) : Int) = 1 from rfl] at hb
 rw [hb, show (1 : Nat) = 2 ^ 1 - 1 from rfl, Nat.and_two_pow_sub_one_eq_mod]
 unfold bitN
 rw [hx]
def pairS (seed : List UInt8) (i : Nat) : List (List UInt8) := [pubS (secS seed i 0), pubS (secS seed i 1)]
def K5g (seed : List UInt8) (n : Nat) : List (List UInt8) := (List.range n).flatMap (pairS seed)
theorem K5h (seed : List UInt8) (n : Nat) : (∀ x ∈ K5g seed n, x.length = 32) ∧ (K5g seed n).length = 2 * n := by
 unfold K5g
 refine ⟨fun x hx => ?_, ?_⟩
 ·obtain ⟨i, _, hi⟩ := List.mem_flatMap.1 hx
  simp only [pairS, List.mem_cons, List.not_mem_nil, or_false] at hi
  rcases hi with rfl | rfl <;> exact K5w _
 ·induction n with
  | zero => rfl
  | succ n ih => rw [List.range_succ, List.flatMap_append, List.length_append, ih]; simp [pairS]; omega
theorem K1r {α β : Type} {f g : α → List β} : ∀ {l : List α}, (∀ a ∈ l, f a = g a) → l.flatMap f = l.flatMap g
 | [], _ => rfl
 | a :: l, h => by rw [List.flatMap_cons, List.flatMap_cons, h a List.mem_cons_self, K1r fun b hb => h b (List.mem_cons_of_mem _ hb)]
theorem K1s {α : Type} (f : Nat → List α) (n : Nat) : (List.range (n + 1)).flatMap f = (List.range n).flatMap f ++ f n := by
 rw [List.range_succ, List.flatMap_append]; simp
def KeyS (seed : List UInt8) : List UInt8 := keyS (K5g seed 32)
def openS (seed d : List UInt8) (n : Nat) : List (List UInt8) := (List.range n).map fun i => secS seed i (bitN d i)
def shutS (seed d : List UInt8) (n : Nat) : List (List UInt8) := (List.range n).map fun i => pubS (secS seed i (1 - bitN d i))
def signS (seed m : List UInt8) : One := (openS seed (digS m) 32, shutS seed (digS m) 32, ())
theorem mapRange {α : Type} (f : Nat → α) (n : Nat) : (List.range (n + 1)).map f = (List.range n).map f ++ [f n] := by
 rw [List.range_succ, List.map_append]; rfl
theorem dig_eq (m : List UInt8) (hm : m.length ≤ 100000) : q31 109 [m] = some (digS m) := by
 have hf : [m].flatten = m := by simp
 rw [K9k _ _ (by rw [hf]; omega) (by simp), hf]
 rfl
def wpart (d : List UInt8) (o s : List (List UInt8)) (i : Nat) : List (List UInt8) := if bitN d i = 0 then [pubS (o.getD i zH), s.getD i zH] else [s.getD i zH, pubS (o.getD i zH)]
def Kad (d : List UInt8) (o s : List (List UInt8)) : List (List UInt8) := (List.range 32).flatMap (wpart d o s)
def Len32 (l : List (List UInt8)) : Prop := ∀ x ∈ l, x.length = 32
def whoS (m : List UInt8) (x : One) : List UInt8 × Bool := if x.1.length = 32 ∧ x.2.1.length = 32 then (keyS (Kad (digS m) x.1 x.2.1), true) else (zH, false)
theorem Kac (d : List UInt8) (o s : List (List UInt8)) (i : Nat) : (wpart d o s i).length = 2 := by unfold wpart; split <;> rfl
theorem Kae (d : List UInt8) (o s : List (List UInt8)) : ∀ n, ((List.range n).flatMap (wpart d o s)).length = 2 * n
 | 0 => rfl
 | n + 1 => by rw [K1s, List.length_append, Kae d o s n, Kac]; omega
theorem Kaf (d : List UInt8) (o s : List (List UInt8)) (hs : Len32 s) (n : Nat) : Len32 ((List.range n).flatMap (wpart d o s)) := by
 intro x hx
 obtain ⟨i, _, hi⟩ := List.mem_flatMap.1 hx
 unfold wpart at hi
 split at hi <;> simp only [List.mem_cons, List.not_mem_nil, or_false] at hi <;> rcases hi with rfl | rfl <;> first | exact K5w _ | exact K2g s hs i
theorem K8o {α : Type} (a l : List α) (k : Nat) (x : α) (n : Nat) (h : n = a.length + k) : (a ++ l).set n x = a ++ l.set k x := by
 subst h; exact K8n a l k x
theorem who_1 (d : List UInt8) (z : List UInt8) (x : One) (ho : x.1.length = 32) (hs : x.2.1.length = 32) (lo : Len32 x.1) : q3y_1 0 x z d (List.replicate 64 zH) = some (z, Kad d x.1 x.2.1) := by
 unfold q3y_1
 have := K47 (step := fun (s : Int × List (List UInt8)) => q3y_1_step s.1 x z d s.2) (fun i (_ : Unit) => ((i : Int), (List.range i).flatMap (wpart d x.1 x.2.1) ++ List.replicate (64 - 2 * i) zH)) (fun _ _ => ()) (fun _ => (z, Kad d x.1 x.2.1)) 32 (fun _ _ => True) (fun i w hi _ => ⟨?_, trivial⟩) (fun w _ => ?_) 32 0 () (by omega) trivial
 ·exact this
 ·show q3y_1_step (i : Int) x z d ((List.range i).flatMap (wpart d x.1 x.2.1) ++ List.replicate (64 - 2 * i) zH) = _
  unfold q3y_1_step
  have hb := K0f d i
  have hl := Kae d x.1 x.2.1 i
  have hlen : ((List.range i).flatMap (wpart d x.1 x.2.1) ++ List.replicate (64 - 2 * i) zH).length = 64 := by rw [List.length_append, hl, List.length_replicate]; omega
  rw [K2e (by omega), bit_eq d i (by omega), K05, J4c (by omega), Int.toNat_natCast, pub_eq _ (K2g _ lo i), K05, J4c (by omega)]
  have e1 : w64 (w64 (2 * (i : Int)) + ((bitN d i : Nat) : Int)) = ((2 * i + bitN d i : Nat) : Int) := by rw [J6z (n := 2 * (i : Int)) (by omega) (by omega), J6z (by omega) (by omega)]; omega
  have e2 : w64 (w64 (w64 (2 * (i : Int)) + 1) - ((bitN d i : Nat) : Int)) = ((2 * i + 1 - bitN d i : Nat) : Int) := by rw [J6z (n := 2 * (i : Int)) (by omega) (by omega), J6z (n := 2 * (i : Int) + 1) (by omega) (by omega), J6z (by omega) (by omega)]; omega
  rw [e1, e2, hlen, J4c (by omega), List.length_set, hlen, J4c (by omega), Int.toNat_natCast, Int.toNat_natCast, J6z (by omega) (by omega), K1s]
  have hr : List.replicate (64 - 2 * i) zH = zH :: zH :: List.replicate (64 - 2 * (i + 1)) zH := by
   rw [show 64 - 2 * i = (64 - 2 * (i + 1)) + 1 + 1 from by omega, List.replicate_succ, List.replicate_succ]
  rw [hr]
  have hw : wpart d x.1 x.2.1 i = if bitN d i = 0 then [pubS (x.1.getD i zH), x.2.1.getD i zH] else [x.2.1.getD i zH, pubS (x.1.getD i zH)] := rfl
  rw [hw]
  rcases (show bitN d i = 0 ∨ bitN d i = 1 by omega) with h0 | h0
  ·rw [h0, if_pos rfl, K8o _ _ 0 _ _ (by rw [hl]), K8o _ _ 1 _ _ (by rw [hl]; rfl), List.append_assoc]
   rfl
  ·rw [h0, if_neg (by omega), K8o _ _ 1 _ _ (by rw [hl]), K8o _ _ 0 _ _ (by rw [hl]; omega), List.append_assoc]
   rfl
 ·show q3y_1_step 32 x z d _ = _
  unfold q3y_1_step
  rw [K28 (by omega)]
  simp [Kad]
theorem who_eq (m : List UInt8) (hm : m.length ≤ 100000) (x : One) (lo : Len32 x.1) (ls : Len32 x.2.1) : q3y m x = some (whoS m x) := by
 unfold q3y whoS
 by_cases ho : x.1.length = 32
 ·rw [K2d (by omega)]
  by_cases hs : x.2.1.length = 32
  ·rw [K2d (by omega), dig_eq m hm, K05, J4c (by omega), if_pos ⟨ho, hs⟩]
   have w := who_1 (digS m) zH x ho hs lo
   rw [show Int.toNat (64 : Int) = 64 from rfl, w, K05]
   simp only
   have hk : q3w (Kad (digS m) x.1 x.2.1) = some (keyS (Kad (digS m) x.1 x.2.1)) := key_eq _ (by unfold Kad; rw [Kae]; omega) (Kaf _ _ _ ls 32)
   rw [hk]
   rfl
  ·rw [K2c (by omega), if_neg (fun h => hs h.2)]
 ·rw [K2c (by omega), if_neg (fun h => ho h.1)]
theorem K92 (seed m : List UInt8) : (signS seed m).1.length = 32 ∧ (signS seed m).2.1.length = 32 ∧ Len32 (signS seed m).1 ∧ Len32 (signS seed m).2.1 := by
 refine ⟨by simp [signS, openS], by simp [signS, shutS], fun x hx => ?_, fun x hx => ?_⟩
 ·obtain ⟨i, _, rfl⟩ := List.mem_map.1 hx; exact K8f _ _ _
 ·obtain ⟨i, _, rfl⟩ := List.mem_map.1 hx; exact K5w _
theorem K2h (f : Nat → List UInt8) (n i : Nat) (h : i < n) : ((List.range n).map f).getD i zH = f i := by
 rw [List.getD_eq_getElem?_getD, List.getElem?_map, List.getElem?_range h]; rfl
def pairB (seed d e : List UInt8) (i : Nat) : List (List UInt8) := if bitN d i = bitN e i then pairS seed i else [pubS (secS seed i 1), pubS (secS seed i 0)]
theorem Kag (seed d e : List UInt8) : Kad e (openS seed d 32) (shutS seed d 32) = (List.range 32).flatMap (pairB seed d e) := by
 unfold Kad
 have : ∀ i ∈ List.range 32, wpart e (openS seed d 32) (shutS seed d 32) i = pairB seed d e i := by
  intro i hi
  have hi : i < 32 := List.mem_range.1 hi
  unfold wpart pairB openS shutS pairS
  rw [K2h _ 32 i hi, K2h _ 32 i hi]
  have h1 := K0f d i
  have h2 := K0f e i
  rcases (show bitN d i = 0 ∨ bitN d i = 1 by omega) with a | a <;> rcases (show bitN e i = 0 ∨ bitN e i = 1 by omega) with b | b <;> simp [a, b]
 rw [K1r this]
theorem who_sign (seed m : List UInt8) : whoS m (signS seed m) = (KeyS seed, true) := by
 obtain ⟨h1, h2, _, _⟩ := K92 seed m
 unfold whoS
 rw [if_pos ⟨h1, h2⟩]
 show (keyS (Kad (digS m) (openS seed (digS m) 32) (shutS seed (digS m) 32)), true) = _
 rw [Kag]
 have : ∀ i ∈ List.range 32, pairB seed (digS m) (digS m) i = pairS seed i := fun i _ => if_pos rfl
 rw [K1r this]
 rfl
def leftF : Nat → Nat → Nat → Nat
 | 0, k, n => k
 | f + 1, k, n => if 2 * k < n then leftF f (2 * k) n else k
def leftS (n : Nat) : Nat := leftF 40 1 n
theorem K5r (k f : Nat) : 2 * (2 * k) * 2 ^ f = 2 * k * (2 ^ f * 2) := by
 rw [Nat.mul_comm (2 ^ f) 2, ← Nat.mul_assoc (2 * k) 2 (2 ^ f)]; congr 1; omega
theorem K41 : ∀ (f k n : Nat), 1 ≤ k → k < n → n ≤ 2 * k * 2 ^ f → k ≤ leftF f k n ∧ leftF f k n < n ∧ n ≤ 2 * leftF f k n
 | 0, k, n, h1, h2, h3 => by
  simp only [Nat.pow_zero, Nat.mul_one] at h3
  exact ⟨Nat.le_refl _, h2, h3⟩
 | f + 1, k, n, h1, h2, h3 => by
  rw [leftF]
  split
  ·rename_i h
   have := K41 f (2 * k) n (by omega) h (by rw [Nat.pow_succ] at h3; rw [K5r]; exact h3)
   exact ⟨by omega, this.2⟩
  ·exact ⟨Nat.le_refl _, h2, by omega⟩
theorem K42 (n : Nat) (h : 2 ≤ n) (h2 : n ≤ 1099511627776) : 1 ≤ leftS n ∧ leftS n < n ∧ n ≤ 2 * leftS n := K41 40 1 n (by omega) (by omega) (by omega)
theorem K43 : ∀ (f k n : Nat), n ≤ 2 * k * 2 ^ f → 1 ≤ k → n ≤ 1073741824 → k ≤ 1073741824 → q3m_1 (n : Int) (k : Int) = some ((leftF f k n : Nat) : Int)
 | 0, k, n, h, h1, h2, hk => by
  unfold q3m_1
  refine J3y ?_
  unfold q3m_1_step
  simp only [Nat.pow_zero, Nat.mul_one] at h
  rw [J6z (by omega) (by omega), K28 (by omega)]
  rfl
 | f + 1, k, n, h, h1, h2, hk => by
  rw [leftF]
  split
  ·rename_i hlt
   rw [← K43 f (2 * k) n (by rw [Nat.pow_succ] at h; rw [K5r]; exact h) (by omega) h2 (by omega)]
   have hs : q3m_1_step (n : Int) (k : Int) = some (.inl ((2 * k : Nat) : Int)) := by
    unfold q3m_1_step
    rw [J6z (by omega) (by omega), J6z (by omega) (by omega), K2e (by omega), show (k : Int) * 2 = ((2 * k : Nat) : Int) from by omega]
   unfold q3m_1
   rw [J3x hs]
  ·rename_i hlt
   unfold q3m_1
   refine J3y ?_
   unfold q3m_1_step
   rw [J6z (by omega) (by omega), K28 (by omega)]
theorem left_eq (n : Nat) (h : n ≤ 1073741824) : q3m (n : Int) = some ((leftS n : Nat) : Int) := by
 unfold q3m
 rw [show (1 : Int) = ((1 : Nat) : Int) from rfl, K43 40 1 n (by omega) (by omega) h (by omega), K05]
 rfl
def rootW (l : List (List UInt8)) : List UInt8 :=
 if h : 2 ≤ l.length ∧ l.length ≤ 1099511627776 then sha (1 :: (rootW (l.take (leftS l.length)) ++ rootW (l.drop (leftS l.length))))
 else if l.length = 0 then sha [2] else sha (0 :: l.getD 0 [])
termination_by l.length
decreasing_by
 ·have := K42 l.length h.1 h.2; simp; omega
 ·have := K42 l.length h.1 h.2; simp; omega
theorem K7f : ∃ f : List (List UInt8) → List UInt8, ∀ l, f l = if h : 2 ≤ l.length ∧ l.length ≤ 1099511627776 then sha (1 :: (f (l.take (leftS l.length)) ++ f (l.drop (leftS l.length)))) else if l.length = 0 then sha [2] else sha (0 :: l.getD 0 []) :=
 ⟨rootW, fun l => by rw [rootW]⟩
noncomputable def rootS : List (List UInt8) → List UInt8 := Classical.choose K7f
theorem K7e (l : List (List UInt8)) : rootS l = if h : 2 ≤ l.length ∧ l.length ≤ 1099511627776 then sha (1 :: (rootS (l.take (leftS l.length)) ++ rootS (l.drop (leftS l.length)))) else if l.length = 0 then sha [2] else sha (0 :: l.getD 0 []) := Classical.choose_spec K7f l
theorem K7g (l : List (List UInt8)) : (rootS l).length = 32 := by
 rw [K7e]; split
 ·exact K8t _
 ·split <;> exact K8t _
def K36 (a b : List UInt8) : List UInt8 := sha (1 :: (a ++ b))
def leafS (x : List UInt8) : List UInt8 := sha (0 :: x)
theorem K7j (l : List (List UInt8)) (h : 2 ≤ l.length) (h2 : l.length ≤ 1099511627776) : rootS l = K36 (rootS (l.take (leftS l.length))) (rootS (l.drop (leftS l.length))) := by
 rw [K7e, dif_pos ⟨h, h2⟩]; rfl
theorem K7i (x : List UInt8) : rootS [x] = leafS x := by
 rw [K7e, dif_neg (by simp), if_neg (by simp)]; rfl
theorem K7h : rootS [] = sha [2] := by
 rw [K7e, dif_neg (by simp), if_pos (by simp)]
theorem K37 (a b : List UInt8) (ha : a.length = 32) (hb : b.length = 32) : q3a a b = some (K36 a b) := by
 unfold q3a
 have hf : [a, b].flatten = a ++ b := by simp
 rw [K9k _ _ (by rw [hf, List.length_append]; omega) (by simp), hf]
 rfl
def Small (l : List (List UInt8)) : Prop := ∀ x ∈ l, x.length ≤ 1000000
theorem K9a {l : List (List UInt8)} (h : Small l) (n : Nat) : Small (l.take n) := fun x hx => h x (List.mem_of_mem_take hx)
theorem K99 {l : List (List UInt8)} (h : Small l) (n : Nat) : Small (l.drop n) := fun x hx => h x (List.mem_of_mem_drop hx)
theorem K7k : ∀ (k : Nat) (l : List (List UInt8)), l.length < k → l.length ≤ 1000 → Small l → q2v k l = some (rootS l)
 | 0, l, h, _, _ => by omega
 | k + 1, l, h, h2, hl => by
  rw [q2v]
  match l, h, h2, hl with
  | [], h, h2, hl =>
   rw [K2e (by simp), K9k _ _ (by simp) (by simp), K7h]; rfl
  | [x], h, h2, hl =>
   have hx := hl x (by simp)
   have hf : [List.getD [x] (Int.toNat (0 : Int)) []].flatten = x := by simp
   rw [K28 (by simp), K2e (by simp), J4c (by simp), K9k _ _ (by rw [hf]; omega) (by simp), hf, K7i]; rfl
  | x :: y :: r, h, h2, hl =>
   have hn : 2 ≤ (x :: y :: r).length := by simp
   generalize x :: y :: r = l at h h2 hl hn
   obtain ⟨b1, b2, b3⟩ := K42 l.length hn (by omega)
   rw [K28 (by omega), K28 (by omega), left_eq _ (by omega), K05, J4c (by omega), K17, K16, Int.toNat_natCast, K7k k (l.take (leftS l.length)) (by rw [List.length_take]; omega) (by rw [List.length_take]; omega) (K9a hl _), K05, J4c (by omega),
    K7k k (l.drop (leftS l.length)) (by rw [List.length_drop]; omega) (by rw [List.length_drop]; omega) (K99 hl _), K05, K37 _ _ (K7g _) (K7g _), K05, K7j l hn (by omega)]
theorem root_eq (l : List (List UInt8)) (h : l.length < 64) (hl : Small l) : q3i l = some (rootS l) := K7k 64 l h (by omega) hl
noncomputable def pathF : Nat → List (List UInt8) → Nat → List (List UInt8)
 | 0, _, _ => []
 | f + 1, l, i => if l.length ≤ 1 then [] else if i < leftS l.length then pathF f (l.take (leftS l.length)) i ++ [rootS (l.drop (leftS l.length))]
   else pathF f (l.drop (leftS l.length)) (i - leftS l.length) ++ [rootS (l.take (leftS l.length))]
def K8v : Nat → Nat → Nat → List Bool
 | 0, _, _ => []
 | f + 1, i, n => if n ≤ 1 then [] else if i < leftS n then true :: K8v f i (leftS n) else false :: K8v f (i - leftS n) (n - leftS n)
theorem K5j : ∀ (f g : Nat) (l : List (List UInt8)) (i : Nat), l.length ≤ f + 1 → l.length ≤ g + 1 → l.length ≤ 1000 → pathF f l i = pathF g l i
 | 0, g, l, i, h, _, _ => by
  cases g with
  | zero => rfl
  | succ g => rw [pathF, pathF, if_pos h]
 | f + 1, 0, l, i, _, h, _ => by rw [pathF, pathF, if_pos h]
 | f + 1, g + 1, l, i, h, h2, h3 => by
  rw [pathF, pathF]
  by_cases h1 : l.length ≤ 1
  ·rw [if_pos h1, if_pos h1]
  ·obtain ⟨b1, b2, b3⟩ := K42 l.length (by omega) (by omega)
   rw [if_neg h1, if_neg h1, K5j f g (l.take (leftS l.length)) i (by rw [List.length_take]; omega) (by rw [List.length_take]; omega) (by rw [List.length_take]; omega), K5j f g (l.drop (leftS l.length)) _ (by rw [List.length_drop]; omega) (by rw [List.length_drop]; omega) (by rw [List.length_drop]; omega)]
theorem K5l : ∀ (f : Nat) (l : List (List UInt8)) (i : Nat), l.length ≤ 1000 → (pathF f l i).length = (K8v f i l.length).length
 | 0, _, _, _ => rfl
 | f + 1, l, i, h => by
  rw [pathF, K8v]
  by_cases h1 : l.length ≤ 1
  ·rw [if_pos h1, if_pos h1]; rfl
  ·obtain ⟨b1, b2, b3⟩ := K42 l.length (by omega) (by omega)
   rw [if_neg h1, if_neg h1]
   by_cases hi : i < leftS l.length
   ·rw [if_pos hi, if_pos hi, List.length_append, K5l f _ _ (by rw [List.length_take]; omega), List.length_take, Nat.min_eq_left (by omega)]; simp
   ·rw [if_neg hi, if_neg hi, List.length_append, K5l f _ _ (by rw [List.length_drop]; omega), List.length_drop]; simp
theorem K5k : ∀ (f : Nat) (l : List (List UInt8)) (i : Nat), (pathF f l i).length ≤ f
 | 0, _, _ => by simp [pathF]
 | f + 1, l, i => by
  rw [pathF]; split
  ·simp
  ·split
   ·have := K5k f (l.take (leftS l.length)) i; simp; omega
   ·have := K5k f (l.drop (leftS l.length)) (i - leftS l.length); simp; omega
theorem K5i : ∀ (f : Nat) (l : List (List UInt8)) (i : Nat), ∀ x ∈ pathF f l i, x.length = 32
 | 0, _, _, x, hx => by simp [pathF] at hx
 | f + 1, l, i, x, hx => by
  rw [pathF] at hx; split at hx
  ·simp at hx
  ·split at hx
   ·rcases List.mem_append.1 hx with h | h
    ·exact K5i f _ _ x h
    ·simp at h; rw [h]; exact K7g _
   ·rcases List.mem_append.1 hx with h | h
    ·exact K5i f _ _ x h
    ·simp at h; rw [h]; exact K7g _
abbrev zT : List UInt8 := List.replicate 32 (0 : UInt8)
noncomputable def pathS (l : List (List UInt8)) (i : Int) : List (List UInt8) := if 0 ≤ i ∧ i < (l.length : Int) then pathF l.length l i.toNat else []
theorem K8y : ∀ (f i n : Nat) (acc : List Bool), n ≤ f + 1 → n ≤ 1073741824 → i < n ∨ n = 0 → acc.length ≤ 10000000 - f → f ≤ 5000000 → q38_1 (i : Int) (n : Int) acc = some (acc ++ K8v f i n)
 | 0, i, n, acc, h, h2, hi, ha, hf => by
  unfold q38_1
  refine J3y ?_
  unfold q38_1_step
  rw [K28 (by show ¬ (1 : Int) < (n : Int); omega)]
  simp [K8v]
 | f + 1, i, n, acc, h, h2, hi, ha, hf => by
  by_cases h1 : n ≤ 1
  ·rw [K8v, if_pos h1]
   unfold q38_1
   refine J3y ?_
   unfold q38_1_step
   rw [K28 (by show ¬ (1 : Int) < (n : Int); omega)]
   simp
  ·obtain ⟨b1, b2, b3⟩ := K42 n (by omega) (by omega)
   rw [K8v, if_neg h1]
   by_cases hl : i < leftS n
   ·rw [if_pos hl, show acc ++ true :: K8v f i (leftS n) = (acc ++ [true]) ++ K8v f i (leftS n) from by simp]
    have hst : q38_1_step (i : Int) (n : Int) acc = some (.inl ((i : Int), ((leftS n : Nat) : Int), acc ++ [true])) := by
     unfold q38_1_step
     rw [K2e (by omega), left_eq _ (by omega), K05, J4c (by simp; omega), decide_eq_true (show (i : Int) < ((leftS n : Nat) : Int) by omega), K2f]
    rw [← K8y f i (leftS n) (acc ++ [true]) (by omega) (by omega) (by omega) (by simp; omega) (by omega)]
    unfold q38_1
    rw [J3x hst]
   ·rw [if_neg hl, show acc ++ false :: K8v f (i - leftS n) (n - leftS n) = (acc ++ [false]) ++ K8v f (i - leftS n) (n - leftS n) from by simp]
    have hst : q38_1_step (i : Int) (n : Int) acc = some (.inl (((i - leftS n : Nat) : Int), ((n - leftS n : Nat) : Int), acc ++ [false])) := by
     unfold q38_1_step
     rw [K2e (by omega), left_eq _ (by omega), K05, J4c (by simp; omega), decide_eq_false (show ¬ (i : Int) < ((leftS n : Nat) : Int) by omega), K29, J6z (by omega) (by omega), J6z (by omega) (by omega),
      show (i : Int) - ((leftS n : Nat) : Int) = ((i - leftS n : Nat) : Int) from by omega, show (n : Int) - ((leftS n : Nat) : Int) = ((n - leftS n : Nat) : Int) from by omega]
    rw [← K8y f (i - leftS n) (n - leftS n) (acc ++ [false]) (by omega) (by omega) (by omega) (by simp; omega) (by omega)]
    unfold q38_1
    rw [J3x hst]
theorem K8x (i n : Nat) (h : i < n) (hn : n ≤ 1000000) : q38 (i : Int) (n : Int) = some (K8v n i n) := by
 unfold q38
 rw [K8y n i n [] (by omega) (by omega) (by omega) (by simp) (by omega), K05]
 rfl
def isS (i n : Int) : Bool := decide (0 ≤ i) && (decide (i < n) && decide (n ≤ 1048576))
theorem is_eq (i n : Int) : q42 i n = some (isS i n) := by
 unfold q42 isS
 simp only [K2b]
 cases decide (0 ≤ i) <;> cases decide (i < n) <;> simp
theorem K3b (i n : Int) : isS i n = true ↔ 0 ≤ i ∧ i < n ∧ n ≤ 1048576 := by
 unfold isS; simp
theorem depth_eq (i n : Int) (hn : n ≤ 1000000 ∨ 1048576 < n) : q36 i n = some (if isS i n then ((K8v n.toNat i.toNat n.toNat).length : Int) else -1) := by
 unfold q36
 rw [is_eq, K05]
 cases h : isS i n with
 | false => rfl
 | true =>
  obtain ⟨h1, h2, h3⟩ := (K3b i n).1 h
  obtain ⟨a, rfl⟩ := Int.eq_ofNat_of_zero_le h1
  obtain ⟨b, rfl⟩ := Int.eq_ofNat_of_zero_le (show 0 ≤ n by omega)
  rw [show (!true) = false from rfl, K29, K8x a b (by omega) (by omega), K05]
  rfl
def climb : List Bool → List (List UInt8) → List UInt8 → List UInt8
 | b :: bs, p :: ps, h => climb bs ps (if b then K36 h p else K36 p h)
 | _, _, h => h
theorem K0v : ∀ (bs : List Bool) (ps : List (List UInt8)) (h : List UInt8) (b : Bool) (p : List UInt8), bs.length = ps.length → climb (bs ++ [b]) (ps ++ [p]) h = if b then K36 (climb bs ps h) p else K36 p (climb bs ps h)
 | [], [], h, b, p, _ => rfl
 | x :: bs, y :: ps, h, b, p, e => by
  show climb (bs ++ [b]) (ps ++ [p]) _ = _
  rw [K0v bs ps _ b p (by simpa using e)]
  rfl
 | [], _ :: _, _, _, _, e => by simp at e
 | _ :: _, [], _, _, _, e => by simp at e
theorem K0u : ∀ (bs : List Bool) (ps : List (List UInt8)) (h : List UInt8), h.length = 32 → (climb bs ps h).length = 32
 | [], _, h, e => by simpa [climb] using e
 | _ :: _, [], h, e => by simpa [climb] using e
 | b :: bs, p :: ps, h, e => by
  rw [climb]
  exact K0u bs ps _ (by split <;> exact K8t _)
theorem K0w (bs : List Bool) (ps : List (List UInt8)) (h : List UInt8) (i : Nat) (h1 : i < bs.length) (h2 : i < ps.length) :
  climb (bs.take (i + 1)) (ps.take (i + 1)) h = if bs.getD i false then K36 (climb (bs.take i) (ps.take i) h) (ps.getD i zT) else K36 (ps.getD i zT) (climb (bs.take i) (ps.take i) h) := by
 rw [List.take_add_one, List.take_add_one, List.getElem?_eq_getElem h1, List.getElem?_eq_getElem h2, Option.toList_some, Option.toList_some, K0v _ _ _ _ _ (by simp; omega)]
 rw [List.getD_eq_getElem?_getD, List.getElem?_eq_getElem h1, List.getD_eq_getElem?_getD, List.getElem?_eq_getElem h2]
 rfl
theorem up_loop (z h : List UInt8) (l : List Bool) (p : List (List UInt8)) (hl : l.length = p.length) (hp : ∀ x ∈ p, x.length = 32) (hh : h.length = 32) (hb : p.length ≤ 100000) : q40_1 p (p.length : Int) 0 z h l = some (z, climb l.reverse p h) := by
 unfold q40_1
 have := K47 (step := fun (s : Int × List UInt8) => q40_1_step p (p.length : Int) s.1 z s.2 l) (fun i (_ : Unit) => ((i : Int), climb (l.reverse.take i) (p.take i) h)) (fun _ _ => ()) (fun _ => (z, climb l.reverse p h)) p.length (fun _ _ => True) (fun i w hi _ => ⟨?_, trivial⟩) (fun w _ => ?_) p.length 0 () (by omega) trivial
 ·exact this
 ·show q40_1_step p (p.length : Int) (i : Int) z (climb (l.reverse.take i) (p.take i) h) l = _
  unfold q40_1_step
  have hg : (p.getD i (List.replicate 32 0)).length = 32 := by
   rw [List.getD_eq_getElem?_getD, List.getElem?_eq_getElem hi]; exact hp _ (List.getElem_mem _)
  have hc := K0u (l.reverse.take i) (p.take i) h hh
  have hr : l.getD (l.length - 1 - i) false = l.reverse.getD i false := by
   rw [List.getD_eq_getElem?_getD, List.getD_eq_getElem?_getD, List.getElem?_reverse (by omega)]
  rw [K2e (by omega), J4c (by omega), J6z (n := (l.length : Int) - 1) (by omega) (by omega), J6z (by omega) (by omega), J4c (by omega), show Int.toNat ((l.length : Int) - 1 - (i : Int)) = l.length - 1 - i from by omega, hr, Int.toNat_natCast, K37 _ _ hc hg, K37 _ _ hg hc, K05, K05, J6z (by omega) (by omega),
   K0w _ _ _ _ (by rw [List.length_reverse]; omega) hi]
  cases l.reverse.getD i false <;> rfl
 ·show q40_1_step p (p.length : Int) (p.length : Int) z _ l = _
  unfold q40_1_step
  rw [K28 (by omega), List.take_of_length_le (Nat.le_refl _), List.take_of_length_le (by rw [List.length_reverse]; omega)]
def upS (leaf : List UInt8) (i n : Int) (p : List (List UInt8)) : List UInt8 × Bool :=
 if isS i n ∧ p.length = (K8v n.toNat i.toNat n.toNat).length then (climb (K8v n.toNat i.toNat n.toNat).reverse p (leafS leaf), true) else (zT, false)
theorem up_eq (leaf : List UInt8) (hf : leaf.length ≤ 1000000) (i n : Int) (hn : n ≤ 1000000) (p : List (List UInt8)) (hp : ∀ x ∈ p, x.length = 32) (hb : p.length ≤ 100000) : q40 leaf i n p = some (upS leaf i n p) := by
 unfold q40 upS
 rw [is_eq, K05]
 cases h : isS i n with
 | false => rw [if_neg (by simp)]; rfl
 | true =>
  obtain ⟨h1, h2, h3⟩ := (K3b i n).1 h
  rw [show (!true) = false from rfl, K29, depth_eq i n (.inl hn), h, if_pos rfl, K05]
  by_cases e : p.length = (K8v n.toNat i.toNat n.toNat).length
  ·rw [K2d (by omega), if_pos ⟨rfl, e⟩, root_eq [leaf] (by simp) (by intro x hx; simp at hx; rw [hx]; exact hf), K05]
   have hsd := K8x i.toNat n.toNat (by omega) (by omega)
   rw [show ((i.toNat : Nat) : Int) = i from by omega, show ((n.toNat : Nat) : Int) = n from by omega] at hsd
   rw [hsd, K05, up_loop _ _ _ _ e.symm hp (K7g _) hb, K05, K7i]
  ·rw [K2c (by omega), if_neg (fun h => e h.2)]
theorem K5m : ∀ (f : Nat) (l : List (List UInt8)) (i : Nat), i < l.length → l.length ≤ f + 1 → l.length ≤ 1000 → climb (K8v f i l.length).reverse (pathF f l i) (leafS (l.getD i [])) = rootS l
 | 0, l, i, hi, h, h2 => by
  match l, hi, h with
  | [x], hi, h =>
   have : i = 0 := by simp at hi; exact hi
   subst this
   rw [K7i]; rfl
 | f + 1, l, i, hi, h, h2 => by
  rw [K8v, pathF]
  by_cases h1 : l.length ≤ 1
  ·rw [if_pos h1, if_pos h1]
   match l, hi, h1 with
   | [x], hi, h1 =>
    have : i = 0 := by simp at hi; exact hi
    subst this
    rw [K7i]; rfl
  ·obtain ⟨b1, b2, b3⟩ := K42 l.length (by omega) (by omega)
   rw [if_neg h1, if_neg h1, K7j l (by omega) (by omega)]
   by_cases hl : i < leftS l.length
   ·rw [if_pos hl, if_pos hl, List.reverse_cons, K0v _ _ _ _ _ (by rw [List.length_reverse, K5l f _ _ (by rw [List.length_take]; omega), List.length_take, Nat.min_eq_left (by omega)]), if_pos rfl]
    have ih := K5m f (l.take (leftS l.length)) i (by rw [List.length_take]; omega) (by rw [List.length_take]; omega) (by rw [List.length_take]; omega)
    rw [List.length_take, Nat.min_eq_left (by omega)] at ih
    have hg : (l.take (leftS l.length)).getD i [] = l.getD i [] := by
     rw [List.getD_eq_getElem?_getD, List.getD_eq_getElem?_getD, List.getElem?_take_of_lt hl]
    rw [hg] at ih
    rw [ih]
   ·rw [if_neg hl, if_neg hl, List.reverse_cons, K0v _ _ _ _ _ (by rw [List.length_reverse, K5l f _ _ (by rw [List.length_drop]; omega), List.length_drop]), if_neg (by simp)]
    have ih := K5m f (l.drop (leftS l.length)) (i - leftS l.length) (by rw [List.length_drop]; omega) (by rw [List.length_drop]; omega) (by rw [List.length_drop]; omega)
    rw [List.length_drop] at ih
    have hg : (l.drop (leftS l.length)).getD (i - leftS l.length) [] = l.getD i [] := by
     rw [List.getD_eq_getElem?_getD, List.getD_eq_getElem?_getD, List.getElem?_drop]; congr 2; omega
    rw [hg] at ih
    rw [ih]
def seedS (seed : List UInt8) (h : Nat) : List UInt8 := sha (114 :: (seed ++ [UInt8.ofNat h]))
def keysN (seed : List UInt8) (n : Nat) : List (List UInt8) := (List.range n).map fun i => KeyS (seedS seed (i + 1))
def keysS (seed : List UInt8) : List (List UInt8) := keysN seed 16
noncomputable def K32 (seed : List UInt8) : List UInt8 := rootS (keysS seed)
abbrev Sig := Int × One × List (List UInt8) × Unit
noncomputable def byS (keys : List (List UInt8)) (seed : List UInt8) (h : Int) (m : List UInt8) : Sig := (h, signS (seedS seed h.toNat) m, pathS keys (h - 1), ())
def noSig : Sig := (0, ([], [], ()), [], ())
def isH (h : Int) : Bool := decide (1 ≤ h) && decide (h ≤ 16)
def verS (id : List UInt8) (j : Int) (m : List UInt8) (s : Sig) : Bool :=
 isH j && (decide (s.1 = j) && ((whoS m s.2.1).2 && ((upS (whoS m s.2.1).1 (j - 1) 16 s.2.2.1).2 && Ty.beq (.arr 32 (.int .u8)) (upS (whoS m s.2.1).1 (j - 1) 16 s.2.2.1).1 id)))
theorem K8h (seed : List UInt8) (h : Nat) : (seedS seed h).length = 32 := K8t _
theorem KeyS_len (seed : List UInt8) : (KeyS seed).length = 32 := K3e _
theorem K3g (seed : List UInt8) (n : Nat) : (keysN seed n).length = n := by simp [keysN]
theorem keysN_32 (seed : List UInt8) (n : Nat) : Len32 (keysN seed n) := by
 intro x hx
 obtain ⟨i, _, rfl⟩ := List.mem_map.1 hx
 exact KeyS_len _
theorem K3h (seed : List UInt8) : (keysS seed).length = 16 := K3g _ _
theorem K3i (seed : List UInt8) : Small (keysS seed) := fun x hx => by rw [keysN_32 seed 16 x hx]; omega
theorem keysS_at (seed : List UInt8) (i : Nat) (h : i < 16) : (keysS seed).getD i [] = KeyS (seedS seed (i + 1)) := by
 unfold keysS keysN
 rw [List.getD_eq_getElem?_getD, List.getElem?_map, List.getElem?_range h]; rfl
theorem isH_eq (h : Int) : q3x h = some (isH h) := by
 unfold q3x isH
 by_cases c : 1 ≤ h
 ·rw [K2e c, decide_eq_true c]; rfl
 ·rw [K28 c, decide_eq_false c]; rfl
theorem isH_t {h : Int} (h1 : 1 ≤ h) (h2 : h ≤ 16) : isH h = true := by unfold isH; rw [decide_eq_true h1, decide_eq_true h2]; rfl
theorem K3a {h : Int} : isH h = true ↔ 1 ≤ h ∧ h ≤ 16 := by unfold isH; rw [Bool.and_eq_true, decide_eq_true_eq, decide_eq_true_eq]
theorem isH_f {h : Int} (c : h < 1 ∨ 16 < h) : isH h = false := by
 rw [← Bool.not_eq_true, K3a]; omega
noncomputable def sigS (seed : List UInt8) (h : Int) (m : List UInt8) : Sig := byS (keysS seed) seed h m
theorem Ka6 (m : List UInt8) (x : One) : (whoS m x).1.length = 32 := by
 unfold whoS
 split
 ·exact K3e _
 ·rfl
def SigOk (s : Sig) : Prop := Len32 s.2.1.1 ∧ Len32 s.2.1.2.1 ∧ Len32 s.2.2.1 ∧ s.2.2.1.length ≤ 100000
theorem Ver_eq (id : List UInt8) (j : Int) (m : List UInt8) (hm : m.length ≤ 100000) (s : Sig) (hs : SigOk s) : q2y id j m s = some (verS id j m s) := by
 obtain ⟨s1, s2, s3, s4⟩ := hs
 unfold q2y verS
 rw [isH_eq, K05]
 cases hj : isH j with
 | false => rfl
 | true =>
  obtain ⟨j1, j2⟩ := K3a.1 hj
  rw [show (!true) = false from rfl, K29, Bool.true_and]
  by_cases c : s.1 = j
  ·rw [K2d c, decide_eq_true c, Bool.true_and, who_eq m hm s.2.1 s1 s2, K05]
   cases (whoS m s.2.1).2 with
   | false => rfl
   | true =>
    rw [show (!true) = false from rfl, K29, Bool.true_and, J6z (by omega) (by omega), up_eq _ (by rw [Ka6]; omega) _ _ (by omega) _ s3 s4, K05]
    cases (upS (whoS m s.2.1).1 (j - 1) 16 s.2.2.1).2 <;> rfl
  ·rw [K2c c, decide_eq_false c]; rfl
theorem K8u : ∀ i, i < 16 → (K8v 16 i 16).length = 4 := by decide
theorem path16 (seed : List UInt8) (h : Int) (h1 : 1 ≤ h) (h2 : h ≤ 16) : pathS (keysS seed) (h - 1) = pathF 16 (keysS seed) (h - 1).toNat ∧ (pathS (keysS seed) (h - 1)).length = 4 ∧ Len32 (pathS (keysS seed) (h - 1)) := by
 have e : pathS (keysS seed) (h - 1) = pathF 16 (keysS seed) (h - 1).toNat := by
  unfold pathS
  rw [K3h, if_pos (by omega)]
 rw [e]
 refine ⟨rfl, ?_, K5i _ _ _⟩
 rw [K5l _ _ _ (by rw [K3h]; omega), K3h, K8u _ (by omega)]
theorem sig_ok (seed : List UInt8) (h : Int) (h1 : 1 ≤ h) (h2 : h ≤ 16) (m : List UInt8) : SigOk (sigS seed h m) := by
 obtain ⟨_, _, a, b⟩ := K92 (seedS seed h.toNat) m
 obtain ⟨_, p1, p2⟩ := path16 seed h h1 h2
 exact ⟨a, b, p2, by show (pathS (keysS seed) (h - 1)).length ≤ 100000; omega⟩
theorem noSig_ok : SigOk noSig := ⟨(fun x hx => nomatch hx), (fun x hx => nomatch hx), (fun x hx => nomatch hx), by show (0 : Nat) ≤ 100000; omega⟩
theorem ver_sig (id seed : List UInt8) (h : Int) (h1 : 1 ≤ h) (h2 : h ≤ 16) (m : List UInt8) : verS id h m (sigS seed h m) = Ty.beq (.arr 32 (.int .u8)) (K32 seed) id := by
 obtain ⟨p0, p1, p2⟩ := path16 seed h h1 h2
 have hw : whoS m (sigS seed h m).2.1 = (KeyS (seedS seed h.toNat), true) := who_sign _ _
 have hk : KeyS (seedS seed h.toNat) = (keysS seed).getD (h - 1).toNat [] := by
  rw [keysS_at seed _ (by omega), show (h - 1).toNat + 1 = h.toNat from by omega]
 have hup : upS (KeyS (seedS seed h.toNat)) (h - 1) 16 (sigS seed h m).2.2.1 = (K32 seed, true) := by
  show upS (KeyS (seedS seed h.toNat)) (h - 1) 16 (pathS (keysS seed) (h - 1)) = _
  unfold upS
  have e16 : (16 : Int).toNat = 16 := rfl
  rw [e16, if_pos ⟨(K3b _ _).2 (by omega), by rw [p1, K8u _ (by omega)]⟩, p0, hk]
  have := K5m 16 (keysS seed) (h - 1).toNat (by rw [K3h]; omega) (by rw [K3h]; omega) (by rw [K3h]; omega)
  rw [K3h] at this
  rw [this]
  rfl
 unfold verS
 rw [hw, isH_t h1 h2]
 simp only
 rw [hup, decide_eq_true (show (sigS seed h m).1 = h from rfl)]
 rfl
set_option maxRecDepth 100000
theorem K7l (x : UInt32) (n : Nat) : UInt32.ofNat (x.toNat >>> n) ||| UInt32.ofNat (x.toNat <<< (32 - n)) = rotr x n := UInt32.or_comm _ _
theorem turn7 (x : UInt32) : q2f x 7 = some (rotr x 7) := congrArg some (K7l x 7)
theorem turn18 (x : UInt32) : q2f x 18 = some (rotr x 18) := congrArg some (K7l x 18)
theorem turn17 (x : UInt32) : q2f x 17 = some (rotr x 17) := congrArg some (K7l x 17)
theorem turn19 (x : UInt32) : q2f x 19 = some (rotr x 19) := congrArg some (K7l x 19)
theorem turn6 (x : UInt32) : q2f x 6 = some (rotr x 6) := congrArg some (K7l x 6)
theorem turn11 (x : UInt32) : q2f x 11 = some (rotr x 11) := congrArg some (K7l x 11)
theorem turn25 (x : UInt32) : q2f x 25 = some (rotr x 25) := congrArg some (K7l x 25)
theorem turn2 (x : UInt32) : q2f x 2 = some (rotr x 2) := congrArg some (K7l x 2)
theorem turn13 (x : UInt32) : q2f x 13 = some (rotr x 13) := congrArg some (K7l x 13)
theorem turn22 (x : UInt32) : q2f x 22 = some (rotr x 22) := congrArg some (K7l x 22)
theorem rblock_1 (b : List UInt8) (hb : b.length = 64) (k h v z : List UInt32) : q20_1 b k 0 h v z = some (k, h, v, K84 (sprd1 b) 0 16 z) := by
 unfold q20_1
 refine K47 (fun i w => ((i : Int), w)) (sprd1 b) (fun w => (k, h, v, w)) 16 (fun _ _ => True) (fun i w hi _ => ⟨?_, trivial⟩) (fun w _ => ?_) 16 0 z rfl trivial
 ·unfold q20_1_step
  have e0 : Int.toNat (4 * (i : Int)) = 4 * i := by omega
  have e1 : Int.toNat (4 * (i : Int) + 1) = 4 * i + 1 := by omega
  have e2 : Int.toNat (4 * (i : Int) + 2) = 4 * i + 2 := by omega
  have e3 : Int.toNat (4 * (i : Int) + 3) = 4 * i + 3 := by omega
  simp (disch := omega) only [K2e, J6z, J4c, hb, e0, e1, e2, e3, Int.toNat_natCast]
  rfl
 ·unfold q20_1_step
  rfl
theorem rblock_2 (k h v z : List UInt32) : q20_2 k 16 h v z = some (k, h, v, K84 sprd2 16 48 z) := by
 unfold q20_2
 refine K47 (fun i w => ((i : Int), w)) sprd2 (fun w => (k, h, v, w)) 64 (fun i _ => 16 ≤ i) (fun i w hi hh => ⟨?_, by omega⟩) (fun w _ => ?_) 48 16 z rfl (Nat.le_refl _)
 ·unfold q20_2_step
  have e0 : Int.toNat ((i : Int) - 15) = i - 15 := by omega
  have e1 : Int.toNat ((i : Int) - 2) = i - 2 := by omega
  have e2 : Int.toNat ((i : Int) - 16) = i - 16 := by omega
  have e3 : Int.toNat ((i : Int) - 7) = i - 7 := by omega
  simp (disch := omega) only [K2e, J6z, J4c, e0, e1, e2, e3, Int.toNat_natCast, turn7, turn18, turn17, turn19, K05]
  rfl
 ·unfold q20_2_step
  rfl
theorem rblock_3 (k h v w : List UInt32) (hk : k.length = 64) (s : W8) : q20_3 k 0 h v w (list8 s) = some (h, v, list8 (K84 (K7m k w) 0 64 s)) := by
 unfold q20_3
 refine K47 (fun i (s : W8) => ((i : Int), list8 s)) (K7m k w) (fun s => (h, v, list8 s)) 64 (fun _ _ => True) (fun i s hi _ => ⟨?_, trivial⟩) (fun s _ => ?_) 64 0 s rfl trivial
 ·obtain ⟨a, b, c, d, e, f, g, x⟩ := s
  unfold q20_3_step
  simp (disch := omega) only [K2e, J6z, J4c, hk, Int.toNat_natCast, turn6, turn11, turn25, turn2, turn13, turn22, K05]
  rw [show K7m k w i (a, b, c, d, e, f, g, x) = ((((((x + ((rotr e 6 ^^^ rotr e 11) ^^^ rotr e 25)) + ((e &&& f) ^^^ ((~~~e) &&& g))) + k.getD i 0) + w.getD i 0) + ((rotr a 2 ^^^ rotr a 13) ^^^ rotr a 22)) + (((a &&& b) ^^^ (a &&& c)) ^^^ (b &&& c)), a, b, c,
   d + ((((x + ((rotr e 6 ^^^ rotr e 11) ^^^ rotr e 25)) + ((e &&& f) ^^^ ((~~~e) &&& g))) + k.getD i 0) + w.getD i 0), e, f, g) from by simp only [K7m, UInt32.add_assoc]]
  rfl
 ·unfold q20_3_step
  rfl
theorem rblock_4 (h z v : List UInt32) : q20_4 0 h z v = some (K84 (addS v) 0 8 h, z) := by
 unfold q20_4
 refine K47 (fun i w => ((i : Int), w)) (addS v) (fun w => (w, z)) 8 (fun _ _ => True) (fun i w hi _ => ⟨?_, trivial⟩) (fun w _ => ?_) 8 0 h rfl trivial
 ·unfold q20_4_step
  simp (disch := omega) only [K2e, J6z, J4c, Int.toNat_natCast]
  rfl
 ·unfold q20_4_step
  rfl
theorem K45 (h : List UInt32) (hh : h.length = 8) : list8 (tup8 h) = h := by
 match h, hh with
 | [a, b, c, d, e, f, g, i], _ => rfl
theorem K69 (h : List UInt32) (hh : h.length = 8) (b : List UInt8) (hb : b.length = 64) (k : List UInt32) (hk : k.length = 64) : q20 h b k = some (mixS k b h) := by
 unfold q20
 simp only [rblock_1 b hb, rblock_2, K05]
 have h3 := rblock_3 k h (List.replicate 8 0) (K9f b) hk (tup8 h)
 rw [K45 h hh] at h3
 rw [show K84 sprd2 16 48 (K84 (sprd1 b) 0 16 (List.replicate 64 0)) = K9f b from by rw [K9f], h3, K05]
 simp only [rblock_4, K05]
 rw [mixS]
theorem tmod64 (n : Nat) : Int.tmod (n : Int) 64 = ((n % 64 : Nat) : Int) := by
 rw [Int.tmod_eq_emod_of_nonneg (by omega)]; omega
theorem rsum_1 (b : List UInt8) (hb : b.length ≤ 1073741824) (out : List UInt8) (k h : List UInt32) :
  q2h_1 b out k h (b ++ [128]) = some (b, out, k, h, (b ++ [128]) ++ List.replicate ((b.length + 8) / 64 * 64 + 55 - b.length) 0) := by
 unfold q2h_1
 generalize hz : (b.length + 8) / 64 * 64 + 55 - b.length = z
 have := K47 (step := fun s => q2h_1_step b out k h s) (fun i (_ : Unit) => (b ++ [128]) ++ List.replicate i (0 : UInt8)) (fun _ _ => ()) (fun _ => (b, out, k, h, (b ++ [128]) ++ List.replicate z 0)) z (fun _ _ => True) (fun i w hi _ => ⟨?_, trivial⟩) (fun w _ => ?_) z 0 () (by omega) trivial
 ·simpa using this
 ·unfold q2h_1_step
  rw [tmod64, K2c (by simp; omega), J4c (by simp; omega), List.append_assoc, List.append_assoc, List.append_assoc, ← List.replicate_succ']
 ·unfold q2h_1_step
  rw [tmod64, K2d (by simp; omega)]
theorem K9w {j : Nat} (h : j < 8) : (UInt64.ofNat (Int.toNat ((8 * ((7 : Int) - (j : Int))) % 18446744073709551616))).toNat = 8 * (7 - j) := by
 have : Int.toNat ((8 * ((7 : Int) - (j : Int))) % 18446744073709551616) = 8 * (7 - j) := by omega
 rw [this, UInt64.toNat_ofNat']; omega
theorem rsum_2 (b : List UInt8) (hb : b.length ≤ 1073741824) (out m : List UInt8) (hm : m.length ≤ 1073741924) (k h : List UInt32) :
  q2h_2 b 7 out k h m = some (out, k, h, K84 (fun j (l : List UInt8) => l ++ [K0q (bitsOf b) (7 - j)]) 0 8 m) := by
 unfold q2h_2
 refine K47 (step := fun (s : Int × List UInt8) => q2h_2_step b s.1 out k h s.2) (fun j l => ((7 : Int) - (j : Int), l)) (fun j (l : List UInt8) => l ++ [K0q (bitsOf b) (7 - j)]) (fun l => (out, k, h, l)) 8 (fun j l => l.length = m.length + j) (fun j l hj hl => ⟨?_, by simp [hl]; omega⟩) (fun l _ => ?_) 8 0 m rfl rfl
 ·unfold q2h_2_step
  have hbits : UInt64.ofNat (Int.toNat ((8 * (b.length : Int)) % 18446744073709551616)) = bitsOf b := by
   rw [show Int.toNat ((8 * (b.length : Int)) % 18446744073709551616) = b.length * 8 from by omega, UInt64.ofNat_mul]; rfl
  simp (disch := omega) only [K2e, J6z, hbits]
  rw [J4c (by omega), J4c (by simp; omega), K9w hj, Int.toNat_natCast]
  rw [show (7 : Int) - (j : Int) - 1 = 7 - ((j + 1 : Nat) : Int) from by omega]
  rfl
 ·unfold q2h_2_step
  rfl
theorem rsum_3g (l out : List UInt8) (n : Nat) (hl : l.length = 64 * n) (hn : 64 * n ≤ 2147483648) (h : List UInt32) (hh : h.length = 8) :
  q2h_3 l 0 out kS h = some (out, K84 (fun j h => mixS kS ((l.drop (64 * j)).take 64) h) 0 n h) := by
 unfold q2h_3
 refine K47 (step := fun (s : Int × List UInt32) => q2h_3_step l s.1 out kS s.2) (fun j h => (((64 * j : Nat) : Int), h)) (fun j h => mixS kS ((l.drop (64 * j)).take 64) h) (fun h => (out, h)) n (fun j h => h.length = 8) (fun j h hj hh => ⟨?_, by rw [K4k, hh]⟩) (fun l _ => ?_) n 0 h (by omega) hh
 ·unfold q2h_3_step
  have hc : cutL l ((64 * j : Nat) : Int) (((64 * j : Nat) : Int) + 64) = (l.drop (64 * j)).take 64 := by
   unfold cutL
   rw [Int.toNat_natCast, show Int.toNat (((64 * j : Nat) : Int) + 64) = 64 * j + 64 from by omega, List.drop_take]
   congr 1; omega
  simp (disch := omega) only [K2e, J6z, J4c, hc]
  rw [K69 h hh _ (by rw [List.length_take, List.length_drop]; omega) _ rfl, K05]
  rfl
 ·unfold q2h_3_step
  rw [K28 (by omega)]
theorem K0n (l : List UInt8) : ∀ (n j : Nat) (h : List UInt32), K84 (fun j h => mixS kS ((l.drop (64 * j)).take 64) h) j n h = K0l n (l.drop (64 * j)) h
 | 0, _, _ => rfl
 | n + 1, j, h => by
  rw [K84, K0n l n (j + 1), K0l, List.drop_drop]
  rfl
def K56 (x : UInt32) (i : Nat) (acc : List UInt8) : List UInt8 := (((acc.set (4 * i) (outB x 0)).set (4 * i + 1) (outB x 1)).set (4 * i + 2) (outB x 2)).set (4 * i + 3) (outB x 3)
theorem rsum_4 (h : List UInt32) (z acc : List UInt8) : q2h_4 h 0 z acc = some (z, K84 (fun i acc => K56 (h.getD i 0) i acc) 0 8 acc) := by
 unfold q2h_4
 refine K47 (step := fun (s : Int × List UInt8) => q2h_4_step h s.1 z s.2) (fun i acc => ((i : Int), acc)) (fun i acc => K56 (h.getD i 0) i acc) (fun acc => (z, acc)) 8 (fun _ _ => True) (fun i acc hi _ => ⟨?_, trivial⟩) (fun acc _ => ?_) 8 0 acc rfl trivial
 ·unfold q2h_4_step
  have e0 : Int.toNat (4 * (i : Int)) = 4 * i := by omega
  have e1 : Int.toNat (4 * (i : Int) + 1) = 4 * i + 1 := by omega
  have e2 : Int.toNat (4 * (i : Int) + 2) = 4 * i + 2 := by omega
  have e3 : Int.toNat (4 * (i : Int) + 3) = 4 * i + 3 := by omega
  have hx : ∀ x : UInt32, outB x 3 = UInt8.ofNat x.toNat := by intro x; simp [outB]
  simp (disch := omega) only [K2e, J6z, J4c, e0, e1, e2, e3, Int.toNat_natCast]
  rw [K56, hx]
  rfl
 ·unfold q2h_4_step
  rfl
theorem rout_eq8 (a b c d e f g i : UInt32) : K84 (fun j acc => K56 (List.getD [a, b, c, d, e, f, g, i] j 0) j acc) 0 8 (List.replicate 32 (0 : UInt8)) = outS [a, b, c, d, e, f, g, i] := by kernel_rfl
theorem rout_eq (h : List UInt32) (hh : h.length = 8) : K84 (fun i acc => K56 (h.getD i 0) i acc) 0 8 (List.replicate 32 (0 : UInt8)) = outS h := by
 match h, hh with
 | [a, b, c, d, e, f, g, i], _ => exact rout_eq8 a b c d e f g i
theorem const_eq : q14 = some kS := by kernel_rfl
theorem rpad_eq (b : List UInt8) : K84 (fun j (l : List UInt8) => l ++ [K0q (bitsOf b) (7 - j)]) 0 8 ((b ++ [128]) ++ List.replicate ((b.length + 8) / 64 * 64 + 55 - b.length) 0) = padS b := by
 unfold padS
 simp only [K84, List.append_assoc]
 rfl
theorem rsum_eq (b : List UInt8) (hb : b.length ≤ 1073741824) : q2h b = some (sha b) := by
 unfold q2h
 have h0 : (List.set (List.set (List.set (List.set (List.set (List.set (List.set (List.set (List.replicate 8 (0 : UInt32)) 0 (1779033703 : UInt32)) 1 (3144134277 : UInt32)) 2 (1013904242 : UInt32)) 3 (2773480762 : UInt32)) 4 (1359893119 : UInt32)) 5 (2600822924 : UInt32)) 6 (528734635 : UInt32)) 7 (1541459225 : UInt32)) = h0S := by kernel_rfl
 rw [const_eq, K05, J4c (by simp; omega), J4c (by simp; omega), h0, List.nil_append, rsum_1 b hb, K05]
 simp only [rsum_2 b hb _ _ (show ((b ++ [128]) ++ List.replicate ((b.length + 8) / 64 * 64 + 55 - b.length) (0 : UInt8)).length ≤ 1073741924 by simp; omega), K05, rpad_eq]
 rw [rsum_3g _ _ ((b.length + 8) / 64 + 1) (K59 b) (by omega) _ rfl, K05, K0n]
 simp only [rsum_4, K05]
 rw [rout_eq _ (by rw [K0m]; rfl)]
 rfl
theorem K81 (t : UInt8) (l : List (List UInt8)) (h : l.flatten.length ≤ 1073741823) (hl : l.length ≤ 1073741823) : q1k t l = some (sha (t :: l.flatten)) := by
 unfold q1k
 have : ∀ z, q1k_1 l (l.length : Int) 0 z [t] = some (z, t :: l.flatten) := by
  intro z
  unfold q1k_1
  have := K47 (step := fun (s : Int × List UInt8) => q1k_1_step l (l.length : Int) s.1 z s.2) (fun i (_ : Unit) => ((i : Int), t :: (l.take i).flatten)) (fun _ _ => ()) (fun _ => (z, t :: l.flatten)) l.length (fun _ _ => True) (fun i w hi _ => ⟨?_, trivial⟩) (fun w _ => ?_) l.length 0 () (by omega) trivial
  ·exact this
  ·unfold q1k_1_step
   have e := getD_take l hi
   have le := K9l l (i + 1)
   rw [← e, List.length_append] at le
   simp (disch := omega) only [K2e, J6z, J4c, Int.toNat_natCast]
   rw [J4c (by rw [List.length_cons]; omega), List.cons_append, e]
   rfl
  ·unfold q1k_1_step
   rw [K28 (by omega), List.take_of_length_le (Nat.le_refl _)]
 rw [this, K05]
 simp only []
 rw [rsum_eq _ (by rw [List.length_cons]; omega), K05]
theorem K7w (seed : List UInt8) (hs : seed.length = 32) (i v : Nat) (hi : i < 256) (hv : v < 256) : q1h seed (i : Int) (v : Int) = some (secS seed i v) := by
 unfold q1h
 have hf : [seed, [UInt8.ofNat (Int.toNat ((i : Int) % 256)), UInt8.ofNat (Int.toNat ((v : Int) % 256))]].flatten = seed ++ [UInt8.ofNat i, UInt8.ofNat v] := by
  rw [K9x, K9x]; simp
 rw [K81 _ _ (by rw [hf]; simp; omega) (by simp), hf]
 rfl
theorem K7p (s : List UInt8) (hs : s.length = 32) : q1i s = some (pubS s) := by
 unfold q1i
 have hf : [s].flatten = s := by simp
 rw [K81 _ _ (by rw [hf]; omega) (by simp), hf]
 rfl
theorem rdig_eq (m : List UInt8) (hm : m.length ≤ 100000) : q1k 109 [m] = some (digS m) := by
 have hf : [m].flatten = m := by simp
 rw [K81 _ _ (by rw [hf]; omega) (by simp), hf]
 rfl
theorem rbit_at (d : List UInt8) (i : Nat) (hi : i < 256) : need (0 ≤ (w64 (Int.tdiv (i : Int) (8 : Int))) ∧ (w64 (Int.tdiv (i : Int) (8 : Int))) < (32 : Int)) (need (0 ≤ (((UInt64.ofNat (Int.toNat ((w64 ((7 : Int) - (Int.tmod (i : Int) (8 : Int)))) % 18446744073709551616))).toNat : Nat) : Int))
  (some (band ((UInt8.toNat (UInt8.ofNat (UInt8.toNat (List.getD d (Int.toNat (w64 (Int.tdiv (i : Int) (8 : Int)))) (0 : UInt8)) >>> (Int.toNat (((UInt64.ofNat (Int.toNat ((w64 ((7 : Int) - (Int.tmod (i : Int) (8 : Int)))) % 18446744073709551616))).toNat : Nat) : Int)))) : Nat) : Int) (1 : Int)))) = some ((bitN d i : Nat) : Int) := by
 have e1 : Int.tdiv (i : Int) 8 = ((i / 8 : Nat) : Int) := by rw [Int.tdiv_eq_ediv_of_nonneg (by omega)]; omega
 have e2 : Int.tmod (i : Int) 8 = ((i % 8 : Nat) : Int) := by rw [Int.tmod_eq_emod_of_nonneg (by omega)]; omega
 have e3 : (UInt64.ofNat (Int.toNat ((7 - ((i % 8 : Nat) : Int)) % 18446744073709551616))).toNat = 7 - i % 8 := by
  rw [show Int.toNat ((7 - ((i % 8 : Nat) : Int)) % 18446744073709551616) = 7 - i % 8 from by omega, UInt64.toNat_ofNat']; omega
 rw [e1, e2, J6z (by omega) (by omega), J6z (by omega) (by omega), J4c (by omega), e3, J4c (by omega), Int.toNat_natCast, Int.toNat_natCast]
 generalize hx : d.getD (i / 8) 0 = x
 have hlt := x.toNat_lt
 have hs : x.toNat >>> (7 - i % 8) ≤ x.toNat := by rw [Nat.shiftRight_eq_div_pow]; exact Nat.div_le_self _ _
 rw [UInt8.toNat_ofNat', Nat.mod_eq_of_lt (by omega)]
 have hb := K08 (x.toNat >>> (7 - i % 8)) 1 (by omega) (by omega)
 rw [show ((1 : Nat) : Int) = 1 from rfl] at hb
 rw [hb, show (1 : Nat) = 2 ^ 1 - 1 from rfl, Nat.and_two_pow_sub_one_eq_mod]
 unfold bitN
 rw [hx]
theorem K68 (m : List UInt8) (hm : m.length ≤ 100000) (i : Nat) (hi : i < 256) : q2q m (i : Int) = some ((bitN (digS m) i : Nat) : Int) := by
 unfold q2q
 rw [rdig_eq m hm, K05]
 exact rbit_at (digS m) i hi
theorem K77 (l : List (List UInt8)) (hl : l.length ≤ 1000) (h : ∀ x ∈ l, x.length = 32) : q2o l = some (keyS l) := by
 have hlen : ∀ i, ((l.take i).flatten).length ≤ 32 * l.length := fun i => by
  rw [K1q _ fun x hx => h x (List.mem_of_mem_take hx), List.length_take]; omega
 have main : ∀ z, q2o_1 l (l.length : Int) 0 z [] = some (z, l.flatten) := by
  intro z
  unfold q2o_1
  have := K47 (step := fun (s : Int × List UInt8) => q2o_1_step l (l.length : Int) s.1 z s.2) (fun i (_ : Unit) => ((i : Int), (l.take i).flatten)) (fun _ _ => ()) (fun _ => (z, l.flatten)) l.length (fun _ _ => True) (fun i w hi _ => ⟨?_, trivial⟩) (fun w _ => ?_) l.length 0 () (by omega) trivial
  ·exact this
  ·show q2o_1_step l (l.length : Int) (i : Int) z (l.take i).flatten = _
   unfold q2o_1_step
   have b := hlen i
   have hm : (l.getD i (List.replicate 32 0)).length = 32 := K2g l h i
   rw [K2e (by omega), J4c (by omega), Int.toNat_natCast, J4c (by omega), J6z (by omega) (by omega), K1t l hi]
   rfl
  ·show q2o_1_step l (l.length : Int) (l.length : Int) z (l.take l.length).flatten = _
   unfold q2o_1_step
   rw [K28 (by omega), List.take_of_length_le (Nat.le_refl _)]
 unfold q2o
 have hf : [l.flatten].flatten = l.flatten := by simp
 have := K1q l h
 rw [main, K05]
 simp only
 rw [K81 _ _ (by rw [hf]; omega) (by simp), hf]
 rfl
theorem rKey_eq (seed : List UInt8) (hs : seed.length = 32) : q2m seed = some (KeyS seed) := by
 have main : ∀ z, q2m_1 0 seed z [] = some (z, K5g seed 32) := by
  intro z
  unfold q2m_1
  have := K47 (step := fun (s : Int × List (List UInt8)) => q2m_1_step s.1 seed z s.2) (fun i (_ : Unit) => ((i : Int), K5g seed i)) (fun _ _ => ()) (fun _ => (z, K5g seed 32)) 32 (fun _ _ => True) (fun i w hi _ => ⟨?_, trivial⟩) (fun w _ => ?_) 32 0 () (by omega) trivial
  ·exact this
  ·show q2m_1_step (i : Int) seed z (K5g seed i) = _
   unfold q2m_1_step
   have hl := (K5h seed i).2
   have s0 := K7w seed hs i 0 (by omega) (by omega)
   have s1 := K7w seed hs i 1 (by omega) (by omega)
   rw [show ((0 : Nat) : Int) = 0 from rfl] at s0
   rw [show ((1 : Nat) : Int) = 1 from rfl] at s1
   rw [K2e (by omega), s0, K05, K7p _ (K8f _ _ _), K05, s1, K05, K7p _ (K8f _ _ _), K05, J4c (by simp; omega), J6z (by omega) (by omega)]
   unfold K5g
   rw [K1s]
   rfl
  ·show q2m_1_step 32 seed z (K5g seed 32) = _
   unfold q2m_1_step
   rw [K28 (by omega)]
 unfold q2m
 obtain ⟨h1, h2⟩ := K5h seed 32
 rw [main, K05]
 simp only
 rw [K77 _ (by omega) h1]
 rfl
theorem rsign_eq (seed m : List UInt8) (hs : seed.length = 32) (hm : m.length ≤ 100000) : q27 seed m = some (signS seed m) := by
 have main : q27_1 m 0 seed () () [] [] = some ((), (), openS seed (digS m) 32, shutS seed (digS m) 32) := by
  generalize hd : digS m = d
  unfold q27_1
  have := K47 (step := fun (s : Int × List (List UInt8) × List (List UInt8)) => q27_1_step m s.1 seed () () s.2.1 s.2.2) (fun i (_ : Unit) => ((i : Int), openS seed d i, shutS seed d i)) (fun _ _ => ()) (fun _ => ((), (), openS seed d 32, shutS seed d 32)) 32 (fun _ _ => True) (fun i w hi _ => ⟨?_, trivial⟩) (fun w _ => ?_) 32 0 () (by omega) trivial
  ·exact this
  ·show q27_1_step m (i : Int) seed () () (openS seed d i) (shutS seed d i) = _
   unfold q27_1_step
   have hb := K0f d i
   have lo : (openS seed d i).length = i := by simp [openS]
   have ls : (shutS seed d i).length = i := by simp [shutS]
   rw [K2e (by omega), K68 m hm i (by omega), K05, hd, K7w seed hs i _ (by omega) (by omega), K05, J4c (by simp; omega), J6z (by omega) (by omega), show (1 : Int) - ((bitN d i : Nat) : Int) = ((1 - bitN d i : Nat) : Int) from by omega,
    K7w seed hs i _ (by omega) (by omega), K05, K7p _ (K8f _ _ _), K05, J4c (by simp; omega), J6z (by omega) (by omega)]
   unfold openS shutS
   rw [mapRange, mapRange]
   rfl
  ·show q27_1_step m 32 seed () () (openS seed d 32) (shutS seed d 32) = _
   unfold q27_1_step
   rw [K28 (by omega)]
 unfold q27
 rw [main, K05]
 rfl
theorem rwho_eq (m : List UInt8) (hm : m.length ≤ 100000) (x : One) (lo : Len32 x.1) (ls : Len32 x.2.1) : q2p m x = some (whoS m x) := by
 unfold q2p whoS
 by_cases ho : x.1.length = 32
 ·rw [K2d (by omega)]
  by_cases hs : x.2.1.length = 32
  ·rw [K2d (by omega), if_pos ⟨ho, hs⟩]
   have main : q2p_1 m 0 x zH [] = some (zH, Kad (digS m) x.1 x.2.1) := by
    unfold q2p_1
    have := K47 (step := fun (s : Int × List (List UInt8)) => q2p_1_step m s.1 x zH s.2) (fun i (_ : Unit) => ((i : Int), (List.range i).flatMap (wpart (digS m) x.1 x.2.1))) (fun _ _ => ()) (fun _ => (zH, Kad (digS m) x.1 x.2.1)) 32 (fun _ _ => True) (fun i w hi _ => ⟨?_, trivial⟩) (fun w _ => ?_) 32 0 () (by omega) trivial
    ·exact this
    ·show q2p_1_step m (i : Int) x zH ((List.range i).flatMap (wpart (digS m) x.1 x.2.1)) = _
     unfold q2p_1_step
     have hb := K0f (digS m) i
     have hl := Kae (digS m) x.1 x.2.1 i
     have hg : (x.1.getD i (List.replicate 32 0)).length = 32 := K2g _ lo i
     rw [K2e (by omega), J4c (by omega), Int.toNat_natCast, K7p _ hg, K05, J4c (by omega), K68 m hm i (by omega), K05, J6z (by omega) (by omega), K1s]
     have hw : wpart (digS m) x.1 x.2.1 i = if bitN (digS m) i = 0 then [pubS (x.1.getD i zH), x.2.1.getD i zH] else [x.2.1.getD i zH, pubS (x.1.getD i zH)] := rfl
     rw [hw]
     rcases (show bitN (digS m) i = 0 ∨ bitN (digS m) i = 1 by omega) with h0 | h0
     ·rw [h0, if_pos rfl, K28 (by omega), J4c (by rw [hl, List.length_cons, List.length_cons, List.length_nil]; omega)]
      rfl
     ·rw [h0, if_neg (by omega), K2e (by omega), J4c (by rw [hl, List.length_cons, List.length_cons, List.length_nil]; omega)]
      rfl
    ·show q2p_1_step m 32 x zH _ = _
     unfold q2p_1_step
     rw [K28 (by omega)]
     rfl
   have hk : q2o (Kad (digS m) x.1 x.2.1) = some (keyS (Kad (digS m) x.1 x.2.1)) := K77 _ (by unfold Kad; rw [Kae]; omega) (Kaf _ _ _ ls 32)
   have main' : q2p_1 m 0 x (List.replicate 32 0) [] = some (zH, Kad (digS m) x.1 x.2.1) := main
   rw [main', K05]
   simp only
   rw [hk]
   rfl
  ·rw [K2c (by omega), if_neg (fun h => hs h.2)]
 ·rw [K2c (by omega), if_neg (fun h => ho h.1)]
theorem K2s : ∀ (f k n : Nat), n ≤ 2 * k * 2 ^ f → 1 ≤ k → n ≤ 1073741824 → k ≤ 1073741824 → q2g_1 (n : Int) (k : Int) = some ((leftF f k n : Nat) : Int)
 | 0, k, n, h, h1, h2, hk => by
  unfold q2g_1
  refine J3y ?_
  unfold q2g_1_step
  simp only [Nat.pow_zero, Nat.mul_one] at h
  rw [J6z (by omega) (by omega), K28 (by omega)]
  rfl
 | f + 1, k, n, h, h1, h2, hk => by
  rw [leftF]
  split
  ·rename_i hlt
   rw [← K2s f (2 * k) n (by rw [Nat.pow_succ] at h; rw [K5r]; exact h) (by omega) h2 (by omega)]
   have hs : q2g_1_step (n : Int) (k : Int) = some (.inl ((2 * k : Nat) : Int)) := by
    unfold q2g_1_step
    rw [J6z (by omega) (by omega), K2e (by omega), show 2 * (k : Int) = ((2 * k : Nat) : Int) from by omega]
   unfold q2g_1
   rw [J3x hs]
  ·rename_i hlt
   unfold q2g_1
   refine J3y ?_
   unfold q2g_1_step
   rw [J6z (by omega) (by omega), K28 (by omega)]
theorem K2r (n : Nat) (h : n ≤ 1073741824) : q2g (n : Int) = some ((leftS n : Nat) : Int) := by
 unfold q2g
 rw [show (1 : Int) = ((1 : Nat) : Int) from rfl, K2s 40 1 n (by omega) (by omega) h (by omega), K05]
 rfl
theorem K76 (a b : List UInt8) (ha : a.length = 32) (hb : b.length = 32) : q1k 1 [a, b] = some (K36 a b) := by
 have hf : [a, b].flatten = a ++ b := by simp
 rw [K81 _ _ (by rw [hf, List.length_append]; omega) (by simp), hf]
 rfl
theorem rleaf_eq (x : List UInt8) (hx : x.length ≤ 1000000) : q1k 0 [x] = some (leafS x) := by
 have hf : [x].flatten = x := by simp
 rw [K81 _ _ (by rw [hf]; omega) (by simp), hf]
 rfl
theorem K7v : ∀ (k : Nat) (l : List (List UInt8)), l.length < k → l.length ≤ 1000 → Small l → q1q k l = some (rootS l)
 | 0, l, h, _, _ => by omega
 | k + 1, l, h, h2, hl => by
  rw [q1q]
  match l, h, h2, hl with
  | [], h, h2, hl =>
   rw [K2e (by simp), K81 _ _ (by simp) (by simp), K7h]; rfl
  | [x], h, h2, hl =>
   have hx := hl x (by simp)
   have hf : [List.getD [x] (Int.toNat (0 : Int)) []].flatten = x := by simp
   rw [K28 (by simp), K2e (by simp), J4c (by simp), K81 _ _ (by rw [hf]; omega) (by simp), hf, K7i]; rfl
  | x :: y :: r, h, h2, hl =>
   have hn : 2 ≤ (x :: y :: r).length := by simp
   generalize x :: y :: r = l at h h2 hl hn
   obtain ⟨b1, b2, b3⟩ := K42 l.length hn (by omega)
   rw [K28 (by omega), K28 (by omega), K2r _ (by omega), K05, J4c (by omega), K17, K16, Int.toNat_natCast, K7v k (l.take (leftS l.length)) (by rw [List.length_take]; omega) (by rw [List.length_take]; omega) (K9a hl _), K05, J4c (by omega),
    K7v k (l.drop (leftS l.length)) (by rw [List.length_drop]; omega) (by rw [List.length_drop]; omega) (K99 hl _), K05, K76 _ _ (K7g _) (K7g _), K05, K7j l hn (by omega)]
theorem K7u (l : List (List UInt8)) (h : l.length < 64) (hl : Small l) : q2e l = some (rootS l) := K7v 64 l h (by omega) hl
theorem K7o : ∀ (k : Nat) (l : List (List UInt8)) (i : Int), l.length < k → l.length < 64 → Small l → q1o k l i = some (if 0 ≤ i ∧ i < (l.length : Int) then pathF l.length l i.toNat else [])
 | 0, l, i, h, _, _ => by omega
 | k + 1, l, i, h, h2, hl => by
  rw [q1o]
  by_cases h0 : i < 0
  ·rw [K2e h0, if_neg (by omega)]
  ·rw [K28 h0]
   by_cases h1 : (l.length : Int) ≤ i
   ·rw [K2e h1, if_neg (by omega)]
   ·rw [K28 h1, if_pos (by omega)]
    by_cases h3 : l.length = 1
    ·rw [K2e (by omega), h3, pathF, if_pos (by omega)]
    ·rw [K28 (by omega), K2r _ (by omega), K05]
     obtain ⟨b1, b2, b3⟩ := K42 l.length (by omega) (by omega)
     obtain ⟨q, hq⟩ : ∃ q, l.length = q + 1 := ⟨l.length - 1, by omega⟩
     have hp : pathF l.length l i.toNat = if i.toNat < leftS l.length then pathF q (l.take (leftS l.length)) i.toNat ++ [rootS (l.drop (leftS l.length))] else pathF q (l.drop (leftS l.length)) (i.toNat - leftS l.length) ++ [rootS (l.take (leftS l.length))] := by
      conv => lhs; rw [hq]
      rw [pathF, if_neg (by omega)]
     rw [hp]
     by_cases h4 : i.toNat < leftS l.length
     ·have lt : (l.take (leftS l.length)).length = leftS l.length := by rw [List.length_take]; omega
      have hpl := K5k q (l.take (leftS l.length)) i.toNat
      rw [if_pos h4, K2e (by omega), J4c (by omega), K17, K16, Int.toNat_natCast, K7o k (l.take (leftS l.length)) i (by omega) (by omega) (K9a hl _), K05, if_pos (by omega), J4c (by omega), K7u _ (by rw [List.length_drop]; omega) (K99 hl _), K05,
       K5j _ q _ _ (by omega) (by omega) (by omega), J4c (by simp; omega)]
     ·have ld : (l.drop (leftS l.length)).length = l.length - leftS l.length := by rw [List.length_drop]
      have hpl := K5k q (l.drop (leftS l.length)) (i.toNat - leftS l.length)
      rw [if_neg h4, K28 (by omega), J4c (by omega), K17, K16, Int.toNat_natCast, J6z (by omega) (by omega), K7o k (l.drop (leftS l.length)) (i - ((leftS l.length : Nat) : Int)) (by omega) (by omega) (K99 hl _), K05, if_pos (by omega), J4c (by omega), K7u _ (by rw [List.length_take]; omega) (K9a hl _), K05,
       show Int.toNat (i - ((leftS l.length : Nat) : Int)) = i.toNat - leftS l.length from by omega, K5j _ q _ _ (by omega) (by omega) (by omega), J4c (by simp; omega)]
theorem rpath_eq (l : List (List UInt8)) (i : Int) (h : l.length < 64) (hl : Small l) : q26 l i = some (pathS l i) := K7o 64 l i h h hl
theorem K8w : ∀ (f g i n : Nat), n ≤ f + 1 → n ≤ g + 1 → n ≤ 1000 → K8v f i n = K8v g i n
 | 0, g, i, n, h, _, _ => by
  cases g with
  | zero => rfl
  | succ g => rw [K8v, K8v, if_pos h]
 | f + 1, 0, i, n, _, h, _ => by rw [K8v, K8v, if_pos h]
 | f + 1, g + 1, i, n, h, h2, h3 => by
  rw [K8v, K8v]
  by_cases h1 : n ≤ 1
  ·rw [if_pos h1, if_pos h1]
  ·obtain ⟨b1, b2, b3⟩ := K42 n (by omega) (by omega)
   rw [if_neg h1, if_neg h1, K8w f g i (leftS n) (by omega) (by omega) (by omega), K8w f g (i - leftS n) (n - leftS n) (by omega) (by omega) (by omega)]
theorem K86 : ∀ (k : Nat) (leaf : List UInt8) (i n : Nat) (p : List (List UInt8)), n < k → i < n → n < 64 → leaf.length ≤ 1000000 → (∀ x ∈ p, x.length = 32) → p.length ≤ 100000 →
  ∃ x, q28 k leaf (i : Int) (n : Int) p = some (x, decide (p.length = (K8v n i n).length)) ∧ x.length = 32 ∧ (p.length = (K8v n i n).length → x = climb (K8v n i n).reverse p (leafS leaf))
 | 0, leaf, i, n, p, h, _, _, _, _, _ => by omega
 | k + 1, leaf, i, n, p, h, hi, h2, hf, hp, hb => by
  rw [q28, K28 (by omega), K28 (by omega), K28 (by omega)]
  by_cases h1 : n = 1
  ·subst h1
   rw [K2e (by omega), rleaf_eq leaf hf, K05]
   have e : K8v 1 i 1 = [] := by rw [K8v, if_pos (by omega)]
   rw [e]
   refine ⟨leafS leaf, ?_, K8t _, fun h => ?_⟩
   ·rw [show decide ((p.length : Int) = 0) = decide (p.length = ([] : List Bool).length) from decide_eq_decide.2 (by simp)]
   ·have : p = [] := List.eq_nil_of_length_eq_zero (by simpa using h)
    subst this; rfl
  ·obtain ⟨b1, b2, b3⟩ := K42 n (by omega) (by omega)
   obtain ⟨q, rfl⟩ : ∃ q, n = q + 1 := ⟨n - 1, by omega⟩
   have hsd : K8v (q + 1) i (q + 1) = if i < leftS (q + 1) then true :: K8v q i (leftS (q + 1)) else false :: K8v q (i - leftS (q + 1)) (q + 1 - leftS (q + 1)) := by
    rw [K8v, if_neg (by omega)]
   rw [K28 (by omega)]
   by_cases h0 : p.length = 0
   ·rw [K2e (by omega)]
    refine ⟨zT, ?_, by simp, fun h => ?_⟩
    ·rw [decide_eq_false (by rw [hsd]; split <;> simp [h0])]
    ·exfalso
     rw [hsd] at h
     split at h <;> simp [h0] at h
   ·have hpl : p = p.take (p.length - 1) ++ [p.getD (p.length - 1) zT] := by
     rw [List.getD_eq_getElem?_getD, List.getElem?_eq_getElem (by omega)]
     conv => lhs; rw [← List.take_append_drop (p.length - 1) p, List.drop_eq_getElem_cons (by omega), List.drop_of_length_le (by omega)]
     rfl
    have hg : (p.getD (p.length - 1) (List.replicate 32 0)).length = 32 := by
     rw [List.getD_eq_getElem?_getD, List.getElem?_eq_getElem (by omega)]; exact hp _ (List.getElem_mem _)
    have hpt : ∀ x ∈ p.take (p.length - 1), x.length = 32 := fun x hx => hp x (List.mem_of_mem_take hx)
    have htl : (p.take (p.length - 1)).length = p.length - 1 := by rw [List.length_take]; omega
    have e1 : w64 ((p.length : Int) - 1) = ((p.length - 1 : Nat) : Int) := by rw [J6z (by omega) (by omega)]; omega
    rw [K28 (by omega), K2r (q + 1) (by omega), K05, e1, J4c (by omega), K17, Int.toNat_natCast]
    by_cases h4 : i < leftS (q + 1)
    ·obtain ⟨x, x1, x2, x3⟩ := K86 k leaf i (leftS (q + 1)) (p.take (p.length - 1)) (by omega) h4 (by omega) hf hpt (by omega)
     rw [K8w _ q _ _ (by omega) (by omega) (by omega)] at x1 x3
     rw [K2e (by omega), J4c (by omega), x1, K05]
     simp only
     rw [K76 _ _ x2 hg, K05, hsd, if_pos h4]
     refine ⟨K36 x (p.getD (p.length - 1) (List.replicate 32 0)), ?_, K8t _, fun h => ?_⟩
     ·rw [show decide ((p.take (p.length - 1)).length = (K8v q i (leftS (q + 1))).length) = decide (p.length = (true :: K8v q i (leftS (q + 1))).length) from decide_eq_decide.2 (by rw [htl, List.length_cons]; omega)]
     ·rw [List.length_cons] at h
      rw [x3 (by omega), List.reverse_cons]
      conv => rhs; rw [hpl]
      rw [K0v _ _ _ _ _ (by rw [List.length_reverse]; omega), if_pos rfl]
    ·obtain ⟨x, x1, x2, x3⟩ := K86 k leaf (i - leftS (q + 1)) (q + 1 - leftS (q + 1)) (p.take (p.length - 1)) (by omega) (by omega) (by omega) hf hpt (by omega)
     rw [K8w _ q _ _ (by omega) (by omega) (by omega)] at x1 x3
     rw [K28 (by omega), J4c (by omega), J6z (by omega) (by omega), J6z (by omega) (by omega), show (i : Int) - ((leftS (q + 1) : Nat) : Int) = ((i - leftS (q + 1) : Nat) : Int) from by omega, show ((q + 1 : Nat) : Int) - ((leftS (q + 1) : Nat) : Int) = ((q + 1 - leftS (q + 1) : Nat) : Int) from by omega, x1, K05]
     simp only
     rw [K76 _ _ hg x2, K05, hsd, if_neg h4]
     refine ⟨K36 (p.getD (p.length - 1) (List.replicate 32 0)) x, ?_, K8t _, fun h => ?_⟩
     ·rw [show decide ((p.take (p.length - 1)).length = (K8v q (i - leftS (q + 1)) (q + 1 - leftS (q + 1))).length) = decide (p.length = (false :: K8v q (i - leftS (q + 1)) (q + 1 - leftS (q + 1))).length) from decide_eq_decide.2 (by rw [htl, List.length_cons]; omega)]
     ·rw [List.length_cons] at h
      rw [x3 (by omega), List.reverse_cons]
      conv => rhs; rw [hpl]
      rw [K0v _ _ _ _ _ (by rw [List.length_reverse]; omega), if_neg (by simp)]
theorem rup_eq (leaf : List UInt8) (hf : leaf.length ≤ 1000000) (i n : Int) (hn : n < 64) (p : List (List UInt8)) (hp : ∀ x ∈ p, x.length = 32) (hb : p.length ≤ 100000) : ∃ x, q2s leaf i n p = some (x, (upS leaf i n p).2) ∧ ((upS leaf i n p).2 = true → x = (upS leaf i n p).1) ∧ x.length = 32 := by
 unfold q2s
 by_cases h0 : i < 0
 ·rw [q28, K2e h0]
  have : upS leaf i n p = (zT, false) := if_neg (fun h => by have := (K3b i n).1 h.1; omega)
  rw [this]
  exact ⟨_, rfl, fun h => (by cases h), rfl⟩
 ·by_cases h1 : n ≤ i
  ·rw [q28, K28 h0, K2e h1]
   have : upS leaf i n p = (zT, false) := if_neg (fun h => by have := (K3b i n).1 h.1; omega)
   rw [this]
   exact ⟨_, rfl, fun h => (by cases h), rfl⟩
  ·obtain ⟨a, rfl⟩ := Int.eq_ofNat_of_zero_le (show 0 ≤ i by omega)
   obtain ⟨b, rfl⟩ := Int.eq_ofNat_of_zero_le (show 0 ≤ n by omega)
   obtain ⟨x, x1, x2, x3⟩ := K86 64 leaf a b p (by omega) (by omega) (by omega) hf hp hb
   have hi : isS (a : Int) (b : Int) = true := (K3b _ _).2 (by omega)
   unfold upS
   simp only [Int.toNat_natCast, hi, true_and]
   by_cases e : p.length = (K8v b a b).length
   ·rw [if_pos e]
    rw [decide_eq_true e] at x1
    exact ⟨x, x1, fun _ => x3 e, x2⟩
   ·rw [if_neg e]
    rw [decide_eq_false e] at x1
    exact ⟨x, x1, fun h => (by cases h), x2⟩
theorem K66 (seed : List UInt8) (hs : seed.length = 32) (h : Nat) : q1j seed (h : Int) = some (seedS seed h) := by
 unfold q1j
 have hf : [seed, [UInt8.ofNat (Int.toNat ((h : Int) % 256))]].flatten = seed ++ [UInt8.ofNat h] := by
  rw [K9x]; simp
 rw [K81 _ _ (by rw [hf]; simp; omega) (by simp), hf]
 rfl
theorem K64 (seed : List UInt8) (hs : seed.length = 32) : q2d seed = some (keysS seed) := by
 have main : q2d_1 1 seed [] = some (keysS seed) := by
  unfold q2d_1
  have := K47 (step := fun (s : Int × List (List UInt8)) => q2d_1_step s.1 seed s.2) (fun i (_ : Unit) => (((i + 1 : Nat) : Int), keysN seed i)) (fun _ _ => ()) (fun _ => keysS seed) 16 (fun _ _ => True) (fun i w hi _ => ⟨?_, trivial⟩) (fun w _ => ?_) 16 0 () (by omega) trivial
  ·exact this
  ·show q2d_1_step ((i + 1 : Nat) : Int) seed (keysN seed i) = _
   unfold q2d_1_step
   have hl := K3g seed i
   rw [K2e (by omega), K66 seed hs, K05, rKey_eq _ (K8h _ _), K05, J4c (by simp; omega), J6z (by omega) (by omega)]
   unfold keysN
   rw [mapRange]
   rfl
  ·show q2d_1_step 17 seed (keysN seed 16) = _
   unfold q2d_1_step
   rw [K28 (by omega)]
   rfl
 unfold q2d
 rw [main]
 rfl
theorem K63 (seed : List UInt8) (hs : seed.length = 32) : q1t seed = some (K32 seed) := by
 unfold q1t
 rw [K64 seed hs, K05, K7u _ (by rw [K3h]; omega) (K3i seed)]
 rfl
theorem K62 (keys : List (List UInt8)) (hk : keys.length < 64) (hks : Small keys) (seed m : List UInt8) (hs : seed.length = 32) (h : Int) (h1 : 1 ≤ h) (h2 : h ≤ 16) (hm : m.length ≤ 100000) : q2r keys seed h m = some (byS keys seed h m) := by
 obtain ⟨k, rfl⟩ := Int.eq_ofNat_of_zero_le (show 0 ≤ h by omega)
 unfold q2r byS
 rw [K66 seed hs, K05, rsign_eq _ m (K8h _ _) hm, K05, J6z (by omega) (by omega), rpath_eq keys _ hk hks, K05, Int.toNat_natCast]
theorem K65 (seed m : List UInt8) (hs : seed.length = 32) (h : Int) (h1 : 1 ≤ h) (h2 : h ≤ 16) (hm : m.length ≤ 100000) : q1p seed h m = some (sigS seed h m) := by
 unfold q1p
 rw [K64 seed hs, K05, K62 _ (by rw [K3h]; omega) (K3i seed) seed m hs h h1 h2 hm]
 rfl
theorem rVer_eq (id : List UInt8) (j : Int) (m : List UInt8) (hm : m.length ≤ 100000) (s : Sig) (hs : SigOk s) : q1g id j m s = some (verS id j m s) := by
 obtain ⟨s1, s2, s3, s4⟩ := hs
 unfold q1g verS
 rw [rwho_eq m hm s.2.1 s1 s2, K05]
 cases hw : (whoS m s.2.1).2 with
 | false => rw [Bool.false_and, Bool.and_false, Bool.and_false]; rfl
 | true =>
  rw [show (!true) = false from rfl, K29, Bool.true_and]
  by_cases c : s.1 = j
  ·rw [K2d c, decide_eq_true c, Bool.true_and]
   by_cases c1 : j < 1
   ·rw [K2e c1, isH_f (.inl c1), Bool.false_and]
   ·by_cases c2 : 16 < j
    ·rw [K28 c1, K2e c2, isH_f (.inr c2), Bool.false_and]
    ·obtain ⟨x, x1, x2, _⟩ := rup_eq (whoS m s.2.1).1 (by rw [Ka6]; omega) (j - 1) 16 (by omega) s.2.2.1 s3 s4
     rw [K28 c1, K28 c2, isH_t (by omega) (by omega), Bool.true_and, J6z (by omega) (by omega), x1, K05]
     cases hu : (upS (whoS m s.2.1).1 (j - 1) 16 s.2.2.1).2 with
     | false => rfl
     | true => rw [x2 hu]; rfl
  ·rw [K2c c, decide_eq_false c, Bool.false_and, Bool.and_false]
def putF : Nat → Nat → List UInt8
 | 0, n => [UInt8.ofNat n]
 | f + 1, n => if n < 128 then [UInt8.ofNat n] else UInt8.ofNat (n % 128 + 128) :: putF f (n / 128)
def oneS (n : Int) : List UInt8 := if 0 ≤ n ∧ n ≤ 1099511627775 then putF 6 n.toNat else []
theorem K5x : ∀ (f n : Nat), (putF f n).length ≤ f + 1
 | 0, _ => by simp [putF]
 | f + 1, n => by
  rw [putF]; split
  ·simp
  ·have := K5x f (n / 128); simp; omega
theorem K52 (n : Int) : (oneS n).length ≤ 7 := by
 unfold oneS; split
 ·exact K5x 6 _
 ·simp
theorem K54 : ∀ (f n : Nat) (acc : List UInt8), n < 128 ^ (f + 1) → n < 9223372036854775808 → acc.length ≤ 1000 - f → f ≤ 10 → ∃ (m : Nat) (l : List UInt8), q3t_1 (n : Int) acc = some ((m : Int), acc ++ l) ∧ l ++ [UInt8.ofNat m] = putF f n ∧ (acc ++ l).length ≤ 1000
 | 0, n, acc, h, h2, ha, _ => by
  refine ⟨n, [], ?_, rfl, by simp; omega⟩
  rw [List.append_nil]
  unfold q3t_1
  refine J3y ?_
  show q3t_1_step (n : Int) acc = _
  unfold q3t_1_step
  rw [K28 (by omega)]
 | f + 1, n, acc, h, h2, ha, hf => by
  by_cases hn : n < 128
  ·refine ⟨n, [], ?_, by rw [putF, if_pos hn]; rfl, by simp; omega⟩
   rw [List.append_nil]
   unfold q3t_1
   refine J3y ?_
   show q3t_1_step (n : Int) acc = _
   unfold q3t_1_step
   rw [K28 (by omega)]
  ·have hs : q3t_1_step (n : Int) acc = some (.inl (((n / 128 : Nat) : Int), acc ++ [UInt8.ofNat (n % 128 + 128)])) := by
    unfold q3t_1_step
    rw [K2e (by omega), J4c (by simp; omega), K07 n (by omega), bor128 _ (by omega), K9x, show Int.toNat 7 = 7 from rfl, K3c n 7 (by omega)]
   have hd : n / 128 < 128 ^ (f + 1) := by
    rw [Nat.div_lt_iff_lt_mul (by omega)]
    have : 128 ^ (f + 1 + 1) = 128 ^ (f + 1) * 128 := Nat.pow_succ ..
    omega
   obtain ⟨m, l, h4, h5, h6⟩ := K54 f (n / 128) (acc ++ [UInt8.ofNat (n % 128 + 128)]) hd (by omega) (by simp; omega) (by omega)
   refine ⟨m, UInt8.ofNat (n % 128 + 128) :: l, ?_, ?_, ?_⟩
   ·unfold q3t_1 at h4 ⊢
    rw [J3x (s' := (((n / 128 : Nat) : Int), acc ++ [UInt8.ofNat (n % 128 + 128)])) hs, h4]
    simp
   ·rw [putF, if_neg hn, ← h5]; rfl
   ·simpa using h6
theorem K53 (n : Int) : q3t n = some (oneS n) := by
 unfold q3t oneS
 by_cases h0 : n < 0
 ·rw [K2e h0, if_neg (by omega)]
 ·rw [K28 h0]
  by_cases h1 : 1099511627775 < n
  ·rw [K2e h1, if_neg (by omega)]
  ·rw [K28 h1, if_pos (by omega)]
   obtain ⟨k, rfl⟩ := Int.eq_ofNat_of_zero_le (show 0 ≤ n by omega)
   obtain ⟨m, l, h2, h3, h4⟩ := K54 6 k [] (by omega) (by omega) (by simp) (by omega)
   rw [h2, K05]
   simp only [List.nil_append] at h4 ⊢
   rw [J4c (by simp; omega), K9x, h3]
   rfl
def putS (l : List Int) : List UInt8 := l.flatMap oneS
theorem K60 : ∀ (l : List Int), (putS l).length ≤ 7 * l.length
 | [] => by simp [putS]
 | n :: l => by
  have := K60 l
  have h := K52 n
  unfold putS at this ⊢
  rw [List.flatMap_cons, List.length_append, List.length_cons]; omega
theorem K1u {α β : Type} (f : α → List β) (l : List α) (z : α) {i : Nat} (h : i < l.length) : (l.take (i + 1)).flatMap f = (l.take i).flatMap f ++ f (l.getD i z) := by
 rw [List.take_add_one, List.flatMap_append, List.getD_eq_getElem?_getD]
 congr 1
 rw [List.getElem?_eq_getElem h]
 simp only [Option.toList_some, Option.getD_some, List.flatMap_cons, List.flatMap_nil, List.append_nil]
theorem put_eq (l : List Int) (hl : l.length ≤ 100000000) : q3v l = some (putS l) := by
 have main : q3v_1 l (l.length : Int) 0 [] = some (putS l) := by
  unfold q3v_1
  have := K47 (step := fun (s : Int × List UInt8) => q3v_1_step l (l.length : Int) s.1 s.2) (fun i (_ : Unit) => ((i : Int), putS (l.take i))) (fun _ _ => ()) (fun _ => putS l) l.length (fun _ _ => True) (fun i w hi _ => ⟨?_, trivial⟩) (fun w _ => ?_) l.length 0 () (by omega) trivial
  ·exact this
  ·show q3v_1_step l (l.length : Int) (i : Int) (putS (l.take i)) = _
   unfold q3v_1_step
   have b := K60 (l.take i)
   have b2 := K52 (l.getD i 0)
   rw [List.length_take] at b
   rw [K2e (by omega), J4c (by omega), K53, K05, Int.toNat_natCast, J4c (by omega), J6z (by omega) (by omega)]
   unfold putS
   rw [K1u oneS l 0 hi]
   rfl
  ·show q3v_1_step l (l.length : Int) (l.length : Int) (putS (l.take l.length)) = _
   unfold q3v_1_step
   rw [K28 (by omega), List.take_of_length_le (Nat.le_refl _)]
 unfold q3v
 rw [main, K05]
theorem K2t (l : List (List UInt8)) (hl : l.length ≤ 1000000) (h : ∀ x ∈ l, x.length = 32) : q3q l = some l.flatten := by
 have hlen : ∀ i, ((l.take i).flatten).length ≤ 32 * l.length := by
  intro i
  have : ∀ (m : List (List UInt8)), (∀ x ∈ m, x.length = 32) → m.flatten.length = 32 * m.length := by
   intro m
   induction m with
   | nil => intro _; rfl
   | cons a m ih => intro hm; rw [List.flatten_cons, List.length_append, ih (fun x hx => hm x (List.mem_cons_of_mem _ hx)), hm a List.mem_cons_self, List.length_cons]; omega
  rw [this _ fun x hx => h x (List.mem_of_mem_take hx), List.length_take]; omega
 have main : q3q_1 l (l.length : Int) 0 [] = some l.flatten := by
  unfold q3q_1
  have := K47 (step := fun (s : Int × List UInt8) => q3q_1_step l (l.length : Int) s.1 s.2) (fun i (_ : Unit) => ((i : Int), (l.take i).flatten)) (fun _ _ => ()) (fun _ => l.flatten) l.length (fun _ _ => True) (fun i w hi _ => ⟨?_, trivial⟩) (fun w _ => ?_) l.length 0 () (by omega) trivial
  ·exact this
  ·show q3q_1_step l (l.length : Int) (i : Int) (l.take i).flatten = _
   unfold q3q_1_step
   have b := hlen i
   have hm : (l.getD i (List.replicate 32 0)).length = 32 := h _ (by rw [List.getD_eq_getElem?_getD, List.getElem?_eq_getElem hi]; exact List.getElem_mem _)
   have e := K1u (fun x : List UInt8 => x) l (List.replicate 32 0) hi
   simp only [List.flatMap_id'] at e
   rw [K2e (by omega), J4c (by omega), Int.toNat_natCast, J4c (by omega), J6z (by omega) (by omega), e]
   rfl
  ·show q3q_1_step l (l.length : Int) (l.length : Int) (l.take l.length).flatten = _
   unfold q3q_1_step
   rw [K28 (by omega), List.take_of_length_le (Nat.le_refl _)]
 unfold q3q
 rw [main, K05]
theorem K5y {n : Nat} (h : n < 128) : ∀ f, putF f n = [UInt8.ofNat n]
 | 0 => rfl
 | f + 1 => by rw [putF, if_pos h]
abbrev Hdr := Int × Int × List UInt8 × List UInt8 × List UInt8 × List UInt8 × Unit
def K6l (h : Hdr) : Bool := decide (1 ≤ h.1) && (decide (h.1 ≤ 16) && (decide (0 ≤ h.2.1) && decide (h.2.1 ≤ 1073741824)))
theorem K6n (h : Hdr) : q3c h = some (K6l h) := by
 unfold q3c K6l
 simp only [K2b]
 cases decide (1 ≤ h.1) <;> cases decide (h.1 ≤ 16) <;> cases decide (0 ≤ h.2.1) <;> simp
theorem K6m (h : Hdr) : K6l h = true ↔ (1 ≤ h.1 ∧ h.1 ≤ 16) ∧ 0 ≤ h.2.1 ∧ h.2.1 ≤ 1073741824 := by
 unfold K6l
 simp only [Bool.and_eq_true, decide_eq_true_eq]
 exact ⟨fun ⟨a, b, c, d⟩ => ⟨⟨a, b⟩, c, d⟩, fun ⟨⟨a, b⟩, c, d⟩ => ⟨a, b, c, d⟩⟩
def K00 (h : Hdr) : Prop := h.2.2.1.length = 32 ∧ h.2.2.2.1.length = 32 ∧ h.2.2.2.2.1.length = 32 ∧ h.2.2.2.2.2.1.length = 32
def bodyS (h : Hdr) : List UInt8 := oneS h.1 ++ (oneS h.2.1 ++ (h.2.2.1 ++ (h.2.2.2.1 ++ (h.2.2.2.2.1 ++ h.2.2.2.2.2.1))))
def K0r (h : Hdr) : List UInt8 := if K6l h then bodyS h else []
theorem bytes_eq (h : Hdr) (hh : K00 h) : q33 h = some (K0r h) := by
 obtain ⟨a, b, c, d⟩ := hh
 unfold q33 K0r
 rw [K6n, K05]
 cases K6l h with
 | false => rfl
 | true =>
  rw [show (!true) = false from rfl, K29, put_eq _ (by simp), K05, K2t _ (by simp) (by
   intro x hx
   simp only [List.mem_cons, List.not_mem_nil, or_false] at hx
   rcases hx with rfl | rfl | rfl | rfl <;> assumption), K05]
  have l1 := K60 [h.1, h.2.1]
  simp only [List.length_cons, List.length_nil] at l1
  rw [J4c (by simp; omega), if_pos rfl]
  congr 1
  simp [putS, bodyS, List.flatMap_cons]
theorem K0p (h : Hdr) (hh : K00 h) : (bodyS h).length ≤ 142 := by
 obtain ⟨a, b, c, d⟩ := hh
 have := K52 h.1
 have := K52 h.2.1
 unfold bodyS
 simp only [List.length_append]; omega
def zHdr : Hdr := (0, 0, List.replicate 32 0, List.replicate 32 0, List.replicate 32 0, List.replicate 32 0, ())
theorem K7r : ∀ (f k n : Nat), n < 128 ^ (f + 1) → f < k → f ≤ 100 → n ≤ 1099511627775 → q1x k (n : Int) = some (putF f n)
 | f, 0, n, h, hk, hf, hn => by omega
 | f, k + 1, n, h, hk, hf, hn => by
  rw [q1x, K28 (by omega), K28 (by omega)]
  by_cases h1 : n < 128
  ·rw [K2e (by omega), K5y h1 f, K9x]
  ·rw [K28 (by omega)]
   cases f with
   | zero => simp at h; omega
   | succ f =>
    have hd : n / 128 < 128 ^ (f + 1) := by
     rw [Nat.div_lt_iff_lt_mul (by omega)]
     have : 128 ^ (f + 1 + 1) = 128 ^ (f + 1) * 128 := Nat.pow_succ ..
     omega
    rw [show Int.toNat 7 = 7 from rfl, K3c n 7 (by omega), show n / 2 ^ 7 = n / 128 from rfl, K7r f k (n / 128) hd (by omega) (by omega) (by omega), K05, K07 n (by omega), bor128 _ (by omega), K9x]
    have := K5x f (n / 128)
    rw [J4c (by simp; omega), putF, if_neg h1]; rfl
theorem K7q (n : Int) : q2k n = some (oneS n) := by
 unfold q2k oneS
 by_cases h0 : n < 0
 ·rw [q1x, K2e h0, if_neg (by omega)]
 ·by_cases h1 : 1099511627775 < n
  ·rw [q1x, K28 h0, K2e h1, if_neg (by omega)]
  ·rw [if_pos (by omega)]
   obtain ⟨k, rfl⟩ := Int.eq_ofNat_of_zero_le (show 0 ≤ n by omega)
   exact K7r 6 64 k (by omega) (by omega) (by omega) (by omega)
theorem K7t (h : Hdr) : qr h = some (K6l h) := K6n h
theorem K6c (l : List (List UInt8)) (hl : l.length ≤ 1000) (hh : ∀ x ∈ l, x.length = 32) (acc : List UInt8) (ha : acc.length ≤ 1000) : qn_1 (l.length : Int) 0 acc l = some (acc ++ l.flatten) := by
 have hlen : ∀ i, ((l.take i).flatten).length ≤ 32 * l.length := by
  intro i
  have : ∀ (m : List (List UInt8)), (∀ x ∈ m, x.length = 32) → m.flatten.length = 32 * m.length := by
   intro m
   induction m with
   | nil => intro _; rfl
   | cons a m ih => intro hm; rw [List.flatten_cons, List.length_append, ih (fun x hx => hm x (List.mem_cons_of_mem _ hx)), hm a List.mem_cons_self, List.length_cons]; omega
  rw [this _ fun x hx => hh x (List.mem_of_mem_take hx), List.length_take]; omega
 unfold qn_1
 have := K47 (step := fun (s : Int × List UInt8) => qn_1_step (l.length : Int) s.1 s.2 l) (fun i (_ : Unit) => ((i : Int), acc ++ (l.take i).flatten)) (fun _ _ => ()) (fun _ => acc ++ l.flatten) l.length (fun _ _ => True) (fun i w hi _ => ⟨?_, trivial⟩) (fun w _ => ?_) l.length 0 () (by omega) trivial
 ·simpa using this
 ·show qn_1_step (l.length : Int) (i : Int) (acc ++ (l.take i).flatten) l = _
  unfold qn_1_step
  have b := hlen i
  have hm : (l.getD i (List.replicate 32 0)).length = 32 := hh _ (by rw [List.getD_eq_getElem?_getD, List.getElem?_eq_getElem hi]; exact List.getElem_mem _)
  have e := K1u (fun x : List UInt8 => x) l (List.replicate 32 0) hi
  simp only [List.flatMap_id'] at e
  rw [K2e (by omega), J4c (by omega), Int.toNat_natCast, J4c (by rw [List.length_append]; omega), J6z (by omega) (by omega), List.append_assoc, e]
  rfl
 ·show qn_1_step (l.length : Int) (l.length : Int) (acc ++ (l.take l.length).flatten) l = _
  unfold qn_1_step
  rw [K28 (by omega), List.take_of_length_le (Nat.le_refl _)]
theorem K6b (h : Hdr) (hh : K00 h) : qn h = some (bodyS h) := by
 obtain ⟨a, b, c, d⟩ := hh
 have l1 := K52 h.1
 have l2 := K52 h.2.1
 unfold qn
 rw [K7q, K05, K7q, K05, J4c (by omega), K6c _ (by simp) (by
   intro x hx
   simp only [List.mem_cons, List.not_mem_nil, or_false] at hx
   rcases hx with rfl | rfl | rfl | rfl <;> assumption) _ (by rw [List.length_append]; omega), K05]
 congr 1
 simp [bodyS]
theorem K2y (h : Hdr) (hh : K00 h) : q3p h = some (sha (72 :: K0r h)) := by
 have hl : (K0r h).length ≤ 142 := by
  unfold K0r; split
  ·exact K0p h hh
  ·simp
 unfold q3p
 have hf : [K0r h].flatten = K0r h := by simp
 rw [bytes_eq h hh, K05, K9k _ _ (by rw [hf]; omega) (by simp), hf]
 rfl
theorem K6j (h : Hdr) (hh : K00 h) : qx h = some (sha (72 :: bodyS h)) := by
 have hl := K0p h hh
 unfold qx
 have hf : [bodyS h].flatten = bodyS h := by simp
 rw [K6b h hh, K05, K81 _ _ (by rw [hf]; omega) (by simp), hf]
 rfl
abbrev K01 := List UInt8 × Sig × Unit
def zSg : K01 := (([] : List UInt8), ((0 : Int), (([] : List (List UInt8)), ([] : List (List UInt8)), ()), ([] : List (List UInt8)), ()), ())
def nmsS (s : List K01) : List (List UInt8) := s.map (·.1)
theorem K4x (s : List K01) (i : Nat) : (s.getD i zSg).1 = (nmsS s).getD i [] := by
 unfold nmsS
 rw [List.getD_eq_getElem?_getD, List.getD_eq_getElem?_getD, List.getElem?_map]
 cases s[i]? <;> rfl
def incS (s : List K01) : Bool := incN (nmsS s)
def K6p (s : List K01) : Bool := incS s && decide (s.length ≤ 5)
theorem K6k (s : List K01) (i : Int) : q37_1_step s i = (fork (decide (i < (s.length : Int))) (need (0 ≤ (w64 (i - 1)) ∧ (w64 (i - 1)) < (s.length : Int)) (need (0 ≤ i ∧ i < (s.length : Int)) (fork (!sless (s.getD (Int.toNat (w64 (i - 1))) zSg).1 (s.getD (Int.toNat i) zSg).1) (some (.inr (.inl false))) (some (.inl (w64 (i + 1))))))) (some (.inr (.inr s))) : Option (Int ⊕ (Bool ⊕ List K01))) := rfl
theorem K89 (s : List K01) {ρ : Type} (r r0 : ρ) : ∀ (k i : Nat), i + k = s.length - 1 → (∀ j, j < i → sless (s.getD j zSg).1 (s.getD (j + 1) zSg).1 = true) →
  scan (fun i => if sless (s.getD i zSg).1 (s.getD (i + 1) zSg).1 = true then none else some r) r0 i k = if incS s = true then r0 else r
 | 0, i, h, hj => by
  have : incS s = true := List.all_eq_true.2 fun j hj' => by
   have hj' : j < (nmsS s).length - 1 := by simpa using hj'
   have hl : (nmsS s).length = s.length := by simp [nmsS]
   rw [← K4x, ← K4x]
   exact hj j (by omega)
  rw [if_pos this]; rfl
 | k + 1, i, h, hj => by
  rw [scan]
  by_cases e : sless (s.getD i zSg).1 (s.getD (i + 1) zSg).1 = true
  ·rw [if_pos e]
   exact K89 s r r0 k (i + 1) (by omega) fun j hj' => by
    rcases (show j < i ∨ j = i by omega) with h1 | rfl
    ·exact hj j h1
    ·exact e
  ·rw [if_neg e]
   have hl : (nmsS s).length = s.length := by simp [nmsS]
   have : ¬ incS s = true := fun hall => e (by
    have := List.all_eq_true.1 hall i (by simp; omega)
    rwa [← K4x, ← K4x] at this)
   rw [if_neg this]
theorem K8d (s : List K01) (hs : s.length ≤ 1073741824) : q37 s = some (K6p s) := by
 have h : q37_1 s 1 = some (scan (fun i => if sless (s.getD i zSg).1 (s.getD (i + 1) zSg).1 = true then none else some (.inl false)) (.inr s) 0 (s.length - 1)) := by
  unfold q37_1
  refine K48 (step := fun (x : Int) => q37_1_step s x) (fun i => ((i + 1 : Nat) : Int)) _ _ (s.length - 1) (fun i hi h => ?_) (fun i r hi h => ?_) ?_ (s.length - 1) 0 (by omega)
  ·rw [K6k, K2e (by omega), J6z (n := ((i + 1 : Nat) : Int) - 1) (by omega) (by omega), J4c (by omega), J4c (by omega), show Int.toNat (((i + 1 : Nat) : Int) - 1) = i from by omega, Int.toNat_natCast]
   by_cases e : sless (s.getD i zSg).1 (s.getD (i + 1) zSg).1 = true
   ·rw [e, J6z (by omega) (by omega)]; rfl
   ·rw [if_neg e] at h; cases h
  ·rw [K6k, K2e (by omega), J6z (n := ((i + 1 : Nat) : Int) - 1) (by omega) (by omega), J4c (by omega), J4c (by omega), show Int.toNat (((i + 1 : Nat) : Int) - 1) = i from by omega, Int.toNat_natCast]
   by_cases e : sless (s.getD i zSg).1 (s.getD (i + 1) zSg).1 = true
   ·rw [if_pos e] at h; cases h
   ·rw [if_neg e] at h; injection h with h; subst h
    rw [Bool.not_eq_true] at e
    rw [e]; rfl
  ·rw [K6k, K28 (by omega)]
 unfold q37 K6p
 rw [h, K05, K89 s _ _ (s.length - 1) 0 (by omega) (fun j hj => by omega)]
 cases incS s with
 | true =>
  show some (decide ((s.length : Int) ≤ 5)) = some (true && decide (s.length ≤ 5))
  rw [Bool.true_and]
  congr 1
  exact decide_eq_decide.2 (by omega)
 | false => rfl
def textS (h : Hdr) : List UInt8 := sha (72 :: K0r h)
theorem K9m (h : Hdr) : (textS h).length = 32 := K8t _
theorem text_eq (h : Hdr) (hh : K00 h) : q3j h = some (textS h) := by
 unfold q3j
 rw [K2y h hh]
 rfl
noncomputable def sgS (h : Hdr) (n seed : List UInt8) : K01 := (n, sigS seed h.1 (textS h), ())
def SgOk (s : List K01) : Prop := ∀ x ∈ s, SigOk x.2.1
theorem sg_at {s : List K01} (h : SgOk s) (i : Nat) : SigOk (s.getD i zSg).2.1 := by
 rw [List.getD_eq_getElem?_getD]
 cases e : s[i]? with
 | none => exact noSig_ok
 | some x => exact h x (List.mem_of_getElem? e)
def goodS (set : List Val) (h : Int) (d : List UInt8) (x : K01) : Bool := (findS set x.1).2 && verS (findS set x.1).1.2.2.1 h d x.2.1
def K4n (set : List Val) (h : Int) (d : List UInt8) (s : List K01) : List (List UInt8) := (s.filter (goodS set h d)).map (·.1)
def K4r (set : List Val) (h : Hdr) (s : List K01) : List (List UInt8) := if K6p s then K4n set h.1 (textS h) s else []
theorem K4o (set : List Val) (h : Int) (d : List UInt8) (s : List K01) : (K4n set h d s).length ≤ s.length := by
 unfold K4n
 rw [List.length_map]
 exact List.length_filter_le _ _
theorem K4p (set : List Val) (h : Int) (d : List UInt8) (s : List K01) {i : Nat} (hi : i < s.length) : K4n set h d (s.take (i + 1)) = K4n set h d (s.take i) ++ (if goodS set h d (s.getD i zSg) then [(s.getD i zSg).1] else []) := by
 unfold K4n
 rw [List.take_add_one, List.getElem?_eq_getElem hi, List.getD_eq_getElem?_getD, List.getElem?_eq_getElem hi]
 simp only [Option.toList_some, Option.getD_some, List.filter_append, List.map_append]
 by_cases hg : goodS set h d s[i]
 ·rw [List.filter_cons_of_pos hg, if_pos hg]; rfl
 ·rw [List.filter_cons_of_neg hg, if_neg hg]; rfl
theorem K4m (set : List Val) (s : List K01) (n i : Int) (h : Hdr) (o : List (List UInt8)) (d : List UInt8) : q2z_1_step set s n i h o d = (fork (decide (i < n)) (need (0 ≤ i ∧ i < (s.length : Int)) (andThen (q3r set (s.getD (Int.toNat i) zSg).1) (fun u9 => fork u9.2 (andThen (q2y u9.1.2.2.1 h.1 d (s.getD (Int.toNat i) zSg).2.1) (fun u12 => fork u12 (need (o.length + ([(s.getD (Int.toNat i) zSg).1] : List (List UInt8)).length ≤ 2147483648) (some (.inl ((w64 (i + 1)), o ++ ([(s.getD (Int.toNat i) zSg).1] : List (List UInt8)))))) (some (.inl ((w64 (i + 1)), o))))) (some (.inl ((w64 (i + 1)), o)))))) (some (.inr o)) : Option ((Int × List (List UInt8)) ⊕ (List (List UInt8)))) := rfl
theorem names_eq (set : List Val) (hset : set.length ≤ 1073741824) (h : Hdr) (hh : K00 h) (s : List K01) (hl : s.length ≤ 1073741824) (hs : SgOk s) : q2z set h s = some (K4r set h s) := by
 unfold q2z K4r
 rw [K8d s hl, K05]
 cases hr : K6p s with
 | false => rfl
 | true =>
  have main : ∀ d : List UInt8, d.length ≤ 100000 → q2z_1 set s (s.length : Int) 0 h [] d = some (K4n set h.1 d s) := by
   intro d hd
   unfold q2z_1
   have := K47 (step := fun (x : Int × List (List UInt8)) => q2z_1_step set s (s.length : Int) x.1 h x.2 d) (fun i (_ : Unit) => ((i : Int), K4n set h.1 d (s.take i))) (fun _ _ => ()) (fun _ => K4n set h.1 d s) s.length (fun _ _ => True) (fun i w hi _ => ⟨?_, trivial⟩) (fun w _ => ?_) s.length 0 () (by omega) trivial
   ·exact this
   ·show q2z_1_step set s (s.length : Int) (i : Int) h (K4n set h.1 d (s.take i)) d = _
    have b := K4o set h.1 d (s.take i)
    rw [List.length_take] at b
    have t := K4p set h.1 d s hi
    rw [K4m, K2e (by omega), J4c (by omega), Int.toNat_natCast, find_eq set hset, K05, t, J6z (by omega) (by omega)]
    unfold goodS
    cases hf : (findS set (s.getD i zSg).1).2 with
    | false => rw [K29, Bool.false_and, if_neg (by simp), List.append_nil]; rfl
    | true =>
     rw [K2f, Bool.true_and, Ver_eq _ _ d hd _ (sg_at hs i), K05]
     cases hv : verS (findS set (s.getD i zSg).1).1.2.2.1 h.1 d (s.getD i zSg).2.1 with
     | false => rw [K29, if_neg (by simp), List.append_nil]; rfl
     | true => rw [K2f, J4c (by simp; omega), if_pos rfl]; rfl
   ·show q2z_1_step set s (s.length : Int) (s.length : Int) h (K4n set h.1 d (s.take s.length)) d = _
    rw [K4m, K28 (by omega), List.take_of_length_le (Nat.le_refl _)]
  rw [show (!true) = false from rfl, K29, text_eq h hh, K05, main _ (by rw [K9m]; omega), if_pos rfl]
  rfl
theorem K4s (set : List Val) (h : Hdr) (s : List K01) : (K4r set h s).length ≤ s.length := by
 unfold K4r
 split
 ·exact K4o _ _ _ _
 ·simp
def partS (set : List Val) (h : Hdr) (s : List K01) : Int := pow (fun v => (K4r set h s).contains v.1) set
def allS (set : List Val) : Int := pow (fun _ => true) set
theorem K5d (set : List Val) (hset : K02 set) (h : Hdr) (s : List K01) : 0 ≤ partS set h s ∧ partS set h s ≤ 4294967296 := by
 have := K5o (fun v => (K4r set h s).contains v.1) set hset.2
 have := hset.1
 unfold partS
 omega
theorem all_b (set : List Val) (hset : K02 set) : 0 ≤ allS set ∧ allS set ≤ 4294967296 := by
 have := K5o (fun _ => true) set hset.2
 have := hset.1
 unfold allS
 omega
theorem K8e (set : List Val) (hset : K02 set) (h : Hdr) (hh : K00 h) (s : List K01) (hl : s.length ≤ 1000000) (hs : SgOk s) : q30 set h s = some (partS set h s, allS set) := by
 have := K4s set h s
 unfold q30
 rw [names_eq set (by have := hset.1; omega) h hh s (by omega) hs, K05, tally_eq set hset _ (by omega)]
 rfl
theorem K1d (set : List Val) (hset : K02 set) (h : Hdr) (hh : K00 h) (s : List K01) (hl : s.length ≤ 1000000) (hs : SgOk s) : q2w set h s = some (decide (allS set * 2 < partS set h s * 3)) := by
 unfold q2w
 rw [K8e set hset h hh s hl hs, K05, K58 _ 2 3 (K5d set hset h s) (all_b set hset) (by omega) (by omega)]
 rfl
theorem K9c (set : List Val) (hset : K02 set) (h : Hdr) (hh : K00 h) (s : List K01) (hl : s.length ≤ 1000000) (hs : SgOk s) : q3k set h s = some (decide (allS set * 1 < partS set h s * 3)) := by
 unfold q3k
 rw [K8e set hset h hh s hl hs, K05, K58 _ 1 3 (K5d set hset h s) (all_b set hset) (by omega) (by omega)]
 rfl
theorem Kab (a lo hi : Int) (h : lo ≤ hi) (h1 : -1099511627776 ≤ lo) (h2 : hi ≤ 1099511627776) : ∃ r, q1s a lo hi = some r ∧ lo ≤ r ∧ r ≤ hi := by
 unfold q1s
 have hn : w64 (w64 (hi - lo) + 1) = hi - lo + 1 := by simp (disch := omega) only [J6z]
 rw [hn, J4c (by omega)]
 have hb : Int.tmod a (hi - lo + 1) < hi - lo + 1 ∧ -(hi - lo + 1) < Int.tmod a (hi - lo + 1) := by
  constructor
  ·exact Int.tmod_lt_of_pos a (by omega)
  ·have := Int.tmod_lt_of_pos (-a) (b := hi - lo + 1) (by omega)
   rw [Int.neg_tmod] at this; omega
 generalize Int.tmod a (hi - lo + 1) = t at hb
 by_cases ht : t < 0
 ·rw [K2e ht]
  simp (disch := omega) only [J6z]
  exact ⟨_, rfl, by omega, by omega⟩
 ·rw [K28 ht]
  simp (disch := omega) only [J6z]
  exact ⟨_, rfl, by omega, by omega⟩
def nm (i : Nat) : List UInt8 := ([[118, 97], [118, 98], [118, 99], [118, 100]] : List (List UInt8)).getD i []
def ky (i : Nat) : List UInt8 := List.set (List.replicate 32 (0 : UInt8)) 0 (UInt8.ofNat (Int.toNat (((i : Int) + 1) % 256)))
def wv (a : Int) : Int := (q1s a 1 9).getD 1
theorem wv_eq (a : Int) : q1s a 1 9 = some (wv a) ∧ 1 ≤ wv a ∧ wv a ≤ 9 := by
 obtain ⟨r, h, h1, h2⟩ := Kab a 1 9 (by omega) (by omega) (by omega)
 unfold wv; rw [h]; exact ⟨rfl, h1, h2⟩
def pw (ps : List Int) (i : Nat) : Int := if i < ps.length then wv (ps.getD i 0) else 1
theorem pw_b (ps : List Int) (i : Nat) : 1 ≤ pw ps i ∧ pw ps i ≤ 9 := by
 unfold pw; split
 ·exact (wv_eq _).2
 ·omega
def setN (ps : List Int) : Nat := max 1 (min 4 ps.length)
def mkVal (p : Nat → Int) (i : Nat) : Val := (nm i, p i, ky i, ())
def setS (ps : List Int) : List Val := (List.range (setN ps)).map (mkVal (pw ps))
def K8m (ps : List Int) (i : Nat) (l : List Val) : List Val := if i = 0 ∨ i < ps.length then l ++ [mkVal (pw ps) i] else l
theorem set_run (ps : List Int) : K84 (K8m ps) 0 4 [] = setS ps := by
 unfold setS setN
 simp only [K84, K8m]
 by_cases h3 : 3 < ps.length
 ·rw [show max 1 (min 4 ps.length) = 4 from by omega]; simp [h3, show 1 < ps.length from by omega, show 2 < ps.length from by omega, List.range_succ]
 ·by_cases h2 : 2 < ps.length
  ·rw [show max 1 (min 4 ps.length) = 3 from by omega]; simp [h3, h2, show 1 < ps.length from by omega, List.range_succ]
  ·by_cases h1 : 1 < ps.length
   ·rw [show max 1 (min 4 ps.length) = 2 from by omega]; simp [h3, h2, h1, List.range_succ]
   ·rw [show max 1 (min 4 ps.length) = 1 from by omega]; simp [h3, h2, h1, List.range_succ]
theorem set_eq (ps : List Int) (hp : ps.length ≤ 140737488351232) : q2j ps = some (setS ps) := by
 unfold q2j q1y
 rw [K05]
 have main : q2j_1 ps 4 0 [] [[118, 97], [118, 98], [118, 99], [118, 100]] = some (K84 (K8m ps) 0 4 []) := by
  unfold q2j_1
  refine K47 (step := fun (s : Int × List Val) => q2j_1_step ps 4 s.1 s.2 [[118, 97], [118, 98], [118, 99], [118, 100]]) (fun i l => ((i : Int), l)) (K8m ps) (fun l => l) 4 (fun i l => l.length ≤ i) (fun i l hi hl => ⟨?_, ?_⟩) (fun l hl => ?_) 4 0 [] (by omega) (by simp)
  ·show q2j_1_step ps 4 (i : Int) l [[118, 97], [118, 98], [118, 99], [118, 100]] = _
   unfold q2j_1_step
   have hlen : List.length [([118, 97] : List UInt8), [118, 98], [118, 99], [118, 100]] = 4 := rfl
   have hw := (wv_eq (ps.getD i 0)).1
   have ho : ∀ x : Val, List.length [x] = 1 := fun _ => rfl
   simp (disch := omega) only [hlen, K2e, J4c, Int.toNat_natCast, J6z, hw, K05, ho]
   unfold K8m mkVal pw
   by_cases h0 : i = 0
   ·rw [K2e (by omega), if_pos (Or.inl h0)]
    by_cases hc : i < ps.length
    ·rw [K2e (by omega), J4c (by omega), if_pos hc]; rfl
    ·rw [K28 (by omega), if_neg hc]; rfl
   ·rw [K28 (by omega)]
    by_cases hc : i < ps.length
    ·rw [K2e (by omega), J4c (by omega), if_pos (Or.inr hc), if_pos hc]; rfl
    ·rw [K28 (by omega), if_neg (by omega)]; rfl
  ·unfold K8m
   split
   ·simp; omega
   ·omega
  ·show q2j_1_step ps 4 4 l _ = _
   unfold q2j_1_step
   rfl
 show andThen (q2j_1 ps 4 0 [] [[118, 97], [118, 98], [118, 99], [118, 100]]) _ = _
 rw [main, K05, set_run]
end Go.Ax.V
