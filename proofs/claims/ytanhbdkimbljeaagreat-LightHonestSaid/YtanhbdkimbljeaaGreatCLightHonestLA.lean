/-
  One-time signatures: what the functions of lam compute.
-/
import Derived.Test.YtanhbdkimbljeaaGreatAxC
import Derived.Test.YtanhbdkimbljeaaGreatCLightHonestP
namespace Go.Ax.V
open Go.Ax
set_option linter.unusedVariables false
set_option linter.unusedSimpArgs false
def K7e {τ : Type} (f : Nat → τ → τ) : Nat → Nat → τ → τ
 | _, 0, t => t
 | i, k + 1, t => K7e f (i + 1) k (f i t)
theorem K46 {σ ρ τ : Type} {step : σ → Option (σ ⊕ ρ)} (st : Nat → τ → σ) (f : Nat → τ → τ) (g : τ → ρ) (n : Nat) (I : Nat → τ → Prop)
    (h1 : ∀ i t, i < n → I i t → step (st i t) = some (.inl (st (i + 1) (f i t))) ∧ I (i + 1) (f i t))
    (h2 : ∀ t, I n t → step (st n t) = some (.inr (g t))) : ∀ (k i : Nat) (t : τ), i + k = n → I i t → loop step (st i t) = some (g (K7e f i k t))
  | 0, i, t, e, h => by have : i = n := by omega
                        subst this; exact loop_out (h2 t h)
  | k + 1, i, t, e, h => by
    rw [loop_next (h1 i t (by omega) h).1]
    exact K46 st f g n I h1 h2 k (i + 1) (f i t) (by omega) (h1 i t (by omega) h).2
theorem Nat.find_of {p : Nat → Prop} (h : ∃ n, p n) : ∃ n, p n ∧ ∀ m, m < n → ¬ p m := by
 obtain ⟨n, hn⟩ := h
 induction n using Nat.strongRecOn with
 | _ n ih =>
  by_cases hx : ∃ m, m < n ∧ p m
  ·obtain ⟨m, hm, hp⟩ := hx; exact ih m hm hp
  ·exact ⟨n, hn, fun m hm hp => hx ⟨m, hm, hp⟩⟩
def scan {ρ : Type} (bad : Nat → Option ρ) (r0 : ρ) : Nat → Nat → ρ
 | _, 0 => r0
 | i, k + 1 => match bad i with
  | some r => r
  | none => scan bad r0 (i + 1) k
theorem K7i {ρ : Type} {bad : Nat → Option ρ} {r0 : ρ} : ∀ (k i : Nat), (∀ j, i ≤ j → j < i + k → bad j = none) → scan bad r0 i k = r0
 | 0, i, _ => rfl
 | k + 1, i, h => by
  rw [scan, h i (Nat.le_refl _) (by omega)]
  exact K7i k (i + 1) fun j h1 h2 => h j (by omega) (by omega)
theorem K7j {ρ : Type} {bad : Nat → Option ρ} {r0 r : ρ} : ∀ (k i j : Nat), i ≤ j → j < i + k → (∀ j', i ≤ j' → j' < j → bad j' = none) → bad j = some r → scan bad r0 i k = r
 | 0, i, j, h1, h2, _, _ => by omega
 | k + 1, i, j, h1, h2, h3, h4 => by
  rw [scan]
  by_cases e : i = j
  ·subst e; rw [h4]
  ·rw [h3 i (Nat.le_refl _) (by omega)]
   exact K7j k (i + 1) j (by omega) (by omega) (fun j' g1 g2 => h3 j' (by omega) g2) h4
theorem K47 {σ ρ : Type} {step : σ → Option (σ ⊕ ρ)} (st : Nat → σ) (bad : Nat → Option ρ) (r0 : ρ) (n : Nat) (h1 : ∀ i, i < n → bad i = none → step (st i) = some (.inl (st (i + 1))))
    (h2 : ∀ i r, i < n → bad i = some r → step (st i) = some (.inr r)) (h3 : step (st n) = some (.inr r0)) : ∀ (k i : Nat), i + k = n → loop step (st i) = some (scan bad r0 i k)
  | 0, i, e => by have : i = n := by omega
                  subst this; exact loop_out h3
  | k + 1, i, e => by
    rw [scan]
    split
    · rename_i r hr; exact loop_out (h2 i r (by omega) hr)
    · rename_i hn
      rw [loop_next (h1 i (by omega) hn)]
      exact K47 st bad r0 n h1 h2 h3 k (i + 1) (by omega)
theorem K05 {α β : Type} {a : α} {k : α → Option β} : andThen (some a) k = k a := rfl
theorem K2c {α : Type} {p : Prop} [Decidable p] {x y : Option α} (h : p) : fork (decide p) x y = x := by rw [decide_eq_true h]; rfl
theorem K26 {α : Type} {p : Prop} [Decidable p] {x y : Option α} (h : ¬ p) : fork (decide p) x y = y := by rw [decide_eq_false h]; rfl
theorem K2b {α : Type} {p : Prop} [Decidable p] {x y : Option α} (h : p) : fork (!decide p) x y = y := by rw [decide_eq_true h]; rfl
theorem K29 {α : Type} {p : Prop} [Decidable p] {x y : Option α} (h : ¬ p) : fork (!decide p) x y = x := by rw [decide_eq_false h]; rfl
theorem K2d {α : Type} {x y : Option α} : fork true x y = x := rfl
theorem K27 {α : Type} {x y : Option α} : fork false x y = y := rfl
theorem K28 {α : Type} {b : Bool} {x y : Option α} : fork b x y = if b then x else y := by cases b <;> rfl
theorem K18 {α : Type} (l : List α) (u : Int) : cutL l 0 u = l.take u.toNat := rfl
theorem K17 {α : Type} (l : List α) (u : Int) : cutL l u (l.length : Int) = l.drop u.toNat := by
 unfold cutL; rw [Int.toNat_natCast, List.take_of_length_le (Nat.le_refl _)]
theorem beq_self (t : Ty) (h : t.comp = true) (x : t.den) : Ty.beq t x x = true := (Ty.beq_iff t h x x).2 rfl
theorem K0e (x : List UInt8) : Ty.beq (.arr 32 (.int .u8)) x x = true := beq_self (.arr 32 (.int .u8)) rfl x
abbrev Val := List UInt8 × Int × List UInt8 × Unit
def zVal : Val := (([] : List UInt8), (0 : Int), (List.replicate 32 (0 : UInt8)), ())
theorem K9e : ((([] : List UInt8), (0 : Int), (List.replicate 32 (0 : UInt8)), ()) : Val) = zVal := rfl
theorem index_eq (l : List (List UInt8)) (x : List UInt8) (hl : l.length ≤ 1073741824) : qa l x = some (l.contains x) := by
 have h : qd_1 l x (l.length : Int) 0 = some (scan (fun i => if x = l.getD i [] then some (.inl (i : Int)) else none) (.inr ()) 0 l.length) := by
  unfold qd_1
  refine K47 (step := fun (s : Int) => qd_1_step l x (l.length : Int) s) (fun i => (i : Int)) _ _ l.length (fun i hi h => ?_) (fun i r hi h => ?_) ?_ l.length 0 (by omega)
  ·unfold qd_1_step
   simp (disch := omega) only [K2c, w64_eq, need_true, Int.toNat_natCast]
   by_cases e : x = l.getD i []
   ·rw [if_pos e] at h; cases h
   ·rw [K26 e]; rfl
  ·unfold qd_1_step
   simp (disch := omega) only [K2c, w64_eq, need_true, Int.toNat_natCast]
   by_cases e : x = l.getD i []
   ·rw [if_pos e] at h; rw [K2c e]; injection h with h; subst h; rfl
   ·rw [if_neg e] at h; cases h
  ·unfold qd_1_step
   rw [K26 (by omega)]
 unfold qa qd
 rw [h, K05]
 by_cases hx : x ∈ l
 ·have hm : ∃ j, j < l.length ∧ x = l.getD j [] := by
   obtain ⟨j, hj, e⟩ := List.getElem_of_mem hx
   exact ⟨j, hj, by rw [List.getD_eq_getElem?_getD, List.getElem?_eq_getElem hj]; exact e.symm⟩
  obtain ⟨j, hj⟩ := Nat.find_of (p := fun j => j < l.length ∧ x = l.getD j []) hm
  rw [K7j l.length 0 j (Nat.zero_le _) (by omega) (fun j' _ h => ?_) (if_pos hj.1.2)]
  ·simp [andThen, hx]
  ·rw [if_neg]
   intro e
   exact hj.2 j' h ⟨by omega, e⟩
 ·rw [K7i _ _ (fun j _ h => ?_)]
  ·simp [andThen, hx]
  ·rw [if_neg]
   intro e
   apply hx
   rw [e, List.getD_eq_getElem?_getD, List.getElem?_eq_getElem (by omega : j < l.length)]
   exact List.getElem_mem _
def pow (p : Val → Bool) (l : List Val) : Int := ((l.filter p).map (·.2.1)).sum
def K02 (l : List Val) : Prop := l.length ≤ 1000 ∧ ∀ v ∈ l, 0 ≤ v.2.1 ∧ v.2.1 ≤ 2097152
theorem K5e (p : Val → Bool) : ∀ (l : List Val), (∀ v ∈ l, 0 ≤ v.2.1 ∧ v.2.1 ≤ 2097152) → 0 ≤ pow p l ∧ pow p l ≤ 2097152 * l.length
 | [], _ => by simp [pow]
 | v :: l, h => by
  have ih := K5e p l fun w hw => h w (List.mem_cons_of_mem _ hw)
  have hv := h v (List.mem_cons_self)
  unfold pow at ih ⊢
  by_cases hp : p v
  ·rw [List.filter_cons_of_pos hp]; simp only [List.map_cons, List.sum_cons, List.length_cons]; omega
  ·rw [List.filter_cons_of_neg hp]; simp only [List.length_cons]; omega
theorem K5h (p : Val → Bool) (l : List Val) {i : Nat} (h : i < l.length) : pow p (l.take (i + 1)) = pow p (l.take i) + (if p (l.getD i zVal) then (l.getD i zVal).2.1 else 0) := by
 unfold pow
 rw [List.take_add_one, List.getElem?_eq_getElem h, List.getD_eq_getElem?_getD, List.getElem?_eq_getElem h]
 simp only [Option.toList_some, Option.getD_some, List.filter_append, List.map_append, List.sum_append]
 by_cases hp : p l[i]
 ·rw [List.filter_cons_of_pos hp]; simp [hp]
 ·rw [List.filter_cons_of_neg hp]; simp [hp]
theorem K2g {α : Type} {l : List α} {i : Nat} {z : α} (h : i < l.length) : l.getD i z ∈ l := by
 rw [List.getD_eq_getElem?_getD, List.getElem?_eq_getElem h]; exact List.getElem_mem _
theorem total_eq (l : List Val) (h : K02 l) : q2r l = some (pow (fun _ => true) l) := by
 have main : q2r_1 0 l (l.length : Int) 0 = some (pow (fun _ => true) l) := by
  unfold q2r_1
  have := K46 (step := fun (s : Int × Int) => q2r_1_step s.1 l (l.length : Int) s.2) (fun i (_ : Unit) => (pow (fun _ => true) (l.take i), (i : Int))) (fun _ _ => ()) (fun _ => pow (fun _ => true) l) l.length (fun _ _ => True) (fun i w hi _ => ⟨?_, trivial⟩) (fun w _ => ?_) l.length 0 () (by omega) trivial
  ·exact this
  ·unfold q2r_1_step
   simp only [K9e]
   have b := K5e (fun _ => true) (l.take i) fun v hv => h.2 v (List.mem_of_mem_take hv)
   have hm := h.2 _ (K2g (z := zVal) hi)
   have hl := h.1
   have t := K5h (fun _ => true) l hi
   rw [List.length_take] at b
   simp only [if_true] at t
   simp (disch := omega) only [K2c, w64_eq, need_true, Int.toNat_natCast]
   rw [t]
   rfl
  ·unfold q2r_1_step
   rw [K26 (by omega), List.take_of_length_le (Nat.le_refl _)]
 unfold q2r
 rw [main, K05]
theorem tally_eq (l : List Val) (h : K02 l) (ns : List (List UInt8)) (hn : ns.length ≤ 1073741824) : q2z l ns = some (pow (fun v => ns.contains v.1) l, pow (fun _ => true) l) := by
 have hl := h.1
 have main : q2z_1 l ns 0 l (l.length : Int) 0 = some (l, pow (fun v => ns.contains v.1) l) := by
  unfold q2z_1
  have := K46 (step := fun (s : Int × Int) => q2z_1_step l ns s.1 l (l.length : Int) s.2) (fun i (_ : Unit) => (pow (fun v => ns.contains v.1) (l.take i), (i : Int))) (fun _ _ => ()) (fun _ => (l, pow (fun v => ns.contains v.1) l)) l.length (fun _ _ => True) (fun i w hi _ => ⟨?_, trivial⟩) (fun w _ => ?_) l.length 0 () (by omega) trivial
  ·exact this
  ·unfold q2z_1_step
   simp only [K9e]
   have b := K5e (fun v => ns.contains v.1) (l.take i) fun v hv => h.2 v (List.mem_of_mem_take hv)
   have hm := h.2 _ (K2g (z := zVal) hi)
   have t := K5h (fun v => ns.contains v.1) l hi
   rw [List.length_take] at b
   simp (disch := omega) only [K2c, w64_eq, need_true, Int.toNat_natCast, index_eq _ _ hn, K05]
   by_cases hc : ns.contains (l.getD i zVal).1
   ·rw [if_pos hc] at t
    rw [hc, K2d, t]
    rfl
   ·rw [if_neg hc] at t
    rw [Bool.not_eq_true] at hc
    rw [hc, K27, t, Int.add_zero]
    rfl
  ·unfold q2z_1_step
   rw [K26 (by omega), List.take_of_length_le (Nat.le_refl _)]
 have b1 := K5e (fun v => ns.contains v.1) l h.2
 have b2 := K5e (fun _ => true) l h.2
 unfold q2z
 rw [main, K05, need_true (by show Int.natAbs (pow _ l) < _; omega), total_eq l h, K05, need_true (by omega)]
theorem K50 (t : Int × Int) (n d : Int) (h1 : 0 ≤ t.1 ∧ t.1 ≤ 4294967296) (h2 : 0 ≤ t.2 ∧ t.2 ≤ 4294967296) (hn : 0 ≤ n ∧ n ≤ 1000) (hd : 0 ≤ d ∧ d ≤ 1000) : q3d t n d = some (decide (t.2 * n < t.1 * d)) := by
 unfold q3d
 have b1 : 0 ≤ t.2 * n ∧ t.2 * n ≤ 4294967296 * 1000 := ⟨Int.mul_nonneg h2.1 hn.1, Int.mul_le_mul h2.2 hn.2 hn.1 (by omega)⟩
 have b2 : 0 ≤ t.1 * d ∧ t.1 * d ≤ 4294967296 * 1000 := ⟨Int.mul_nonneg h1.1 hd.1, Int.mul_le_mul h1.2 hd.2 hd.1 (by omega)⟩
 rw [w64_eq (by omega) (by omega), w64_eq (by omega) (by omega)]
def mayS (v : Val) : Bool := !decide (v.1 = []) && (decide ((v.1.length : Int) ≤ 16) && (decide (1 ≤ v.2.1) && decide (v.2.1 ≤ 1048576)))
theorem may_eq (v : Val) : q3h v = some (mayS v) := by
 unfold q3h mayS
 simp only [K28]
 split
 ·rename_i h; rw [h]; split
  ·rename_i h; rw [h]; split
   ·rename_i h; rw [h]; simp
   ·rename_i h; rw [Bool.not_eq_true] at h; rw [h]; simp
  ·rename_i h; rw [Bool.not_eq_true] at h; rw [h]; simp
 ·rename_i h; rw [Bool.not_eq_true] at h; rw [h]; simp
def okAt (l : List Val) (i : Nat) : Bool := mayS (l.getD i zVal) && (i == 0 || sless (l.getD (i - 1) zVal).1 (l.getD i zVal).1)
def K68 (l : List Val) : Bool := (List.range l.length).all (okAt l) && (decide (1 ≤ l.length) && decide (l.length ≤ 5))
theorem right_eq (l : List Val) (hl : l.length ≤ 1073741824) : q2q l = some (K68 l) := by
 have main : q2q_1 l l (l.length : Int) 0 = some (scan (fun i => if okAt l i then none else some (.inl false)) (.inr l) 0 l.length) := by
  unfold q2q_1
  have step : ∀ i, i < l.length → q2q_1_step l l (l.length : Int) (i : Int) = if okAt l i then some (.inl ((i + 1 : Nat) : Int)) else some (.inr (.inl false)) := by
   intro i hi
   unfold q2q_1_step
   simp only [K9e]
   simp (disch := omega) only [K2c, w64_eq, need_true, Int.toNat_natCast, may_eq, K05]
   unfold okAt
   by_cases hm : mayS (l.getD i zVal)
   ·rw [hm]
    rw [show (!true) = false from rfl, K27, Bool.true_and]
    by_cases h0 : i = 0
    ·subst h0; rw [K26 (by omega)]; rfl
    ·rw [K2c (by omega), need_true (by omega), show Int.toNat ((i : Int) - 1) = i - 1 from by omega]
     have : (i == 0) = false := by simp [h0]
     rw [this, Bool.false_or]
     by_cases hs : sless (l.getD (i - 1) zVal).1 (l.getD i zVal).1
     ·rw [hs]; rfl
     ·rw [Bool.not_eq_true] at hs; rw [hs]; rfl
   ·rw [Bool.not_eq_true] at hm; rw [hm]; rfl
  refine K47 (step := fun (s : Int) => q2q_1_step l l (l.length : Int) s) (fun i => (i : Int)) _ _ l.length (fun i hi h => ?_) (fun i r hi h => ?_) ?_ l.length 0 (by omega)
  ·by_cases hk : okAt l i
   ·exact (step i hi).trans (if_pos hk)
   ·rw [if_neg hk] at h; cases h
  ·by_cases hk : okAt l i
   ·rw [if_pos hk] at h; cases h
   ·rw [if_neg hk] at h; injection h with h; subst h
    exact (step i hi).trans (if_neg hk)
  ·unfold q2q_1_step
   rw [K26 (by omega)]
 unfold q2q
 rw [main, K05]
 unfold K68
 by_cases hall : (List.range l.length).all (okAt l)
 ·rw [K7i _ _ (fun j _ h => if_pos (List.all_eq_true.1 hall j (by simp; omega))), hall, Bool.true_and]
  simp only [K28]
  by_cases h1 : 1 ≤ l.length
  ·rw [decide_eq_true h1, decide_eq_true (show (1 : Int) ≤ (l.length : Int) by omega), if_pos rfl, Bool.true_and]
   congr 1
   exact decide_eq_decide.2 (by omega)
  ·rw [decide_eq_false h1, decide_eq_false (show ¬ (1 : Int) ≤ (l.length : Int) by omega)]; rfl
 ·rw [Bool.not_eq_true] at hall
  have : ∃ j, j < l.length ∧ okAt l j = false := by
   rw [List.all_eq_false] at hall
   obtain ⟨j, hj, hk⟩ := hall
   exact ⟨j, by simpa using hj, by simpa using hk⟩
  obtain ⟨j, hj⟩ := Nat.find_of this
  have hsc : scan (fun i => if okAt l i then none else some (.inl false)) (.inr l : Bool ⊕ List Val) 0 l.length = .inl false := by
   refine K7j l.length 0 j (Nat.zero_le _) (by omega) (fun j' _ h => if_pos ?_) (if_neg ?_)
   ·have := hj.2 j' h
    cases hk : okAt l j' with
    | true => rfl
    | false => exact absurd ⟨by omega, hk⟩ this
   ·rw [hj.1.2]; simp
  rw [hall, hsc]
  rfl
theorem pow_cons (p : Val → Bool) (v : Val) (l : List Val) : pow p (v :: l) = (if p v then v.2.1 else 0) + pow p l := by
 unfold pow
 by_cases h : p v
 ·rw [List.filter_cons_of_pos h, if_pos h]; simp
 ·rw [List.filter_cons_of_neg h, if_neg h]; simp
theorem pow_nil (p : Val → Bool) : pow p [] = 0 := rfl
theorem K85 : ∀ a : List UInt8, sless a a = false
 | [] => rfl
 | x :: a => by
  rw [sless, K85 a]
  simp
theorem K88 : ∀ a b c : List UInt8, sless a b = true → sless b c = true → sless a c = true
 | _, [], _, h, _ => by cases ‹List UInt8› <;> simp [sless] at h
 | _, _ :: _, [], _, h => by simp [sless] at h
 | [], _ :: _, _ :: _, _, _ => rfl
 | x :: a, y :: b, z :: c, h1, h2 => by
  simp only [sless, Bool.or_eq_true, Bool.and_eq_true, decide_eq_true_eq, beq_iff_eq] at h1 h2 ⊢
  rcases h1 with h1 | ⟨rfl, h1⟩
  ·rcases h2 with h2 | ⟨rfl, h2⟩
   ·exact .inl (UInt8.lt_trans h1 h2)
   ·exact .inl h1
  ·rcases h2 with h2 | ⟨rfl, h2⟩
   ·exact .inl h2
   ·exact .inr ⟨rfl, K88 a b c h1 h2⟩
def incN (ns : List (List UInt8)) : Bool := (List.range (ns.length - 1)).all fun i => sless (ns.getD i []) (ns.getD (i + 1) [])
theorem incN_of : ∀ (ns : List (List UInt8)), ns.Pairwise (fun a b => sless a b = true) → incN ns = true := by
 intro ns h
 refine List.all_eq_true.2 fun i hi => ?_
 have hi : i < ns.length - 1 := by simpa using hi
 rw [List.getD_eq_getElem?_getD, List.getD_eq_getElem?_getD, List.getElem?_eq_getElem (by omega), List.getElem?_eq_getElem (by omega)]
 exact List.pairwise_iff_getElem.1 h i (i + 1) (by omega) (by omega) (by omega)
def findS (l : List Val) (x : List UInt8) : Val × Bool := match l.find? (fun v => decide (v.1 = x)) with
 | some v => (v, true)
 | none => (zVal, false)
theorem K7g (l : List Val) (x : List UInt8) : ∀ (k i : Nat), i + k = l.length → scan (fun i => if (l.getD i zVal).1 = x then some (.inl (true, l.getD i zVal)) else none) (.inr zVal : (Bool × Val) ⊕ Val) i k =
  match (l.drop i).find? (fun v => decide (v.1 = x)) with | some v => .inl (true, v) | none => .inr zVal
 | 0, i, h => by rw [List.drop_of_length_le (by omega)]; rfl
 | k + 1, i, h => by
  have hd : l.drop i = l.getD i zVal :: l.drop (i + 1) := by
   rw [List.drop_eq_getElem_cons (by omega), List.getD_eq_getElem?_getD, List.getElem?_eq_getElem (by omega)]; rfl
  rw [scan, hd]
  by_cases e : (l.getD i zVal).1 = x
  ·rw [if_pos e, List.find?_cons_of_pos (by simpa using e)]
  ·rw [if_neg e, List.find?_cons_of_neg (by simpa using e)]
   exact K7g l x k (i + 1) (by omega)
theorem K1p (x : List UInt8) (l : List Val) (n i : Int) (z : Val) : q38_1_step x l n i z = (fork (decide (i < n)) (need (0 ≤ i ∧ i < (l.length : Int)) (fork (decide ((l.getD (Int.toNat i) zVal).1 = x)) (some (.inr (.inl (true, l.getD (Int.toNat i) zVal)))) (some (.inl (w64 (i + 1)))))) (some (.inr (.inr z))) : Option (Int ⊕ ((Bool × Val) ⊕ Val))) := rfl
theorem find_eq (l : List Val) (hl : l.length ≤ 1073741824) (x : List UInt8) : q38 l x = some (findS l x) := by
 have h : q38_1 x l (l.length : Int) 0 zVal = some (scan (fun i => if (l.getD i zVal).1 = x then some (.inl (true, l.getD i zVal)) else none) (.inr zVal) 0 l.length) := by
  unfold q38_1
  refine K47 (step := fun (s : Int) => q38_1_step x l (l.length : Int) s zVal) (fun i => (i : Int)) _ _ l.length (fun i hi h => ?_) (fun i r hi h => ?_) ?_ l.length 0 (by omega)
  ·rw [K1p, K2c (by omega), need_true (by omega), Int.toNat_natCast, w64_eq (by omega) (by omega)]
   by_cases e : (l.getD i zVal).1 = x
   ·rw [if_pos e] at h; cases h
   ·rw [K26 e]; rfl
  ·rw [K1p, K2c (by omega), need_true (by omega), Int.toNat_natCast]
   by_cases e : (l.getD i zVal).1 = x
   ·rw [if_pos e] at h; injection h with h; subst h; rw [K2c e]
   ·rw [if_neg e] at h; cases h
  ·unfold q38_1_step
   rw [K26 (by omega)]
 unfold q38
 simp only [K9e]
 rw [h, K05, K7g l x l.length 0 (by omega), List.drop_zero]
 unfold findS
 cases l.find? (fun v => decide (v.1 = x)) <;> rfl
def Dist (l : List Val) : Prop := (l.map (·.1)).Nodup
theorem find_in {l : List Val} (hd : Dist l) {v : Val} (hv : v ∈ l) : findS l v.1 = (v, true) := by
 have : l.find? (fun w => decide (w.1 = v.1)) = some v := by
  induction l with
  | nil => cases hv
  | cons w l ih =>
   unfold Dist at hd
   rw [List.map_cons, List.nodup_cons] at hd
   rcases List.mem_cons.1 hv with rfl | hv
   ·rw [List.find?_cons_of_pos (by simp)]
   ·rw [List.find?_cons_of_neg]
    ·exact ih hd.2 hv
    ·simp only [decide_eq_true_eq]
     intro e
     exact hd.1 (by rw [e]; exact List.mem_map_of_mem hv)
 unfold findS
 rw [this]
abbrev Pr := List UInt8 × List UInt8 × Unit
def zPr : Pr := ([], [], ())
theorem K87 : ∀ a b : List UInt8, sless a b = false → a = b ∨ sless b a = true
 | [], [], _ => .inl rfl
 | _ :: _, [], _ => .inr rfl
 | [], _ :: _, h => by simp [sless] at h
 | x :: a, y :: b, h => by
  simp only [sless, Bool.or_eq_false_iff, Bool.and_eq_false_iff, decide_eq_false_iff_not, beq_eq_false_iff_ne, ne_eq] at h
  obtain ⟨h1, h2⟩ := h
  by_cases e : x = y
  ·subst e
   rcases K87 a b (h2.resolve_left (fun q => q rfl)) with rfl | h
   ·exact .inl rfl
   ·exact .inr (by simp [sless, h])
  ·right
   have : y < x := by
    rcases UInt8.lt_or_lt_of_ne e with q | q
    ·exact absurd q h1
    ·exact q
   simp [sless, this]
def K09 : List Pr → List UInt8 → Nat
 | [], _ => 0
 | p :: r, k => bif sless p.1 k then K09 r k + 1 else 0
theorem below_le : ∀ (l : List Pr) (k : List UInt8), K09 l k ≤ l.length
 | [], _ => Nat.le_refl _
 | p :: r, k => by
  have := below_le r k
  unfold K09
  cases sless p.1 k
  ·exact Nat.zero_le _
  ·rw [cond_true, List.length_cons]; omega
theorem K0c : ∀ (l : List Pr) (k : List UInt8) (i : Nat), i < K09 l k → sless (l.getD i zPr).1 k = true
 | [], _, i, h => by unfold K09 at h; omega
 | p :: r, k, i, h => by
  unfold K09 at h
  cases e : sless p.1 k with
  | false => rw [e, cond_false] at h; omega
  | true =>
   rw [e, cond_true] at h
   match i with
   | 0 => exact e
   | j + 1 => exact K0c r k j (by omega)
theorem K0a : ∀ (l : List Pr) (k : List UInt8), K09 l k < l.length → sless (l.getD (K09 l k) zPr).1 k = false
 | [], _, h => by simp at h
 | p :: r, k, h => by
  unfold K09 at h ⊢
  cases e : sless p.1 k with
  | false => exact e
  | true =>
   rw [e, cond_true, List.length_cons] at h
   exact K0a r k (by omega)
theorem K0d (l : List Pr) (k : List UInt8) (n : Nat) (hn : n ≤ l.length) (h1 : ∀ i, i < n → sless (l.getD i zPr).1 k = true) (h2 : n < l.length → sless (l.getD n zPr).1 k = false) : K09 l k = n := by
 rcases Nat.lt_trichotomy (K09 l k) n with h | h | h
 ·have a := h1 _ h
  rw [K0a l k (by omega)] at a; cases a
 ·exact h
 ·have a := K0c l k n h
  have b := below_le l k
  rw [h2 (by omega)] at a; cases a
def RiseP (l : List Pr) : Prop := l.Pairwise (fun a b => sless a.1 b.1 = true)
theorem K3m {l : List Pr} (h : RiseP l) {i j : Nat} (hij : i < j) (hj : j < l.length) : sless (l.getD i zPr).1 (l.getD j zPr).1 = true := by
 rw [List.getD_eq_getElem?_getD, List.getD_eq_getElem?_getD, List.getElem?_eq_getElem hj, List.getElem?_eq_getElem (by omega)]
 exact List.pairwise_iff_getElem.1 h i j (by omega) hj hij
theorem K0b {l : List Pr} (h : RiseP l) (k : List UInt8) {i : Nat} (hi : i < l.length) : sless (l.getD i zPr).1 k = true ↔ i < K09 l k := by
 refine ⟨fun hs => ?_, K0c l k i⟩
 apply Classical.byContradiction
 intro hn
 have b := K0a l k (by omega)
 rcases Nat.lt_or_ge (K09 l k) i with c | c
 ·rw [K88 _ _ _ (K3m h c hi) hs] at b; cases b
 ·have : K09 l k = i := by omega
  rw [this, hs] at b; cases b
def isAt (l : List Pr) (k : List UInt8) : Bool := decide (K09 l k < l.length ∧ (l.getD (K09 l k) zPr).1 = k)
theorem K37 {l : List Pr} (h : RiseP l) (k : List UInt8) : isAt l k = true ↔ ∃ p ∈ l, p.1 = k := by
 unfold isAt
 rw [decide_eq_true_eq]
 constructor
 ·rintro ⟨h1, h2⟩
  exact ⟨_, K2g h1, h2⟩
 ·rintro ⟨p, hp, e⟩
  obtain ⟨i, hi, rfl⟩ := List.getElem_of_mem hp
  have hg : l.getD i zPr = l[i] := by rw [List.getD_eq_getElem?_getD, List.getElem?_eq_getElem hi]; rfl
  have : K09 l k = i := by
   refine K0d l k i (by omega) (fun j hj => ?_) fun _ => ?_
   ·rw [← e, ← hg]; exact K3m h hj hi
   ·rw [hg, e]; exact K85 k
  rw [this, hg]; exact ⟨hi, e⟩
set_option maxRecDepth 100000
def rotr (x : UInt32) (n : Nat) : UInt32 := UInt32.ofNat (x.toNat <<< (32 - n)) ||| UInt32.ofNat (x.toNat >>> n)
def shr (x : UInt32) (n : Nat) : UInt32 := UInt32.ofNat (x.toNat >>> n)
def byteW (b : List UInt8) (i k : Nat) : UInt32 := UInt32.ofNat (UInt32.toNat (UInt32.ofNat (UInt8.toNat (List.getD b i 0))) <<< k)
def word (b : List UInt8) (i : Nat) : UInt32 := ((byteW b (4 * i) 24 ||| byteW b (4 * i + 1) 16) ||| byteW b (4 * i + 2) 8) ||| UInt32.ofNat (UInt8.toNat (List.getD b (4 * i + 3) 0))
def sprd1 (b : List UInt8) (i : Nat) (w : List UInt32) : List UInt32 := w.set i (word b i)
def sprd2 (i : Nat) (w : List UInt32) : List UInt32 :=
 w.set i (((w.getD (i - 16) 0 + ((rotr (w.getD (i - 15) 0) 7 ^^^ rotr (w.getD (i - 15) 0) 18) ^^^ shr (w.getD (i - 15) 0) 3)) + w.getD (i - 7) 0) + ((rotr (w.getD (i - 2) 0) 17 ^^^ rotr (w.getD (i - 2) 0) 19) ^^^ shr (w.getD (i - 2) 0) 10))
def K8f (b : List UInt8) : List UInt32 := K7e sprd2 16 48 (K7e (sprd1 b) 0 16 (List.replicate 64 0))
abbrev W8 := UInt32 × UInt32 × UInt32 × UInt32 × UInt32 × UInt32 × UInt32 × UInt32
def K70 (k w : List UInt32) (i : Nat) (s : W8) : W8 :=
 match s with
 | (a, b, c, d, e, f, g, h) =>
  let one := (((h + ((rotr e 6 ^^^ rotr e 11) ^^^ rotr e 25)) + ((e &&& f) ^^^ ((~~~e) &&& g))) + k.getD i 0) + w.getD i 0
  (one + (((rotr a 2 ^^^ rotr a 13) ^^^ rotr a 22) + (((a &&& b) ^^^ (a &&& c)) ^^^ (b &&& c))), a, b, c, d + one, e, f, g)
def list8 (s : W8) : List UInt32 := [s.1, s.2.1, s.2.2.1, s.2.2.2.1, s.2.2.2.2.1, s.2.2.2.2.2.1, s.2.2.2.2.2.2.1, s.2.2.2.2.2.2.2]
def tup8 (h : List UInt32) : W8 := (h.getD 0 0, h.getD 1 0, h.getD 2 0, h.getD 3 0, h.getD 4 0, h.getD 5 0, h.getD 6 0, h.getD 7 0)
def addS (v : List UInt32) (i : Nat) (h : List UInt32) : List UInt32 := h.set i (h.getD i 0 + v.getD i 0)
def mixS (k : List UInt32) (b : List UInt8) (h : List UInt32) : List UInt32 :=
 K7e (addS (list8 (K7e (K70 k (K8f b)) 0 64 (tup8 h)))) 0 8 h
def kS : List UInt32 := [1116352408, 1899447441, 3049323471, 3921009573, 961987163, 1508970993, 2453635748, 2870763221, 3624381080, 310598401, 607225278, 1426881987, 1925078388, 2162078206, 2614888103, 3248222580, 3835390401, 4022224774, 264347078, 604807628, 770255983, 1249150122, 1555081692, 1996064986, 2554220882, 2821834349, 2952996808, 3210313671, 3336571891, 3584528711, 113926993, 338241895, 666307205, 773529912, 1294757372, 1396182291, 1695183700, 1986661051, 2177026350, 2456956037, 2730485921, 2820302411, 3259730800, 3345764771, 3516065817, 3600352804, 4094571909, 275423344, 430227734, 506948616, 659060556, 883997877, 958139571, 1322822218, 1537002063, 1747873779, 1955562222, 2024104815, 2227730452, 2361852424, 2428436474, 2756734187, 3204031479, 3329325298]
def h0S : List UInt32 := [1779033703, 3144134277, 1013904242, 2773480762, 1359893119, 2600822924, 528734635, 1541459225]
def K0q (n : UInt64) (i : Nat) : UInt8 := UInt8.ofNat (UInt64.toNat (UInt64.ofNat (UInt64.toNat n >>> (8 * i))))
def bitsOf (b : List UInt8) : UInt64 := UInt64.ofNat b.length * 8
def padS (b : List UInt8) : List UInt8 :=
 b ++ 128 :: (List.replicate ((b.length + 8) / 64 * 64 + 55 - b.length) 0 ++ [K0q (bitsOf b) 7, K0q (bitsOf b) 6, K0q (bitsOf b) 5, K0q (bitsOf b) 4, K0q (bitsOf b) 3, K0q (bitsOf b) 2, K0q (bitsOf b) 1, K0q (bitsOf b) 0])
def K0l : Nat → List UInt8 → List UInt32 → List UInt32
 | 0, _, h => h
 | n + 1, l, h => K0l n (l.drop 64) (mixS kS (l.take 64) h)
def outB (x : UInt32) (j : Nat) : UInt8 := UInt8.ofNat (UInt32.toNat (UInt32.ofNat (UInt32.toNat x >>> (24 - 8 * j))))
def outS (h : List UInt32) : List UInt8 := h.flatMap fun x => [outB x 0, outB x 1, outB x 2, outB x 3]
def sha (b : List UInt8) : List UInt8 := outS (K0l ((b.length + 8) / 64 + 1) (padS b) h0S)
theorem right7 (x : UInt32) : q32 x 7 = some (rotr x 7) := rfl
theorem right18 (x : UInt32) : q32 x 18 = some (rotr x 18) := rfl
theorem right17 (x : UInt32) : q32 x 17 = some (rotr x 17) := rfl
theorem right19 (x : UInt32) : q32 x 19 = some (rotr x 19) := rfl
theorem right6 (x : UInt32) : q32 x 6 = some (rotr x 6) := rfl
theorem right11 (x : UInt32) : q32 x 11 = some (rotr x 11) := rfl
theorem right25 (x : UInt32) : q32 x 25 = some (rotr x 25) := rfl
theorem right2 (x : UInt32) : q32 x 2 = some (rotr x 2) := rfl
theorem right13 (x : UInt32) : q32 x 13 = some (rotr x 13) := rfl
theorem right22 (x : UInt32) : q32 x 22 = some (rotr x 22) := rfl
theorem K8d (b : List UInt8) (hb : b.length = 64) (z w : List UInt32) {i : Nat} (hi : i < 16) :
  q2p_1_step b (i : Int) z w = some (.inl (((i + 1 : Nat) : Int), sprd1 b i w)) := by
 unfold q2p_1_step
 have e0 : Int.toNat (4 * (i : Int)) = 4 * i := by omega
 have e1 : Int.toNat (4 * (i : Int) + 1) = 4 * i + 1 := by omega
 have e2 : Int.toNat (4 * (i : Int) + 2) = 4 * i + 2 := by omega
 have e3 : Int.toNat (4 * (i : Int) + 3) = 4 * i + 3 := by omega
 simp (disch := omega) only [K2c, w64_eq, need_true, hb, e0, e1, e2, e3, Int.toNat_natCast]
 rfl
theorem spread_1 (b : List UInt8) (hb : b.length = 64) (z : List UInt32) : q2p_1 b 0 z z = some (z, K7e (sprd1 b) 0 16 z) := by
 unfold q2p_1
 refine K46 (fun i w => ((i : Int), w)) (sprd1 b) (fun w => (z, w)) 16 (fun _ _ => True) (fun i w hi _ => ⟨K8d b hb z w hi, trivial⟩) (fun w _ => ?_) 16 0 z rfl trivial
 unfold q2p_1_step
 rfl
theorem K8e (z w : List UInt32) {i : Nat} (h1 : 16 ≤ i) (hi : i < 64) :
  q2p_2_step (i : Int) z w = some (.inl (((i + 1 : Nat) : Int), sprd2 i w)) := by
 unfold q2p_2_step
 have e0 : Int.toNat ((i : Int) - 15) = i - 15 := by omega
 have e1 : Int.toNat ((i : Int) - 2) = i - 2 := by omega
 have e2 : Int.toNat ((i : Int) - 16) = i - 16 := by omega
 have e3 : Int.toNat ((i : Int) - 7) = i - 7 := by omega
 simp (disch := omega) only [K2c, w64_eq, need_true, e0, e1, e2, e3, Int.toNat_natCast, right7, right18, right17, right19, K05]
 rfl
theorem spread_2 (z w : List UInt32) : q2p_2 16 z w = some (z, K7e sprd2 16 48 w) := by
 unfold q2p_2
 refine K46 (fun i w => ((i : Int), w)) sprd2 (fun w => (z, w)) 64 (fun i _ => 16 ≤ i) (fun i w hi h => ⟨K8e z w h hi, by omega⟩) (fun w _ => ?_) 48 16 w rfl (Nat.le_refl _)
 unfold q2p_2_step
 rfl
theorem K8g (b : List UInt8) (hb : b.length = 64) : q2p b = some (K8f b) := by
 unfold q2p
 rw [spread_1 b hb, K05, spread_2, K05, K8f]
theorem K4c (k w hz : List UInt32) (s : W8) {i : Nat} (hi : i < 64) :
  q2f_1_step s.1 s.2.1 s.2.2.1 s.2.2.2.1 s.2.2.2.2.1 s.2.2.2.2.2.1 s.2.2.2.2.2.2.1 s.2.2.2.2.2.2.2 (i : Int) hz k w =
   some (.inl ((K70 k w i s).1, (K70 k w i s).2.1, (K70 k w i s).2.2.1, (K70 k w i s).2.2.2.1, (K70 k w i s).2.2.2.2.1, (K70 k w i s).2.2.2.2.2.1, (K70 k w i s).2.2.2.2.2.2.1, (K70 k w i s).2.2.2.2.2.2.2, ((i + 1 : Nat) : Int))) := by
 obtain ⟨a, b, c, d, e, f, g, h⟩ := s
 unfold q2f_1_step
 simp (disch := omega) only [K2c, w64_eq, need_true, Int.toNat_natCast, right6, right11, right25, right2, right13, right22, K05]
 rfl
theorem mix_1 (k w hz : List UInt32) (s : W8) : q2f_1 s.1 s.2.1 s.2.2.1 s.2.2.2.1 s.2.2.2.2.1 s.2.2.2.2.2.1 s.2.2.2.2.2.2.1 s.2.2.2.2.2.2.2 0 hz k w =
   some ((K7e (K70 k w) 0 64 s).1, (K7e (K70 k w) 0 64 s).2.1, (K7e (K70 k w) 0 64 s).2.2.1, (K7e (K70 k w) 0 64 s).2.2.2.1, (K7e (K70 k w) 0 64 s).2.2.2.2.1, (K7e (K70 k w) 0 64 s).2.2.2.2.2.1, (K7e (K70 k w) 0 64 s).2.2.2.2.2.2.1, (K7e (K70 k w) 0 64 s).2.2.2.2.2.2.2, hz, k) := by
 unfold q2f_1
 refine K46 (fun i (s : W8) => (s.1, s.2.1, s.2.2.1, s.2.2.2.1, s.2.2.2.2.1, s.2.2.2.2.2.1, s.2.2.2.2.2.2.1, s.2.2.2.2.2.2.2, (i : Int))) (K70 k w)
  (fun (s : W8) => (s.1, s.2.1, s.2.2.1, s.2.2.2.1, s.2.2.2.2.1, s.2.2.2.2.2.1, s.2.2.2.2.2.2.1, s.2.2.2.2.2.2.2, hz, k)) 64 (fun _ _ => True) (fun i s hi _ => ⟨K4c k w hz s hi, trivial⟩) (fun s _ => ?_) 64 0 s rfl trivial
 unfold q2f_1_step
 rfl
theorem mix_2 (v h k : List UInt32) : q2f_2 v 0 h k = some (K7e (addS v) 0 8 h, k) := by
 unfold q2f_2
 refine K46 (fun i w => ((i : Int), w)) (addS v) (fun w => (w, k)) 8 (fun _ _ => True) (fun i w hi _ => ⟨?_, trivial⟩) (fun w _ => ?_) 8 0 h rfl trivial
 ·unfold q2f_2_step
  simp (disch := omega) only [K2c, w64_eq, need_true, Int.toNat_natCast]
  rfl
 ·unfold q2f_2_step
  rfl
theorem mix_eq (b : List UInt8) (hb : b.length = 64) (h k : List UInt32) : q2f b h k = some (mixS k b h, k) := by
 unfold q2f
 rw [K8g b hb, K05]
 have := mix_1 k (K8f b) h (tup8 h)
 simp only [tup8] at this
 rw [show (Int.toNat (0 : Int)) = 0 from rfl, show (Int.toNat (1 : Int)) = 1 from rfl, show (Int.toNat (2 : Int)) = 2 from rfl, show (Int.toNat (3 : Int)) = 3 from rfl, show (Int.toNat (4 : Int)) = 4 from rfl,
  show (Int.toNat (5 : Int)) = 5 from rfl, show (Int.toNat (6 : Int)) = 6 from rfl, show (Int.toNat (7 : Int)) = 7 from rfl, this, K05, mix_2, K05]
 rfl
set_option maxRecDepth 100000
theorem K0o (n : Nat) (h : n ≤ 1073741824) : q2s (n : Int) = some (((n + 8) / 64 + 1 : Nat) : Int) := by
 unfold q2s
 have e : Int.tdiv ((n : Int) + 8) 64 = (((n + 8) / 64 : Nat) : Int) := by
  rw [Int.tdiv_eq_ediv_of_nonneg (by omega)]; omega
 simp (disch := omega) only [w64_eq, e]
 rfl
theorem K7t {α : Type} (a l : List α) (k : Nat) (x : α) : (a ++ l).set (a.length + k) x = a ++ l.set k x := by
 rw [List.set_append_right _ _ (by omega)]
 congr 2; omega
theorem K53 (x0 : UInt64) (n : Nat) (hn : 8 ≤ n) (hn2 : n ≤ 2147483648) (l : List UInt8) (hl : l.length = n) : q2t_1 x0 0 l = some (K7e (fun i (w : List UInt8) => w.set (n - 1 - i) (K0q x0 i)) 0 8 l) := by
 unfold q2t_1
 refine K46 (fun i w => ((i : Int), w)) (fun i (w : List UInt8) => w.set (n - 1 - i) (K0q x0 i)) (fun w => w) 8 (fun _ w => w.length = n) (fun i w hi hw => ⟨?_, by simp [hw]⟩) (fun w _ => ?_) 8 0 l rfl hl
 ·unfold q2t_1_step
  have e0 : Int.toNat ((n : Int) - 1 - (i : Int)) = n - 1 - i := by omega
  have e1 : Int.toNat (8 * (i : Int)) = 8 * i := by omega
  simp (disch := omega) only [K2c, w64_eq, need_true, hw, e0, e1]
  rfl
 ·unfold q2t_1_step
  rfl
theorem K52 (b : List UInt8) (hb : b.length ≤ 1073741824) : q2t b = some (padS b) := by
 unfold q2t
 rw [K0o _ hb, K05]
 have hN : w64 ((((b.length + 8) / 64 + 1 : Nat) : Int) * 64) = (((b.length + 8) / 64 * 64 + 64 : Nat) : Int) := by
  rw [w64_eq (by omega) (by omega)]; omega
 generalize hn : (b.length + 8) / 64 * 64 + 64 = n at hN
 rw [hN, need_true (by omega), Int.toNat_natCast, List.length_replicate, List.take_of_length_le (by omega), List.drop_replicate]
 have hz : n - b.length = ((b.length + 8) / 64 * 64 + 55 - b.length) + 1 + 8 := by omega
 have hl : (b ++ List.replicate (n - b.length) (0 : UInt8)).length = n := by simp; omega
 rw [hl, need_true (by omega), Int.toNat_natCast]
 have hbits : UInt64.ofNat (Int.toNat ((b.length : Int) % 18446744073709551616)) * 8 = bitsOf b := by
  unfold bitsOf; congr 2; omega
 rw [hbits, K53 (bitsOf b) n (by omega) (by omega) _ (by rw [List.length_set, hl]), K05]
 congr 1
 have h1 : (b ++ List.replicate (n - b.length) (0 : UInt8)).set b.length 128 = (b ++ 128 :: List.replicate ((b.length + 8) / 64 * 64 + 55 - b.length) 0) ++ [0, 0, 0, 0, 0, 0, 0, 0] := by
  rw [hz]
  generalize (b.length + 8) / 64 * 64 + 55 - b.length = z
  have h := K7t b (List.replicate ((z + 8) + 1) (0 : UInt8)) 0 128
  rw [Nat.add_zero b.length] at h
  rw [show z + 1 + 8 = (z + 8) + 1 from by omega, h, List.replicate_succ, List.set_cons_zero, ← List.replicate_append_replicate, List.append_assoc]
  rfl
 rw [h1]
 have hA : (b ++ 128 :: List.replicate ((b.length + 8) / 64 * 64 + 55 - b.length) (0 : UInt8)).length = n - 8 := by simp; omega
 generalize hA2 : (b ++ 128 :: List.replicate ((b.length + 8) / 64 * 64 + 55 - b.length) (0 : UInt8)) = A at hA
 have ix : ∀ i, i < 8 → n - 1 - i = A.length + (7 - i) := by intro i hi; omega
 simp only [K7e]
 rw [ix 0 (by omega), ix (0 + 1) (by omega), ix (0 + 1 + 1) (by omega), ix (0 + 1 + 1 + 1) (by omega), ix (0 + 1 + 1 + 1 + 1) (by omega), ix (0 + 1 + 1 + 1 + 1 + 1) (by omega), ix (0 + 1 + 1 + 1 + 1 + 1 + 1) (by omega), ix (0 + 1 + 1 + 1 + 1 + 1 + 1 + 1) (by omega)]
 simp only [K7t]
 unfold padS
 rw [show ∀ x : List UInt8, b ++ 128 :: (List.replicate ((b.length + 8) / 64 * 64 + 55 - b.length) 0 ++ x) = A ++ x from fun x => by rw [← hA2]; simp]
 rfl
theorem K51 (b : List UInt8) : (padS b).length = 64 * ((b.length + 8) / 64 + 1) := by
 unfold padS
 simp
 omega
theorem K7f {α : Type} {f : Nat → List α → List α} (h : ∀ i w, (f i w).length = w.length) : ∀ (k i : Nat) (w : List α), (K7e f i k w).length = w.length
 | 0, _, _ => rfl
 | k + 1, i, w => by rw [K7e, K7f h k, h]
theorem K4d (k : List UInt32) (b : List UInt8) (h : List UInt32) : (mixS k b h).length = h.length := K7f (fun i w => by simp [addS]) _ _ _
theorem K0m : ∀ (n : Nat) (l : List UInt8) (h : List UInt32), (K0l n l h).length = h.length
 | 0, _, _ => rfl
 | n + 1, l, h => by rw [K0l, K0m n, K4d]
theorem sum_1 (out : List UInt8) : ∀ (n : Nat) (l : List UInt8), l.length = 64 * n → l.length ≤ 2147483648 → ∀ h, q3m_1 l out h kS = some (out, K0l n l h)
 | 0, l, hl, _, h => by
  unfold q3m_1
  refine loop_out ?_
  unfold q3m_1_step
  show fork (decide ((0 : Int) < (l.length : Int))) _ _ = _
  rw [K26 (by omega)]; rfl
 | n + 1, l, hl, hl2, h => by
  have hm := mix_eq (l.take 64) (by rw [List.length_take]; omega) h kS
  have hs : q3m_1_step l out h kS = some (.inl (l.drop 64, mixS kS (l.take 64) h, kS)) := by
   unfold q3m_1_step
   rw [K2c (by omega), need_true (by omega), show cutL l (0 : Int) (64 : Int) = l.take 64 from rfl, hm, K05, need_true (by omega)]
   have : cutL l (64 : Int) (l.length : Int) = l.drop 64 := by
    unfold cutL; rw [Int.toNat_natCast, List.take_of_length_le (Nat.le_refl _)]; rfl
   rw [this]
  have ih := sum_1 out n (l.drop 64) (by rw [List.length_drop]; omega) (by rw [List.length_drop]; omega) (mixS kS (l.take 64) h)
  unfold q3m_1 at ih ⊢
  rw [loop_next (s' := (l.drop 64, mixS kS (l.take 64) h, kS)) hs, ih]
  rfl
def K4y (x : UInt32) (i : Nat) (acc : List UInt8) : List UInt8 := K7e (fun j (acc : List UInt8) => acc.set (4 * i + j) (outB x j)) 0 4 acc
theorem sum_2 (x : UInt32) (h : List UInt32) (z acc : List UInt8) {i : Nat} (hi : i < 8) : q3m_2 (i : Int) x h (i : Int) 0 z acc = some (h, (i : Int), z, K4y x i acc) := by
 unfold q3m_2
 refine K46 (fun j acc => ((j : Int), acc)) (fun j (acc : List UInt8) => acc.set (4 * i + j) (outB x j)) (fun acc => (h, (i : Int), z, acc)) 4 (fun _ _ => True) (fun j acc hj _ => ⟨?_, trivial⟩) (fun acc _ => ?_) 4 0 acc rfl trivial
 ·unfold q3m_2_step
  have e0 : Int.toNat (4 * (i : Int) + (j : Int)) = 4 * i + j := by omega
  have e1 : Int.toNat (24 - 8 * (j : Int)) = 24 - 8 * j := by omega
  simp (disch := omega) only [K2c, w64_eq, need_true, e0, e1]
  rfl
 ·unfold q3m_2_step
  rfl
theorem sum_3 (h : List UInt32) (z acc : List UInt8) : q3m_3 h 0 z acc = some (z, K7e (fun i acc => K4y (h.getD i 0) i acc) 0 8 acc) := by
 unfold q3m_3
 refine K46 (fun i acc => (h, (i : Int), z, acc)) (fun i acc => K4y (h.getD i 0) i acc) (fun acc => (z, acc)) 8 (fun _ _ => True) (fun i acc hi _ => ⟨?_, trivial⟩) (fun acc _ => ?_) 8 0 acc rfl trivial
 ·show q3m_3_step h (i : Int) z acc = _
  unfold q3m_3_step
  rw [K2c (by omega), need_true (by omega), Int.toNat_natCast, sum_2 _ _ _ _ hi, K05]
  rw [w64_eq (by show (-9223372036854775808 : Int) ≤ (i : Int) + 1; omega) (by show (i : Int) + 1 ≤ 9223372036854775807; omega)]
  rfl
 ·unfold q3m_3_step
  rfl
theorem out_eq8 (a b c d e f g i : UInt32) : K7e (fun j acc => K4y (List.getD [a, b, c, d, e, f, g, i] j 0) j acc) 0 8 (List.replicate 32 (0 : UInt8)) = outS [a, b, c, d, e, f, g, i] := by kernel_rfl
theorem out_eq (h : List UInt32) (hh : h.length = 8) : K7e (fun i acc => K4y (h.getD i 0) i acc) 0 8 (List.replicate 32 (0 : UInt8)) = outS h := by
 match h, hh with
 | [a, b, c, d, e, f, g, i], _ => exact out_eq8 a b c d e f g i
theorem first_eq : q31 = some h0S := by kernel_rfl
theorem added_eq : q39 = some kS := by kernel_rfl
theorem sum_eq (b : List UInt8) (hb : b.length ≤ 1073741824) : q3m b = some (sha b) := by
 unfold q3m
 rw [first_eq, K05, added_eq, K05, K52 b hb, K05, sum_1 _ _ _ (K51 b) (by rw [K51]; omega), K05]
 simp only [sum_3, K05]
 rw [out_eq _ (by rw [K0m]; rfl)]
 rfl
theorem K7z (b : List UInt8) : (sha b).length = 32 := by
 unfold sha outS
 have : (K0l ((b.length + 8) / 64 + 1) (padS b) h0S).length = 8 := by rw [K0m]; rfl
 generalize K0l ((b.length + 8) / 64 + 1) (padS b) h0S = h at this
 match h, this with
 | [a, b, c, d, e, f, g, i], _ => rfl
theorem getD_take {α : Type} (l : List (List α)) {i : Nat} (h : i < l.length) : (l.take i).flatten ++ l.getD i [] = (l.take (i + 1)).flatten := by
 rw [List.take_add_one, List.flatten_append, List.getD_eq_getElem?_getD, List.getElem?_eq_getElem h]
 simp
theorem K8l {α : Type} (l : List (List α)) (i : Nat) : ((l.take i).flatten).length ≤ l.flatten.length := by
 conv => rhs; rw [← List.take_append_drop i l]
 rw [List.flatten_append, List.length_append]; omega
theorem K8k (t : UInt8) (l : List (List UInt8)) (h : l.flatten.length ≤ 1073741823) (hl : l.length ≤ 1073741823) : q2m t l = some (sha (t :: l.flatten)) := by
 unfold q2m
 have : ∀ z, q2m_1 l (l.length : Int) 0 z [t] = some (z, t :: l.flatten) := by
  intro z
  unfold q2m_1
  have := K46 (step := fun (s : Int × List UInt8) => q2m_1_step l (l.length : Int) s.1 z s.2) (fun i (_ : Unit) => ((i : Int), t :: (l.take i).flatten)) (fun _ _ => ()) (fun _ => (z, t :: l.flatten)) l.length (fun _ _ => True) (fun i w hi _ => ⟨?_, trivial⟩) (fun w _ => ?_) l.length 0 () (by omega) trivial
  ·exact this
  ·unfold q2m_1_step
   have e := getD_take l hi
   have le := K8l l (i + 1)
   rw [← e, List.length_append] at le
   simp (disch := omega) only [K2c, w64_eq, need_true, Int.toNat_natCast]
   rw [need_true (by rw [List.length_cons]; omega), List.cons_append, e]
   rfl
  ·unfold q2m_1_step
   rw [K26 (by omega), List.take_of_length_le (Nat.le_refl _)]
 rw [this, K05]
 simp only []
 rw [sum_eq _ (by rw [List.length_cons]; omega), K05]
def mayP (p : Pr) : Bool := !decide (p.1 = []) && (decide ((p.1.length : Int) ≤ 16) && decide ((p.2.1.length : Int) ≤ 24))
def putP (l : List Pr) (p : Pr) : List Pr := if isAt l p.1 then l.take (K09 l p.1) ++ p :: l.drop (K09 l p.1 + 1) else l.take (K09 l p.1) ++ p :: l.drop (K09 l p.1)
def cutP (l : List Pr) (k : List UInt8) : List Pr := if isAt l k then l.take (K09 l k) ++ l.drop (K09 l k + 1) else l
theorem K38 {l : List Pr} {k : List UInt8} (h : isAt l k = true) : K09 l k < l.length ∧ (l.getD (K09 l k) zPr).1 = k := by
 unfold isAt at h; rw [decide_eq_true_eq] at h; exact h
theorem K3n {l : List Pr} (h : RiseP l) (n : Nat) : RiseP (l.take n) := h.sublist (List.take_sublist n l)
theorem K3k {l : List Pr} (h : RiseP l) (n : Nat) : RiseP (l.drop n) := h.sublist (List.drop_sublist n l)
theorem K4b {l : List Pr} {k : List UInt8} {p : Pr} (h : p ∈ l.take (K09 l k)) : sless p.1 k = true := by
 obtain ⟨i, hi, rfl⟩ := List.getElem_of_mem h
 rw [List.length_take] at hi
 rw [List.getElem_take]
 have := K0c l k i (by omega)
 rw [List.getD_eq_getElem?_getD, List.getElem?_eq_getElem (by omega)] at this
 exact this
theorem K4a {l : List Pr} {n : Nat} {p : Pr} (h : p ∈ l.drop n) : ∃ i, n ≤ i ∧ i < l.length ∧ l.getD i zPr = p := by
 obtain ⟨i, hi, rfl⟩ := List.getElem_of_mem h
 rw [List.length_drop] at hi
 refine ⟨n + i, by omega, by omega, ?_⟩
 rw [List.getElem_drop, List.getD_eq_getElem?_getD, List.getElem?_eq_getElem (by omega)]; rfl
theorem K1b {l : List Pr} (hr : RiseP l) {k : List UInt8} {n : Nat} (h : isAt l k = false ∧ n = K09 l k ∨ isAt l k = true ∧ n = K09 l k + 1) {p : Pr} (hp : p ∈ l.drop n) : sless k p.1 = true := by
 obtain ⟨i, h1, h2, rfl⟩ := K4a hp
 rcases h with ⟨ha, rfl⟩ | ⟨ha, rfl⟩
 ·have b : sless (l.getD i zPr).1 k = false := by
   cases q : sless (l.getD i zPr).1 k with
   | false => rfl
   | true => have := (K0b hr k h2).1 q; omega
  rcases K87 _ _ b with e | e
  ·exact absurd ((K37 hr k).2 ⟨_, K2g h2, e⟩) (by rw [ha]; simp)
  ·exact e
 ·have e := (K38 ha).2
  have := K3m hr (i := K09 l k) (j := i) (by omega) h2
  rw [e] at this; exact this
theorem K5l {l : List Pr} (hr : RiseP l) (p : Pr) : RiseP (putP l p) := by
 have key : ∀ n, (isAt l p.1 = false ∧ n = K09 l p.1 ∨ isAt l p.1 = true ∧ n = K09 l p.1 + 1) → RiseP (l.take (K09 l p.1) ++ p :: l.drop n) := fun n hn => by
  refine List.pairwise_append.2 ⟨K3n hr _, List.pairwise_cons.2 ⟨fun q hq => K1b hr hn hq, K3k hr _⟩, fun a ha b hb => ?_⟩
  have h1 := K4b ha
  rcases List.mem_cons.1 hb with rfl | hb
  ·exact h1
  ·exact K88 _ _ _ h1 (K1b hr hn hb)
 unfold putP
 cases ha : isAt l p.1 with
 | true => rw [if_pos rfl]; exact key _ (.inr ⟨ha, rfl⟩)
 | false => rw [if_neg (by simp)]; exact key _ (.inl ⟨ha, rfl⟩)
theorem K16 {l : List Pr} (hr : RiseP l) (k : List UInt8) : RiseP (cutP l k) := by
 unfold cutP
 cases ha : isAt l k with
 | false => rw [if_neg (by simp)]; exact hr
 | true =>
  rw [if_pos rfl]
  refine List.pairwise_append.2 ⟨K3n hr _, K3k hr _, fun a ha2 b hb => ?_⟩
  exact K88 _ _ _ (K4b ha2) (K1b hr (.inr ⟨ha, rfl⟩) hb)
theorem putP_len (l : List Pr) (p : Pr) : (putP l p).length = if isAt l p.1 then l.length else l.length + 1 := by
 have hb := below_le l p.1
 unfold putP
 cases ha : isAt l p.1 with
 | true =>
  have := (K38 ha).1
  rw [if_pos rfl, if_pos rfl, List.length_append, List.length_cons, List.length_take, List.length_drop]; omega
 | false => rw [if_neg (by simp), if_neg (by simp), List.length_append, List.length_cons, List.length_take, List.length_drop]; omega
theorem cutP_len (l : List Pr) (k : List UInt8) : (cutP l k).length ≤ l.length := by
 unfold cutP
 split
 ·rw [List.length_append, List.length_take, List.length_drop]; omega
 ·exact Nat.le_refl _
theorem putP_mem {l : List Pr} {p q : Pr} (h : q ∈ putP l p) : q = p ∨ q ∈ l := by
 unfold putP at h
 split at h
 ·rcases List.mem_append.1 h with h | h
  ·exact .inr (List.mem_of_mem_take h)
  ·rcases List.mem_cons.1 h with h | h
   ·exact .inl h
   ·exact .inr (List.mem_of_mem_drop h)
 ·rcases List.mem_append.1 h with h | h
  ·exact .inr (List.mem_of_mem_take h)
  ·rcases List.mem_cons.1 h with h | h
   ·exact .inl h
   ·exact .inr (List.mem_of_mem_drop h)
theorem cutP_mem {l : List Pr} {k : List UInt8} {q : Pr} (h : q ∈ cutP l k) : q ∈ l := by
 unfold cutP at h
 split at h
 ·rcases List.mem_append.1 h with h | h
  ·exact List.mem_of_mem_take h
  ·exact List.mem_of_mem_drop h
 ·exact h
def RowB (l : List Pr) : Prop := RiseP l ∧ l.length ≤ 30 ∧ ∀ p ∈ l, p.1.length ≤ 16 ∧ p.2.1.length ≤ 24
theorem rowB_nil : RowB [] := ⟨List.Pairwise.nil, by simp, by simp⟩
theorem cutP_row {l : List Pr} (h : RowB l) (k : List UInt8) : RowB (cutP l k) := ⟨K16 h.1 k, by have := cutP_len l k; have := h.2.1; omega, fun q hq => h.2.2 q (cutP_mem hq)⟩
theorem K4u (a : Nat) : (BitVec.ofInt 64 (a : Int)).toNat = a % 18446744073709551616 := by
 rw [BitVec.toNat_ofInt]; omega
theorem K08 (a b : Nat) (ha : a < 9223372036854775808) (hb : b < 9223372036854775808) : band (a : Int) (b : Int) = ((a &&& b : Nat) : Int) := by
 unfold band
 have hle : a &&& b ≤ a := Nat.and_le_left
 rw [BitVec.toNat_and, K4u, K4u, Nat.mod_eq_of_lt (by omega), Nat.mod_eq_of_lt (by omega)]
 exact w64_eq (by omega) (by omega)
theorem bor_nat (a b : Nat) (h : (a ||| b) < 9223372036854775808) : bor (a : Int) (b : Int) = ((a ||| b : Nat) : Int) := by
 unfold bor
 have h1 : a ≤ a ||| b := Nat.left_le_or
 have h2 : b ≤ a ||| b := Nat.right_le_or
 rw [BitVec.toNat_or, K4u, K4u, Nat.mod_eq_of_lt (by omega), Nat.mod_eq_of_lt (by omega)]
 exact w64_eq (by omega) (by omega)
theorem K07 (a : Nat) (ha : a < 9223372036854775808) : band (a : Int) 127 = ((a % 128 : Nat) : Int) := by
 rw [show (127 : Int) = ((127 : Nat) : Int) from rfl, K08 a 127 ha (by omega), show (127 : Nat) = 2 ^ 7 - 1 from rfl, Nat.and_two_pow_sub_one_eq_mod]
theorem or_high (a c k : Nat) (h : a < 2 ^ k) : a ||| (c * 2 ^ k) = a + c * 2 ^ k := by
 rw [Nat.or_comm, ← Nat.shiftLeft_eq, ← Nat.shiftLeft_add_eq_or_of_lt h, Nat.add_comm]
theorem bor128 (a : Nat) (h : a < 128) : bor (a : Int) 128 = ((a + 128 : Nat) : Int) := by
 have e := or_high a 1 7 h
 rw [show (128 : Int) = ((128 : Nat) : Int) from rfl, bor_nat a 128 (by simp only [Nat.one_mul] at e; rw [show (128 : Nat) = 2 ^ 7 from rfl, e]; omega)]
 simp only [Nat.one_mul] at e
 rw [show (128 : Nat) = 2 ^ 7 from rfl, e]
theorem K3a (a k : Nat) (hk : k ≤ 64) : ishr (a : Int) k = ((a / 2 ^ k : Nat) : Int) := by
 unfold ishr
 rw [Nat.min_eq_left hk, Int.fdiv_eq_ediv_of_nonneg _ (by exact_mod_cast Nat.zero_le _)]
 exact_mod_cast rfl
theorem K8v (a : Nat) : UInt8.ofNat (Int.toNat ((a : Int) % 256)) = UInt8.ofNat a := by
 rw [show Int.toNat ((a : Int) % 256) = a % 256 from by omega]
 apply UInt8.toNat_inj.1
 simp
def putF : Nat → Nat → List UInt8
 | 0, n => [UInt8.ofNat n]
 | f + 1, n => if n < 128 then [UInt8.ofNat n] else UInt8.ofNat (n % 128 + 128) :: putF f (n / 128)
def oneS (n : Int) : List UInt8 := if 0 ≤ n ∧ n ≤ 1099511627775 then putF 6 n.toNat else []
theorem K5j : ∀ (f n : Nat), (putF f n).length ≤ f + 1
 | 0, _ => by simp [putF]
 | f + 1, n => by
  rw [putF]; split
  ·simp
  ·have := K5j f (n / 128); simp; omega
theorem K4v (n : Int) : (oneS n).length ≤ 7 := by
 unfold oneS; split
 ·exact K5j 6 _
 ·simp
theorem K4x : ∀ (f n : Nat) (acc : List UInt8), n < 128 ^ (f + 1) → n < 9223372036854775808 → acc.length ≤ 1000 - f → f ≤ 10 → ∃ (m : Nat) (l : List UInt8), q3f_1 (n : Int) acc = some ((m : Int), acc ++ l) ∧ l ++ [UInt8.ofNat m] = putF f n ∧ (acc ++ l).length ≤ 1000
 | 0, n, acc, h, h2, ha, _ => by
  refine ⟨n, [], ?_, rfl, by simp; omega⟩
  rw [List.append_nil]
  unfold q3f_1
  refine loop_out ?_
  show q3f_1_step (n : Int) acc = _
  unfold q3f_1_step
  rw [K26 (by omega)]
 | f + 1, n, acc, h, h2, ha, hf => by
  by_cases hn : n < 128
  ·refine ⟨n, [], ?_, by rw [putF, if_pos hn]; rfl, by simp; omega⟩
   rw [List.append_nil]
   unfold q3f_1
   refine loop_out ?_
   show q3f_1_step (n : Int) acc = _
   unfold q3f_1_step
   rw [K26 (by omega)]
  ·have hs : q3f_1_step (n : Int) acc = some (.inl (((n / 128 : Nat) : Int), acc ++ [UInt8.ofNat (n % 128 + 128)])) := by
    unfold q3f_1_step
    rw [K2c (by omega), need_true (by simp; omega), K07 n (by omega), bor128 _ (by omega), K8v, show Int.toNat 7 = 7 from rfl, K3a n 7 (by omega)]
   have hd : n / 128 < 128 ^ (f + 1) := by
    rw [Nat.div_lt_iff_lt_mul (by omega)]
    have : 128 ^ (f + 1 + 1) = 128 ^ (f + 1) * 128 := Nat.pow_succ ..
    omega
   obtain ⟨m, l, h4, h5, h6⟩ := K4x f (n / 128) (acc ++ [UInt8.ofNat (n % 128 + 128)]) hd (by omega) (by simp; omega) (by omega)
   refine ⟨m, UInt8.ofNat (n % 128 + 128) :: l, ?_, ?_, ?_⟩
   ·unfold q3f_1 at h4 ⊢
    rw [loop_next (s' := (((n / 128 : Nat) : Int), acc ++ [UInt8.ofNat (n % 128 + 128)])) hs, h4]
    simp
   ·rw [putF, if_neg hn, ← h5]; rfl
   ·simpa using h6
theorem K4w (n : Int) : q3f n = some (oneS n) := by
 unfold q3f oneS
 by_cases h0 : n < 0
 ·rw [K2c h0, if_neg (by omega)]
 ·rw [K26 h0]
  by_cases h1 : 1099511627775 < n
  ·rw [K2c h1, if_neg (by omega)]
  ·rw [K26 h1, if_pos (by omega)]
   obtain ⟨k, rfl⟩ := Int.eq_ofNat_of_zero_le (show 0 ≤ n by omega)
   obtain ⟨m, l, h2, h3, h4⟩ := K4x 6 k [] (by omega) (by omega) (by simp) (by omega)
   rw [h2, K05]
   simp only [List.nil_append] at h4 ⊢
   rw [need_true (by simp; omega), K8v, h3]
   rfl
def putS (l : List Int) : List UInt8 := l.flatMap oneS
theorem K5m : ∀ (l : List Int), (putS l).length ≤ 7 * l.length
 | [] => by simp [putS]
 | n :: l => by
  have := K5m l
  have h := K4v n
  unfold putS at this ⊢
  rw [List.flatMap_cons, List.length_append, List.length_cons]; omega
theorem K1v {α β : Type} (f : α → List β) (l : List α) (z : α) {i : Nat} (h : i < l.length) : (l.take (i + 1)).flatMap f = (l.take i).flatMap f ++ f (l.getD i z) := by
 rw [List.take_add_one, List.flatMap_append, List.getD_eq_getElem?_getD]
 congr 1
 rw [List.getElem?_eq_getElem h]
 simp only [Option.toList_some, Option.getD_some, List.flatMap_cons, List.flatMap_nil, List.append_nil]
theorem put_eq (l : List Int) (hl : l.length ≤ 100000000) : q3g l = some (putS l) := by
 have main : q3g_1 l (l.length : Int) 0 [] = some (putS l) := by
  unfold q3g_1
  have := K46 (step := fun (s : Int × List UInt8) => q3g_1_step l (l.length : Int) s.1 s.2) (fun i (_ : Unit) => ((i : Int), putS (l.take i))) (fun _ _ => ()) (fun _ => putS l) l.length (fun _ _ => True) (fun i w hi _ => ⟨?_, trivial⟩) (fun w _ => ?_) l.length 0 () (by omega) trivial
  ·exact this
  ·show q3g_1_step l (l.length : Int) (i : Int) (putS (l.take i)) = _
   unfold q3g_1_step
   have b := K5m (l.take i)
   have b2 := K4v (l.getD i 0)
   rw [List.length_take] at b
   rw [K2c (by omega), need_true (by omega), K4w, K05, Int.toNat_natCast, need_true (by omega), w64_eq (by omega) (by omega)]
   unfold putS
   rw [K1v oneS l 0 hi]
   rfl
  ·show q3g_1_step l (l.length : Int) (l.length : Int) (putS (l.take l.length)) = _
   unfold q3g_1_step
   rw [K26 (by omega), List.take_of_length_le (Nat.le_refl _)]
 unfold q3g
 rw [main, K05]
theorem K2u (l : List (List UInt8)) (hl : l.length ≤ 1000000) (h : ∀ x ∈ l, x.length = 32) : q3c l = some l.flatten := by
 have hlen : ∀ i, ((l.take i).flatten).length ≤ 32 * l.length := by
  intro i
  have : ∀ (m : List (List UInt8)), (∀ x ∈ m, x.length = 32) → m.flatten.length = 32 * m.length := by
   intro m
   induction m with
   | nil => intro _; rfl
   | cons a m ih => intro hm; rw [List.flatten_cons, List.length_append, ih (fun x hx => hm x (List.mem_cons_of_mem _ hx)), hm a List.mem_cons_self, List.length_cons]; omega
  rw [this _ fun x hx => h x (List.mem_of_mem_take hx), List.length_take]; omega
 have main : q3c_1 l (l.length : Int) 0 [] = some l.flatten := by
  unfold q3c_1
  have := K46 (step := fun (s : Int × List UInt8) => q3c_1_step l (l.length : Int) s.1 s.2) (fun i (_ : Unit) => ((i : Int), (l.take i).flatten)) (fun _ _ => ()) (fun _ => l.flatten) l.length (fun _ _ => True) (fun i w hi _ => ⟨?_, trivial⟩) (fun w _ => ?_) l.length 0 () (by omega) trivial
  ·exact this
  ·show q3c_1_step l (l.length : Int) (i : Int) (l.take i).flatten = _
   unfold q3c_1_step
   have b := hlen i
   have hm : (l.getD i (List.replicate 32 0)).length = 32 := h _ (by rw [List.getD_eq_getElem?_getD, List.getElem?_eq_getElem hi]; exact List.getElem_mem _)
   have e := K1v (fun x : List UInt8 => x) l (List.replicate 32 0) hi
   simp only [List.flatMap_id'] at e
   rw [K2c (by omega), need_true (by omega), Int.toNat_natCast, need_true (by omega), w64_eq (by omega) (by omega), e]
   rfl
  ·show q3c_1_step l (l.length : Int) (l.length : Int) (l.take l.length).flatten = _
   unfold q3c_1_step
   rw [K26 (by omega), List.take_of_length_le (Nat.le_refl _)]
 unfold q3c
 rw [main, K05]
theorem K5k {n : Nat} (h : n < 128) : ∀ f, putF f n = [UInt8.ofNat n]
 | 0 => rfl
 | f + 1 => by rw [putF, if_pos h]
abbrev Hdr := Int × Int × List UInt8 × List UInt8 × List UInt8 × List UInt8 × Unit
def K65 (h : Hdr) : Bool := decide (1 ≤ h.1) && (decide (h.1 ≤ 16) && (decide (0 ≤ h.2.1) && decide (h.2.1 ≤ 1073741824)))
theorem K67 (h : Hdr) : q2o h = some (K65 h) := by
 unfold q2o K65
 simp only [K28]
 cases decide (1 ≤ h.1) <;> cases decide (h.1 ≤ 16) <;> cases decide (0 ≤ h.2.1) <;> simp
theorem K66 (h : Hdr) : K65 h = true ↔ (1 ≤ h.1 ∧ h.1 ≤ 16) ∧ 0 ≤ h.2.1 ∧ h.2.1 ≤ 1073741824 := by
 unfold K65
 simp only [Bool.and_eq_true, decide_eq_true_eq]
 exact ⟨fun ⟨a, b, c, d⟩ => ⟨⟨a, b⟩, c, d⟩, fun ⟨⟨a, b⟩, c, d⟩ => ⟨a, b, c, d⟩⟩
def K00 (h : Hdr) : Prop := h.2.2.1.length = 32 ∧ h.2.2.2.1.length = 32 ∧ h.2.2.2.2.1.length = 32 ∧ h.2.2.2.2.2.1.length = 32
def bodyS (h : Hdr) : List UInt8 := oneS h.1 ++ (oneS h.2.1 ++ (h.2.2.1 ++ (h.2.2.2.1 ++ (h.2.2.2.2.1 ++ h.2.2.2.2.2.1))))
def K0r (h : Hdr) : List UInt8 := if K65 h then bodyS h else []
theorem bytes_eq (h : Hdr) (hh : K00 h) : q2l h = some (K0r h) := by
 obtain ⟨a, b, c, d⟩ := hh
 unfold q2l K0r
 rw [K67, K05]
 cases K65 h with
 | false => rfl
 | true =>
  rw [show (!true) = false from rfl, K27, put_eq _ (by simp), K05, K2u _ (by simp) (by
   intro x hx
   simp only [List.mem_cons, List.not_mem_nil, or_false] at hx
   rcases hx with rfl | rfl | rfl | rfl <;> assumption), K05]
  have l1 := K5m [h.1, h.2.1]
  simp only [List.length_cons, List.length_nil] at l1
  rw [need_true (by simp; omega), if_pos rfl]
  congr 1
  simp [putS, bodyS, List.flatMap_cons]
theorem K0p (h : Hdr) (hh : K00 h) : (bodyS h).length ≤ 142 := by
 obtain ⟨a, b, c, d⟩ := hh
 have := K4v h.1
 have := K4v h.2.1
 unfold bodyS
 simp only [List.length_append]; omega
def zHdr : Hdr := (0, 0, List.replicate 32 0, List.replicate 32 0, List.replicate 32 0, List.replicate 32 0, ())
set_option maxRecDepth 100000
theorem K6z (x : UInt32) (n : Nat) : UInt32.ofNat (x.toNat >>> n) ||| UInt32.ofNat (x.toNat <<< (32 - n)) = rotr x n := UInt32.or_comm _ _
theorem turn7 (x : UInt32) : q24 x 7 = some (rotr x 7) := congrArg some (K6z x 7)
theorem turn18 (x : UInt32) : q24 x 18 = some (rotr x 18) := congrArg some (K6z x 18)
theorem turn17 (x : UInt32) : q24 x 17 = some (rotr x 17) := congrArg some (K6z x 17)
theorem turn19 (x : UInt32) : q24 x 19 = some (rotr x 19) := congrArg some (K6z x 19)
theorem turn6 (x : UInt32) : q24 x 6 = some (rotr x 6) := congrArg some (K6z x 6)
theorem turn11 (x : UInt32) : q24 x 11 = some (rotr x 11) := congrArg some (K6z x 11)
theorem turn25 (x : UInt32) : q24 x 25 = some (rotr x 25) := congrArg some (K6z x 25)
theorem turn2 (x : UInt32) : q24 x 2 = some (rotr x 2) := congrArg some (K6z x 2)
theorem turn13 (x : UInt32) : q24 x 13 = some (rotr x 13) := congrArg some (K6z x 13)
theorem turn22 (x : UInt32) : q24 x 22 = some (rotr x 22) := congrArg some (K6z x 22)
theorem rblock_1 (b : List UInt8) (hb : b.length = 64) (k h v z : List UInt32) : q1s_1 b k 0 h v z = some (k, h, v, K7e (sprd1 b) 0 16 z) := by
 unfold q1s_1
 refine K46 (fun i w => ((i : Int), w)) (sprd1 b) (fun w => (k, h, v, w)) 16 (fun _ _ => True) (fun i w hi _ => ⟨?_, trivial⟩) (fun w _ => ?_) 16 0 z rfl trivial
 ·unfold q1s_1_step
  have e0 : Int.toNat (4 * (i : Int)) = 4 * i := by omega
  have e1 : Int.toNat (4 * (i : Int) + 1) = 4 * i + 1 := by omega
  have e2 : Int.toNat (4 * (i : Int) + 2) = 4 * i + 2 := by omega
  have e3 : Int.toNat (4 * (i : Int) + 3) = 4 * i + 3 := by omega
  simp (disch := omega) only [K2c, w64_eq, need_true, hb, e0, e1, e2, e3, Int.toNat_natCast]
  rfl
 ·unfold q1s_1_step
  rfl
theorem rblock_2 (k h v z : List UInt32) : q1s_2 k 16 h v z = some (k, h, v, K7e sprd2 16 48 z) := by
 unfold q1s_2
 refine K46 (fun i w => ((i : Int), w)) sprd2 (fun w => (k, h, v, w)) 64 (fun i _ => 16 ≤ i) (fun i w hi hh => ⟨?_, by omega⟩) (fun w _ => ?_) 48 16 z rfl (Nat.le_refl _)
 ·unfold q1s_2_step
  have e0 : Int.toNat ((i : Int) - 15) = i - 15 := by omega
  have e1 : Int.toNat ((i : Int) - 2) = i - 2 := by omega
  have e2 : Int.toNat ((i : Int) - 16) = i - 16 := by omega
  have e3 : Int.toNat ((i : Int) - 7) = i - 7 := by omega
  simp (disch := omega) only [K2c, w64_eq, need_true, e0, e1, e2, e3, Int.toNat_natCast, turn7, turn18, turn17, turn19, K05]
  rfl
 ·unfold q1s_2_step
  rfl
theorem rblock_3 (k h v w : List UInt32) (hk : k.length = 64) (s : W8) : q1s_3 k 0 h v w (list8 s) = some (h, v, list8 (K7e (K70 k w) 0 64 s)) := by
 unfold q1s_3
 refine K46 (fun i (s : W8) => ((i : Int), list8 s)) (K70 k w) (fun s => (h, v, list8 s)) 64 (fun _ _ => True) (fun i s hi _ => ⟨?_, trivial⟩) (fun s _ => ?_) 64 0 s rfl trivial
 ·obtain ⟨a, b, c, d, e, f, g, x⟩ := s
  unfold q1s_3_step
  simp (disch := omega) only [K2c, w64_eq, need_true, hk, Int.toNat_natCast, turn6, turn11, turn25, turn2, turn13, turn22, K05]
  rw [show K70 k w i (a, b, c, d, e, f, g, x) = ((((((x + ((rotr e 6 ^^^ rotr e 11) ^^^ rotr e 25)) + ((e &&& f) ^^^ ((~~~e) &&& g))) + k.getD i 0) + w.getD i 0) + ((rotr a 2 ^^^ rotr a 13) ^^^ rotr a 22)) + (((a &&& b) ^^^ (a &&& c)) ^^^ (b &&& c)), a, b, c,
   d + ((((x + ((rotr e 6 ^^^ rotr e 11) ^^^ rotr e 25)) + ((e &&& f) ^^^ ((~~~e) &&& g))) + k.getD i 0) + w.getD i 0), e, f, g) from by simp only [K70, UInt32.add_assoc]]
  rfl
 ·unfold q1s_3_step
  rfl
theorem rblock_4 (h z v : List UInt32) : q1s_4 0 h z v = some (K7e (addS v) 0 8 h, z) := by
 unfold q1s_4
 refine K46 (fun i w => ((i : Int), w)) (addS v) (fun w => (w, z)) 8 (fun _ _ => True) (fun i w hi _ => ⟨?_, trivial⟩) (fun w _ => ?_) 8 0 h rfl trivial
 ·unfold q1s_4_step
  simp (disch := omega) only [K2c, w64_eq, need_true, Int.toNat_natCast]
  rfl
 ·unfold q1s_4_step
  rfl
theorem K44 (h : List UInt32) (hh : h.length = 8) : list8 (tup8 h) = h := by
 match h, hh with
 | [a, b, c, d, e, f, g, i], _ => rfl
theorem K5t (h : List UInt32) (hh : h.length = 8) (b : List UInt8) (hb : b.length = 64) (k : List UInt32) (hk : k.length = 64) : q1s h b k = some (mixS k b h) := by
 unfold q1s
 simp only [rblock_1 b hb, rblock_2, K05]
 have h3 := rblock_3 k h (List.replicate 8 0) (K8f b) hk (tup8 h)
 rw [K44 h hh] at h3
 rw [show K7e sprd2 16 48 (K7e (sprd1 b) 0 16 (List.replicate 64 0)) = K8f b from by rw [K8f], h3, K05]
 simp only [rblock_4, K05]
 rw [mixS]
theorem tmod64 (n : Nat) : Int.tmod (n : Int) 64 = ((n % 64 : Nat) : Int) := by
 rw [Int.tmod_eq_emod_of_nonneg (by omega)]; omega
theorem rsum_1 (b : List UInt8) (hb : b.length ≤ 1073741824) (out : List UInt8) (k h : List UInt32) :
  q25_1 b out k h (b ++ [128]) = some (b, out, k, h, (b ++ [128]) ++ List.replicate ((b.length + 8) / 64 * 64 + 55 - b.length) 0) := by
 unfold q25_1
 generalize hz : (b.length + 8) / 64 * 64 + 55 - b.length = z
 have := K46 (step := fun s => q25_1_step b out k h s) (fun i (_ : Unit) => (b ++ [128]) ++ List.replicate i (0 : UInt8)) (fun _ _ => ()) (fun _ => (b, out, k, h, (b ++ [128]) ++ List.replicate z 0)) z (fun _ _ => True) (fun i w hi _ => ⟨?_, trivial⟩) (fun w _ => ?_) z 0 () (by omega) trivial
 ·simpa using this
 ·unfold q25_1_step
  rw [tmod64, K29 (by simp; omega), need_true (by simp; omega), List.append_assoc, List.append_assoc, List.append_assoc, ← List.replicate_succ']
 ·unfold q25_1_step
  rw [tmod64, K2b (by simp; omega)]
theorem K8u {j : Nat} (h : j < 8) : (UInt64.ofNat (Int.toNat ((8 * ((7 : Int) - (j : Int))) % 18446744073709551616))).toNat = 8 * (7 - j) := by
 have : Int.toNat ((8 * ((7 : Int) - (j : Int))) % 18446744073709551616) = 8 * (7 - j) := by omega
 rw [this, UInt64.toNat_ofNat']; omega
theorem rsum_2 (b : List UInt8) (hb : b.length ≤ 1073741824) (out m : List UInt8) (hm : m.length ≤ 1073741924) (k h : List UInt32) :
  q25_2 b 7 out k h m = some (out, k, h, K7e (fun j (l : List UInt8) => l ++ [K0q (bitsOf b) (7 - j)]) 0 8 m) := by
 unfold q25_2
 refine K46 (step := fun (s : Int × List UInt8) => q25_2_step b s.1 out k h s.2) (fun j l => ((7 : Int) - (j : Int), l)) (fun j (l : List UInt8) => l ++ [K0q (bitsOf b) (7 - j)]) (fun l => (out, k, h, l)) 8 (fun j l => l.length = m.length + j) (fun j l hj hl => ⟨?_, by simp [hl]; omega⟩) (fun l _ => ?_) 8 0 m rfl rfl
 ·unfold q25_2_step
  have hbits : UInt64.ofNat (Int.toNat ((8 * (b.length : Int)) % 18446744073709551616)) = bitsOf b := by
   rw [show Int.toNat ((8 * (b.length : Int)) % 18446744073709551616) = b.length * 8 from by omega, UInt64.ofNat_mul]; rfl
  simp (disch := omega) only [K2c, w64_eq, hbits]
  rw [need_true (by omega), need_true (by simp; omega), K8u hj, Int.toNat_natCast]
  rw [show (7 : Int) - (j : Int) - 1 = 7 - ((j + 1 : Nat) : Int) from by omega]
  rfl
 ·unfold q25_2_step
  rfl
theorem rsum_3g (l out : List UInt8) (n : Nat) (hl : l.length = 64 * n) (hn : 64 * n ≤ 2147483648) (h : List UInt32) (hh : h.length = 8) :
  q25_3 l 0 out kS h = some (out, K7e (fun j h => mixS kS ((l.drop (64 * j)).take 64) h) 0 n h) := by
 unfold q25_3
 refine K46 (step := fun (s : Int × List UInt32) => q25_3_step l s.1 out kS s.2) (fun j h => (((64 * j : Nat) : Int), h)) (fun j h => mixS kS ((l.drop (64 * j)).take 64) h) (fun h => (out, h)) n (fun j h => h.length = 8) (fun j h hj hh => ⟨?_, by rw [K4d, hh]⟩) (fun l _ => ?_) n 0 h (by omega) hh
 ·unfold q25_3_step
  have hc : cutL l ((64 * j : Nat) : Int) (((64 * j : Nat) : Int) + 64) = (l.drop (64 * j)).take 64 := by
   unfold cutL
   rw [Int.toNat_natCast, show Int.toNat (((64 * j : Nat) : Int) + 64) = 64 * j + 64 from by omega, List.drop_take]
   congr 1; omega
  simp (disch := omega) only [K2c, w64_eq, need_true, hc]
  rw [K5t h hh _ (by rw [List.length_take, List.length_drop]; omega) _ rfl, K05]
  rfl
 ·unfold q25_3_step
  rw [K26 (by omega)]
theorem K0n (l : List UInt8) : ∀ (n j : Nat) (h : List UInt32), K7e (fun j h => mixS kS ((l.drop (64 * j)).take 64) h) j n h = K0l n (l.drop (64 * j)) h
 | 0, _, _ => rfl
 | n + 1, j, h => by
  rw [K7e, K0n l n (j + 1), K0l, List.drop_drop]
  rfl
def K4z (x : UInt32) (i : Nat) (acc : List UInt8) : List UInt8 := (((acc.set (4 * i) (outB x 0)).set (4 * i + 1) (outB x 1)).set (4 * i + 2) (outB x 2)).set (4 * i + 3) (outB x 3)
theorem rsum_4 (h : List UInt32) (z acc : List UInt8) : q25_4 h 0 z acc = some (z, K7e (fun i acc => K4z (h.getD i 0) i acc) 0 8 acc) := by
 unfold q25_4
 refine K46 (step := fun (s : Int × List UInt8) => q25_4_step h s.1 z s.2) (fun i acc => ((i : Int), acc)) (fun i acc => K4z (h.getD i 0) i acc) (fun acc => (z, acc)) 8 (fun _ _ => True) (fun i acc hi _ => ⟨?_, trivial⟩) (fun acc _ => ?_) 8 0 acc rfl trivial
 ·unfold q25_4_step
  have e0 : Int.toNat (4 * (i : Int)) = 4 * i := by omega
  have e1 : Int.toNat (4 * (i : Int) + 1) = 4 * i + 1 := by omega
  have e2 : Int.toNat (4 * (i : Int) + 2) = 4 * i + 2 := by omega
  have e3 : Int.toNat (4 * (i : Int) + 3) = 4 * i + 3 := by omega
  have hx : ∀ x : UInt32, outB x 3 = UInt8.ofNat x.toNat := by intro x; simp [outB]
  simp (disch := omega) only [K2c, w64_eq, need_true, e0, e1, e2, e3, Int.toNat_natCast]
  rw [K4z, hx]
  rfl
 ·unfold q25_4_step
  rfl
theorem rout_eq8 (a b c d e f g i : UInt32) : K7e (fun j acc => K4z (List.getD [a, b, c, d, e, f, g, i] j 0) j acc) 0 8 (List.replicate 32 (0 : UInt8)) = outS [a, b, c, d, e, f, g, i] := by kernel_rfl
theorem rout_eq (h : List UInt32) (hh : h.length = 8) : K7e (fun i acc => K4z (h.getD i 0) i acc) 0 8 (List.replicate 32 (0 : UInt8)) = outS h := by
 match h, hh with
 | [a, b, c, d, e, f, g, i], _ => exact rout_eq8 a b c d e f g i
theorem const_eq : q11 = some kS := by kernel_rfl
theorem rpad_eq (b : List UInt8) : K7e (fun j (l : List UInt8) => l ++ [K0q (bitsOf b) (7 - j)]) 0 8 ((b ++ [128]) ++ List.replicate ((b.length + 8) / 64 * 64 + 55 - b.length) 0) = padS b := by
 unfold padS
 simp only [K7e, List.append_assoc]
 rfl
theorem rsum_eq (b : List UInt8) (hb : b.length ≤ 1073741824) : q25 b = some (sha b) := by
 unfold q25
 have h0 : (List.set (List.set (List.set (List.set (List.set (List.set (List.set (List.set (List.replicate 8 (0 : UInt32)) 0 (1779033703 : UInt32)) 1 (3144134277 : UInt32)) 2 (1013904242 : UInt32)) 3 (2773480762 : UInt32)) 4 (1359893119 : UInt32)) 5 (2600822924 : UInt32)) 6 (528734635 : UInt32)) 7 (1541459225 : UInt32)) = h0S := by kernel_rfl
 rw [const_eq, K05, need_true (by simp; omega), need_true (by simp; omega), h0, List.nil_append, rsum_1 b hb, K05]
 simp only [rsum_2 b hb _ _ (show ((b ++ [128]) ++ List.replicate ((b.length + 8) / 64 * 64 + 55 - b.length) (0 : UInt8)).length ≤ 1073741924 by simp; omega), K05, rpad_eq]
 rw [rsum_3g _ _ ((b.length + 8) / 64 + 1) (K51 b) (by omega) _ rfl, K05, K0n]
 simp only [rsum_4, K05]
 rw [rout_eq _ (by rw [K0m]; rfl)]
 rfl
theorem K7c (t : UInt8) (l : List (List UInt8)) (h : l.flatten.length ≤ 1073741823) (hl : l.length ≤ 1073741823) : q1e t l = some (sha (t :: l.flatten)) := by
 unfold q1e
 have : ∀ z, q1e_1 l (l.length : Int) 0 z [t] = some (z, t :: l.flatten) := by
  intro z
  unfold q1e_1
  have := K46 (step := fun (s : Int × List UInt8) => q1e_1_step l (l.length : Int) s.1 z s.2) (fun i (_ : Unit) => ((i : Int), t :: (l.take i).flatten)) (fun _ _ => ()) (fun _ => (z, t :: l.flatten)) l.length (fun _ _ => True) (fun i w hi _ => ⟨?_, trivial⟩) (fun w _ => ?_) l.length 0 () (by omega) trivial
  ·exact this
  ·unfold q1e_1_step
   have e := getD_take l hi
   have le := K8l l (i + 1)
   rw [← e, List.length_append] at le
   simp (disch := omega) only [K2c, w64_eq, need_true, Int.toNat_natCast]
   rw [need_true (by rw [List.length_cons]; omega), List.cons_append, e]
   rfl
  ·unfold q1e_1_step
   rw [K26 (by omega), List.take_of_length_le (Nat.le_refl _)]
 rw [this, K05]
 simp only []
 rw [rsum_eq _ (by rw [List.length_cons]; omega), K05]
theorem K75 : ∀ (f k n : Nat), n < 128 ^ (f + 1) → f < k → f ≤ 100 → n ≤ 1099511627775 → q1p k (n : Int) = some (putF f n)
 | f, 0, n, h, hk, hf, hn => by omega
 | f, k + 1, n, h, hk, hf, hn => by
  rw [q1p, K26 (by omega), K26 (by omega)]
  by_cases h1 : n < 128
  ·rw [K2c (by omega), K5k h1 f, K8v]
  ·rw [K26 (by omega)]
   cases f with
   | zero => simp at h; omega
   | succ f =>
    have hd : n / 128 < 128 ^ (f + 1) := by
     rw [Nat.div_lt_iff_lt_mul (by omega)]
     have : 128 ^ (f + 1 + 1) = 128 ^ (f + 1) * 128 := Nat.pow_succ ..
     omega
    rw [show Int.toNat 7 = 7 from rfl, K3a n 7 (by omega), show n / 2 ^ 7 = n / 128 from rfl, K75 f k (n / 128) hd (by omega) (by omega) (by omega), K05, K07 n (by omega), bor128 _ (by omega), K8v]
    have := K5j f (n / 128)
    rw [need_true (by simp; omega), putF, if_neg h1]; rfl
theorem K74 (n : Int) : q27 n = some (oneS n) := by
 unfold q27 oneS
 by_cases h0 : n < 0
 ·rw [q1p, K2c h0, if_neg (by omega)]
 ·by_cases h1 : 1099511627775 < n
  ·rw [q1p, K26 h0, K2c h1, if_neg (by omega)]
  ·rw [if_pos (by omega)]
   obtain ⟨k, rfl⟩ := Int.eq_ofNat_of_zero_le (show 0 ≤ n by omega)
   exact K75 6 64 k (by omega) (by omega) (by omega) (by omega)
theorem K5w (l : List (List UInt8)) (hl : l.length ≤ 1000) (hh : ∀ x ∈ l, x.length = 32) (acc : List UInt8) (ha : acc.length ≤ 1000) : qp_1 (l.length : Int) 0 acc l = some (acc ++ l.flatten) := by
 have hlen : ∀ i, ((l.take i).flatten).length ≤ 32 * l.length := by
  intro i
  have : ∀ (m : List (List UInt8)), (∀ x ∈ m, x.length = 32) → m.flatten.length = 32 * m.length := by
   intro m
   induction m with
   | nil => intro _; rfl
   | cons a m ih => intro hm; rw [List.flatten_cons, List.length_append, ih (fun x hx => hm x (List.mem_cons_of_mem _ hx)), hm a List.mem_cons_self, List.length_cons]; omega
  rw [this _ fun x hx => hh x (List.mem_of_mem_take hx), List.length_take]; omega
 unfold qp_1
 have := K46 (step := fun (s : Int × List UInt8) => qp_1_step (l.length : Int) s.1 s.2 l) (fun i (_ : Unit) => ((i : Int), acc ++ (l.take i).flatten)) (fun _ _ => ()) (fun _ => acc ++ l.flatten) l.length (fun _ _ => True) (fun i w hi _ => ⟨?_, trivial⟩) (fun w _ => ?_) l.length 0 () (by omega) trivial
 ·simpa using this
 ·show qp_1_step (l.length : Int) (i : Int) (acc ++ (l.take i).flatten) l = _
  unfold qp_1_step
  have b := hlen i
  have hm : (l.getD i (List.replicate 32 0)).length = 32 := hh _ (by rw [List.getD_eq_getElem?_getD, List.getElem?_eq_getElem hi]; exact List.getElem_mem _)
  have e := K1v (fun x : List UInt8 => x) l (List.replicate 32 0) hi
  simp only [List.flatMap_id'] at e
  rw [K2c (by omega), need_true (by omega), Int.toNat_natCast, need_true (by rw [List.length_append]; omega), w64_eq (by omega) (by omega), List.append_assoc, e]
  rfl
 ·show qp_1_step (l.length : Int) (l.length : Int) (acc ++ (l.take l.length).flatten) l = _
  unfold qp_1_step
  rw [K26 (by omega), List.take_of_length_le (Nat.le_refl _)]
theorem K5v (h : Hdr) (hh : K00 h) : qp h = some (bodyS h) := by
 obtain ⟨a, b, c, d⟩ := hh
 have l1 := K4v h.1
 have l2 := K4v h.2.1
 unfold qp
 rw [K74, K05, K74, K05, need_true (by omega), K5w _ (by simp) (by
   intro x hx
   simp only [List.mem_cons, List.not_mem_nil, or_false] at hx
   rcases hx with rfl | rfl | rfl | rfl <;> assumption) _ (by rw [List.length_append]; omega), K05]
 congr 1
 simp [bodyS]
theorem K2z (h : Hdr) (hh : K00 h) : q34 h = some (sha (72 :: K0r h)) := by
 have hl : (K0r h).length ≤ 142 := by
  unfold K0r; split
  ·exact K0p h hh
  ·simp
 unfold q34
 have hf : [K0r h].flatten = K0r h := by simp
 rw [bytes_eq h hh, K05, K8k _ _ (by rw [hf]; omega) (by simp), hf]
 rfl
theorem K63 (h : Hdr) (hh : K00 h) : qv h = some (sha (72 :: bodyS h)) := by
 have hl := K0p h hh
 unfold qv
 have hf : [bodyS h].flatten = bodyS h := by simp
 rw [K5v h hh, K05, K7c _ _ (by rw [hf]; omega) (by simp), hf]
 rfl
def txtS (x : List UInt8) : List UInt8 := oneS x.length ++ x
theorem K8t (x : List UInt8) : (txtS x).length ≤ x.length + 7 := by
 have := K4v (x.length : Int)
 unfold txtS; rw [List.length_append]; omega
theorem vtext_eq (l : List (List UInt8)) (hl : l.length ≤ 1000) (h : ∀ x ∈ l, x.length ≤ 100000) : q3e l = some (l.flatMap txtS) := by
 have hlen : ∀ i, ((l.take i).flatMap txtS).length ≤ 100007 * i := by
  intro i
  have : ∀ (m : List (List UInt8)), (∀ x ∈ m, x.length ≤ 100000) → (m.flatMap txtS).length ≤ 100007 * m.length := by
   intro m
   induction m with
   | nil => intro _; simp
   | cons a m ih => intro hm; have h1 := ih (fun x hx => hm x (List.mem_cons_of_mem _ hx)); have h2 := hm a List.mem_cons_self; have h3 := K8t a; rw [List.flatMap_cons, List.length_append, List.length_cons]; omega
  have := this (l.take i) fun x hx => h x (List.mem_of_mem_take hx)
  rw [List.length_take] at this; omega
 have main : q3e_1 l (l.length : Int) 0 [] = some (l.flatMap txtS) := by
  unfold q3e_1
  have := K46 (step := fun (s : Int × List UInt8) => q3e_1_step l (l.length : Int) s.1 s.2) (fun i (_ : Unit) => ((i : Int), (l.take i).flatMap txtS)) (fun _ _ => ()) (fun _ => l.flatMap txtS) l.length (fun _ _ => True) (fun i w hi _ => ⟨?_, trivial⟩) (fun w _ => ?_) l.length 0 () (by omega) trivial
  ·exact this
  ·show q3e_1_step l (l.length : Int) (i : Int) ((l.take i).flatMap txtS) = _
   unfold q3e_1_step
   have b := hlen i
   have hm : (l.getD i []).length ≤ 100000 := h _ (K2g hi)
   have b2 := K4v ((l.getD i []).length : Int)
   rw [K2c (by omega), need_true (by omega), Int.toNat_natCast, K4w, K05, need_true (by omega), need_true (by rw [List.length_append]; omega), w64_eq (by omega) (by omega), List.append_assoc, K1v txtS l [] hi]
   rfl
  ·show q3e_1_step l (l.length : Int) (l.length : Int) ((l.take l.length).flatMap txtS) = _
   unfold q3e_1_step
   rw [K26 (by omega), List.take_of_length_le (Nat.le_refl _)]
 unfold q3e
 rw [main, K05]
theorem grow_eq (n : Nat) (h : n ≤ 1000000000) : qe (n : Int) = some [] := by
 unfold qe
 rw [K26 (by omega), Int.sub_zero, w64_eq (by omega) (by omega)]
 by_cases c : (0 : Int) < (n : Int)
 ·rw [K2c c, need_true ⟨rfl, rfl⟩, need_true (by rw [List.length_replicate]; omega), need_true (by omega), need_true (by rw [List.length_replicate]; omega)]
  rfl
 ·rw [K26 c]
theorem K13 (l : List (List UInt8)) (h : l.flatten.length ≤ 1000000000) (hl : l.length ≤ 1000000) : qo l = some l.flatten := by
 have ht : ∀ i, ((l.take i).flatten).length ≤ 1000000000 := fun i => Nat.le_trans (K8l l i) h
 have m1 : qo_1 l 0 l (l.length : Int) 0 = some (l, (l.flatten.length : Int)) := by
  unfold qo_1
  have := K46 (step := fun (s : Int × Int) => qo_1_step l s.1 l (l.length : Int) s.2) (fun i (_ : Unit) => ((((l.take i).flatten).length : Int), (i : Int))) (fun _ _ => ()) (fun _ => (l, (l.flatten.length : Int))) l.length (fun _ _ => True) (fun i w hi _ => ⟨?_, trivial⟩) (fun w _ => ?_) l.length 0 () (by omega) trivial
  ·exact this
  ·show qo_1_step l (((l.take i).flatten).length : Int) l (l.length : Int) (i : Int) = _
   unfold qo_1_step
   have e := congrArg List.length (getD_take l hi)
   rw [List.length_append] at e
   have b := ht (i + 1)
   rw [K2c (by omega), need_true (by omega), Int.toNat_natCast, w64_eq (n := (((l.take i).flatten).length : Int) + ((l.getD i []).length : Int)) (by omega) (by omega), K26 (by omega), w64_eq (by omega) (by omega)]
   congr 3
   omega
  ·show qo_1_step l (((l.take l.length).flatten).length : Int) l (l.length : Int) (l.length : Int) = _
   unfold qo_1_step
   rw [K26 (by omega), List.take_of_length_le (Nat.le_refl _)]
 have m2 : qo_2 l (l.length : Int) 0 [] = some l.flatten := by
  unfold qo_2
  have := K46 (step := fun (s : Int × List UInt8) => qo_2_step l (l.length : Int) s.1 s.2) (fun i (_ : Unit) => ((i : Int), (l.take i).flatten)) (fun _ _ => ()) (fun _ => l.flatten) l.length (fun _ _ => True) (fun i w hi _ => ⟨?_, trivial⟩) (fun w _ => ?_) l.length 0 () (by omega) trivial
  ·exact this
  ·show qo_2_step l (l.length : Int) (i : Int) ((l.take i).flatten) = _
   unfold qo_2_step
   have e := congrArg List.length (getD_take l hi)
   rw [List.length_append] at e
   have b := ht (i + 1)
   rw [K2c (by omega), need_true (by omega), Int.toNat_natCast, need_true (by omega), w64_eq (by omega) (by omega), getD_take l hi]
   rfl
  ·show qo_2_step l (l.length : Int) (l.length : Int) ((l.take l.length).flatten) = _
   unfold qo_2_step
   rw [K26 (by omega), List.take_of_length_le (Nat.le_refl _)]
 unfold qo
 rw [m1, K05]
 simp only
 rw [grow_eq _ h, K05, m2, K05]
def valB (v : Val) : List UInt8 := txtS v.1 ++ oneS v.2.1 ++ v.2.2.1
def setB (l : List Val) : List UInt8 := oneS l.length ++ l.flatMap valB
def setH (l : List Val) : List UInt8 := sha (86 :: setB l)
def SetSm (l : List Val) : Prop := l.length ≤ 1000 ∧ ∀ v ∈ l, v.1.length ≤ 100000 ∧ v.2.2.1.length = 32
theorem K7r (l : List Val) : (setH l).length = 32 := K7z _
theorem K90 {v : Val} (h : v.1.length ≤ 100000 ∧ v.2.2.1.length = 32) : (valB v).length ≤ 100100 := by
 have h1 := K8t v.1
 have h2 := K4v v.2.1
 unfold valB
 rw [List.length_append, List.length_append]; omega
theorem K93 : ∀ (m : List Val), (∀ v ∈ m, v.1.length ≤ 100000 ∧ v.2.2.1.length = 32) → (m.flatMap valB).length ≤ 100100 * m.length
 | [], _ => by simp
 | a :: m, hm => by
  have h1 := K93 m fun x hx => hm x (List.mem_cons_of_mem _ hx)
  have h2 := K90 (hm a List.mem_cons_self)
  rw [List.flatMap_cons, List.length_append, List.length_cons]; omega
theorem K7q {l : List Val} (h : SetSm l) (i : Nat) : (oneS l.length ++ (l.take i).flatMap valB).length ≤ 100100 * 1000 + 7 := by
 have h1 := K4v (l.length : Int)
 have h2 := K93 (l.take i) fun v hv => h.2 v (List.mem_of_mem_take hv)
 have h3 := h.1
 rw [List.length_take] at h2
 rw [List.length_append]
 have : min i l.length ≤ 1000 := by omega
 have : 100100 * min i l.length ≤ 100100 * 1000 := Nat.mul_le_mul_left _ this
 omega
theorem K92 (x0 : List Val) (x1 : Int) (x2 : Int) (x3 : List UInt8) (x4 : List UInt8) : q37_1_step x0 x1 x2 x3 x4 = (fork (decide (x2 < x1)) (need (0 ≤ x2 ∧ x2 < (List.length x0 : Int)) (andThen (q3e ([(List.getD x0 (Int.toNat x2) zVal).1] : List (List UInt8))) (fun u6 => andThen (q3g ([(List.getD x0 (Int.toNat x2) zVal).2.1] : List (Int))) (fun u8 => andThen (q3c ([(List.getD x0 (Int.toNat x2) zVal).2.2.1] : List (List UInt8))) (fun u10 => andThen (qo ([x4, u6, u8, u10] : List (List UInt8))) (fun u12 => some (.inl ((w64 (x2 + (1 : Int))), u12)))))))) (some (.inr (x3, x4))) : Option ((Int × List UInt8) ⊕ (List UInt8 × List UInt8))) := rfl
theorem K91 (l : List Val) (h : SetSm l) : q37 l = some (setH l) := by
 have hl := h.1
 have main : q37_1 l (l.length : Int) 0 (List.replicate 32 0) (oneS l.length) = some (List.replicate 32 0, setB l) := by
  unfold q37_1
  have := K46 (step := fun (s : Int × List UInt8) => q37_1_step l (l.length : Int) s.1 (List.replicate 32 0) s.2) (fun i (_ : Unit) => ((i : Int), oneS l.length ++ (l.take i).flatMap valB)) (fun _ _ => ()) (fun _ => (List.replicate 32 0, setB l)) l.length (fun _ _ => True) (fun i w hi _ => ⟨?_, trivial⟩) (fun w _ => ?_) l.length 0 () (by omega) trivial
  ·rw [show ((0 : Int), oneS (l.length : Int)) = (((0 : Nat) : Int), oneS (l.length : Int) ++ (l.take 0).flatMap valB) from by simp]
   exact this
  ·show q37_1_step l (l.length : Int) (i : Int) (List.replicate 32 0) (oneS l.length ++ (l.take i).flatMap valB) = _
   have hv := h.2 _ (K2g (z := zVal) hi)
   have b := K7q h i
   have b2 := K90 hv
   rw [K92, K2c (by omega), need_true (by omega), Int.toNat_natCast, vtext_eq _ (by simp) (by simp; exact hv.1), K05, put_eq _ (by simp), K05, K2u _ (by simp) (by simp; exact hv.2), K05]
   have e : [oneS (l.length : Int) ++ (l.take i).flatMap valB, [(l.getD i zVal).1].flatMap txtS, putS [(l.getD i zVal).2.1], [(l.getD i zVal).2.2.1].flatten].flatten = oneS (l.length : Int) ++ (l.take (i + 1)).flatMap valB := by
    rw [K1v valB l zVal hi]
    simp [valB, putS, List.append_assoc]
   have b3 := K7q h (i + 1)
   rw [K13 _ (by rw [e]; omega) (by simp), K05, e, w64_eq (by omega) (by omega)]
   rfl
  ·show q37_1_step l (l.length : Int) (l.length : Int) (List.replicate 32 0) (oneS l.length ++ (l.take l.length).flatMap valB) = _
   unfold q37_1_step
   rw [K26 (by omega), List.take_of_length_le (Nat.le_refl _)]
   rfl
 have b := K7q h l.length
 rw [List.take_of_length_le (Nat.le_refl _)] at b
 have b : (setB l).length ≤ 100100 * 1000 + 7 := b
 have hp : putS [(l.length : Int)] = oneS l.length := by simp [putS]
 have hf : [setB l].flatten = setB l := by simp
 unfold q37
 rw [put_eq _ (by simp), K05, hp, main, K05]
 simp only
 rw [K8k _ _ (by rw [hf]; omega) (by simp), hf]
 rfl
theorem K7d (x : List UInt8) (hx : x.length ≤ 100000) : q1z x = some (txtS x) := by
 have := K4v (x.length : Int)
 unfold q1z
 rw [K74, K05, need_true (by omega)]
 rfl
theorem K03 (x0 : List Val) (x1 : Int) (x2 : Int) (x3 : List UInt8) (x4 : List UInt8) : q15_1_step x0 x1 x2 x3 x4 = (fork (decide (x2 < x1)) (need (0 ≤ x2 ∧ x2 < (List.length x0 : Int)) (andThen (q1z ((List.getD x0 (Int.toNat x2) zVal).1)) (fun u6 => need (List.length x4 + List.length u6 ≤ 2147483648) (andThen (q27 ((List.getD x0 (Int.toNat x2) zVal).2.1)) (fun u9 => need (List.length (x4 ++ u6) + List.length u9 ≤ 2147483648) (need (List.length ((x4 ++ u6) ++ u9) + List.length (List.getD x0 (Int.toNat x2) zVal).2.2.1 ≤ 2147483648) (some (.inl ((w64 (x2 + (1 : Int))), (((x4 ++ u6) ++ u9) ++ (List.getD x0 (Int.toNat x2) zVal).2.2.1)))))))))) (some (.inr (x3, x4))) : Option ((Int × List UInt8) ⊕ (List UInt8 × List UInt8))) := rfl
theorem K79 (l : List Val) (h : SetSm l) : q15 l = some (setH l) := by
 have hl := h.1
 have main : q15_1 l (l.length : Int) 0 (List.replicate 32 0) (oneS l.length) = some (List.replicate 32 0, setB l) := by
  unfold q15_1
  have := K46 (step := fun (s : Int × List UInt8) => q15_1_step l (l.length : Int) s.1 (List.replicate 32 0) s.2) (fun i (_ : Unit) => ((i : Int), oneS l.length ++ (l.take i).flatMap valB)) (fun _ _ => ()) (fun _ => (List.replicate 32 0, setB l)) l.length (fun _ _ => True) (fun i w hi _ => ⟨?_, trivial⟩) (fun w _ => ?_) l.length 0 () (by omega) trivial
  ·rw [show ((0 : Int), oneS (l.length : Int)) = (((0 : Nat) : Int), oneS (l.length : Int) ++ (l.take 0).flatMap valB) from by simp]
   exact this
  ·show q15_1_step l (l.length : Int) (i : Int) (List.replicate 32 0) (oneS l.length ++ (l.take i).flatMap valB) = _
   have hv := h.2 _ (K2g (z := zVal) hi)
   have b := K7q h i
   have b1 := K8t (l.getD i zVal).1
   have b2 := K4v (l.getD i zVal).2.1
   rw [K03, K2c (by omega), need_true (by omega), Int.toNat_natCast, K7d _ hv.1, K05, need_true (by omega), K74, K05, need_true (by rw [List.length_append (as := oneS _ ++ _)]; omega), need_true (by rw [List.length_append (as := (oneS _ ++ _) ++ _), List.length_append (as := oneS _ ++ _)]; omega), w64_eq (by omega) (by omega), K1v valB l zVal hi]
   simp [valB, List.append_assoc]
  ·show q15_1_step l (l.length : Int) (l.length : Int) (List.replicate 32 0) (oneS l.length ++ (l.take l.length).flatMap valB) = _
   unfold q15_1_step
   rw [K26 (by omega), List.take_of_length_le (Nat.le_refl _)]
   rfl
 have b := K7q h l.length
 rw [List.take_of_length_le (Nat.le_refl _)] at b
 have b : (setB l).length ≤ 100100 * 1000 + 7 := b
 have hf : [setB l].flatten = setB l := by simp
 unfold q15
 rw [K74, K05, main, K05]
 simp only
 rw [K7c _ _ (by rw [hf]; omega) (by simp), hf]
 rfl
def leftF : Nat → Nat → Nat → Nat
 | 0, k, n => k
 | f + 1, k, n => if 2 * k < n then leftF f (2 * k) n else k
def leftS (n : Nat) : Nat := leftF 40 1 n
theorem K5f (k f : Nat) : 2 * (2 * k) * 2 ^ f = 2 * k * (2 ^ f * 2) := by
 rw [Nat.mul_comm (2 ^ f) 2, ← Nat.mul_assoc (2 * k) 2 (2 ^ f)]; congr 1; omega
theorem K40 : ∀ (f k n : Nat), 1 ≤ k → k < n → n ≤ 2 * k * 2 ^ f → k ≤ leftF f k n ∧ leftF f k n < n ∧ n ≤ 2 * leftF f k n
 | 0, k, n, h1, h2, h3 => by
  simp only [Nat.pow_zero, Nat.mul_one] at h3
  exact ⟨Nat.le_refl _, h2, h3⟩
 | f + 1, k, n, h1, h2, h3 => by
  rw [leftF]
  split
  ·rename_i h
   have := K40 f (2 * k) n (by omega) h (by rw [Nat.pow_succ] at h3; rw [K5f]; exact h3)
   exact ⟨by omega, this.2⟩
  ·exact ⟨Nat.le_refl _, h2, by omega⟩
theorem K41 (n : Nat) (h : 2 ≤ n) (h2 : n ≤ 1099511627776) : 1 ≤ leftS n ∧ leftS n < n ∧ n ≤ 2 * leftS n := K40 40 1 n (by omega) (by omega) (by omega)
theorem K42 : ∀ (f k n : Nat), n ≤ 2 * k * 2 ^ f → 1 ≤ k → n ≤ 1073741824 → k ≤ 1073741824 → q36_1 (n : Int) (k : Int) = some ((leftF f k n : Nat) : Int)
 | 0, k, n, h, h1, h2, hk => by
  unfold q36_1
  refine loop_out ?_
  unfold q36_1_step
  simp only [Nat.pow_zero, Nat.mul_one] at h
  rw [w64_eq (by omega) (by omega), K26 (by omega)]
  rfl
 | f + 1, k, n, h, h1, h2, hk => by
  rw [leftF]
  split
  ·rename_i hlt
   rw [← K42 f (2 * k) n (by rw [Nat.pow_succ] at h; rw [K5f]; exact h) (by omega) h2 (by omega)]
   have hs : q36_1_step (n : Int) (k : Int) = some (.inl ((2 * k : Nat) : Int)) := by
    unfold q36_1_step
    rw [w64_eq (by omega) (by omega), w64_eq (by omega) (by omega), K2c (by omega), show (k : Int) * 2 = ((2 * k : Nat) : Int) from by omega]
   unfold q36_1
   rw [loop_next hs]
  ·rename_i hlt
   unfold q36_1
   refine loop_out ?_
   unfold q36_1_step
   rw [w64_eq (by omega) (by omega), K26 (by omega)]
theorem left_eq (n : Nat) (h : n ≤ 1073741824) : q36 (n : Int) = some ((leftS n : Nat) : Int) := by
 unfold q36
 rw [show (1 : Int) = ((1 : Nat) : Int) from rfl, K42 40 1 n (by omega) (by omega) h (by omega), K05]
 rfl
def rootW (l : List (List UInt8)) : List UInt8 :=
 if h : 2 ≤ l.length ∧ l.length ≤ 1099511627776 then sha (1 :: (rootW (l.take (leftS l.length)) ++ rootW (l.drop (leftS l.length))))
 else if l.length = 0 then sha [2] else sha (0 :: l.getD 0 [])
termination_by l.length
decreasing_by
 ·have := K41 l.length h.1 h.2; simp; omega
 ·have := K41 l.length h.1 h.2; simp; omega
theorem K6s : ∃ f : List (List UInt8) → List UInt8, ∀ l, f l = if h : 2 ≤ l.length ∧ l.length ≤ 1099511627776 then sha (1 :: (f (l.take (leftS l.length)) ++ f (l.drop (leftS l.length)))) else if l.length = 0 then sha [2] else sha (0 :: l.getD 0 []) :=
 ⟨rootW, fun l => by rw [rootW]⟩
noncomputable def rootS : List (List UInt8) → List UInt8 := Classical.choose K6s
theorem K6r (l : List (List UInt8)) : rootS l = if h : 2 ≤ l.length ∧ l.length ≤ 1099511627776 then sha (1 :: (rootS (l.take (leftS l.length)) ++ rootS (l.drop (leftS l.length)))) else if l.length = 0 then sha [2] else sha (0 :: l.getD 0 []) := Classical.choose_spec K6s l
theorem K6t (l : List (List UInt8)) : (rootS l).length = 32 := by
 rw [K6r]; split
 ·exact K7z _
 ·split <;> exact K7z _
def K35 (a b : List UInt8) : List UInt8 := sha (1 :: (a ++ b))
def leafS (x : List UInt8) : List UInt8 := sha (0 :: x)
theorem K6w (l : List (List UInt8)) (h : 2 ≤ l.length) (h2 : l.length ≤ 1099511627776) : rootS l = K35 (rootS (l.take (leftS l.length))) (rootS (l.drop (leftS l.length))) := by
 rw [K6r, dif_pos ⟨h, h2⟩]; rfl
theorem K6v (x : List UInt8) : rootS [x] = leafS x := by
 rw [K6r, dif_neg (by simp), if_neg (by simp)]; rfl
theorem K6u : rootS [] = sha [2] := by
 rw [K6r, dif_neg (by simp), if_pos (by simp)]
theorem K36 (a b : List UInt8) (ha : a.length = 32) (hb : b.length = 32) : q2w a b = some (K35 a b) := by
 unfold q2w
 have hf : [a, b].flatten = a ++ b := by simp
 rw [K8k _ _ (by rw [hf, List.length_append]; omega) (by simp), hf]
 rfl
def Small (l : List (List UInt8)) : Prop := ∀ x ∈ l, x.length ≤ 1000000
theorem K8a {l : List (List UInt8)} (h : Small l) (n : Nat) : Small (l.take n) := fun x hx => h x (List.mem_of_mem_take hx)
theorem K89 {l : List (List UInt8)} (h : Small l) (n : Nat) : Small (l.drop n) := fun x hx => h x (List.mem_of_mem_drop hx)
theorem K6x : ∀ (k : Nat) (l : List (List UInt8)), l.length < k → l.length ≤ 1000 → Small l → q2i k l = some (rootS l)
 | 0, l, h, _, _ => by omega
 | k + 1, l, h, h2, hl => by
  rw [q2i]
  match l, h, h2, hl with
  | [], h, h2, hl =>
   rw [K2c (by simp), K8k _ _ (by simp) (by simp), K6u]; rfl
  | [x], h, h2, hl =>
   have hx := hl x (by simp)
   have hf : [List.getD [x] (Int.toNat (0 : Int)) []].flatten = x := by simp
   rw [K26 (by simp), K2c (by simp), need_true (by simp), K8k _ _ (by rw [hf]; omega) (by simp), hf, K6v]; rfl
  | x :: y :: r, h, h2, hl =>
   have hn : 2 ≤ (x :: y :: r).length := by simp
   generalize x :: y :: r = l at h h2 hl hn
   obtain ⟨b1, b2, b3⟩ := K41 l.length hn (by omega)
   rw [K26 (by omega), K26 (by omega), left_eq _ (by omega), K05, need_true (by omega), K18, K17, Int.toNat_natCast, K6x k (l.take (leftS l.length)) (by rw [List.length_take]; omega) (by rw [List.length_take]; omega) (K8a hl _), K05, need_true (by omega),
    K6x k (l.drop (leftS l.length)) (by rw [List.length_drop]; omega) (by rw [List.length_drop]; omega) (K89 hl _), K05, K36 _ _ (K6t _) (K6t _), K05, K6w l hn (by omega)]
theorem root_eq (l : List (List UInt8)) (h : l.length < 64) (hl : Small l) : q3b l = some (rootS l) := K6x 64 l h (by omega) hl
noncomputable def pathF : Nat → List (List UInt8) → Nat → List (List UInt8)
 | 0, _, _ => []
 | f + 1, l, i => if l.length ≤ 1 then [] else if i < leftS l.length then pathF f (l.take (leftS l.length)) i ++ [rootS (l.drop (leftS l.length))]
   else pathF f (l.drop (leftS l.length)) (i - leftS l.length) ++ [rootS (l.take (leftS l.length))]
def K81 : Nat → Nat → Nat → List Bool
 | 0, _, _ => []
 | f + 1, i, n => if n ≤ 1 then [] else if i < leftS n then true :: K81 f i (leftS n) else false :: K81 f (i - leftS n) (n - leftS n)
theorem K59 : ∀ (f g : Nat) (l : List (List UInt8)) (i : Nat), l.length ≤ f + 1 → l.length ≤ g + 1 → l.length ≤ 1000 → pathF f l i = pathF g l i
 | 0, g, l, i, h, _, _ => by
  cases g with
  | zero => rfl
  | succ g => rw [pathF, pathF, if_pos h]
 | f + 1, 0, l, i, _, h, _ => by rw [pathF, pathF, if_pos h]
 | f + 1, g + 1, l, i, h, h2, h3 => by
  rw [pathF, pathF]
  by_cases h1 : l.length ≤ 1
  ·rw [if_pos h1, if_pos h1]
  ·obtain ⟨b1, b2, b3⟩ := K41 l.length (by omega) (by omega)
   rw [if_neg h1, if_neg h1, K59 f g (l.take (leftS l.length)) i (by rw [List.length_take]; omega) (by rw [List.length_take]; omega) (by rw [List.length_take]; omega), K59 f g (l.drop (leftS l.length)) _ (by rw [List.length_drop]; omega) (by rw [List.length_drop]; omega) (by rw [List.length_drop]; omega)]
theorem K5b : ∀ (f : Nat) (l : List (List UInt8)) (i : Nat), l.length ≤ 1000 → (pathF f l i).length = (K81 f i l.length).length
 | 0, _, _, _ => rfl
 | f + 1, l, i, h => by
  rw [pathF, K81]
  by_cases h1 : l.length ≤ 1
  ·rw [if_pos h1, if_pos h1]; rfl
  ·obtain ⟨b1, b2, b3⟩ := K41 l.length (by omega) (by omega)
   rw [if_neg h1, if_neg h1]
   by_cases hi : i < leftS l.length
   ·rw [if_pos hi, if_pos hi, List.length_append, K5b f _ _ (by rw [List.length_take]; omega), List.length_take, Nat.min_eq_left (by omega)]; simp
   ·rw [if_neg hi, if_neg hi, List.length_append, K5b f _ _ (by rw [List.length_drop]; omega), List.length_drop]; simp
theorem K5a : ∀ (f : Nat) (l : List (List UInt8)) (i : Nat), (pathF f l i).length ≤ f
 | 0, _, _ => by simp [pathF]
 | f + 1, l, i => by
  rw [pathF]; split
  ·simp
  ·split
   ·have := K5a f (l.take (leftS l.length)) i; simp; omega
   ·have := K5a f (l.drop (leftS l.length)) (i - leftS l.length); simp; omega
theorem K58 : ∀ (f : Nat) (l : List (List UInt8)) (i : Nat), ∀ x ∈ pathF f l i, x.length = 32
 | 0, _, _, x, hx => by simp [pathF] at hx
 | f + 1, l, i, x, hx => by
  rw [pathF] at hx; split at hx
  ·simp at hx
  ·split at hx
   ·rcases List.mem_append.1 hx with h | h
    ·exact K58 f _ _ x h
    ·simp at h; rw [h]; exact K6t _
   ·rcases List.mem_append.1 hx with h | h
    ·exact K58 f _ _ x h
    ·simp at h; rw [h]; exact K6t _
abbrev zT : List UInt8 := List.replicate 32 (0 : UInt8)
noncomputable def pathS (l : List (List UInt8)) (i : Int) : List (List UInt8) := if 0 ≤ i ∧ i < (l.length : Int) then pathF l.length l i.toNat else []
theorem K83 : ∀ (f i n : Nat) (acc : List Bool), n ≤ f + 1 → n ≤ 1073741824 → i < n ∨ n = 0 → acc.length ≤ 10000000 - f → f ≤ 5000000 → q2x_1 (i : Int) (n : Int) acc = some (acc ++ K81 f i n)
 | 0, i, n, acc, h, h2, hi, ha, hf => by
  unfold q2x_1
  refine loop_out ?_
  unfold q2x_1_step
  rw [K26 (by show ¬ (1 : Int) < (n : Int); omega)]
  simp [K81]
 | f + 1, i, n, acc, h, h2, hi, ha, hf => by
  by_cases h1 : n ≤ 1
  ·rw [K81, if_pos h1]
   unfold q2x_1
   refine loop_out ?_
   unfold q2x_1_step
   rw [K26 (by show ¬ (1 : Int) < (n : Int); omega)]
   simp
  ·obtain ⟨b1, b2, b3⟩ := K41 n (by omega) (by omega)
   rw [K81, if_neg h1]
   by_cases hl : i < leftS n
   ·rw [if_pos hl, show acc ++ true :: K81 f i (leftS n) = (acc ++ [true]) ++ K81 f i (leftS n) from by simp]
    have hst : q2x_1_step (i : Int) (n : Int) acc = some (.inl ((i : Int), ((leftS n : Nat) : Int), acc ++ [true])) := by
     unfold q2x_1_step
     rw [K2c (by omega), left_eq _ (by omega), K05, need_true (by simp; omega), decide_eq_true (show (i : Int) < ((leftS n : Nat) : Int) by omega), K2d]
    rw [← K83 f i (leftS n) (acc ++ [true]) (by omega) (by omega) (by omega) (by simp; omega) (by omega)]
    unfold q2x_1
    rw [loop_next hst]
   ·rw [if_neg hl, show acc ++ false :: K81 f (i - leftS n) (n - leftS n) = (acc ++ [false]) ++ K81 f (i - leftS n) (n - leftS n) from by simp]
    have hst : q2x_1_step (i : Int) (n : Int) acc = some (.inl (((i - leftS n : Nat) : Int), ((n - leftS n : Nat) : Int), acc ++ [false])) := by
     unfold q2x_1_step
     rw [K2c (by omega), left_eq _ (by omega), K05, need_true (by simp; omega), decide_eq_false (show ¬ (i : Int) < ((leftS n : Nat) : Int) by omega), K27, w64_eq (by omega) (by omega), w64_eq (by omega) (by omega),
      show (i : Int) - ((leftS n : Nat) : Int) = ((i - leftS n : Nat) : Int) from by omega, show (n : Int) - ((leftS n : Nat) : Int) = ((n - leftS n : Nat) : Int) from by omega]
    rw [← K83 f (i - leftS n) (n - leftS n) (acc ++ [false]) (by omega) (by omega) (by omega) (by simp; omega) (by omega)]
    unfold q2x_1
    rw [loop_next hst]
theorem K82 (i n : Nat) (h : i < n) (hn : n ≤ 1000000) : q2x (i : Int) (n : Int) = some (K81 n i n) := by
 unfold q2x
 rw [K83 n i n [] (by omega) (by omega) (by omega) (by simp) (by omega), K05]
 rfl
def isS (i n : Int) : Bool := decide (0 ≤ i) && (decide (i < n) && decide (n ≤ 1048576))
theorem is_eq (i n : Int) : q3i i n = some (isS i n) := by
 unfold q3i isS
 simp only [K28]
 cases decide (0 ≤ i) <;> cases decide (i < n) <;> simp
theorem K39 (i n : Int) : isS i n = true ↔ 0 ≤ i ∧ i < n ∧ n ≤ 1048576 := by
 unfold isS; simp
theorem depth_eq (i n : Int) (hn : n ≤ 1000000 ∨ 1048576 < n) : q2u i n = some (if isS i n then ((K81 n.toNat i.toNat n.toNat).length : Int) else -1) := by
 unfold q2u
 rw [is_eq, K05]
 cases h : isS i n with
 | false => rfl
 | true =>
  obtain ⟨h1, h2, h3⟩ := (K39 i n).1 h
  obtain ⟨a, rfl⟩ := Int.eq_ofNat_of_zero_le h1
  obtain ⟨b, rfl⟩ := Int.eq_ofNat_of_zero_le (show 0 ≤ n by omega)
  rw [show (!true) = false from rfl, K27, K82 a b (by omega) (by omega), K05]
  rfl
def climb : List Bool → List (List UInt8) → List UInt8 → List UInt8
 | b :: bs, p :: ps, h => climb bs ps (if b then K35 h p else K35 p h)
 | _, _, h => h
theorem K0v : ∀ (bs : List Bool) (ps : List (List UInt8)) (h : List UInt8) (b : Bool) (p : List UInt8), bs.length = ps.length → climb (bs ++ [b]) (ps ++ [p]) h = if b then K35 (climb bs ps h) p else K35 p (climb bs ps h)
 | [], [], h, b, p, _ => rfl
 | x :: bs, y :: ps, h, b, p, e => by
  show climb (bs ++ [b]) (ps ++ [p]) _ = _
  rw [K0v bs ps _ b p (by simpa using e)]
  rfl
 | [], _ :: _, _, _, _, e => by simp at e
 | _ :: _, [], _, _, _, e => by simp at e
theorem K0u : ∀ (bs : List Bool) (ps : List (List UInt8)) (h : List UInt8), h.length = 32 → (climb bs ps h).length = 32
 | [], _, h, e => by simpa [climb] using e
 | _ :: _, [], h, e => by simpa [climb] using e
 | b :: bs, p :: ps, h, e => by
  rw [climb]
  exact K0u bs ps _ (by split <;> exact K7z _)
theorem K0w (bs : List Bool) (ps : List (List UInt8)) (h : List UInt8) (i : Nat) (h1 : i < bs.length) (h2 : i < ps.length) :
  climb (bs.take (i + 1)) (ps.take (i + 1)) h = if bs.getD i false then K35 (climb (bs.take i) (ps.take i) h) (ps.getD i zT) else K35 (ps.getD i zT) (climb (bs.take i) (ps.take i) h) := by
 rw [List.take_add_one, List.take_add_one, List.getElem?_eq_getElem h1, List.getElem?_eq_getElem h2, Option.toList_some, Option.toList_some, K0v _ _ _ _ _ (by simp; omega)]
 rw [List.getD_eq_getElem?_getD, List.getElem?_eq_getElem h1, List.getD_eq_getElem?_getD, List.getElem?_eq_getElem h2]
 rfl
theorem up_loop (z h : List UInt8) (l : List Bool) (p : List (List UInt8)) (hl : l.length = p.length) (hp : ∀ x ∈ p, x.length = 32) (hh : h.length = 32) (hb : p.length ≤ 100000) : q3n_1 p (p.length : Int) 0 z h l = some (z, climb l.reverse p h) := by
 unfold q3n_1
 have := K46 (step := fun (s : Int × List UInt8) => q3n_1_step p (p.length : Int) s.1 z s.2 l) (fun i (_ : Unit) => ((i : Int), climb (l.reverse.take i) (p.take i) h)) (fun _ _ => ()) (fun _ => (z, climb l.reverse p h)) p.length (fun _ _ => True) (fun i w hi _ => ⟨?_, trivial⟩) (fun w _ => ?_) p.length 0 () (by omega) trivial
 ·exact this
 ·show q3n_1_step p (p.length : Int) (i : Int) z (climb (l.reverse.take i) (p.take i) h) l = _
  unfold q3n_1_step
  have hg : (p.getD i (List.replicate 32 0)).length = 32 := by
   rw [List.getD_eq_getElem?_getD, List.getElem?_eq_getElem hi]; exact hp _ (List.getElem_mem _)
  have hc := K0u (l.reverse.take i) (p.take i) h hh
  have hr : l.getD (l.length - 1 - i) false = l.reverse.getD i false := by
   rw [List.getD_eq_getElem?_getD, List.getD_eq_getElem?_getD, List.getElem?_reverse (by omega)]
  rw [K2c (by omega), need_true (by omega), w64_eq (n := (l.length : Int) - 1) (by omega) (by omega), w64_eq (by omega) (by omega), need_true (by omega), show Int.toNat ((l.length : Int) - 1 - (i : Int)) = l.length - 1 - i from by omega, hr, Int.toNat_natCast, K36 _ _ hc hg, K36 _ _ hg hc, K05, K05, w64_eq (by omega) (by omega),
   K0w _ _ _ _ (by rw [List.length_reverse]; omega) hi]
  cases l.reverse.getD i false <;> rfl
 ·show q3n_1_step p (p.length : Int) (p.length : Int) z _ l = _
  unfold q3n_1_step
  rw [K26 (by omega), List.take_of_length_le (Nat.le_refl _), List.take_of_length_le (by rw [List.length_reverse]; omega)]
def upS (leaf : List UInt8) (i n : Int) (p : List (List UInt8)) : List UInt8 × Bool :=
 if isS i n ∧ p.length = (K81 n.toNat i.toNat n.toNat).length then (climb (K81 n.toNat i.toNat n.toNat).reverse p (leafS leaf), true) else (zT, false)
theorem up_eq (leaf : List UInt8) (hf : leaf.length ≤ 1000000) (i n : Int) (hn : n ≤ 1000000) (p : List (List UInt8)) (hp : ∀ x ∈ p, x.length = 32) (hb : p.length ≤ 100000) : q3n leaf i n p = some (upS leaf i n p) := by
 unfold q3n upS
 rw [is_eq, K05]
 cases h : isS i n with
 | false => rw [if_neg (by simp)]; rfl
 | true =>
  obtain ⟨h1, h2, h3⟩ := (K39 i n).1 h
  rw [show (!true) = false from rfl, K27, depth_eq i n (.inl hn), h, if_pos rfl, K05]
  by_cases e : p.length = (K81 n.toNat i.toNat n.toNat).length
  ·rw [K2b (by omega), if_pos ⟨rfl, e⟩, root_eq [leaf] (by simp) (by intro x hx; simp at hx; rw [hx]; exact hf), K05]
   have hsd := K82 i.toNat n.toNat (by omega) (by omega)
   rw [show ((i.toNat : Nat) : Int) = i from by omega, show ((n.toNat : Nat) : Int) = n from by omega] at hsd
   rw [hsd, K05, up_loop _ _ _ _ e.symm hp (K6t _) hb, K05, K6v]
  ·rw [K29 (by omega), if_neg (fun h => e h.2)]
theorem K5c : ∀ (f : Nat) (l : List (List UInt8)) (i : Nat), i < l.length → l.length ≤ f + 1 → l.length ≤ 1000 → climb (K81 f i l.length).reverse (pathF f l i) (leafS (l.getD i [])) = rootS l
 | 0, l, i, hi, h, h2 => by
  match l, hi, h with
  | [x], hi, h =>
   have : i = 0 := by simp at hi; exact hi
   subst this
   rw [K6v]; rfl
 | f + 1, l, i, hi, h, h2 => by
  rw [K81, pathF]
  by_cases h1 : l.length ≤ 1
  ·rw [if_pos h1, if_pos h1]
   match l, hi, h1 with
   | [x], hi, h1 =>
    have : i = 0 := by simp at hi; exact hi
    subst this
    rw [K6v]; rfl
  ·obtain ⟨b1, b2, b3⟩ := K41 l.length (by omega) (by omega)
   rw [if_neg h1, if_neg h1, K6w l (by omega) (by omega)]
   by_cases hl : i < leftS l.length
   ·rw [if_pos hl, if_pos hl, List.reverse_cons, K0v _ _ _ _ _ (by rw [List.length_reverse, K5b f _ _ (by rw [List.length_take]; omega), List.length_take, Nat.min_eq_left (by omega)]), if_pos rfl]
    have ih := K5c f (l.take (leftS l.length)) i (by rw [List.length_take]; omega) (by rw [List.length_take]; omega) (by rw [List.length_take]; omega)
    rw [List.length_take, Nat.min_eq_left (by omega)] at ih
    have hg : (l.take (leftS l.length)).getD i [] = l.getD i [] := by
     rw [List.getD_eq_getElem?_getD, List.getD_eq_getElem?_getD, List.getElem?_take_of_lt hl]
    rw [hg] at ih
    rw [ih]
   ·rw [if_neg hl, if_neg hl, List.reverse_cons, K0v _ _ _ _ _ (by rw [List.length_reverse, K5b f _ _ (by rw [List.length_drop]; omega), List.length_drop]), if_neg (by simp)]
    have ih := K5c f (l.drop (leftS l.length)) (i - leftS l.length) (by rw [List.length_drop]; omega) (by rw [List.length_drop]; omega) (by rw [List.length_drop]; omega)
    rw [List.length_drop] at ih
    have hg : (l.drop (leftS l.length)).getD (i - leftS l.length) [] = l.getD i [] := by
     rw [List.getD_eq_getElem?_getD, List.getD_eq_getElem?_getD, List.getElem?_drop]; congr 2; omega
    rw [hg] at ih
    rw [ih]
theorem K2t : ∀ (f k n : Nat), n ≤ 2 * k * 2 ^ f → 1 ≤ k → n ≤ 1073741824 → k ≤ 1073741824 → q1u_1 (n : Int) (k : Int) = some ((leftF f k n : Nat) : Int)
 | 0, k, n, h, h1, h2, hk => by
  unfold q1u_1
  refine loop_out ?_
  unfold q1u_1_step
  simp only [Nat.pow_zero, Nat.mul_one] at h
  rw [w64_eq (by omega) (by omega), K26 (by omega)]
  rfl
 | f + 1, k, n, h, h1, h2, hk => by
  rw [leftF]
  split
  ·rename_i hlt
   rw [← K2t f (2 * k) n (by rw [Nat.pow_succ] at h; rw [K5f]; exact h) (by omega) h2 (by omega)]
   have hs : q1u_1_step (n : Int) (k : Int) = some (.inl ((2 * k : Nat) : Int)) := by
    unfold q1u_1_step
    rw [w64_eq (by omega) (by omega), K2c (by omega), show 2 * (k : Int) = ((2 * k : Nat) : Int) from by omega]
   unfold q1u_1
   rw [loop_next hs]
  ·rename_i hlt
   unfold q1u_1
   refine loop_out ?_
   unfold q1u_1_step
   rw [w64_eq (by omega) (by omega), K26 (by omega)]
theorem K2s (n : Nat) (h : n ≤ 1073741824) : q1u (n : Int) = some ((leftS n : Nat) : Int) := by
 unfold q1u
 rw [show (1 : Int) = ((1 : Nat) : Int) from rfl, K2t 40 1 n (by omega) (by omega) h (by omega), K05]
 rfl
theorem K6l (a b : List UInt8) (ha : a.length = 32) (hb : b.length = 32) : q1e 1 [a, b] = some (K35 a b) := by
 have hf : [a, b].flatten = a ++ b := by simp
 rw [K7c _ _ (by rw [hf, List.length_append]; omega) (by simp), hf]
 rfl
theorem K77 : ∀ (k : Nat) (l : List (List UInt8)), l.length < k → l.length ≤ 1000 → Small l → q1g k l = some (rootS l)
 | 0, l, h, _, _ => by omega
 | k + 1, l, h, h2, hl => by
  rw [q1g]
  match l, h, h2, hl with
  | [], h, h2, hl =>
   rw [K2c (by simp), K7c _ _ (by simp) (by simp), K6u]; rfl
  | [x], h, h2, hl =>
   have hx := hl x (by simp)
   have hf : [List.getD [x] (Int.toNat (0 : Int)) []].flatten = x := by simp
   rw [K26 (by simp), K2c (by simp), need_true (by simp), K7c _ _ (by rw [hf]; omega) (by simp), hf, K6v]; rfl
  | x :: y :: r, h, h2, hl =>
   have hn : 2 ≤ (x :: y :: r).length := by simp
   generalize x :: y :: r = l at h h2 hl hn
   obtain ⟨b1, b2, b3⟩ := K41 l.length hn (by omega)
   rw [K26 (by omega), K26 (by omega), K2s _ (by omega), K05, need_true (by omega), K18, K17, Int.toNat_natCast, K77 k (l.take (leftS l.length)) (by rw [List.length_take]; omega) (by rw [List.length_take]; omega) (K8a hl _), K05, need_true (by omega),
    K77 k (l.drop (leftS l.length)) (by rw [List.length_drop]; omega) (by rw [List.length_drop]; omega) (K89 hl _), K05, K6l _ _ (K6t _) (K6t _), K05, K6w l hn (by omega)]
theorem K76 (l : List (List UInt8)) (h : l.length < 64) (hl : Small l) : q21 l = some (rootS l) := K77 64 l h (by omega) hl
theorem K72 : ∀ (k : Nat) (l : List (List UInt8)) (i : Int), l.length < k → l.length < 64 → Small l → q1k k l i = some (if 0 ≤ i ∧ i < (l.length : Int) then pathF l.length l i.toNat else [])
 | 0, l, i, h, _, _ => by omega
 | k + 1, l, i, h, h2, hl => by
  rw [q1k]
  by_cases h0 : i < 0
  ·rw [K2c h0, if_neg (by omega)]
  ·rw [K26 h0]
   by_cases h1 : (l.length : Int) ≤ i
   ·rw [K2c h1, if_neg (by omega)]
   ·rw [K26 h1, if_pos (by omega)]
    by_cases h3 : l.length = 1
    ·rw [K2c (by omega), h3, pathF, if_pos (by omega)]
    ·rw [K26 (by omega), K2s _ (by omega), K05]
     obtain ⟨b1, b2, b3⟩ := K41 l.length (by omega) (by omega)
     obtain ⟨q, hq⟩ : ∃ q, l.length = q + 1 := ⟨l.length - 1, by omega⟩
     have hp : pathF l.length l i.toNat = if i.toNat < leftS l.length then pathF q (l.take (leftS l.length)) i.toNat ++ [rootS (l.drop (leftS l.length))] else pathF q (l.drop (leftS l.length)) (i.toNat - leftS l.length) ++ [rootS (l.take (leftS l.length))] := by
      conv => lhs; rw [hq]
      rw [pathF, if_neg (by omega)]
     rw [hp]
     by_cases h4 : i.toNat < leftS l.length
     ·have lt : (l.take (leftS l.length)).length = leftS l.length := by rw [List.length_take]; omega
      have hpl := K5a q (l.take (leftS l.length)) i.toNat
      rw [if_pos h4, K2c (by omega), need_true (by omega), K18, K17, Int.toNat_natCast, K72 k (l.take (leftS l.length)) i (by omega) (by omega) (K8a hl _), K05, if_pos (by omega), need_true (by omega), K76 _ (by rw [List.length_drop]; omega) (K89 hl _), K05,
       K59 _ q _ _ (by omega) (by omega) (by omega), need_true (by simp; omega)]
     ·have ld : (l.drop (leftS l.length)).length = l.length - leftS l.length := by rw [List.length_drop]
      have hpl := K5a q (l.drop (leftS l.length)) (i.toNat - leftS l.length)
      rw [if_neg h4, K26 (by omega), need_true (by omega), K18, K17, Int.toNat_natCast, w64_eq (by omega) (by omega), K72 k (l.drop (leftS l.length)) (i - ((leftS l.length : Nat) : Int)) (by omega) (by omega) (K89 hl _), K05, if_pos (by omega), need_true (by omega), K76 _ (by rw [List.length_take]; omega) (K8a hl _), K05,
       show Int.toNat (i - ((leftS l.length : Nat) : Int)) = i.toNat - leftS l.length from by omega, K59 _ q _ _ (by omega) (by omega) (by omega), need_true (by simp; omega)]
theorem rpath_eq (l : List (List UInt8)) (i : Int) (h : l.length < 64) (hl : Small l) : q1y l i = some (pathS l i) := K72 64 l i h h hl
def leafB (p : Pr) : List UInt8 := txtS p.1 ++ txtS p.2.1
def K3w (l : List Pr) : List (List UInt8) := l.map leafB
def KvOk (l : List Pr) : Prop := l.length ≤ 60 ∧ ∀ p ∈ l, p.1.length ≤ 100000 ∧ p.2.1.length ≤ 100000
theorem K3x (l : List Pr) : (K3w l).length = l.length := by simp [K3w]
theorem K3v {p : Pr} (h : p.1.length ≤ 100000 ∧ p.2.1.length ≤ 100000) : (leafB p).length ≤ 200100 := by
 have a := K8t p.1
 have b := K8t p.2.1
 unfold leafB; rw [List.length_append]; omega
theorem K3y {l : List Pr} (h : KvOk l) : Small (K3w l) := by
 intro x hx
 obtain ⟨p, hp, rfl⟩ := List.mem_map.1 hx
 have := K3v (h.2 p hp)
 omega
theorem K3z (l : List Pr) {i : Nat} (hi : i < l.length) : K3w (l.take i) ++ [leafB (l.getD i zPr)] = K3w (l.take (i + 1)) := by
 unfold K3w
 rw [List.take_add_one, List.map_append, List.getElem?_eq_getElem hi, List.getD_eq_getElem?_getD, List.getElem?_eq_getElem hi]; rfl
theorem K98 (a lo hi : Int) (h : lo ≤ hi) (h1 : -1099511627776 ≤ lo) (h2 : hi ≤ 1099511627776) : ∃ r, q1c a lo hi = some r ∧ lo ≤ r ∧ r ≤ hi := by
 unfold q1c
 have hn : w64 (w64 (hi - lo) + 1) = hi - lo + 1 := by simp (disch := omega) only [w64_eq]
 rw [hn, need_true (by omega)]
 have hb : Int.tmod a (hi - lo + 1) < hi - lo + 1 ∧ -(hi - lo + 1) < Int.tmod a (hi - lo + 1) := by
  constructor
  ·exact Int.tmod_lt_of_pos a (by omega)
  ·have := Int.tmod_lt_of_pos (-a) (b := hi - lo + 1) (by omega)
   rw [Int.neg_tmod] at this; omega
 generalize Int.tmod a (hi - lo + 1) = t at hb
 by_cases ht : t < 0
 ·rw [K2c ht]
  simp (disch := omega) only [w64_eq]
  exact ⟨_, rfl, by omega, by omega⟩
 ·rw [K26 ht]
  simp (disch := omega) only [w64_eq]
  exact ⟨_, rfl, by omega, by omega⟩
def nm (i : Nat) : List UInt8 := ([[118, 97], [118, 98], [118, 99], [118, 100]] : List (List UInt8)).getD i []
def ky (i : Nat) : List UInt8 := List.set (List.replicate 32 (0 : UInt8)) 0 (UInt8.ofNat (Int.toNat (((i : Int) + 1) % 256)))
def wv (a : Int) : Int := (q1c a 1 9).getD 1
theorem wv_eq (a : Int) : q1c a 1 9 = some (wv a) ∧ 1 ≤ wv a ∧ wv a ≤ 9 := by
 obtain ⟨r, h, h1, h2⟩ := K98 a 1 9 (by omega) (by omega) (by omega)
 unfold wv; rw [h]; exact ⟨rfl, h1, h2⟩
def pw (ps : List Int) (i : Nat) : Int := if i < ps.length then wv (ps.getD i 0) else 1
theorem pw_b (ps : List Int) (i : Nat) : 1 ≤ pw ps i ∧ pw ps i ≤ 9 := by
 unfold pw; split
 ·exact (wv_eq _).2
 ·omega
def setN (ps : List Int) : Nat := max 1 (min 4 ps.length)
def mkVal (p : Nat → Int) (i : Nat) : Val := (nm i, p i, ky i, ())
def setS (ps : List Int) : List Val := (List.range (setN ps)).map (mkVal (pw ps))
def K7s (ps : List Int) (i : Nat) (l : List Val) : List Val := if i = 0 ∨ i < ps.length then l ++ [mkVal (pw ps) i] else l
theorem set_run (ps : List Int) : K7e (K7s ps) 0 4 [] = setS ps := by
 unfold setS setN
 simp only [K7e, K7s]
 by_cases h3 : 3 < ps.length
 ·rw [show max 1 (min 4 ps.length) = 4 from by omega]; simp [h3, show 1 < ps.length from by omega, show 2 < ps.length from by omega, List.range_succ]
 ·by_cases h2 : 2 < ps.length
  ·rw [show max 1 (min 4 ps.length) = 3 from by omega]; simp [h3, h2, show 1 < ps.length from by omega, List.range_succ]
  ·by_cases h1 : 1 < ps.length
   ·rw [show max 1 (min 4 ps.length) = 2 from by omega]; simp [h3, h2, h1, List.range_succ]
   ·rw [show max 1 (min 4 ps.length) = 1 from by omega]; simp [h3, h2, h1, List.range_succ]
theorem set_eq (ps : List Int) (hp : ps.length ≤ 140737488351232) : q28 ps = some (setS ps) := by
 unfold q28 q1q
 rw [K05]
 have main : q28_1 ps 4 0 [] [[118, 97], [118, 98], [118, 99], [118, 100]] = some (K7e (K7s ps) 0 4 []) := by
  unfold q28_1
  refine K46 (step := fun (s : Int × List Val) => q28_1_step ps 4 s.1 s.2 [[118, 97], [118, 98], [118, 99], [118, 100]]) (fun i l => ((i : Int), l)) (K7s ps) (fun l => l) 4 (fun i l => l.length ≤ i) (fun i l hi hl => ⟨?_, ?_⟩) (fun l hl => ?_) 4 0 [] (by omega) (by simp)
  ·show q28_1_step ps 4 (i : Int) l [[118, 97], [118, 98], [118, 99], [118, 100]] = _
   unfold q28_1_step
   have hlen : List.length [([118, 97] : List UInt8), [118, 98], [118, 99], [118, 100]] = 4 := rfl
   have hw := (wv_eq (ps.getD i 0)).1
   have ho : ∀ x : Val, List.length [x] = 1 := fun _ => rfl
   simp (disch := omega) only [hlen, K2c, need_true, Int.toNat_natCast, w64_eq, hw, K05, ho]
   unfold K7s mkVal pw
   by_cases h0 : i = 0
   ·rw [K2c (by omega), if_pos (Or.inl h0)]
    by_cases hc : i < ps.length
    ·rw [K2c (by omega), need_true (by omega), if_pos hc]; rfl
    ·rw [K26 (by omega), if_neg hc]; rfl
   ·rw [K26 (by omega)]
    by_cases hc : i < ps.length
    ·rw [K2c (by omega), need_true (by omega), if_pos (Or.inr hc), if_pos hc]; rfl
    ·rw [K26 (by omega), if_neg (by omega)]; rfl
  ·unfold K7s
   split
   ·simp; omega
   ·omega
  ·show q28_1_step ps 4 4 l _ = _
   unfold q28_1_step
   rfl
 show andThen (q28_1 ps 4 0 [] [[118, 97], [118, 98], [118, 99], [118, 100]]) _ = _
 rw [main, K05, set_run]
theorem K62 (x0 : List Pr) (x1 : List UInt8) (x2 : Int) : q1l_1_step x0 x1 x2 =
  (fork (decide (x2 < (List.length x0 : Int))) (need (0 ≤ x2 ∧ x2 < (List.length x0 : Int)) (fork (sless (List.getD x0 (Int.toNat x2) zPr).1 x1) (some (.inl (w64 (x2 + (1 : Int))))) (some (.inr x2)))) (some (.inr x2)) : Option ((Int) ⊕ (Int))) := rfl
theorem K6n (x0 : List Pr) (x1 : Int) (x2 : Int) (x3 : List (List UInt8)) : q1h_1_step x0 x1 x2 x3 =
  (fork (decide (x2 < x1)) (need (0 ≤ x2 ∧ x2 < (List.length x0 : Int)) (andThen (q1w (List.getD x0 (Int.toNat x2) zPr)) (fun u4 => need (List.length x3 + List.length ([u4] : List (List UInt8)) ≤ 2147483648) (some (.inl ((w64 (x2 + (1 : Int))), (x3 ++ ([u4] : List (List UInt8))))))))) (some (.inr x3)) : Option ((Int × List (List UInt8)) ⊕ (List (List UInt8)))) := rfl
theorem K61 (l : List Pr) (hl : l.length ≤ 1000) (k : List UInt8) : ∀ (m i : Nat), i + m = K09 l k → q1l_1 l k (i : Int) = some (K09 l k : Int)
 | 0, i, h => by
  have hb := below_le l k
  unfold q1l_1
  refine loop_out ?_
  show q1l_1_step l k (i : Int) = _
  have hi : i = K09 l k := by omega
  rw [K62]
  by_cases c : i < l.length
  ·rw [K2c (by omega), need_true (by omega), Int.toNat_natCast, hi, K0a l k (by omega), K27]
  ·rw [K26 (by omega), hi]
 | m + 1, i, h => by
  have hb := below_le l k
  have ih := K61 l hl k m (i + 1) (by omega)
  unfold q1l_1 at ih ⊢
  have hs : q1l_1_step l k (i : Int) = some (.inl ((i + 1 : Nat) : Int)) := by
   rw [K62, K2c (by omega), need_true (by omega), Int.toNat_natCast, K0c l k i (by omega), K2d, w64_eq (by omega) (by omega)]; rfl
  rw [loop_next hs]
  exact ih
theorem K60 (l : List Pr) (hl : l.length ≤ 1000) (k : List UInt8) : q1l l k = some (K09 l k : Int) := by
 unfold q1l
 rw [show (0 : Int) = ((0 : Nat) : Int) from rfl, K61 l hl k (K09 l k) 0 (by omega), K05]
theorem rLeaf_eq (p : Pr) (h : p.1.length ≤ 100000 ∧ p.2.1.length ≤ 100000) : q1w p = some (leafB p) := by
 have a := K8t p.1
 have b := K8t p.2.1
 unfold q1w
 rw [K7d _ h.1, K05, K7d _ h.2, K05, need_true (by omega)]; rfl
theorem K6m (l : List Pr) (h : KvOk l) : q1h l = some (K3w l) := by
 have hl := h.1
 have m1 : q1h_1 l (l.length : Int) 0 [] = some (K3w l) := by
  unfold q1h_1
  have := K46 (step := fun (s : Int × List (List UInt8)) => q1h_1_step l (l.length : Int) s.1 s.2) (fun i (_ : Unit) => ((i : Int), K3w (l.take i))) (fun _ _ => ()) (fun _ => K3w l) l.length (fun _ _ => True) (fun i w hi _ => ⟨?_, trivial⟩) (fun w _ => ?_) l.length 0 () (by omega) trivial
  ·exact this
  ·show q1h_1_step l (l.length : Int) (i : Int) (K3w (l.take i)) = _
   rw [K6n, K2c (by omega), need_true (by omega), Int.toNat_natCast, rLeaf_eq _ (h.2 _ (K2g hi)), K05, need_true (by rw [K3x, List.length_take]; simp only [List.length_cons, List.length_nil]; omega), K3z l hi, w64_eq (by omega) (by omega)]
   rfl
  ·show q1h_1_step l (l.length : Int) (l.length : Int) (K3w (l.take l.length)) = _
   rw [K6n, K26 (by omega), List.take_of_length_le (Nat.le_refl _)]
 unfold q1h
 rw [m1, K05]
def K3d : List (List UInt8) := [[97], [97, 98], [97, 98, 99], [98], [98, 97], [115, 47, 97], [115, 47, 98], [115, 47, 99], [116], [117], [122], [122, 122]]
theorem keys_eq : q1x = some K3d := rfl
theorem kkey_eq (n : Int) : ∃ i, i < 12 ∧ q2a n = some (K3d.getD i []) := by
 obtain ⟨r, er, r1, r2⟩ := K98 n 0 11 (by omega) (by omega) (by omega)
 refine ⟨r.toNat, by omega, ?_⟩
 have hk : K3d.length = 12 := rfl
 unfold q2a
 rw [keys_eq, K05, K05, hk, show w64 (((12 : Nat) : Int) - 1) = 11 from rfl, er, K05, need_true (by omega)]
theorem ktext_eq (n : Int) : ∃ x, q1v n = some x ∧ x.length ≤ 8 := by
 obtain ⟨r, er, r1, r2⟩ := K98 n 0 4 (by omega) (by omega) (by omega)
 unfold q1v
 rw [er, K05, need_true (by show 0 ≤ r ∧ r < ((5 : Nat) : Int); omega)]
 refine ⟨_, rfl, ?_⟩
 have : ∀ i, i < 5 → (([([] : List UInt8), ([49] : List UInt8), ([120] : List UInt8), ([118, 97, 108, 117, 101] : List UInt8), ([49, 50, 51, 52, 53, 54, 55, 56] : List UInt8)] : List (List UInt8)).getD i []).length ≤ 8 := by decide
 exact this r.toNat (by omega)
theorem keys_b : ∀ k ∈ K3d, 1 ≤ k.length ∧ k.length ≤ 3 := by decide
theorem K45 {σ ρ : Type} {step : σ → Option (σ ⊕ ρ)} (I : Nat → σ → Prop) (Q : ρ → Prop)
  (h : ∀ k s, I k s → (∃ r, step s = some (.inr r) ∧ Q r) ∨ (∃ j s', k = j + 1 ∧ step s = some (.inl s') ∧ I j s')) : ∀ k s, I k s → ∃ r, loop step s = some r ∧ Q r := by
 intro k
 induction k with
 | zero =>
  intro s hi
  rcases h 0 s hi with ⟨r, e, q⟩ | ⟨j, s', hk, e, hi'⟩
  ·exact ⟨r, loop_out e, q⟩
  ·omega
 | succ k ih =>
  intro s hi
  rcases h (k + 1) s hi with ⟨r, e, q⟩ | ⟨j, s', hk, e, hi'⟩
  ·exact ⟨r, loop_out e, q⟩
  ·have : j = k := by omega
   subst this
   obtain ⟨r, e2, q⟩ := ih s' hi'
   exact ⟨r, (loop_next e).trans e2, q⟩
theorem split_at {l : List Pr} {b : Nat} (h : b < l.length) : l = l.take b ++ l.getD b zPr :: l.drop (b + 1) := by
 have e : l.getD b zPr = l[b] := by rw [List.getD_eq_getElem?_getD, List.getElem?_eq_getElem h]; rfl
 rw [e, ← List.drop_eq_getElem_cons h, List.take_append_drop]
theorem K86 {a b : List UInt8} (h : sless a b = true) : a ≠ b := fun e => by rw [e, K85] at h; cases h
theorem mem_cut {l : List Pr} (hr : RiseP l) (k : List UInt8) (q : Pr) : q ∈ cutP l k ↔ q ∈ l ∧ q.1 ≠ k := by
 unfold cutP
 cases ha : isAt l k with
 | true =>
  obtain ⟨h1, h2⟩ := K38 ha
  rw [if_pos rfl]
  constructor
  ·intro h
   rcases List.mem_append.1 h with h | h
   ·exact ⟨List.mem_of_mem_take h, K86 (K4b h)⟩
   ·exact ⟨List.mem_of_mem_drop h, Ne.symm (K86 (K1b hr (.inr ⟨ha, rfl⟩) h))⟩
  ·rintro ⟨h3, h4⟩
   rw [split_at h1] at h3
   rcases List.mem_append.1 h3 with h | h
   ·exact List.mem_append.2 (.inl h)
   ·rcases List.mem_cons.1 h with h | h
    ·exact absurd (by rw [h]; exact h2) h4
    ·exact List.mem_append.2 (.inr h)
 | false =>
  rw [if_neg (by simp)]
  refine ⟨fun h => ⟨h, fun e => ?_⟩, fun h => h.1⟩
  have := (K37 hr k).2 ⟨q, h, e⟩
  rw [ha] at this; cases this
theorem K3l : ∀ {a b : List Pr}, RiseP a → RiseP b → (∀ q, q ∈ a ↔ q ∈ b) → a = b
 | [], [], _, _, _ => rfl
 | [], y :: b, _, _, h => by cases (h y).2 List.mem_cons_self
 | x :: a, [], _, _, h => by cases (h x).1 List.mem_cons_self
 | x :: a, y :: b, ha, hb, h => by
  obtain ⟨a1, a2⟩ := List.pairwise_cons.1 ha
  obtain ⟨b1, b2⟩ := List.pairwise_cons.1 hb
  have e : x = y := by
   rcases List.mem_cons.1 ((h x).1 List.mem_cons_self) with e | e
   ·exact e
   ·rcases List.mem_cons.1 ((h y).2 List.mem_cons_self) with e2 | e2
    ·exact e2.symm
    ·have := K88 _ _ _ (b1 x e) (a1 y e2)
     rw [K85] at this; cases this
  subst e
  congr 1
  refine K3l a2 b2 fun q => ⟨fun hq => ?_, fun hq => ?_⟩
  ·rcases List.mem_cons.1 ((h q).1 (List.mem_cons_of_mem _ hq)) with e | e
   ·have := a1 q hq
    rw [e, K85] at this; cases this
   ·exact e
  ·rcases List.mem_cons.1 ((h q).2 (List.mem_cons_of_mem _ hq)) with e | e
   ·have := b1 q hq
    rw [e, K85] at this; cases this
   ·exact e
theorem rowB_kv {l : List Pr} (h : RowB l) : KvOk l := ⟨by have := h.2.1; omega, fun p hp => by have := h.2.2 p hp; omega⟩
def boundS (n : Nat) (r : List UInt8) : List UInt8 := sha (83 :: (oneS (n : Int) ++ r))
noncomputable def rootL (l : List Pr) : List UInt8 := boundS l.length (rootS (K3w l))
theorem K5u (n : Nat) (r : List UInt8) (hr : r.length = 32) : q1m (n : Int) r = some (boundS n r) := by
 have h1 := K4v (n : Int)
 have hf : [oneS (n : Int), r].flatten = oneS (n : Int) ++ r := by simp
 unfold q1m
 rw [K74, K05, K7c _ _ (by rw [hf, List.length_append]; omega) (by simp), hf]
 rfl
theorem K7a (l : List Pr) (h : KvOk l) : qz l = some (rootL l) := by
 have hl := h.1
 unfold qz
 rw [K6m l h, K05, K76 _ (by rw [K3x]; omega) (K3y h), K05, K5u _ _ (K6t _), K05]
 rfl
theorem rset1_eq (l : List Pr) (hl : l.length ≤ 1000) (p : Pr) : q2d l p = some (putP l p) := by
 have hb := below_le l p.1
 unfold q2d putP
 have e1 : cutL l 0 (K09 l p.1 : Int) = l.take (K09 l p.1) := by rw [K18, Int.toNat_natCast]
 have e2 : cutL l ((K09 l p.1 : Int) + 1) (l.length : Int) = l.drop (K09 l p.1 + 1) := by rw [K17]; rfl
 have e3 : cutL l (K09 l p.1 : Int) (l.length : Int) = l.drop (K09 l p.1) := by rw [K17, Int.toNat_natCast]
 have t1 : (l.take (K09 l p.1)).length ≤ 1000 := by rw [List.length_take]; omega
 have t2 : (l.drop (K09 l p.1)).length ≤ 1000 := by rw [List.length_drop]; omega
 have t3 : (l.drop (K09 l p.1 + 1)).length ≤ 1000 := by rw [List.length_drop]; omega
 rw [K60 l hl, K05, need_true (by omega), w64_eq (by omega) (by omega), Int.toNat_natCast, e1, e2, e3, List.nil_append]
 have a1 : (([] : List Pr).length + (l.take (K09 l p.1)).length ≤ 2147483648) := by rw [List.length_nil]; omega
 have a2 : ((l.take (K09 l p.1)).length + [p].length ≤ 2147483648) := by rw [List.length_singleton]; omega
 have a3 : ((l.take (K09 l p.1) ++ [p]).length + (l.drop (K09 l p.1 + 1)).length ≤ 2147483648) := by rw [List.length_append, List.length_singleton]; omega
 have a4 : ((l.take (K09 l p.1) ++ [p]).length + (l.drop (K09 l p.1)).length ≤ 2147483648) := by rw [List.length_append, List.length_singleton]; omega
 by_cases c : K09 l p.1 < l.length
 ·rw [K2c (by omega), need_true (by omega)]
  by_cases q : (l.getD (K09 l p.1) (([] : List UInt8), ([] : List UInt8), ())).1 = p.1
  ·have ha : isAt l p.1 = true := by unfold isAt; rw [decide_eq_true_eq]; exact ⟨c, q⟩
   rw [K2c q, need_true (by omega), need_true (by omega), need_true a1, need_true a2, need_true a3, if_pos ha, List.append_assoc]; rfl
  ·have ha : ¬ isAt l p.1 = true := by unfold isAt; rw [decide_eq_true_eq]; exact fun e => q e.2
   rw [K26 q, need_true (by omega), need_true a1, need_true a2, need_true a4, if_neg ha, List.append_assoc]; rfl
 ·have ha : ¬ isAt l p.1 = true := by unfold isAt; rw [decide_eq_true_eq]; exact fun e => c e.1
  rw [K26 (by omega), need_true (by omega), need_true a1, need_true a2, need_true a4, if_neg ha, List.append_assoc]; rfl
theorem K5x (x0 : List UInt8) (x1 : List Pr) (x2 : Int) (x3 : Int) (x4 : List Pr) : q2b_1_step x0 x1 x2 x3 x4 =
  (fork (decide (x3 < x2)) (need (0 ≤ x3 ∧ x3 < (List.length x1 : Int)) (fork (!decide ((List.getD x1 (Int.toNat x3) zPr).1 = x0)) (need (List.length x4 + List.length ([(List.getD x1 (Int.toNat x3) zPr)] : List Pr) ≤ 2147483648) (some (.inl ((w64 (x3 + (1 : Int))), (x4 ++ ([(List.getD x1 (Int.toNat x3) zPr)] : List Pr)))))) (some (.inl ((w64 (x3 + (1 : Int))), x4))))) (some (.inr x4)) : Option ((Int × List Pr) ⊕ (List Pr))) := rfl
theorem K1o (l : List Pr) (f : Pr → Bool) {i : Nat} (h : i < l.length) : (l.take (i + 1)).filter f = (l.take i).filter f ++ (if f (l.getD i zPr) then [l.getD i zPr] else []) := by
 rw [List.take_add_one, List.filter_append, List.getElem?_eq_getElem h, List.getD_eq_getElem?_getD, List.getElem?_eq_getElem h]
 show _ ++ List.filter f [l[i]] = _ ++ (if f l[i] then [l[i]] else [])
 rw [List.filter_cons]; rfl
theorem rdel1_eq (l : List Pr) (hr : RiseP l) (hl : l.length ≤ 1000) (k : List UInt8) : q2b l k = some (cutP l k) := by
 have hf : l.filter (fun p => !decide (p.1 = k)) = cutP l k := by
  refine K3l (hr.sublist List.filter_sublist) (K16 hr k) fun q => ?_
  rw [mem_cut hr, List.mem_filter, Bool.not_eq_true', decide_eq_false_iff_not]
 have m : q2b_1 k l (l.length : Int) 0 [] = some (cutP l k) := by
  unfold q2b_1
  have := K46 (step := fun (s : Int × List Pr) => q2b_1_step k l (l.length : Int) s.1 s.2) (fun i (_ : Unit) => ((i : Int), (l.take i).filter (fun p => !decide (p.1 = k)))) (fun _ _ => ()) (fun _ => cutP l k) l.length (fun _ _ => True) (fun i w hi _ => ⟨?_, trivial⟩) (fun w _ => ?_) l.length 0 () (by omega) trivial
  ·exact this
  ·show q2b_1_step k l (l.length : Int) (i : Int) ((l.take i).filter (fun p => !decide (p.1 = k))) = some (.inl (((i + 1 : Nat) : Int), (l.take (i + 1)).filter (fun p => !decide (p.1 = k))))
   have b : ((l.take i).filter (fun p => !decide (p.1 = k))).length ≤ i := Nat.le_trans (List.length_filter_le _ _) (by rw [List.length_take]; omega)
   have t := K1o l (fun p => !decide (p.1 = k)) hi
   rw [K5x, K2c (by omega), need_true (by omega), Int.toNat_natCast, w64_eq (by omega) (by omega), t]
   by_cases e : (l.getD i zPr).1 = k
   ·rw [K2b e, if_neg (by rw [decide_eq_true e]; simp), List.append_nil]; rfl
   ·have b3 : ∀ n : Nat, n ≤ i → n + [l.getD i zPr].length ≤ 2147483648 := fun n hn => by rw [List.length_singleton]; omega
    rw [K29 e, need_true (b3 _ b), if_pos (by rw [decide_eq_false e]; rfl)]; rfl
  ·show q2b_1_step k l (l.length : Int) (l.length : Int) ((l.take l.length).filter (fun p => !decide (p.1 = k))) = _
   rw [K5x, K26 (by omega), List.take_of_length_le (Nat.le_refl _), hf]
 unfold q2b
 rw [m, K05]
abbrev zH : List UInt8 := List.replicate 32 (0 : UInt8)
def secS (seed : List UInt8) (i v : Nat) : List UInt8 := sha (115 :: (seed ++ [UInt8.ofNat i, UInt8.ofNat v]))
def pubS (s : List UInt8) : List UInt8 := sha (112 :: s)
def keyS (ps : List (List UInt8)) : List UInt8 := sha (107 :: ps.flatten)
def digS (m : List UInt8) : List UInt8 := sha (109 :: m)
def bitN (d : List UInt8) (i : Nat) : Nat := ((d.getD (i / 8) 0).toNat >>> (7 - i % 8)) % 2
theorem K0f (d : List UInt8) (i : Nat) : bitN d i ≤ 1 := by unfold bitN; omega
abbrev One := List (List UInt8) × List (List UInt8) × Unit
theorem pub_eq (s : List UInt8) (hs : s.length = 32) : q2n s = some (pubS s) := by
 unfold q2n
 have hf : [s].flatten = s := by simp
 rw [K8k _ _ (by rw [hf]; omega) (by simp), hf]
 rfl
theorem K7m (seed : List UInt8) (i v : Nat) : (secS seed i v).length = 32 := K7z _
theorem K5i (s : List UInt8) : (pubS s).length = 32 := K7z _
theorem K3c (s : List (List UInt8)) : (keyS s).length = 32 := K7z _
theorem K1r (m : List (List UInt8)) (hm : ∀ x ∈ m, x.length = 32) : m.flatten.length = 32 * m.length := by
 induction m with
 | nil => rfl
 | cons a m ih => rw [List.flatten_cons, List.length_append, ih (fun x hx => hm x (List.mem_cons_of_mem _ hx)), hm a List.mem_cons_self, List.length_cons]; omega
theorem K1u (l : List (List UInt8)) {i : Nat} (h : i < l.length) : (l.take i).flatten ++ l.getD i zH = (l.take (i + 1)).flatten := by
 rw [List.take_add_one, List.flatten_append, List.getD_eq_getElem?_getD, List.getElem?_eq_getElem h]
 simp
theorem K2e (l : List (List UInt8)) (h : ∀ x ∈ l, x.length = 32) (i : Nat) : (l.getD i zH).length = 32 := by
 rw [List.getD_eq_getElem?_getD]
 cases e : l[i]? with
 | none => rfl
 | some x => exact h x (List.mem_of_getElem? e)
theorem key_eq (l : List (List UInt8)) (hl : l.length ≤ 1000) (h : ∀ x ∈ l, x.length = 32) : q3k l = some (keyS l) := by
 have hlen : ∀ i, ((l.take i).flatten).length ≤ 32 * l.length := fun i => by
  rw [K1r _ fun x hx => h x (List.mem_of_mem_take hx), List.length_take]; omega
 have main : ∀ z, q3k_1 l (l.length : Int) 0 z [] = some (z, l.flatten) := by
  intro z
  unfold q3k_1
  have := K46 (step := fun (s : Int × List UInt8) => q3k_1_step l (l.length : Int) s.1 z s.2) (fun i (_ : Unit) => ((i : Int), (l.take i).flatten)) (fun _ _ => ()) (fun _ => (z, l.flatten)) l.length (fun _ _ => True) (fun i w hi _ => ⟨?_, trivial⟩) (fun w _ => ?_) l.length 0 () (by omega) trivial
  ·exact this
  ·show q3k_1_step l (l.length : Int) (i : Int) z (l.take i).flatten = _
   unfold q3k_1_step
   have b := hlen i
   have hm : (l.getD i (List.replicate 32 0)).length = 32 := K2e l h i
   rw [K2c (by omega), need_true (by omega), Int.toNat_natCast, need_true (by omega), w64_eq (by omega) (by omega), K1u l hi]
   rfl
  ·show q3k_1_step l (l.length : Int) (l.length : Int) z (l.take l.length).flatten = _
   unfold q3k_1_step
   rw [K26 (by omega), List.take_of_length_le (Nat.le_refl _)]
 unfold q3k
 have hf : [l.flatten].flatten = l.flatten := by simp
 have := K1r l h
 rw [main, K05]
 simp only
 rw [K8k _ _ (by rw [hf]; omega) (by simp), hf]
 rfl
theorem bit_eq (d : List UInt8) (i : Nat) (hi : i < 256) : q3l d (i : Int) = some ((bitN d i : Nat) : Int) := by
 unfold q3l
 have e1 : Int.tdiv (i : Int) 8 = ((i / 8 : Nat) : Int) := by rw [Int.tdiv_eq_ediv_of_nonneg (by omega)]; omega
 have e2 : Int.tmod (i : Int) 8 = ((i % 8 : Nat) : Int) := by rw [Int.tmod_eq_emod_of_nonneg (by omega)]; omega
 rw [e1, e2, w64_eq (by omega) (by omega), w64_eq (by omega) (by omega), need_true (by omega), need_true (by omega), Int.toNat_natCast, show Int.toNat (7 - ((i % 8 : Nat) : Int)) = 7 - i % 8 from by omega]
 generalize hx : d.getD (i / 8) 0 = x
 have hlt := x.toNat_lt
 have hs : x.toNat >>> (7 - i % 8) ≤ x.toNat := by rw [Nat.shiftRight_eq_div_pow]; exact Nat.div_le_self _ _
 rw [UInt8.toNat_ofNat', Nat.mod_eq_of_lt (by omega)]
 have hb := K08 (x.toNat >>> (7 - i % 8)) 1 (by omega) (by omega)
 rw [show ((1 : Nat) : Int) = 1 from rfl] at hb
 rw [hb, show (1 : Nat) = 2 ^ 1 - 1 from rfl, Nat.and_two_pow_sub_one_eq_mod]
 unfold bitN
 rw [hx]
def pairS (seed : List UInt8) (i : Nat) : List (List UInt8) := [pubS (secS seed i 0), pubS (secS seed i 1)]
def K56 (seed : List UInt8) (n : Nat) : List (List UInt8) := (List.range n).flatMap (pairS seed)
theorem K57 (seed : List UInt8) (n : Nat) : (∀ x ∈ K56 seed n, x.length = 32) ∧ (K56 seed n).length = 2 * n := by
 unfold K56
 refine ⟨fun x hx => ?_, ?_⟩
 ·obtain ⟨i, _, hi⟩ := List.mem_flatMap.1 hx
  simp only [pairS, List.mem_cons, List.not_mem_nil, or_false] at hi
  rcases hi with rfl | rfl <;> exact K5i _
 ·induction n with
  | zero => rfl
  | succ n ih => rw [List.range_succ, List.flatMap_append, List.length_append, ih]; simp [pairS]; omega
theorem K1s {α β : Type} {f g : α → List β} : ∀ {l : List α}, (∀ a ∈ l, f a = g a) → l.flatMap f = l.flatMap g
 | [], _ => rfl
 | a :: l, h => by rw [List.flatMap_cons, List.flatMap_cons, h a List.mem_cons_self, K1s fun b hb => h b (List.mem_cons_of_mem _ hb)]
theorem K1t {α : Type} (f : Nat → List α) (n : Nat) : (List.range (n + 1)).flatMap f = (List.range n).flatMap f ++ f n := by
 rw [List.range_succ, List.flatMap_append]; simp
def KeyS (seed : List UInt8) : List UInt8 := keyS (K56 seed 32)
def openS (seed d : List UInt8) (n : Nat) : List (List UInt8) := (List.range n).map fun i => secS seed i (bitN d i)
def shutS (seed d : List UInt8) (n : Nat) : List (List UInt8) := (List.range n).map fun i => pubS (secS seed i (1 - bitN d i))
def signS (seed m : List UInt8) : One := (openS seed (digS m) 32, shutS seed (digS m) 32, ())
theorem mapRange {α : Type} (f : Nat → α) (n : Nat) : (List.range (n + 1)).map f = (List.range n).map f ++ [f n] := by
 rw [List.range_succ, List.map_append]; rfl
theorem dig_eq (m : List UInt8) (hm : m.length ≤ 100000) : q2m 109 [m] = some (digS m) := by
 have hf : [m].flatten = m := by simp
 rw [K8k _ _ (by rw [hf]; omega) (by simp), hf]
 rfl
def wpart (d : List UInt8) (o s : List (List UInt8)) (i : Nat) : List (List UInt8) := if bitN d i = 0 then [pubS (o.getD i zH), s.getD i zH] else [s.getD i zH, pubS (o.getD i zH)]
def K9a (d : List UInt8) (o s : List (List UInt8)) : List (List UInt8) := (List.range 32).flatMap (wpart d o s)
def Len32 (l : List (List UInt8)) : Prop := ∀ x ∈ l, x.length = 32
def whoS (m : List UInt8) (x : One) : List UInt8 × Bool := if x.1.length = 32 ∧ x.2.1.length = 32 then (keyS (K9a (digS m) x.1 x.2.1), true) else (zH, false)
theorem K99 (d : List UInt8) (o s : List (List UInt8)) (i : Nat) : (wpart d o s i).length = 2 := by unfold wpart; split <;> rfl
theorem K9b (d : List UInt8) (o s : List (List UInt8)) : ∀ n, ((List.range n).flatMap (wpart d o s)).length = 2 * n
 | 0 => rfl
 | n + 1 => by rw [K1t, List.length_append, K9b d o s n, K99]; omega
theorem K9c (d : List UInt8) (o s : List (List UInt8)) (hs : Len32 s) (n : Nat) : Len32 ((List.range n).flatMap (wpart d o s)) := by
 intro x hx
 obtain ⟨i, _, hi⟩ := List.mem_flatMap.1 hx
 unfold wpart at hi
 split at hi <;> simp only [List.mem_cons, List.not_mem_nil, or_false] at hi <;> rcases hi with rfl | rfl <;> first | exact K5i _ | exact K2e s hs i
theorem K7u {α : Type} (a l : List α) (k : Nat) (x : α) (n : Nat) (h : n = a.length + k) : (a ++ l).set n x = a ++ l.set k x := by
 subst h; exact K7t a l k x
theorem who_1 (d : List UInt8) (z : List UInt8) (x : One) (ho : x.1.length = 32) (hs : x.2.1.length = 32) (lo : Len32 x.1) : q3o_1 0 x z d (List.replicate 64 zH) = some (z, K9a d x.1 x.2.1) := by
 unfold q3o_1
 have := K46 (step := fun (s : Int × List (List UInt8)) => q3o_1_step s.1 x z d s.2) (fun i (_ : Unit) => ((i : Int), (List.range i).flatMap (wpart d x.1 x.2.1) ++ List.replicate (64 - 2 * i) zH)) (fun _ _ => ()) (fun _ => (z, K9a d x.1 x.2.1)) 32 (fun _ _ => True) (fun i w hi _ => ⟨?_, trivial⟩) (fun w _ => ?_) 32 0 () (by omega) trivial
 ·exact this
 ·show q3o_1_step (i : Int) x z d ((List.range i).flatMap (wpart d x.1 x.2.1) ++ List.replicate (64 - 2 * i) zH) = _
  unfold q3o_1_step
  have hb := K0f d i
  have hl := K9b d x.1 x.2.1 i
  have hlen : ((List.range i).flatMap (wpart d x.1 x.2.1) ++ List.replicate (64 - 2 * i) zH).length = 64 := by rw [List.length_append, hl, List.length_replicate]; omega
  rw [K2c (by omega), bit_eq d i (by omega), K05, need_true (by omega), Int.toNat_natCast, pub_eq _ (K2e _ lo i), K05, need_true (by omega)]
  have e1 : w64 (w64 (2 * (i : Int)) + ((bitN d i : Nat) : Int)) = ((2 * i + bitN d i : Nat) : Int) := by rw [w64_eq (n := 2 * (i : Int)) (by omega) (by omega), w64_eq (by omega) (by omega)]; omega
  have e2 : w64 (w64 (w64 (2 * (i : Int)) + 1) - ((bitN d i : Nat) : Int)) = ((2 * i + 1 - bitN d i : Nat) : Int) := by rw [w64_eq (n := 2 * (i : Int)) (by omega) (by omega), w64_eq (n := 2 * (i : Int) + 1) (by omega) (by omega), w64_eq (by omega) (by omega)]; omega
  rw [e1, e2, hlen, need_true (by omega), List.length_set, hlen, need_true (by omega), Int.toNat_natCast, Int.toNat_natCast, w64_eq (by omega) (by omega), K1t]
  have hr : List.replicate (64 - 2 * i) zH = zH :: zH :: List.replicate (64 - 2 * (i + 1)) zH := by
   rw [show 64 - 2 * i = (64 - 2 * (i + 1)) + 1 + 1 from by omega, List.replicate_succ, List.replicate_succ]
  rw [hr]
  have hw : wpart d x.1 x.2.1 i = if bitN d i = 0 then [pubS (x.1.getD i zH), x.2.1.getD i zH] else [x.2.1.getD i zH, pubS (x.1.getD i zH)] := rfl
  rw [hw]
  rcases (show bitN d i = 0 ∨ bitN d i = 1 by omega) with h0 | h0
  ·rw [h0, if_pos rfl, K7u _ _ 0 _ _ (by rw [hl]), K7u _ _ 1 _ _ (by rw [hl]; rfl), List.append_assoc]
   rfl
  ·rw [h0, if_neg (by omega), K7u _ _ 1 _ _ (by rw [hl]), K7u _ _ 0 _ _ (by rw [hl]; omega), List.append_assoc]
   rfl
 ·show q3o_1_step 32 x z d _ = _
  unfold q3o_1_step
  rw [K26 (by omega)]
  simp [K9a]
theorem who_eq (m : List UInt8) (hm : m.length ≤ 100000) (x : One) (lo : Len32 x.1) (ls : Len32 x.2.1) : q3o m x = some (whoS m x) := by
 unfold q3o whoS
 by_cases ho : x.1.length = 32
 ·rw [K2b (by omega)]
  by_cases hs : x.2.1.length = 32
  ·rw [K2b (by omega), dig_eq m hm, K05, need_true (by omega), if_pos ⟨ho, hs⟩]
   have w := who_1 (digS m) zH x ho hs lo
   rw [show Int.toNat (64 : Int) = 64 from rfl, w, K05]
   simp only
   have hk : q3k (K9a (digS m) x.1 x.2.1) = some (keyS (K9a (digS m) x.1 x.2.1)) := key_eq _ (by unfold K9a; rw [K9b]; omega) (K9c _ _ _ ls 32)
   rw [hk]
   rfl
  ·rw [K29 (by omega), if_neg (fun h => hs h.2)]
 ·rw [K29 (by omega), if_neg (fun h => ho h.1)]
theorem K84 (seed m : List UInt8) : (signS seed m).1.length = 32 ∧ (signS seed m).2.1.length = 32 ∧ Len32 (signS seed m).1 ∧ Len32 (signS seed m).2.1 := by
 refine ⟨by simp [signS, openS], by simp [signS, shutS], fun x hx => ?_, fun x hx => ?_⟩
 ·obtain ⟨i, _, rfl⟩ := List.mem_map.1 hx; exact K7m _ _ _
 ·obtain ⟨i, _, rfl⟩ := List.mem_map.1 hx; exact K5i _
theorem K2f (f : Nat → List UInt8) (n i : Nat) (h : i < n) : ((List.range n).map f).getD i zH = f i := by
 rw [List.getD_eq_getElem?_getD, List.getElem?_map, List.getElem?_range h]; rfl
def pairB (seed d e : List UInt8) (i : Nat) : List (List UInt8) := if bitN d i = bitN e i then pairS seed i else [pubS (secS seed i 1), pubS (secS seed i 0)]
theorem K9d (seed d e : List UInt8) : K9a e (openS seed d 32) (shutS seed d 32) = (List.range 32).flatMap (pairB seed d e) := by
 unfold K9a
 have : ∀ i ∈ List.range 32, wpart e (openS seed d 32) (shutS seed d 32) i = pairB seed d e i := by
  intro i hi
  have hi : i < 32 := List.mem_range.1 hi
  unfold wpart pairB openS shutS pairS
  rw [K2f _ 32 i hi, K2f _ 32 i hi]
  have h1 := K0f d i
  have h2 := K0f e i
  rcases (show bitN d i = 0 ∨ bitN d i = 1 by omega) with a | a <;> rcases (show bitN e i = 0 ∨ bitN e i = 1 by omega) with b | b <;> simp [a, b]
 rw [K1s this]
theorem who_sign (seed m : List UInt8) : whoS m (signS seed m) = (KeyS seed, true) := by
 obtain ⟨h1, h2, _, _⟩ := K84 seed m
 unfold whoS
 rw [if_pos ⟨h1, h2⟩]
 show (keyS (K9a (digS m) (openS seed (digS m) 32) (shutS seed (digS m) 32)), true) = _
 rw [K9d]
 have : ∀ i ∈ List.range 32, pairB seed (digS m) (digS m) i = pairS seed i := fun i _ => if_pos rfl
 rw [K1s this]
 rfl
end Go.Ax.V
