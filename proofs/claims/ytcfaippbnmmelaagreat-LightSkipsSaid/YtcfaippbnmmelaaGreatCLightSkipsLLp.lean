/-
  Loops of the pure text, counted; lists; small rules.
-/
import Derived.Test.YtcfaippbnmmelaaGreatAxC
namespace Go.Ax.V
open Go.Ax
set_option linter.unusedVariables false
set_option linter.unusedSimpArgs false
def runFor {τ : Type} (f : Nat → τ → τ) : Nat → Nat → τ → τ
 | _, 0, t => t
 | i, k + 1, t => runFor f (i + 1) k (f i t)
theorem loop_for {σ ρ τ : Type} {step : σ → Option (σ ⊕ ρ)} (st : Nat → τ → σ) (f : Nat → τ → τ) (g : τ → ρ) (n : Nat) (I : Nat → τ → Prop)
    (h1 : ∀ i t, i < n → I i t → step (st i t) = some (.inl (st (i + 1) (f i t))) ∧ I (i + 1) (f i t))
    (h2 : ∀ t, I n t → step (st n t) = some (.inr (g t))) : ∀ (k i : Nat) (t : τ), i + k = n → I i t → loop step (st i t) = some (g (runFor f i k t))
  | 0, i, t, e, h => by have : i = n := by omega
                        subst this; exact loop_out (h2 t h)
  | k + 1, i, t, e, h => by
    rw [loop_next (h1 i t (by omega) h).1]
    exact loop_for st f g n I h1 h2 k (i + 1) (f i t) (by omega) (h1 i t (by omega) h).2
theorem Nat.find_of {p : Nat → Prop} (h : ∃ n, p n) : ∃ n, p n ∧ ∀ m, m < n → ¬ p m := by
 obtain ⟨n, hn⟩ := h
 induction n using Nat.strongRecOn with
 | _ n ih =>
  by_cases hx : ∃ m, m < n ∧ p m
  ·obtain ⟨m, hm, hp⟩ := hx; exact ih m hm hp
  ·exact ⟨n, hn, fun m hm hp => hx ⟨m, hm, hp⟩⟩
def scan {ρ : Type} (bad : Nat → Option ρ) (r0 : ρ) : Nat → Nat → ρ
 | _, 0 => r0
 | i, k + 1 => match bad i with
  | some r => r
  | none => scan bad r0 (i + 1) k
theorem scan_none {ρ : Type} {bad : Nat → Option ρ} {r0 : ρ} : ∀ (k i : Nat), (∀ j, i ≤ j → j < i + k → bad j = none) → scan bad r0 i k = r0
 | 0, i, _ => rfl
 | k + 1, i, h => by
  rw [scan, h i (Nat.le_refl _) (by omega)]
  exact scan_none k (i + 1) fun j h1 h2 => h j (by omega) (by omega)
theorem scan_some {ρ : Type} {bad : Nat → Option ρ} {r0 r : ρ} : ∀ (k i j : Nat), i ≤ j → j < i + k → (∀ j', i ≤ j' → j' < j → bad j' = none) → bad j = some r → scan bad r0 i k = r
 | 0, i, j, h1, h2, _, _ => by omega
 | k + 1, i, j, h1, h2, h3, h4 => by
  rw [scan]
  by_cases e : i = j
  ·subst e; rw [h4]
  ·rw [h3 i (Nat.le_refl _) (by omega)]
   exact scan_some k (i + 1) j (by omega) (by omega) (fun j' g1 g2 => h3 j' (by omega) g2) h4
theorem loop_scan {σ ρ : Type} {step : σ → Option (σ ⊕ ρ)} (st : Nat → σ) (bad : Nat → Option ρ) (r0 : ρ) (n : Nat) (h1 : ∀ i, i < n → bad i = none → step (st i) = some (.inl (st (i + 1))))
    (h2 : ∀ i r, i < n → bad i = some r → step (st i) = some (.inr r)) (h3 : step (st n) = some (.inr r0)) : ∀ (k i : Nat), i + k = n → loop step (st i) = some (scan bad r0 i k)
  | 0, i, e => by have : i = n := by omega
                  subst this; exact loop_out h3
  | k + 1, i, e => by
    rw [scan]
    split
    · rename_i r hr; exact loop_out (h2 i r (by omega) hr)
    · rename_i hn
      rw [loop_next (h1 i (by omega) hn)]
      exact loop_scan st bad r0 n h1 h2 h3 k (i + 1) (by omega)
theorem andThen_mk {α β : Type} {a : α} {k : α → Option β} : andThen (some a) k = k a := rfl
theorem fork_t {α : Type} {p : Prop} [Decidable p] {x y : Option α} (h : p) : fork (decide p) x y = x := by rw [decide_eq_true h]; rfl
theorem fork_f {α : Type} {p : Prop} [Decidable p] {x y : Option α} (h : ¬ p) : fork (decide p) x y = y := by rw [decide_eq_false h]; rfl
theorem fork_nt {α : Type} {p : Prop} [Decidable p] {x y : Option α} (h : p) : fork (!decide p) x y = y := by rw [decide_eq_true h]; rfl
theorem fork_nf {α : Type} {p : Prop} [Decidable p] {x y : Option α} (h : ¬ p) : fork (!decide p) x y = x := by rw [decide_eq_false h]; rfl
theorem fork_tt {α : Type} {x y : Option α} : fork true x y = x := rfl
theorem fork_ff {α : Type} {x y : Option α} : fork false x y = y := rfl
theorem fork_ite {α : Type} {b : Bool} {x y : Option α} : fork b x y = if b then x else y := by cases b <;> rfl
theorem cut_to {α : Type} (l : List α) (u : Int) : cutL l 0 u = l.take u.toNat := rfl
theorem cut_from {α : Type} (l : List α) (u : Int) : cutL l u (l.length : Int) = l.drop u.toNat := by
 unfold cutL; rw [Int.toNat_natCast, List.take_of_length_le (Nat.le_refl _)]
theorem beq_self (t : Ty) (h : t.comp = true) (x : t.den) : Ty.beq t x x = true := (Ty.beq_iff t h x x).2 rfl
theorem beq_hash (x : List UInt8) : Ty.beq (.arr 32 (.int .u8)) x x = true := beq_self (.arr 32 (.int .u8)) rfl x
end Go.Ax.V
