/-
  Loops of the pure text, counted; lists; small rules.
-/
import Derived.Test.YtanhbdkimbljeaaAxC
namespace Go.Ax.V
open Go.Ax
set_option linter.unusedVariables false
set_option linter.unusedSimpArgs false
def runFor {τ : Type} (f : Nat → τ → τ) : Nat → Nat → τ → τ
 | _, 0, t => t
 | i, k + 1, t => runFor f (i + 1) k (f i t)
theorem loop_for {σ ρ τ : Type} {step : σ → Option (σ ⊕ ρ)} (st : Nat → τ → σ) (f : Nat → τ → τ) (g : τ → ρ) (n : Nat) (I : Nat → τ → Prop)
    (h1 : ∀ i t, i < n → I i t → step (st i t) = some (.inl (st (i + 1) (f i t))) ∧ I (i + 1) (f i t))
    (h2 : ∀ t, I n t → step (st n t) = some (.inr (g t))) : ∀ (k i : Nat) (t : τ), i + k = n → I i t → loop step (st i t) = some (g (runFor f i k t))
  | 0, i, t, e, h => by have : i = n := by omega
                        subst this; exact loop_out (h2 t h)
  | k + 1, i, t, e, h => by
    rw [loop_next (h1 i t (by omega) h).1]
    exact loop_for st f g n I h1 h2 k (i + 1) (f i t) (by omega) (h1 i t (by omega) h).2
theorem andThen_mk {α β : Type} {a : α} {k : α → Option β} : andThen (some a) k = k a := rfl
theorem fork_t {α : Type} {p : Prop} [Decidable p] {x y : Option α} (h : p) : fork (decide p) x y = x := by rw [decide_eq_true h]; rfl
theorem fork_f {α : Type} {p : Prop} [Decidable p] {x y : Option α} (h : ¬ p) : fork (decide p) x y = y := by rw [decide_eq_false h]; rfl
theorem fork_nt {α : Type} {p : Prop} [Decidable p] {x y : Option α} (h : p) : fork (!decide p) x y = y := by rw [decide_eq_true h]; rfl
theorem fork_nf {α : Type} {p : Prop} [Decidable p] {x y : Option α} (h : ¬ p) : fork (!decide p) x y = x := by rw [decide_eq_false h]; rfl
theorem fork_tt {α : Type} {x y : Option α} : fork true x y = x := rfl
theorem fork_ff {α : Type} {x y : Option α} : fork false x y = y := rfl
theorem cut_to {α : Type} (l : List α) (u : Int) : cutL l 0 u = l.take u.toNat := rfl
theorem cut_from {α : Type} (l : List α) (u : Int) : cutL l u (l.length : Int) = l.drop u.toNat := by
 unfold cutL; rw [Int.toNat_natCast, List.take_of_length_le (Nat.le_refl _)]
theorem beq_self (t : Ty) (h : t.comp = true) (x : t.den) : Ty.beq t x x = true := (Ty.beq_iff t h x x).2 rfl
theorem beq_hash (x : List UInt8) : Ty.beq (.arr 32 (.int .u8)) x x = true := beq_self (.arr 32 (.int .u8)) rfl x
end Go.Ax.V
