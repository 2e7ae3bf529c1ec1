/-
  A store's roots; what is in rows; the document's own rows.
-/
import Derived.Test.YtanhbdkimbljeaaCStoreOldLStore
import Derived.Test.YtanhbdkimbljeaaCStoreOldLPairs
namespace Go.Ax.V
open Go.Ax
set_option linter.unusedVariables false
set_option linter.unusedSimpArgs false
theorem loop_ex {σ ρ : Type} {step : σ → Option (σ ⊕ ρ)} (I : Nat → σ → Prop) (Q : ρ → Prop)
  (h : ∀ k s, I k s → (∃ r, step s = some (.inr r) ∧ Q r) ∨ (∃ j s', k = j + 1 ∧ step s = some (.inl s') ∧ I j s')) : ∀ k s, I k s → ∃ r, loop step s = some r ∧ Q r := by
 intro k
 induction k with
 | zero =>
  intro s hi
  rcases h 0 s hi with ⟨r, e, q⟩ | ⟨j, s', hk, e, hi'⟩
  ·exact ⟨r, loop_out e, q⟩
  ·omega
 | succ k ih =>
  intro s hi
  rcases h (k + 1) s hi with ⟨r, e, q⟩ | ⟨j, s', hk, e, hi'⟩
  ·exact ⟨r, loop_out e, q⟩
  ·have : j = k := by omega
   subst this
   obtain ⟨r, e2, q⟩ := ih s' hi'
   exact ⟨r, (loop_next e).trans e2, q⟩
theorem rowB_kv {l : List Pr} (h : RowB l) : KvOk l := ⟨by have := h.2.1; omega, fun p hp => by have := h.2.2 p hp; omega⟩
def boundS (n : Nat) (r : List UInt8) : List UInt8 := sha (83 :: (oneS (n : Int) ++ r))
noncomputable def rootL (l : List Pr) : List UInt8 := boundS l.length (rootS (leavesB l))
theorem sr_step (x0 : List Pr) (x1 : List Pr) (x2 : Int) (x3 : Int) (x4 : List UInt8) (x5 : List (List UInt8)) : store_Root_1_step x0 x1 x2 x3 x4 x5 =
  (fork (decide (x3 < x2)) (need (0 ≤ x3 ∧ x3 < (List.length x1 : Int)) (andThen (kv_Leaf (List.getD x1 (Int.toNat x3) zPr)) (fun u4 => need (List.length x5 + List.length ([u4] : List (List UInt8)) ≤ 2147483648) (some (.inl ((w64 (x3 + (1 : Int))), (x5 ++ ([u4] : List (List UInt8))))))))) (some (.inr (x0, x4, x5))) : Option ((Int × List (List UInt8)) ⊕ ((List Pr) × List UInt8 × List (List UInt8)))) := rfl
theorem stroot_eq (l : List Pr) (h : KvOk l) : store_Root l = some (rootL l) := by
 have hl := h.1
 have m1 : store_Root_1 l l (l.length : Int) 0 (List.replicate 32 0) [] = some (l, List.replicate 32 0, leavesB l) := by
  unfold store_Root_1
  have := loop_for (step := fun (s : Int × List (List UInt8)) => store_Root_1_step l l (l.length : Int) s.1 (List.replicate 32 0) s.2) (fun i (_ : Unit) => ((i : Int), leavesB (l.take i))) (fun _ _ => ()) (fun _ => (l, List.replicate 32 0, leavesB l)) l.length (fun _ _ => True) (fun i w hi _ => ⟨?_, trivial⟩) (fun w _ => ?_) l.length 0 () (by omega) trivial
  ·exact this
  ·show store_Root_1_step l l (l.length : Int) (i : Int) (List.replicate 32 0) (leavesB (l.take i)) = _
   rw [sr_step, fork_t (by omega), need_true (by omega), Int.toNat_natCast, leaf_eq _ (h.2 _ (getD_mem hi)), andThen_mk, need_true (by rw [leavesB_len, List.length_take]; simp only [List.length_cons, List.length_nil]; omega), leavesB_take l hi, w64_eq (by omega) (by omega)]
   rfl
  ·show store_Root_1_step l l (l.length : Int) (l.length : Int) (List.replicate 32 0) (leavesB (l.take l.length)) = _
   rw [sr_step, fork_f (by omega), List.take_of_length_le (Nat.le_refl _)]
 have hp : putS [(l.length : Int)] = oneS l.length := by simp [putS]
 have h1 := oneS_len (l.length : Int)
 have h2 := rootS_len (leavesB l)
 have hf : [oneS (l.length : Int), rootS (leavesB l)].flatten = oneS (l.length : Int) ++ rootS (leavesB l) := by simp
 unfold store_Root
 rw [m1, andThen_mk]
 dsimp only
 rw [root_eq _ (by rw [leavesB_len]; omega) (leavesB_small h), andThen_mk, put_eq _ (by simp), andThen_mk, hp, tagged_eq _ _ (by rw [hf, List.length_append]; omega) (by simp), hf]
 rfl
theorem stRoot_eq (s : Stt) (h : StOk s) (n : Int) : store_Store_Root_79c2 n s = some (if (atS s n).2 then (rootL (atS s n).1, true) else (List.replicate 32 0, false)) := by
 unfold store_Store_Root_79c2
 rw [stAt_eq s h, andThen_mk]
 have hr : RowB (atS s n).1 := by
  unfold atS
  split
  ·exact rowB_nil
  ·exact getD_rows h.2.2.2.2 _
 cases (atS s n).2 with
 | true => rw [Bool.not_true, fork_ff, stroot_eq _ (rowB_kv hr), andThen_mk]; rfl
 | false => rfl
def keptS (s : Stt) : List Int := (List.range s.2.2.1.length).map fun i => lowS s + ((i : Nat) : Int)
theorem kp_step (x0 : Int) (x1 : (List Pr) × Int × (List (List Pr)) × Unit) (x2 : List Int) : store_Store_Kept_57df_1_step x0 x1 x2 =
  (fork (decide (x0 ≤ x1.2.1)) (need (List.length x2 + List.length ([x0] : List (Int)) ≤ 2147483648) (some (.inl ((w64 (x0 + (1 : Int))), (x2 ++ ([x0] : List (Int))))))) (some (.inr (x1, x2))) : Option ((Int × List Int) ⊕ (((List Pr) × Int × (List (List Pr)) × Unit) × List Int))) := rfl
theorem kept_eq (s : Stt) (h : StOk s) : store_Store_Kept_57df s = some (s, keptS s) := by
 have hlow := low_eq s h
 obtain ⟨h1, h3, h4, h5, h6⟩ := h
 have hl : lowS s = s.2.1 - (s.2.2.1.length : Int) + 1 := rfl
 have m : store_Store_Kept_57df_1 (lowS s) s [] = some (s, keptS s) := by
  unfold store_Store_Kept_57df_1
  have := loop_for (step := fun (t : Int × List Int) => store_Store_Kept_57df_1_step t.1 s t.2) (fun i (_ : Unit) => (lowS s + ((i : Nat) : Int), (List.range i).map fun i => lowS s + ((i : Nat) : Int))) (fun _ _ => ()) (fun _ => (s, keptS s)) s.2.2.1.length (fun _ _ => True) (fun i w hi _ => ⟨?_, trivial⟩) (fun w _ => ?_) s.2.2.1.length 0 () (by omega) trivial
  ·rw [show lowS s + ((0 : Nat) : Int) = lowS s from by omega] at this
   exact this
  ·show store_Store_Kept_57df_1_step (lowS s + ((i : Nat) : Int)) s ((List.range i).map fun i => lowS s + ((i : Nat) : Int)) = some (.inl (lowS s + ((i + 1 : Nat) : Int), (List.range (i + 1)).map fun i => lowS s + ((i : Nat) : Int)))
   rw [kp_step, fork_t (by omega), need_true (by rw [List.length_map, List.length_range]; simp only [List.length_cons, List.length_nil]; omega), w64_eq (by omega) (by omega), List.range_succ, List.map_append, show lowS s + ((i : Nat) : Int) + 1 = lowS s + ((i + 1 : Nat) : Int) from by omega]
   rfl
  ·show store_Store_Kept_57df_1_step (lowS s + ((s.2.2.1.length : Nat) : Int)) s _ = _
   rw [kp_step, fork_f (by omega)]; rfl
 unfold store_Store_Kept_57df
 rw [hlow, andThen_mk, m, andThen_mk]
end Go.Ax.V
