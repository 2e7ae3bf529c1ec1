/-
  A store's roots; what is in rows; the document's own rows.
-/
import Derived.Test.YtmgmncfhldelfaaCAdmitTellsLStore
import Derived.Test.YtmgmncfhldelfaaCAdmitTellsLPairs
namespace Go.Ax.V
open Go.Ax
set_option linter.unusedVariables false
set_option linter.unusedSimpArgs false
theorem loop_ex {σ ρ : Type} {step : σ → Option (σ ⊕ ρ)} (I : Nat → σ → Prop) (Q : ρ → Prop)
  (h : ∀ k s, I k s → (∃ r, step s = some (.inr r) ∧ Q r) ∨ (∃ j s', k = j + 1 ∧ step s = some (.inl s') ∧ I j s')) : ∀ k s, I k s → ∃ r, loop step s = some r ∧ Q r := by
 intro k
 induction k with
 | zero =>
  intro s hi
  rcases h 0 s hi with ⟨r, e, q⟩ | ⟨j, s', hk, e, hi'⟩
  ·exact ⟨r, loop_out e, q⟩
  ·omega
 | succ k ih =>
  intro s hi
  rcases h (k + 1) s hi with ⟨r, e, q⟩ | ⟨j, s', hk, e, hi'⟩
  ·exact ⟨r, loop_out e, q⟩
  ·have : j = k := by omega
   subst this
   obtain ⟨r, e2, q⟩ := ih s' hi'
   exact ⟨r, (loop_next e).trans e2, q⟩
theorem krise_ext : ∀ {a b : List Pr}, RiseP a → RiseP b → (∀ q, q ∈ a ↔ q ∈ b) → a = b
 | [], [], _, _, _ => rfl
 | [], y :: b, _, _, h => by cases (h y).2 List.mem_cons_self
 | x :: a, [], _, _, h => by cases (h x).1 List.mem_cons_self
 | x :: a, y :: b, ha, hb, h => by
  obtain ⟨a1, a2⟩ := List.pairwise_cons.1 ha
  obtain ⟨b1, b2⟩ := List.pairwise_cons.1 hb
  have e : x = y := by
   rcases List.mem_cons.1 ((h x).1 List.mem_cons_self) with e | e
   ·exact e
   ·rcases List.mem_cons.1 ((h y).2 List.mem_cons_self) with e2 | e2
    ·exact e2.symm
    ·have := sless_trans _ _ _ (b1 x e) (a1 y e2)
     rw [sless_irr] at this; cases this
  subst e
  congr 1
  refine krise_ext a2 b2 fun q => ⟨fun hq => ?_, fun hq => ?_⟩
  ·rcases List.mem_cons.1 ((h q).1 (List.mem_cons_of_mem _ hq)) with e | e
   ·have := a1 q hq
    rw [e, sless_irr] at this; cases this
   ·exact e
  ·rcases List.mem_cons.1 ((h q).2 (List.mem_cons_of_mem _ hq)) with e | e
   ·have := b1 q hq
    rw [e, sless_irr] at this; cases this
   ·exact e
def boundS (n : Nat) (r : List UInt8) : List UInt8 := sha (83 :: (oneS (n : Int) ++ r))
noncomputable def rootL (l : List Pr) : List UInt8 := boundS l.length (rootS (leavesB l))
theorem sr_step (x0 : List Pr) (x1 : List Pr) (x2 : Int) (x3 : Int) (x4 : List UInt8) (x5 : List (List UInt8)) : store_Root_1_step x0 x1 x2 x3 x4 x5 =
  (fork (decide (x3 < x2)) (need (0 ≤ x3 ∧ x3 < (List.length x1 : Int)) (andThen (kv_Leaf (List.getD x1 (Int.toNat x3) zPr)) (fun u4 => need (List.length x5 + List.length ([u4] : List (List UInt8)) ≤ 2147483648) (some (.inl ((w64 (x3 + (1 : Int))), (x5 ++ ([u4] : List (List UInt8))))))))) (some (.inr (x0, x4, x5))) : Option ((Int × List (List UInt8)) ⊕ ((List Pr) × List UInt8 × List (List UInt8)))) := rfl
theorem stroot_eq (l : List Pr) (h : KvOk l) : store_Root l = some (rootL l) := by
 have hl := h.1
 have m1 : store_Root_1 l l (l.length : Int) 0 (List.replicate 32 0) [] = some (l, List.replicate 32 0, leavesB l) := by
  unfold store_Root_1
  have := loop_for (step := fun (s : Int × List (List UInt8)) => store_Root_1_step l l (l.length : Int) s.1 (List.replicate 32 0) s.2) (fun i (_ : Unit) => ((i : Int), leavesB (l.take i))) (fun _ _ => ()) (fun _ => (l, List.replicate 32 0, leavesB l)) l.length (fun _ _ => True) (fun i w hi _ => ⟨?_, trivial⟩) (fun w _ => ?_) l.length 0 () (by omega) trivial
  ·exact this
  ·show store_Root_1_step l l (l.length : Int) (i : Int) (List.replicate 32 0) (leavesB (l.take i)) = _
   rw [sr_step, fork_t (by omega), need_true (by omega), Int.toNat_natCast, leaf_eq _ (h.2 _ (getD_mem hi)), andThen_mk, need_true (by rw [leavesB_len, List.length_take]; simp only [List.length_cons, List.length_nil]; omega), leavesB_take l hi, w64_eq (by omega) (by omega)]
   rfl
  ·show store_Root_1_step l l (l.length : Int) (l.length : Int) (List.replicate 32 0) (leavesB (l.take l.length)) = _
   rw [sr_step, fork_f (by omega), List.take_of_length_le (Nat.le_refl _)]
 have hp : putS [(l.length : Int)] = oneS l.length := by simp [putS]
 have h1 := oneS_len (l.length : Int)
 have h2 := rootS_len (leavesB l)
 have hf : [oneS (l.length : Int), rootS (leavesB l)].flatten = oneS (l.length : Int) ++ rootS (leavesB l) := by simp
 unfold store_Root
 rw [m1, andThen_mk]
 dsimp only
 rw [root_eq _ (by rw [leavesB_len]; omega) (leavesB_small h), andThen_mk, put_eq _ (by simp), andThen_mk, hp, tagged_eq _ _ (by rw [hf, List.length_append]; omega) (by simp), hf]
 rfl
theorem rbound_eq (n : Nat) (r : List UInt8) (hr : r.length = 32) : affiantref1_Bound (n : Int) r = some (boundS n r) := by
 have h1 := oneS_len (n : Int)
 have hf : [oneS (n : Int), r].flatten = oneS (n : Int) ++ r := by simp
 unfold affiantref1_Bound
 rw [rput_eq, andThen_mk, rtagged_eq _ _ (by rw [hf, List.length_append]; omega) (by simp), hf]
 rfl
theorem rstroot_eq (l : List Pr) (h : KvOk l) : affiantref1_StoreRoot l = some (rootL l) := by
 have hl := h.1
 unfold affiantref1_StoreRoot
 rw [rleaves_eq l h, andThen_mk, rroot_eq _ (by rw [leavesB_len]; omega) (leavesB_small h), andThen_mk, rbound_eq _ _ (rootS_len _), andThen_mk]
 rfl
theorem filter_take_succ (l : List Pr) (f : Pr → Bool) {i : Nat} (h : i < l.length) : (l.take (i + 1)).filter f = (l.take i).filter f ++ (if f (l.getD i zPr) then [l.getD i zPr] else []) := by
 rw [List.take_add_one, List.filter_append, List.getElem?_eq_getElem h, List.getD_eq_getElem?_getD, List.getElem?_eq_getElem h]
 show _ ++ List.filter f [l[i]] = _ ++ (if f l[i] then [l[i]] else [])
 rw [List.filter_cons]; rfl
end Go.Ax.V
