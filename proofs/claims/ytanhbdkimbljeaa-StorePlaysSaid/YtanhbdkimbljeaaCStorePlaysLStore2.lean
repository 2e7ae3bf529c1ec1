/-
  A store's roots; what is in rows; the document's own rows.
-/
import Derived.Test.YtanhbdkimbljeaaCStorePlaysLStore
import Derived.Test.YtanhbdkimbljeaaCStorePlaysLPairs
namespace Go.Ax.V
open Go.Ax
set_option linter.unusedVariables false
set_option linter.unusedSimpArgs false
theorem loop_ex {σ ρ : Type} {step : σ → Option (σ ⊕ ρ)} (I : Nat → σ → Prop) (Q : ρ → Prop)
  (h : ∀ k s, I k s → (∃ r, step s = some (.inr r) ∧ Q r) ∨ (∃ j s', k = j + 1 ∧ step s = some (.inl s') ∧ I j s')) : ∀ k s, I k s → ∃ r, loop step s = some r ∧ Q r := by
 intro k
 induction k with
 | zero =>
  intro s hi
  rcases h 0 s hi with ⟨r, e, q⟩ | ⟨j, s', hk, e, hi'⟩
  ·exact ⟨r, loop_out e, q⟩
  ·omega
 | succ k ih =>
  intro s hi
  rcases h (k + 1) s hi with ⟨r, e, q⟩ | ⟨j, s', hk, e, hi'⟩
  ·exact ⟨r, loop_out e, q⟩
  ·have : j = k := by omega
   subst this
   obtain ⟨r, e2, q⟩ := ih s' hi'
   exact ⟨r, (loop_next e).trans e2, q⟩
theorem split_at {l : List Pr} {b : Nat} (h : b < l.length) : l = l.take b ++ l.getD b zPr :: l.drop (b + 1) := by
 have e : l.getD b zPr = l[b] := by rw [List.getD_eq_getElem?_getD, List.getElem?_eq_getElem h]; rfl
 rw [e, ← List.drop_eq_getElem_cons h, List.take_append_drop]
theorem sless_ne {a b : List UInt8} (h : sless a b = true) : a ≠ b := fun e => by rw [e, sless_irr] at h; cases h
theorem mem_cut {l : List Pr} (hr : Rise l) (k : List UInt8) (q : Pr) : q ∈ cutP l k ↔ q ∈ l ∧ q.1 ≠ k := by
 unfold cutP
 cases ha : isAt l k with
 | true =>
  obtain ⟨h1, h2⟩ := isAt_lt ha
  rw [if_pos rfl]
  constructor
  ·intro h
   rcases List.mem_append.1 h with h | h
   ·exact ⟨List.mem_of_mem_take h, sless_ne (mem_take_lt h)⟩
   ·exact ⟨List.mem_of_mem_drop h, Ne.symm (sless_ne (drop_gt hr (.inr ⟨ha, rfl⟩) h))⟩
  ·rintro ⟨h3, h4⟩
   rw [split_at h1] at h3
   rcases List.mem_append.1 h3 with h | h
   ·exact List.mem_append.2 (.inl h)
   ·rcases List.mem_cons.1 h with h | h
    ·exact absurd (by rw [h]; exact h2) h4
    ·exact List.mem_append.2 (.inr h)
 | false =>
  rw [if_neg (by simp)]
  refine ⟨fun h => ⟨h, fun e => ?_⟩, fun h => h.1⟩
  have := (isAt_iff hr k).2 ⟨q, h, e⟩
  rw [ha] at this; cases this
theorem rise_ext : ∀ {a b : List Pr}, Rise a → Rise b → (∀ q, q ∈ a ↔ q ∈ b) → a = b
 | [], [], _, _, _ => rfl
 | [], y :: b, _, _, h => by cases (h y).2 List.mem_cons_self
 | x :: a, [], _, _, h => by cases (h x).1 List.mem_cons_self
 | x :: a, y :: b, ha, hb, h => by
  obtain ⟨a1, a2⟩ := List.pairwise_cons.1 ha
  obtain ⟨b1, b2⟩ := List.pairwise_cons.1 hb
  have e : x = y := by
   rcases List.mem_cons.1 ((h x).1 List.mem_cons_self) with e | e
   ·exact e
   ·rcases List.mem_cons.1 ((h y).2 List.mem_cons_self) with e2 | e2
    ·exact e2.symm
    ·have := sless_trans _ _ _ (b1 x e) (a1 y e2)
     rw [sless_irr] at this; cases this
  subst e
  congr 1
  refine rise_ext a2 b2 fun q => ⟨fun hq => ?_, fun hq => ?_⟩
  ·rcases List.mem_cons.1 ((h q).1 (List.mem_cons_of_mem _ hq)) with e | e
   ·have := a1 q hq
    rw [e, sless_irr] at this; cases this
   ·exact e
  ·rcases List.mem_cons.1 ((h q).2 (List.mem_cons_of_mem _ hq)) with e | e
   ·have := b1 q hq
    rw [e, sless_irr] at this; cases this
   ·exact e
theorem rowB_kv {l : List Pr} (h : RowB l) : KvOk l := ⟨by have := h.2.1; omega, fun p hp => by have := h.2.2 p hp; omega⟩
def boundS (n : Nat) (r : List UInt8) : List UInt8 := sha (83 :: (oneS (n : Int) ++ r))
noncomputable def rootL (l : List Pr) : List UInt8 := boundS l.length (rootS (leavesB l))
theorem sr_step (x0 : List Pr) (x1 : List Pr) (x2 : Int) (x3 : Int) (x4 : List UInt8) (x5 : List (List UInt8)) : store_Root_1_step x0 x1 x2 x3 x4 x5 =
  (fork (decide (x3 < x2)) (need (0 ≤ x3 ∧ x3 < (List.length x1 : Int)) (andThen (kv_Leaf (List.getD x1 (Int.toNat x3) zPr)) (fun u4 => need (List.length x5 + List.length ([u4] : List (List UInt8)) ≤ 2147483648) (some (.inl ((w64 (x3 + (1 : Int))), (x5 ++ ([u4] : List (List UInt8))))))))) (some (.inr (x0, x4, x5))) : Option ((Int × List (List UInt8)) ⊕ ((List Pr) × List UInt8 × List (List UInt8)))) := rfl
theorem stroot_eq (l : List Pr) (h : KvOk l) : store_Root l = some (rootL l) := by
 have hl := h.1
 have m1 : store_Root_1 l l (l.length : Int) 0 (List.replicate 32 0) [] = some (l, List.replicate 32 0, leavesB l) := by
  unfold store_Root_1
  have := loop_for (step := fun (s : Int × List (List UInt8)) => store_Root_1_step l l (l.length : Int) s.1 (List.replicate 32 0) s.2) (fun i (_ : Unit) => ((i : Int), leavesB (l.take i))) (fun _ _ => ()) (fun _ => (l, List.replicate 32 0, leavesB l)) l.length (fun _ _ => True) (fun i w hi _ => ⟨?_, trivial⟩) (fun w _ => ?_) l.length 0 () (by omega) trivial
  ·exact this
  ·show store_Root_1_step l l (l.length : Int) (i : Int) (List.replicate 32 0) (leavesB (l.take i)) = _
   rw [sr_step, fork_t (by omega), need_true (by omega), Int.toNat_natCast, leaf_eq _ (h.2 _ (getD_mem hi)), andThen_mk, need_true (by rw [leavesB_len, List.length_take]; simp only [List.length_cons, List.length_nil]; omega), leavesB_take l hi, w64_eq (by omega) (by omega)]
   rfl
  ·show store_Root_1_step l l (l.length : Int) (l.length : Int) (List.replicate 32 0) (leavesB (l.take l.length)) = _
   rw [sr_step, fork_f (by omega), List.take_of_length_le (Nat.le_refl _)]
 have hp : putS [(l.length : Int)] = oneS l.length := by simp [putS]
 have h1 := oneS_len (l.length : Int)
 have h2 := rootS_len (leavesB l)
 have hf : [oneS (l.length : Int), rootS (leavesB l)].flatten = oneS (l.length : Int) ++ rootS (leavesB l) := by simp
 unfold store_Root
 rw [m1, andThen_mk]
 dsimp only
 rw [root_eq _ (by rw [leavesB_len]; omega) (leavesB_small h), andThen_mk, put_eq _ (by simp), andThen_mk, hp, tagged_eq _ _ (by rw [hf, List.length_append]; omega) (by simp), hf]
 rfl
theorem rbound_eq (n : Nat) (r : List UInt8) (hr : r.length = 32) : affiantref1_Bound (n : Int) r = some (boundS n r) := by
 have h1 := oneS_len (n : Int)
 have hf : [oneS (n : Int), r].flatten = oneS (n : Int) ++ r := by simp
 unfold affiantref1_Bound
 rw [rput_eq, andThen_mk, rtagged_eq _ _ (by rw [hf, List.length_append]; omega) (by simp), hf]
 rfl
theorem rstroot_eq (l : List Pr) (h : KvOk l) : affiantref1_StoreRoot l = some (rootL l) := by
 have hl := h.1
 unfold affiantref1_StoreRoot
 rw [rleaves_eq l h, andThen_mk, rroot_eq _ (by rw [leavesB_len]; omega) (leavesB_small h), andThen_mk, rbound_eq _ _ (rootS_len _), andThen_mk]
 rfl
theorem stRoot_eq (s : Stt) (h : StOk s) (n : Int) : store_Store_Root_79c2 n s = some (if (atS s n).2 then (rootL (atS s n).1, true) else (List.replicate 32 0, false)) := by
 unfold store_Store_Root_79c2
 rw [stAt_eq s h, andThen_mk]
 have hr : RowB (atS s n).1 := by
  unfold atS
  split
  ·exact rowB_nil
  ·exact getD_rows h.2.2.2.2 _
 cases (atS s n).2 with
 | true => rw [Bool.not_true, fork_ff, stroot_eq _ (rowB_kv hr), andThen_mk]; rfl
 | false => rfl
def keptS (s : Stt) : List Int := (List.range s.2.2.1.length).map fun i => lowS s + ((i : Nat) : Int)
theorem kp_step (x0 : Int) (x1 : (List Pr) × Int × (List (List Pr)) × Unit) (x2 : List Int) : store_Store_Kept_57df_1_step x0 x1 x2 =
  (fork (decide (x0 ≤ x1.2.1)) (need (List.length x2 + List.length ([x0] : List (Int)) ≤ 2147483648) (some (.inl ((w64 (x0 + (1 : Int))), (x2 ++ ([x0] : List (Int))))))) (some (.inr (x1, x2))) : Option ((Int × List Int) ⊕ (((List Pr) × Int × (List (List Pr)) × Unit) × List Int))) := rfl
theorem kept_eq (s : Stt) (h : StOk s) : store_Store_Kept_57df s = some (s, keptS s) := by
 have hlow := low_eq s h
 obtain ⟨h1, h3, h4, h5, h6⟩ := h
 have hl : lowS s = s.2.1 - (s.2.2.1.length : Int) + 1 := rfl
 have m : store_Store_Kept_57df_1 (lowS s) s [] = some (s, keptS s) := by
  unfold store_Store_Kept_57df_1
  have := loop_for (step := fun (t : Int × List Int) => store_Store_Kept_57df_1_step t.1 s t.2) (fun i (_ : Unit) => (lowS s + ((i : Nat) : Int), (List.range i).map fun i => lowS s + ((i : Nat) : Int))) (fun _ _ => ()) (fun _ => (s, keptS s)) s.2.2.1.length (fun _ _ => True) (fun i w hi _ => ⟨?_, trivial⟩) (fun w _ => ?_) s.2.2.1.length 0 () (by omega) trivial
  ·rw [show lowS s + ((0 : Nat) : Int) = lowS s from by omega] at this
   exact this
  ·show store_Store_Kept_57df_1_step (lowS s + ((i : Nat) : Int)) s ((List.range i).map fun i => lowS s + ((i : Nat) : Int)) = some (.inl (lowS s + ((i + 1 : Nat) : Int), (List.range (i + 1)).map fun i => lowS s + ((i : Nat) : Int)))
   rw [kp_step, fork_t (by omega), need_true (by rw [List.length_map, List.length_range]; simp only [List.length_cons, List.length_nil]; omega), w64_eq (by omega) (by omega), List.range_succ, List.map_append, show lowS s + ((i : Nat) : Int) + 1 = lowS s + ((i + 1 : Nat) : Int) from by omega]
   rfl
  ·show store_Store_Kept_57df_1_step (lowS s + ((s.2.2.1.length : Nat) : Int)) s _ = _
   rw [kp_step, fork_f (by omega)]; rfl
 unfold store_Store_Kept_57df
 rw [hlow, andThen_mk, m, andThen_mk]
theorem copy_eq (s : Stt) (h : StOk s) : store_Store_Copy_57df s = some s := by
 obtain ⟨⟨h1, h2, _⟩, h3, h4, h5, h6⟩ := h
 unfold store_Store_Copy_57df slices_Clone_LPair_Pair slices_Clone_LPair_LPair
 rw [need_true (by omega), andThen_mk, need_true (by omega), andThen_mk]
theorem rset1_eq (l : List Pr) (hl : l.length ≤ 1000) (p : Pr) : affiantref1_Set l p = some (putP l p) := by
 have hb := below_le l p.1
 unfold affiantref1_Set putP
 have e1 : cutL l 0 (belowN l p.1 : Int) = l.take (belowN l p.1) := by rw [cut_to, Int.toNat_natCast]
 have e2 : cutL l ((belowN l p.1 : Int) + 1) (l.length : Int) = l.drop (belowN l p.1 + 1) := by rw [cut_from]; rfl
 have e3 : cutL l (belowN l p.1 : Int) (l.length : Int) = l.drop (belowN l p.1) := by rw [cut_from, Int.toNat_natCast]
 have t1 : (l.take (belowN l p.1)).length ≤ 1000 := by rw [List.length_take]; omega
 have t2 : (l.drop (belowN l p.1)).length ≤ 1000 := by rw [List.length_drop]; omega
 have t3 : (l.drop (belowN l p.1 + 1)).length ≤ 1000 := by rw [List.length_drop]; omega
 rw [rfirst_eq l hl, andThen_mk, need_true (by omega), w64_eq (by omega) (by omega), Int.toNat_natCast, e1, e2, e3, List.nil_append]
 have a1 : (([] : List Pr).length + (l.take (belowN l p.1)).length ≤ 2147483648) := by rw [List.length_nil]; omega
 have a2 : ((l.take (belowN l p.1)).length + [p].length ≤ 2147483648) := by rw [List.length_singleton]; omega
 have a3 : ((l.take (belowN l p.1) ++ [p]).length + (l.drop (belowN l p.1 + 1)).length ≤ 2147483648) := by rw [List.length_append, List.length_singleton]; omega
 have a4 : ((l.take (belowN l p.1) ++ [p]).length + (l.drop (belowN l p.1)).length ≤ 2147483648) := by rw [List.length_append, List.length_singleton]; omega
 by_cases c : belowN l p.1 < l.length
 ·rw [fork_t (by omega), need_true (by omega)]
  by_cases q : (l.getD (belowN l p.1) (([] : List UInt8), ([] : List UInt8), ())).1 = p.1
  ·have ha : isAt l p.1 = true := by unfold isAt; rw [decide_eq_true_eq]; exact ⟨c, q⟩
   rw [fork_t q, need_true (by omega), need_true (by omega), need_true a1, need_true a2, need_true a3, if_pos ha, List.append_assoc]; rfl
  ·have ha : ¬ isAt l p.1 = true := by unfold isAt; rw [decide_eq_true_eq]; exact fun e => q e.2
   rw [fork_f q, need_true (by omega), need_true a1, need_true a2, need_true a4, if_neg ha, List.append_assoc]; rfl
 ·have ha : ¬ isAt l p.1 = true := by unfold isAt; rw [decide_eq_true_eq]; exact fun e => c e.1
  rw [fork_f (by omega), need_true (by omega), need_true a1, need_true a2, need_true a4, if_neg ha, List.append_assoc]; rfl
theorem rdel_step (x0 : List UInt8) (x1 : List Pr) (x2 : Int) (x3 : Int) (x4 : List Pr) : affiantref1_Del_1_step x0 x1 x2 x3 x4 =
  (fork (decide (x3 < x2)) (need (0 ≤ x3 ∧ x3 < (List.length x1 : Int)) (fork (!decide ((List.getD x1 (Int.toNat x3) zPr).1 = x0)) (need (List.length x4 + List.length ([(List.getD x1 (Int.toNat x3) zPr)] : List Pr) ≤ 2147483648) (some (.inl ((w64 (x3 + (1 : Int))), (x4 ++ ([(List.getD x1 (Int.toNat x3) zPr)] : List Pr)))))) (some (.inl ((w64 (x3 + (1 : Int))), x4))))) (some (.inr x4)) : Option ((Int × List Pr) ⊕ (List Pr))) := rfl
theorem filter_take_succ (l : List Pr) (f : Pr → Bool) {i : Nat} (h : i < l.length) : (l.take (i + 1)).filter f = (l.take i).filter f ++ (if f (l.getD i zPr) then [l.getD i zPr] else []) := by
 rw [List.take_add_one, List.filter_append, List.getElem?_eq_getElem h, List.getD_eq_getElem?_getD, List.getElem?_eq_getElem h]
 show _ ++ List.filter f [l[i]] = _ ++ (if f l[i] then [l[i]] else [])
 rw [List.filter_cons]; rfl
theorem rdel1_eq (l : List Pr) (hr : Rise l) (hl : l.length ≤ 1000) (k : List UInt8) : affiantref1_Del l k = some (cutP l k) := by
 have hf : l.filter (fun p => !decide (p.1 = k)) = cutP l k := by
  refine rise_ext (hr.sublist List.filter_sublist) (cutP_rise hr k) fun q => ?_
  rw [mem_cut hr, List.mem_filter, Bool.not_eq_true', decide_eq_false_iff_not]
 have m : affiantref1_Del_1 k l (l.length : Int) 0 [] = some (cutP l k) := by
  unfold affiantref1_Del_1
  have := loop_for (step := fun (s : Int × List Pr) => affiantref1_Del_1_step k l (l.length : Int) s.1 s.2) (fun i (_ : Unit) => ((i : Int), (l.take i).filter (fun p => !decide (p.1 = k)))) (fun _ _ => ()) (fun _ => cutP l k) l.length (fun _ _ => True) (fun i w hi _ => ⟨?_, trivial⟩) (fun w _ => ?_) l.length 0 () (by omega) trivial
  ·exact this
  ·show affiantref1_Del_1_step k l (l.length : Int) (i : Int) ((l.take i).filter (fun p => !decide (p.1 = k))) = some (.inl (((i + 1 : Nat) : Int), (l.take (i + 1)).filter (fun p => !decide (p.1 = k))))
   have b : ((l.take i).filter (fun p => !decide (p.1 = k))).length ≤ i := Nat.le_trans (List.length_filter_le _ _) (by rw [List.length_take]; omega)
   have t := filter_take_succ l (fun p => !decide (p.1 = k)) hi
   rw [rdel_step, fork_t (by omega), need_true (by omega), Int.toNat_natCast, w64_eq (by omega) (by omega), t]
   by_cases e : (l.getD i zPr).1 = k
   ·rw [fork_nt e, if_neg (by rw [decide_eq_true e]; simp), List.append_nil]; rfl
   ·have b3 : ∀ n : Nat, n ≤ i → n + [l.getD i zPr].length ≤ 2147483648 := fun n hn => by rw [List.length_singleton]; omega
    rw [fork_nf e, need_true (b3 _ b), if_pos (by rw [decide_eq_false e]; rfl)]; rfl
  ·show affiantref1_Del_1_step k l (l.length : Int) (l.length : Int) ((l.take l.length).filter (fun p => !decide (p.1 = k))) = _
   rw [rdel_step, fork_f (by omega), List.take_of_length_le (Nat.le_refl _), hf]
 unfold affiantref1_Del
 rw [m, andThen_mk]
end Go.Ax.V
