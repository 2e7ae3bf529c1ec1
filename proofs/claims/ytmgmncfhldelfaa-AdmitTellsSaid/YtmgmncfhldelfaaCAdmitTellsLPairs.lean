/-
  Pairs of numbers, the document's own proofs, and when two are the same.
-/
import Derived.Test.YtmgmncfhldelfaaCAdmitTellsLProve
import Derived.Test.YtmgmncfhldelfaaCAdmitTellsLValsLaws1
namespace Go.Ax.V
open Go.Ax
set_option linter.unusedVariables false
set_option linter.unusedSimpArgs false
theorem rfirst_step (x0 : List Pr) (x1 : List UInt8) (x2 : Int) : affiantref1_First_1_step x0 x1 x2 =
  (fork (decide (x2 < (List.length x0 : Int))) (need (0 ≤ x2 ∧ x2 < (List.length x0 : Int)) (fork (sless (List.getD x0 (Int.toNat x2) zPr).1 x1) (some (.inl (w64 (x2 + (1 : Int))))) (some (.inr x2)))) (some (.inr x2)) : Option ((Int) ⊕ (Int))) := rfl
theorem rleaves_step (x0 : List Pr) (x1 : Int) (x2 : Int) (x3 : List (List UInt8)) : affiantref1_leaves_1_step x0 x1 x2 x3 =
  (fork (decide (x2 < x1)) (need (0 ≤ x2 ∧ x2 < (List.length x0 : Int)) (andThen (affiantref1_Leaf (List.getD x0 (Int.toNat x2) zPr)) (fun u4 => need (List.length x3 + List.length ([u4] : List (List UInt8)) ≤ 2147483648) (some (.inl ((w64 (x2 + (1 : Int))), (x3 ++ ([u4] : List (List UInt8))))))))) (some (.inr x3)) : Option ((Int × List (List UInt8)) ⊕ (List (List UInt8)))) := rfl
theorem rprove_step (x0 : List Pr) (x1 : Int) (x2 : Int) (x3 : Int) (x4 : Int) (x5 : Unit) (x6 : Int) (x7 : Int) (x8 : Unit) (x9 : List Pr) (x10 : List (List (List UInt8))) : affiantref1_Prove_1_step x0 x1 x2 x3 x4 x5 x6 x7 x8 x9 x10 =
  (fork (decide (x2 < x1)) (need (0 ≤ x2 ∧ x2 < (List.length x0 : Int)) (need (List.length x9 + List.length ([(List.getD x0 (Int.toNat x2) zPr)] : List Pr) ≤ 2147483648) (andThen (affiantref1_leaves x0) (fun u6 => andThen (affiantref1_Path u6 x2) (fun u8 => need (List.length x10 + List.length ([u8] : List (List (List UInt8))) ≤ 2147483648) (some (.inl ((w64 (x2 + (1 : Int))), (x9 ++ ([(List.getD x0 (Int.toNat x2) zPr)] : List Pr)), (x10 ++ ([u8] : List (List (List UInt8)))))))))))) (some (.inr (x3, x4, x5, x6, x7, x8, x9, x10))) : Option ((Int × (List Pr) × List (List (List UInt8))) ⊕ (Int × Int × Unit × Int × Int × Unit × (List Pr) × List (List (List UInt8))))) := rfl
theorem rfirst_loop (l : List Pr) (hl : l.length ≤ 1000) (k : List UInt8) : ∀ (m i : Nat), i + m = belowN l k → affiantref1_First_1 l k (i : Int) = some (belowN l k : Int)
 | 0, i, h => by
  have hb := below_le l k
  unfold affiantref1_First_1
  refine loop_out ?_
  show affiantref1_First_1_step l k (i : Int) = _
  have hi : i = belowN l k := by omega
  rw [rfirst_step]
  by_cases c : i < l.length
  ·rw [fork_t (by omega), need_true (by omega), Int.toNat_natCast, hi, below_at l k (by omega), fork_ff]
  ·rw [fork_f (by omega), hi]
 | m + 1, i, h => by
  have hb := below_le l k
  have ih := rfirst_loop l hl k m (i + 1) (by omega)
  unfold affiantref1_First_1 at ih ⊢
  have hs : affiantref1_First_1_step l k (i : Int) = some (.inl ((i + 1 : Nat) : Int)) := by
   rw [rfirst_step, fork_t (by omega), need_true (by omega), Int.toNat_natCast, below_lt l k i (by omega), fork_tt, w64_eq (by omega) (by omega)]; rfl
  rw [loop_next hs]
  exact ih
theorem rfirst_eq (l : List Pr) (hl : l.length ≤ 1000) (k : List UInt8) : affiantref1_First l k = some (belowN l k : Int) := by
 unfold affiantref1_First
 rw [show (0 : Int) = ((0 : Nat) : Int) from rfl, rfirst_loop l hl k (belowN l k) 0 (by omega), andThen_mk]
theorem rLeaf_eq (p : Pr) (h : p.1.length ≤ 100000 ∧ p.2.1.length ≤ 100000) : affiantref1_Leaf p = some (leafB p) := by
 have a := txt_len p.1
 have b := txt_len p.2.1
 unfold affiantref1_Leaf
 rw [rtext_eq _ h.1, andThen_mk, rtext_eq _ h.2, andThen_mk, need_true (by omega)]; rfl
theorem rleaves_eq (l : List Pr) (h : KvOk l) : affiantref1_leaves l = some (leavesB l) := by
 have hl := h.1
 have m1 : affiantref1_leaves_1 l (l.length : Int) 0 [] = some (leavesB l) := by
  unfold affiantref1_leaves_1
  have := loop_for (step := fun (s : Int × List (List UInt8)) => affiantref1_leaves_1_step l (l.length : Int) s.1 s.2) (fun i (_ : Unit) => ((i : Int), leavesB (l.take i))) (fun _ _ => ()) (fun _ => leavesB l) l.length (fun _ _ => True) (fun i w hi _ => ⟨?_, trivial⟩) (fun w _ => ?_) l.length 0 () (by omega) trivial
  ·exact this
  ·show affiantref1_leaves_1_step l (l.length : Int) (i : Int) (leavesB (l.take i)) = _
   rw [rleaves_step, fork_t (by omega), need_true (by omega), Int.toNat_natCast, rLeaf_eq _ (h.2 _ (getD_mem hi)), andThen_mk, need_true (by rw [leavesB_len, List.length_take]; simp only [List.length_cons, List.length_nil]; omega), leavesB_take l hi, w64_eq (by omega) (by omega)]
   rfl
  ·show affiantref1_leaves_1_step l (l.length : Int) (l.length : Int) (leavesB (l.take l.length)) = _
   rw [rleaves_step, fork_f (by omega), List.take_of_length_le (Nat.le_refl _)]
 unfold affiantref1_leaves
 rw [m1, andThen_mk]
theorem rprove_eq (l : List Pr) (h : KvOk l) (F T : Nat) (hT : T ≤ l.length) : affiantref1_Prove l (F : Int) (T : Int) = some (someN l F T) := by
 have hl := h.1
 unfold affiantref1_Prove someN
 by_cases c : T ≤ F
 ·rw [fork_t (by omega), if_pos c]
 ·rw [fork_f (by omega), if_neg c]
  have m2 : affiantref1_Prove_1 l (T : Int) (F : Int) 0 0 () (l.length : Int) (F : Int) () [] [] = some (0, 0, (), (l.length : Int), (F : Int), (), (l.drop F).take (T - F), pathsN l F (T - F)) := by
   unfold affiantref1_Prove_1
   have := loop_for (step := fun (s : Int × (List Pr) × List (List (List UInt8))) => affiantref1_Prove_1_step l (T : Int) s.1 0 0 () (l.length : Int) (F : Int) () s.2.1 s.2.2) (fun i (_ : Unit) => (((F + i : Nat) : Int), (l.drop F).take i, pathsN l F i)) (fun _ _ => ()) (fun _ => (0, 0, (), (l.length : Int), (F : Int), (), (l.drop F).take (T - F), pathsN l F (T - F))) (T - F) (fun _ _ => True) (fun i w hi _ => ⟨?_, trivial⟩) (fun w _ => ?_) (T - F) 0 () (by omega) trivial
   ·exact this
   ·show affiantref1_Prove_1_step l (T : Int) ((F + i : Nat) : Int) 0 0 () (l.length : Int) (F : Int) () ((l.drop F).take i) (pathsN l F i) = _
    have e1 : ((l.drop F).take i).length ≤ 60 := by rw [List.length_take, List.length_drop]; omega
    have e2 : (pathsN l F i).length = i := by simp [pathsN]
    rw [rprove_step, fork_t (by omega), need_true (by omega), Int.toNat_natCast, need_true (by simp only [List.length_cons, List.length_nil]; omega), rleaves_eq l h, andThen_mk, rpath_eq (leavesB l) _ (by rw [leavesB_len]; omega) (leavesB_small h), andThen_mk, need_true (by simp only [List.length_cons, List.length_nil]; omega), w64_eq (by omega) (by omega), ← drop_take_succ l (by omega), ← pathsN_succ]
    congr 3
   ·show affiantref1_Prove_1_step l (T : Int) ((F + (T - F) : Nat) : Int) 0 0 () (l.length : Int) (F : Int) () ((l.drop F).take (T - F)) (pathsN l F (T - F)) = _
    rw [rprove_step, fork_f (by omega)]
  rw [m2, andThen_mk]
theorem rcover_eq (l : List Pr) (h : KvOk l) (a b : List UInt8) : affiantref1_Cover l a b = some (someN l (belowN l a - 1) (min (belowN l (maxS a b) + 1) l.length)) := by
 have hl := h.1
 have h1 := below_le l a
 have h2 := below_le l b
 unfold affiantref1_Cover
 rw [rfirst_eq l (by omega), andThen_mk, rfirst_eq l (by omega), andThen_mk]
 have key : ∀ n : Nat, n ≤ l.length → affiantref1_Prove l (max (w64 ((belowN l a : Int) - (1 : Int))) (0 : Int)) (min (w64 ((n : Int) + (1 : Int))) (List.length l : Int)) = some (someN l (belowN l a - 1) (min (n + 1) l.length)) := fun n hn => by
  rw [w64_eq (by omega) (by omega), w64_eq (by omega) (by omega), show max ((belowN l a : Int) - 1) 0 = ((belowN l a - 1 : Nat) : Int) from by omega, show min ((n : Int) + 1) (l.length : Int) = ((min (n + 1) l.length : Nat) : Int) from by omega]
  exact rprove_eq l h _ _ (by omega)
 by_cases c : belowN l b < belowN l a
 ·have hs : sless a b = false := by
   cases hs : sless a b with
   | false => rfl
   | true =>
    have hs2 : sless b a = false := by
     cases q : sless b a with
     | false => rfl
     | true => have := sless_trans _ _ _ hs q; rw [sless_irr] at this; cases this
    have := below_mono l b a hs2
    omega
  have hm : maxS a b = a := by unfold maxS; rw [hs]; rfl
  rw [fork_t (by omega), key _ h1, andThen_mk, hm]
 ·rw [fork_f (by omega), key _ h2, andThen_mk]
  cases hs : sless a b with
  | true =>
   have hm : maxS a b = b := by unfold maxS; rw [hs]; rfl
   rw [hm]
  | false =>
   have hm : maxS a b = a := by unfold maxS; rw [hs]; rfl
   have := below_mono l a b hs
   rw [hm, show belowN l b = belowN l a from by omega]
def keys12 : List (List UInt8) := [[97], [97, 98], [97, 98, 99], [98], [98, 97], [115, 47, 97], [115, 47, 98], [115, 47, 99], [116], [117], [122], [122, 122]]
theorem keys_eq : affiantkeep_keys = some keys12 := rfl
theorem key_eq (n : Int) : ∃ i, i < 12 ∧ affiantkeep_Key n = some (keys12.getD i []) := by
 obtain ⟨r, er, r1, r2⟩ := within_eq n 0 11 (by omega) (by omega) (by omega)
 refine ⟨r.toNat, by omega, ?_⟩
 have hk : keys12.length = 12 := rfl
 unfold affiantkeep_Key
 rw [keys_eq, andThen_mk, andThen_mk, hk, show w64 (((12 : Nat) : Int) - 1) = 11 from rfl, er, andThen_mk, need_true (by omega)]
theorem text_eq (n : Int) : ∃ x, affiantkeep_Text n = some x ∧ x.length ≤ 8 := by
 obtain ⟨r, er, r1, r2⟩ := within_eq n 0 4 (by omega) (by omega) (by omega)
 unfold affiantkeep_Text
 rw [er, andThen_mk, need_true (by show 0 ≤ r ∧ r < ((5 : Nat) : Int); omega)]
 refine ⟨_, rfl, ?_⟩
 have : ∀ i, i < 5 → (([([] : List UInt8), ([49] : List UInt8), ([120] : List UInt8), ([118, 97, 108, 117, 101] : List UInt8), ([49, 50, 51, 52, 53, 54, 55, 56] : List UInt8)] : List (List UInt8)).getD i []).length ≤ 8 := by decide
 exact this r.toNat (by omega)
abbrev Mp := List (List UInt8 × List UInt8)
def MpOk (m : Mp) : Prop := ∀ p ∈ m, p.2.length ≤ 8
theorem mapPut_ok {m : Mp} (h : MpOk m) (x y : List UInt8) (hy : y.length ≤ 8) : MpOk (mapPut x y m) := by
 induction m with
 | nil => intro p hp; rcases List.mem_cons.1 hp with rfl | hp; exact hy; cases hp
 | cons q m ih =>
  intro p hp
  rw [mapPut] at hp
  cases c : decide (x = q.1) with
  | true =>
   rw [c, cond_true] at hp
   rcases List.mem_cons.1 hp with rfl | hp
   ·exact hy
   ·exact h p (List.mem_cons_of_mem _ hp)
  | false =>
   rw [c, cond_false] at hp
   rcases List.mem_cons.1 hp with rfl | hp
   ·exact h p List.mem_cons_self
   ·exact ih (fun r hr => h r (List.mem_cons_of_mem _ hr)) p hp
theorem mapGet_ok {m : Mp} (h : MpOk m) {x y : List UInt8} (hg : mapGet x m = some y) : y.length ≤ 8 := by
 induction m with
 | nil => cases hg
 | cons q m ih =>
  rw [mapGet] at hg
  cases c : decide (x = q.1) with
  | true => rw [c, cond_true] at hg; injection hg with hg; subst hg; exact h q List.mem_cons_self
  | false => rw [c, cond_false] at hg; exact ih (fun r hr => h r (List.mem_cons_of_mem _ hr)) hg
theorem ps1_step (x0 : List Int) (x1 : Int) (x2 : List (List UInt8 × List UInt8)) : affiantkeep_Pairs_1_step x0 x1 x2 =
  (fork (decide (x1 < (List.length x0 : Int))) (fork (decide (x1 < (12 : Int))) (need (0 ≤ x1 ∧ x1 < (List.length x0 : Int)) (andThen (affiantkeep_Key (List.getD x0 (Int.toNat x1) (0 : Int))) (fun u5 => andThen (affiantkeep_Text (w64 (Int.tdiv (List.getD x0 (Int.toNat x1) (0 : Int)) (12 : Int)))) (fun u7 => some (.inl ((w64 (x1 + (1 : Int))), (mapPut u5 u7 x2))))))) (some (.inr x2))) (some (.inr x2)) : Option ((Int × List (List UInt8 × List UInt8)) ⊕ (List (List UInt8 × List UInt8)))) := rfl
theorem ps2_step (x0 : Int) (x1 : Int) (x2 : List (List UInt8 × List UInt8)) (x3 : List Pr) (x4 : List (List UInt8)) : affiantkeep_Pairs_2_step x0 x1 x2 x3 x4 =
  (fork (decide (x1 < x0)) (need (0 ≤ x1 ∧ x1 < (List.length x4 : Int)) (fork (Option.isSome (mapGet (List.getD x4 (Int.toNat x1) ([] : List UInt8)) x2)) (need (List.length x3 + List.length ([((List.getD x4 (Int.toNat x1) ([] : List UInt8)), (Option.getD (mapGet (List.getD x4 (Int.toNat x1) ([] : List UInt8)) x2) ([] : List UInt8)), ())] : List Pr) ≤ 2147483648) (some (.inl ((w64 (x1 + (1 : Int))), (x3 ++ ([((List.getD x4 (Int.toNat x1) ([] : List UInt8)), (Option.getD (mapGet (List.getD x4 (Int.toNat x1) ([] : List UInt8)) x2) ([] : List UInt8)), ())] : List Pr)))))) (some (.inl ((w64 (x1 + (1 : Int))), x3))))) (some (.inr x3)) : Option ((Int × List Pr) ⊕ (List Pr))) := rfl
theorem pairs_1 (ns : List Int) (hn : ns.length ≤ 140737488355328) : ∀ (k i : Nat) (m : Mp), i + k = min ns.length 12 → MpOk m → ∃ m', affiantkeep_Pairs_1 ns (i : Int) m = some m' ∧ MpOk m'
 | 0, i, m, h, hm => by
  refine ⟨m, ?_, hm⟩
  unfold affiantkeep_Pairs_1
  refine loop_out ?_
  show affiantkeep_Pairs_1_step ns (i : Int) m = _
  rw [ps1_step]
  by_cases c : i < ns.length
  ·rw [fork_t (by omega), fork_f (by omega)]
  ·rw [fork_f (by omega)]
 | k + 1, i, m, h, hm => by
  obtain ⟨j, hj, ej⟩ := key_eq (ns.getD i 0)
  obtain ⟨x, ex, hx⟩ := text_eq (w64 (Int.tdiv (ns.getD i 0) 12))
  obtain ⟨m', e', h'⟩ := pairs_1 ns hn k (i + 1) (mapPut (keys12.getD j []) x m) (by omega) (mapPut_ok hm _ _ hx)
  refine ⟨m', ?_, h'⟩
  unfold affiantkeep_Pairs_1 at e' ⊢
  have hs : affiantkeep_Pairs_1_step ns (i : Int) m = some (.inl (((i + 1 : Nat) : Int), mapPut (keys12.getD j []) x m)) := by
   rw [ps1_step, fork_t (by omega), fork_t (by omega), need_true (by omega), Int.toNat_natCast, ej, andThen_mk, ex, andThen_mk, w64_eq (by omega) (by omega)]; rfl
  exact (loop_next (step := fun (s : Int × Mp) => affiantkeep_Pairs_1_step ns s.1 s.2) (s := ((i : Int), m)) hs).trans e'
def pairAt (m : Mp) (k : List UInt8) : List Pr := match mapGet k m with
 | some v => [(k, v, ())]
 | none => []
def pairsM (m : Mp) : List Pr := keys12.flatMap (pairAt m)
theorem flatMap_len1 {α β : Type} (f : α → List β) (hf : ∀ x, (f x).length ≤ 1) : ∀ l : List α, (l.flatMap f).length ≤ l.length
 | [] => Nat.le_refl _
 | x :: l => by
  have := flatMap_len1 f hf l
  have := hf x
  rw [List.flatMap_cons, List.length_append, List.length_cons]; omega
theorem pairAt_len (m : Mp) (k : List UInt8) : (pairAt m k).length ≤ 1 := by
 unfold pairAt
 split <;> simp
theorem pairs_2 (m : Mp) : affiantkeep_Pairs_2 12 0 m [] keys12 = some (pairsM m) := by
 unfold affiantkeep_Pairs_2
 have := loop_for (step := fun (s : Int × List Pr) => affiantkeep_Pairs_2_step 12 s.1 m s.2 keys12) (fun i (_ : Unit) => ((i : Int), (keys12.take i).flatMap (pairAt m))) (fun _ _ => ()) (fun _ => pairsM m) 12 (fun _ _ => True) (fun i w hi _ => ⟨?_, trivial⟩) (fun w _ => ?_) 12 0 () (by omega) trivial
 ·exact this
 ·show affiantkeep_Pairs_2_step 12 (i : Int) m ((keys12.take i).flatMap (pairAt m)) keys12 = _
  have hk : keys12.length = 12 := rfl
  have b := flatMap_len1 (pairAt m) (pairAt_len m) (keys12.take i)
  rw [List.length_take] at b
  have t := flat_take (pairAt m) keys12 [] (i := i) (by omega)
  rw [ps2_step, fork_t (by omega), need_true (by omega), Int.toNat_natCast, w64_eq (by omega) (by omega)]
  cases c : mapGet (keys12.getD i []) m with
  | none =>
   have e : pairAt m (keys12.getD i []) = [] := by unfold pairAt; rw [c]
   rw [e, List.append_nil] at t
   rw [Option.isSome_none, fork_ff, ← t]; rfl
  | some v =>
   have e : pairAt m (keys12.getD i []) = [(keys12.getD i [], v, ())] := by unfold pairAt; rw [c]
   rw [e] at t
   rw [Option.isSome_some, fork_tt, need_true (by simp only [List.length_cons, List.length_nil]; omega), Option.getD_some, ← t]; rfl
 ·show affiantkeep_Pairs_2_step 12 ((12 : Nat) : Int) m ((keys12.take 12).flatMap (pairAt m)) keys12 = _
  rw [ps2_step, fork_f (by omega)]; rfl
def RowOk (l : List Pr) : Prop := RiseP l ∧ l.length ≤ 12 ∧ (∀ p ∈ l, p.1 ∈ keys12) ∧ ∀ p ∈ l, p.2.1.length ≤ 8
theorem keys_rise : keys12.Pairwise (fun a b => sless a b = true) := by decide
theorem keys_b : ∀ k ∈ keys12, 1 ≤ k.length ∧ k.length ≤ 3 := by decide
theorem pairAt_mem {m : Mp} {k : List UInt8} {p : Pr} (h : p ∈ pairAt m k) : p.1 = k ∧ mapGet k m = some p.2.1 := by
 unfold pairAt at h
 split at h
 ·rename_i v e
  rw [List.mem_singleton] at h; subst h; exact ⟨rfl, e⟩
 ·cases h
theorem pairsM_rise (m : Mp) : ∀ ks : List (List UInt8), ks.Pairwise (fun a b => sless a b = true) → RiseP (ks.flatMap (pairAt m))
 | [], _ => List.Pairwise.nil
 | k :: ks, h => by
  obtain ⟨h1, h2⟩ := List.pairwise_cons.1 h
  rw [List.flatMap_cons]
  refine List.pairwise_append.2 ⟨?_, pairsM_rise m ks h2, fun a ha b hb => ?_⟩
  ·unfold pairAt
   split
   ·exact List.pairwise_singleton _ _
   ·exact List.Pairwise.nil
  ·obtain ⟨k', hk', hb'⟩ := List.mem_flatMap.1 hb
   rw [(pairAt_mem ha).1, (pairAt_mem hb').1]
   exact h1 k' hk'
theorem pairs_eq (ns : List Int) (hn : ns.length ≤ 140737488355328) : ∃ l, affiantkeep_Pairs ns = some l ∧ RowOk l := by
 obtain ⟨m, e, hm⟩ := pairs_1 ns hn (min ns.length 12) 0 [] (by omega) (fun p hp => by cases hp)
 refine ⟨pairsM m, ?_, pairsM_rise m keys12 keys_rise, flatMap_len1 (pairAt m) (pairAt_len m) keys12, fun p hp => ?_, fun p hp => ?_⟩
 ·have hk : keys12.length = 12 := rfl
  unfold affiantkeep_Pairs
  rw [show (0 : Int) = ((0 : Nat) : Int) from rfl, e, andThen_mk, keys_eq, andThen_mk, hk]
  exact congrArg (fun x => andThen x _) (pairs_2 m)
 ·obtain ⟨k', hk', hb'⟩ := List.mem_flatMap.1 hp
  rw [(pairAt_mem hb').1]; exact hk'
 ·obtain ⟨k', hk', hb'⟩ := List.mem_flatMap.1 hp
  exact mapGet_ok hm (pairAt_mem hb').2
theorem row_kv {l : List Pr} (h : RowOk l) : KvOk l := ⟨by have := h.2.1; omega, fun p hp => ⟨by have := keys_b _ (h.2.2.1 p hp); omega, by have := h.2.2.2 p hp; omega⟩⟩
end Go.Ax.V
