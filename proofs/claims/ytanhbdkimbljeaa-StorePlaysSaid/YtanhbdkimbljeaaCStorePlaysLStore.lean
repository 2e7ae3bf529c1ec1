/-
  A store: what is now, what is kept.
-/
import Derived.Test.YtanhbdkimbljeaaCStorePlaysLKv
import Derived.Test.YtanhbdkimbljeaaCStorePlaysLTag
namespace Go.Ax.V
open Go.Ax
set_option linter.unusedVariables false
set_option linter.unusedSimpArgs false
theorem pgrow_eq (n : Nat) (h : n ≤ 1000000000) : slices_Grow_LPair_Pair_f4c0 (n : Int) = some [] := by
 unfold slices_Grow_LPair_Pair_f4c0
 rw [fork_f (by omega), Int.sub_zero, w64_eq (by omega) (by omega)]
 by_cases c : (0 : Int) < (n : Int)
 ·rw [fork_t c, need_true ⟨rfl, rfl⟩, need_true (by rw [List.length_replicate]; omega), need_true (by omega), need_true (by rw [List.length_replicate]; omega)]
  rfl
 ·rw [fork_f c]
theorem pconcat_eq (l : List (List Pr)) (h : l.flatten.length ≤ 1000000000) (hl : l.length ≤ 1000000) : slices_Concat_LPair_Pair l = some l.flatten := by
 have ht : ∀ i, ((l.take i).flatten).length ≤ 1000000000 := fun i => Nat.le_trans (take_flat_le l i) h
 have m1 : slices_Concat_LPair_Pair_1 l 0 l (l.length : Int) 0 = some (l, (l.flatten.length : Int)) := by
  unfold slices_Concat_LPair_Pair_1
  have := loop_for (step := fun (s : Int × Int) => slices_Concat_LPair_Pair_1_step l s.1 l (l.length : Int) s.2) (fun i (_ : Unit) => ((((l.take i).flatten).length : Int), (i : Int))) (fun _ _ => ()) (fun _ => (l, (l.flatten.length : Int))) l.length (fun _ _ => True) (fun i w hi _ => ⟨?_, trivial⟩) (fun w _ => ?_) l.length 0 () (by omega) trivial
  ·exact this
  ·show slices_Concat_LPair_Pair_1_step l (((l.take i).flatten).length : Int) l (l.length : Int) (i : Int) = _
   unfold slices_Concat_LPair_Pair_1_step
   have e := congrArg List.length (getD_take l hi)
   rw [List.length_append] at e
   have b := ht (i + 1)
   rw [fork_t (by omega), need_true (by omega), Int.toNat_natCast, w64_eq (n := (((l.take i).flatten).length : Int) + ((l.getD i []).length : Int)) (by omega) (by omega), fork_f (by omega), w64_eq (by omega) (by omega)]
   congr 3
   omega
  ·show slices_Concat_LPair_Pair_1_step l (((l.take l.length).flatten).length : Int) l (l.length : Int) (l.length : Int) = _
   unfold slices_Concat_LPair_Pair_1_step
   rw [fork_f (by omega), List.take_of_length_le (Nat.le_refl _)]
 have m2 : slices_Concat_LPair_Pair_2 l (l.length : Int) 0 [] = some l.flatten := by
  unfold slices_Concat_LPair_Pair_2
  have := loop_for (step := fun (s : Int × List Pr) => slices_Concat_LPair_Pair_2_step l (l.length : Int) s.1 s.2) (fun i (_ : Unit) => ((i : Int), (l.take i).flatten)) (fun _ _ => ()) (fun _ => l.flatten) l.length (fun _ _ => True) (fun i w hi _ => ⟨?_, trivial⟩) (fun w _ => ?_) l.length 0 () (by omega) trivial
  ·exact this
  ·show slices_Concat_LPair_Pair_2_step l (l.length : Int) (i : Int) ((l.take i).flatten) = _
   unfold slices_Concat_LPair_Pair_2_step
   have e := congrArg List.length (getD_take l hi)
   rw [List.length_append] at e
   have b := ht (i + 1)
   rw [fork_t (by omega), need_true (by omega), Int.toNat_natCast, need_true (by omega), w64_eq (by omega) (by omega), getD_take l hi]
   rfl
  ·show slices_Concat_LPair_Pair_2_step l (l.length : Int) (l.length : Int) ((l.take l.length).flatten) = _
   unfold slices_Concat_LPair_Pair_2_step
   rw [fork_f (by omega), List.take_of_length_le (Nat.le_refl _)]
 unfold slices_Concat_LPair_Pair
 rw [m1, andThen_mk]
 simp only
 rw [pgrow_eq _ h, andThen_mk, m2, andThen_mk]
abbrev Stt := List Pr × Int × List (List Pr) × Unit
def mayP (p : Pr) : Bool := !decide (p.1 = []) && (decide ((p.1.length : Int) ≤ 16) && decide ((p.2.1.length : Int) ≤ 24))
theorem mayP_eq (p : Pr) : kv_may p = some (mayP p) := by
 unfold kv_may mayP
 cases decide (p.1 = []) <;> cases decide ((p.1.length : Int) ≤ 16) <;> rfl
def putP (l : List Pr) (p : Pr) : List Pr := if isAt l p.1 then l.take (belowN l p.1) ++ p :: l.drop (belowN l p.1 + 1) else l.take (belowN l p.1) ++ p :: l.drop (belowN l p.1)
def cutP (l : List Pr) (k : List UInt8) : List Pr := if isAt l k then l.take (belowN l k) ++ l.drop (belowN l k + 1) else l
def setP (l : List Pr) (p : Pr) : List Pr × Bool := if mayP p && (isAt l p.1 || decide (l.length < 30)) then (putP l p, true) else (l, false)
theorem isAt_lt {l : List Pr} {k : List UInt8} (h : isAt l k = true) : belowN l k < l.length ∧ (l.getD (belowN l k) zPr).1 = k := by
 unfold isAt at h; rw [decide_eq_true_eq] at h; exact h
theorem kset_eq (l : List Pr) (hr : Rise l) (hl : l.length ≤ 1000) (p : Pr) : kv_Set l p = some (setP l p) := by
 have hb := below_le l p.1
 have c3 : ∀ a b c : List Pr, slices_Concat_LPair_Pair [a, b, c] = some (a ++ (b ++ (c ++ []))) ∨ 1000000000 < (a ++ (b ++ (c ++ []))).length := fun a b c => by
  by_cases q : ([a, b, c] : List (List Pr)).flatten.length ≤ 1000000000
  ·exact .inl (pconcat_eq _ q (by simp))
  ·right
   have : ([a, b, c] : List (List Pr)).flatten = a ++ (b ++ (c ++ [])) := rfl
   rw [← this]; omega
 have c4 : ∀ a c : List Pr, a.length ≤ 1000 → c.length ≤ 1000 → slices_Concat_LPair_Pair [a, [p], c] = some (a ++ p :: c) := fun a c h1 h2 => by
  rcases c3 a [p] c with e | e
  ·rw [e, List.append_nil]; rfl
  ·simp only [List.length_append, List.length_cons, List.length_nil] at e; omega
 unfold kv_Set setP putP
 rw [place_eq l hr hl, andThen_mk, mayP_eq, andThen_mk, w64_eq (by omega) (by omega)]
 cases hm : mayP p with
 | false => rfl
 | true =>
  rw [Bool.not_true, fork_ff, Bool.true_and]
  cases ha : isAt l p.1 with
  | true =>
   have := (isAt_lt ha).1
   have e1 : cutL l 0 (belowN l p.1 : Int) = l.take (belowN l p.1) := by rw [cut_to, Int.toNat_natCast]
   have e2 : cutL l ((belowN l p.1 : Int) + 1) (l.length : Int) = l.drop (belowN l p.1 + 1) := by rw [cut_from]; rfl
   rw [Bool.not_true, fork_ff, fork_tt, need_true (by omega), need_true (by omega), e1, e2, c4 _ _ (by rw [List.length_take]; omega) (by rw [List.length_drop]; omega), andThen_mk, Bool.true_or, if_pos rfl, if_pos rfl]
  | false =>
   have e1 : cutL l 0 (belowN l p.1 : Int) = l.take (belowN l p.1) := by rw [cut_to, Int.toNat_natCast]
   have e2 : cutL l (belowN l p.1 : Int) (l.length : Int) = l.drop (belowN l p.1) := by rw [cut_from, Int.toNat_natCast]
   rw [Bool.not_false, fork_tt, Bool.false_or]
   by_cases c : l.length < 30
   ·rw [fork_f (by omega), fork_ff, need_true (by omega), need_true (by omega), e1, e2, c4 _ _ (by rw [List.length_take]; omega) (by rw [List.length_drop]; omega), andThen_mk, decide_eq_true c, if_pos rfl, if_neg (by simp)]
   ·rw [fork_t (by omega), decide_eq_false c, if_neg (by simp)]
theorem kdel_eq (l : List Pr) (hr : Rise l) (hl : l.length ≤ 1000) (k : List UInt8) : kv_Del l k = some (cutP l k) := by
 unfold kv_Del cutP
 have hb := below_le l k
 rw [place_eq l hr hl, andThen_mk, w64_eq (by omega) (by omega)]
 cases ha : isAt l k with
 | false => rfl
 | true =>
  have := (isAt_lt ha).1
  have e1 : cutL l 0 (belowN l k : Int) = l.take (belowN l k) := by rw [cut_to, Int.toNat_natCast]
  have e2 : cutL l ((belowN l k : Int) + 1) (l.length : Int) = l.drop (belowN l k + 1) := by rw [cut_from]; rfl
  have hc := pconcat_eq [l.take (belowN l k), l.drop (belowN l k + 1)] (by simp; omega) (by simp)
  have e3 : ([l.take (belowN l k), l.drop (belowN l k + 1)] : List (List Pr)).flatten = l.take (belowN l k) ++ l.drop (belowN l k + 1) := by simp
  rw [e3] at hc
  rw [Bool.not_true, fork_ff, need_true (by omega), need_true (by omega), e1, e2, hc, andThen_mk, if_pos rfl]
theorem rise_take {l : List Pr} (h : Rise l) (n : Nat) : Rise (l.take n) := h.sublist (List.take_sublist n l)
theorem rise_drop {l : List Pr} (h : Rise l) (n : Nat) : Rise (l.drop n) := h.sublist (List.drop_sublist n l)
theorem mem_take_lt {l : List Pr} {k : List UInt8} {p : Pr} (h : p ∈ l.take (belowN l k)) : sless p.1 k = true := by
 obtain ⟨i, hi, rfl⟩ := List.getElem_of_mem h
 rw [List.length_take] at hi
 rw [List.getElem_take]
 have := below_lt l k i (by omega)
 rw [List.getD_eq_getElem?_getD, List.getElem?_eq_getElem (by omega)] at this
 exact this
theorem mem_drop_get {l : List Pr} {n : Nat} {p : Pr} (h : p ∈ l.drop n) : ∃ i, n ≤ i ∧ i < l.length ∧ l.getD i zPr = p := by
 obtain ⟨i, hi, rfl⟩ := List.getElem_of_mem h
 rw [List.length_drop] at hi
 refine ⟨n + i, by omega, by omega, ?_⟩
 rw [List.getElem_drop, List.getD_eq_getElem?_getD, List.getElem?_eq_getElem (by omega)]; rfl
theorem drop_gt {l : List Pr} (hr : Rise l) {k : List UInt8} {n : Nat} (h : isAt l k = false ∧ n = belowN l k ∨ isAt l k = true ∧ n = belowN l k + 1) {p : Pr} (hp : p ∈ l.drop n) : sless k p.1 = true := by
 obtain ⟨i, h1, h2, rfl⟩ := mem_drop_get hp
 rcases h with ⟨ha, rfl⟩ | ⟨ha, rfl⟩
 ·have b : sless (l.getD i zPr).1 k = false := by
   cases q : sless (l.getD i zPr).1 k with
   | false => rfl
   | true => have := (below_iff hr k h2).1 q; omega
  rcases sless_tot _ _ b with e | e
  ·exact absurd ((isAt_iff hr k).2 ⟨_, getD_mem h2, e⟩) (by rw [ha]; simp)
  ·exact e
 ·have e := (isAt_lt ha).2
  have := rise_get hr (i := belowN l k) (j := i) (by omega) h2
  rw [e] at this; exact this
theorem putP_rise {l : List Pr} (hr : Rise l) (p : Pr) : Rise (putP l p) := by
 have key : ∀ n, (isAt l p.1 = false ∧ n = belowN l p.1 ∨ isAt l p.1 = true ∧ n = belowN l p.1 + 1) → Rise (l.take (belowN l p.1) ++ p :: l.drop n) := fun n hn => by
  refine List.pairwise_append.2 ⟨rise_take hr _, List.pairwise_cons.2 ⟨fun q hq => drop_gt hr hn hq, rise_drop hr _⟩, fun a ha b hb => ?_⟩
  have h1 := mem_take_lt ha
  rcases List.mem_cons.1 hb with rfl | hb
  ·exact h1
  ·exact sless_trans _ _ _ h1 (drop_gt hr hn hb)
 unfold putP
 cases ha : isAt l p.1 with
 | true => rw [if_pos rfl]; exact key _ (.inr ⟨ha, rfl⟩)
 | false => rw [if_neg (by simp)]; exact key _ (.inl ⟨ha, rfl⟩)
theorem cutP_rise {l : List Pr} (hr : Rise l) (k : List UInt8) : Rise (cutP l k) := by
 unfold cutP
 cases ha : isAt l k with
 | false => rw [if_neg (by simp)]; exact hr
 | true =>
  rw [if_pos rfl]
  refine List.pairwise_append.2 ⟨rise_take hr _, rise_drop hr _, fun a ha2 b hb => ?_⟩
  exact sless_trans _ _ _ (mem_take_lt ha2) (drop_gt hr (.inr ⟨ha, rfl⟩) hb)
theorem putP_len (l : List Pr) (p : Pr) : (putP l p).length = if isAt l p.1 then l.length else l.length + 1 := by
 have hb := below_le l p.1
 unfold putP
 cases ha : isAt l p.1 with
 | true =>
  have := (isAt_lt ha).1
  rw [if_pos rfl, if_pos rfl, List.length_append, List.length_cons, List.length_take, List.length_drop]; omega
 | false => rw [if_neg (by simp), if_neg (by simp), List.length_append, List.length_cons, List.length_take, List.length_drop]; omega
theorem cutP_len (l : List Pr) (k : List UInt8) : (cutP l k).length ≤ l.length := by
 unfold cutP
 split
 ·rw [List.length_append, List.length_take, List.length_drop]; omega
 ·exact Nat.le_refl _
theorem setP_rise {l : List Pr} (hr : Rise l) (p : Pr) : Rise (setP l p).1 := by
 unfold setP
 split
 ·exact putP_rise hr p
 ·exact hr
theorem setP_len {l : List Pr} (hl : l.length ≤ 30) (p : Pr) : (setP l p).1.length ≤ 30 := by
 unfold setP
 split
 ·rename_i h
  rw [Bool.and_eq_true, Bool.or_eq_true, decide_eq_true_eq] at h
  show (putP l p).length ≤ 30
  rw [putP_len]
  split
  ·exact hl
  ·rename_i h2
   have := h.2.resolve_left h2
   omega
 ·exact hl
theorem putP_mem {l : List Pr} {p q : Pr} (h : q ∈ putP l p) : q = p ∨ q ∈ l := by
 unfold putP at h
 split at h
 ·rcases List.mem_append.1 h with h | h
  ·exact .inr (List.mem_of_mem_take h)
  ·rcases List.mem_cons.1 h with h | h
   ·exact .inl h
   ·exact .inr (List.mem_of_mem_drop h)
 ·rcases List.mem_append.1 h with h | h
  ·exact .inr (List.mem_of_mem_take h)
  ·rcases List.mem_cons.1 h with h | h
   ·exact .inl h
   ·exact .inr (List.mem_of_mem_drop h)
theorem cutP_mem {l : List Pr} {k : List UInt8} {q : Pr} (h : q ∈ cutP l k) : q ∈ l := by
 unfold cutP at h
 split at h
 ·rcases List.mem_append.1 h with h | h
  ·exact List.mem_of_mem_take h
  ·exact List.mem_of_mem_drop h
 ·exact h
def RowB (l : List Pr) : Prop := Rise l ∧ l.length ≤ 30 ∧ ∀ p ∈ l, p.1.length ≤ 16 ∧ p.2.1.length ≤ 24
theorem rowB_nil : RowB [] := ⟨List.Pairwise.nil, by simp, by simp⟩
theorem setP_row {l : List Pr} (h : RowB l) (p : Pr) : RowB (setP l p).1 := by
 refine ⟨setP_rise h.1 p, setP_len h.2.1 p, fun q hq => ?_⟩
 unfold setP at hq
 split at hq
 ·rename_i c
  rw [Bool.and_eq_true] at c
  have hm := c.1
  unfold mayP at hm
  simp only [Bool.and_eq_true, decide_eq_true_eq] at hm
  rcases putP_mem hq with rfl | hq
  ·omega
  ·exact h.2.2 q hq
 ·exact h.2.2 q hq
theorem cutP_row {l : List Pr} (h : RowB l) (k : List UInt8) : RowB (cutP l k) := ⟨cutP_rise h.1 k, by have := cutP_len l k; have := h.2.1; omega, fun q hq => h.2.2 q (cutP_mem hq)⟩
def StOk (s : Stt) : Prop := RowB s.1 ∧ 0 ≤ s.2.1 ∧ s.2.1 ≤ 16 ∧ (s.2.2.1.length : Int) = min s.2.1 6 ∧ ∀ l ∈ s.2.2.1, RowB l
theorem st_new : StOk ([], 0, [], ()) := ⟨rowB_nil, by decide, by decide, by decide, by simp⟩
theorem stSet_eq (s : Stt) (h : StOk s) (p : Pr) : store_Store_Set_fb44 p s = some ((setP s.1 p).2, ((setP s.1 p).1, s.2.1, s.2.2.1, ())) := by
 have := h.1.2.1
 unfold store_Store_Set_fb44
 rw [kset_eq _ h.1.1 (by omega), andThen_mk]
theorem st_set {s : Stt} (h : StOk s) (p : Pr) : StOk ((setP s.1 p).1, s.2.1, s.2.2.1, ()) := ⟨setP_row h.1 p, h.2⟩
theorem stDel_eq (s : Stt) (h : StOk s) (k : List UInt8) : store_Store_Del_71d6 k s = some (cutP s.1 k, s.2.1, s.2.2.1, ()) := by
 have := h.1.2.1
 unfold store_Store_Del_71d6
 rw [kdel_eq _ h.1.1 (by omega), andThen_mk]
theorem st_del {s : Stt} (h : StOk s) (k : List UInt8) : StOk (cutP s.1 k, s.2.1, s.2.2.1, ()) := ⟨cutP_row h.1 k, h.2⟩
def keepS (k : List (List Pr)) (l : List Pr) : List (List Pr) := if 6 < k.length + 1 then (k ++ [l]).drop 1 else k ++ [l]
def commitS (s : Stt) : Int × Stt := if s.2.1 = 16 then (0, s) else (s.2.1 + 1, (s.1, s.2.1 + 1, keepS s.2.2.1 s.1, ()))
theorem stNow_eq (s : Stt) (h : s.1.length ≤ 2147483648) : store_Store_Now_57df s = some s.1 := by
 unfold store_Store_Now_57df slices_Clone_LPair_Pair
 rw [need_true h, andThen_mk]
theorem stCommit_eq (s : Stt) (h : StOk s) : store_Store_Commit_57df s = some (commitS s) := by
 obtain ⟨⟨h1, h2, _⟩, h3, h4, h5, h6⟩ := h
 unfold store_Store_Commit_57df commitS keepS
 by_cases c : s.2.1 = 16
 ·rw [fork_t c, if_pos c]
 ·have e : slices_Clone_LPair_LPair s.2.2.1 = some s.2.2.1 := by unfold slices_Clone_LPair_LPair; rw [need_true (by omega)]
  rw [fork_f c, if_neg c, e, andThen_mk, w64_eq (by omega) (by omega), stNow_eq _ (by show s.1.length ≤ _; omega), andThen_mk, need_true (by simp only [List.length_cons, List.length_nil]; omega)]
  have hl : (s.2.2.1 ++ [s.1]).length = s.2.2.1.length + 1 := by rw [List.length_append]; rfl
  show fork (decide ((6 : Int) < ((s.2.2.1 ++ [s.1]).length : Int))) (need (0 ≤ (1 : Int) ∧ (1 : Int) ≤ ((s.2.2.1 ++ [s.1]).length : Int) ∧ ((s.2.2.1 ++ [s.1]).length : Int) ≤ ((s.2.2.1 ++ [s.1]).length : Int)) (some (s.2.1 + 1, (s.1, s.2.1 + 1, cutL (s.2.2.1 ++ [s.1]) 1 ((s.2.2.1 ++ [s.1]).length : Int), ())))) (some (s.2.1 + 1, (s.1, s.2.1 + 1, s.2.2.1 ++ [s.1], ()))) = _
  rw [hl]
  by_cases q : 6 < s.2.2.1.length + 1
  ·rw [fork_t (by omega), need_true (by omega), if_pos q, ← hl, cut_from]; rfl
  ·rw [fork_f (by omega), if_neg q]
theorem keepS_len (k : List (List Pr)) (l : List Pr) (h : k.length ≤ 6) : (keepS k l).length = min (k.length + 1) 6 := by
 unfold keepS
 split
 ·rw [List.length_drop, List.length_append, List.length_cons, List.length_nil]; omega
 ·rw [List.length_append, List.length_cons, List.length_nil]; omega
theorem keepS_mem {k : List (List Pr)} {l x : List Pr} (h : x ∈ keepS k l) : x ∈ k ∨ x = l := by
 unfold keepS at h
 have : x ∈ k ++ [l] := by
  split at h
  ·exact List.mem_of_mem_drop h
  ·exact h
 rcases List.mem_append.1 this with h | h
 ·exact .inl h
 ·exact .inr (List.mem_singleton.1 h)
theorem st_commit {s : Stt} (h : StOk s) : StOk (commitS s).2 := by
 obtain ⟨h1, h3, h4, h5, h6⟩ := h
 unfold commitS
 by_cases c : s.2.1 = 16
 ·rw [if_pos c]; exact ⟨h1, h3, h4, h5, h6⟩
 ·rw [if_neg c]
  refine ⟨h1, by show 0 ≤ s.2.1 + 1; omega, by show s.2.1 + 1 ≤ 16; omega, ?_, fun l hl => ?_⟩
  ·show ((keepS s.2.2.1 s.1).length : Int) = min (s.2.1 + 1) 6
   rw [keepS_len _ _ (by omega)]; omega
  ·rcases keepS_mem hl with hl | rfl
   ·exact h6 l hl
   ·exact h1
def lowS (s : Stt) : Int := s.2.1 - (s.2.2.1.length : Int) + 1
def atS (s : Stt) (n : Int) : List Pr × Bool := if n < lowS s ∨ s.2.1 < n then ([], false) else (s.2.2.1.getD (n - lowS s).toNat [], true)
theorem low_eq (s : Stt) (h : StOk s) : store_Store_lowest_57df s = some (lowS s) := by
 obtain ⟨h1, h3, h4, h5, h6⟩ := h
 unfold store_Store_lowest_57df lowS
 rw [w64_eq (n := s.2.1 - _) (by omega) (by omega), w64_eq (by omega) (by omega)]
theorem getD_rows {k : List (List Pr)} (h : ∀ l ∈ k, RowB l) (i : Nat) : RowB (k.getD i []) := by
 by_cases c : i < k.length
 ·exact h _ (getD_mem c)
 ·rw [List.getD_eq_getElem?_getD, List.getElem?_eq_none (by omega)]
  exact rowB_nil
theorem stAt_eq (s : Stt) (h : StOk s) (n : Int) : store_Store_At_79c2 n s = some (atS s n) := by
 have hlow := low_eq s h
 obtain ⟨h1, h3, h4, h5, h6⟩ := h
 have hl : lowS s = s.2.1 - (s.2.2.1.length : Int) + 1 := rfl
 unfold store_Store_At_79c2 atS
 rw [hlow, andThen_mk]
 by_cases c1 : n < lowS s
 ·rw [fork_t c1, if_pos (.inl c1)]
 ·rw [fork_f c1]
  by_cases c2 : s.2.1 < n
  ·rw [fork_t c2, if_pos (.inr c2)]
  ·have := (getD_rows h6 (n - lowS s).toNat).2.1
   rw [fork_f c2, if_neg (by omega), andThen_mk, w64_eq (by omega) (by omega), need_true (by omega)]
   unfold slices_Clone_LPair_Pair
   rw [need_true (by omega), andThen_mk]
end Go.Ax.V
