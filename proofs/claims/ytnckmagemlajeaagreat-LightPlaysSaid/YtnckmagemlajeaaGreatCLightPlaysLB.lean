/-
  A store's roots; what is in rows; the document's own rows.
-/
import Derived.Test.YtnckmagemlajeaaGreatCLightPlaysLA
namespace Go.Ax.V
open Go.Ax
set_option linter.unusedVariables false
set_option linter.unusedSimpArgs false
def hitS (set : List Val) (h : Int) (d : List UInt8) (x : K01) : Int := pow (fun v => decide (v.1 = x.1) && verS v.2.2.1 h d x.2.1) set
theorem hit_b (set : List Val) (hset : K02 set) (h : Int) (d : List UInt8) (x : K01) : 0 ≤ hitS set h d x ∧ hitS set h d x ≤ 2097152000 := by
 have := K5o (fun v => decide (v.1 = x.1) && verS v.2.2.1 h d x.2.1) set hset.2
 have := hset.1
 unfold hitS
 omega
theorem sum_take {α : Type} (f : α → Int) (l : List α) (z : α) {i : Nat} (h : i < l.length) : ((l.take (i + 1)).map f).sum = ((l.take i).map f).sum + f (l.getD i z) := by
 rw [List.take_add_one, List.getElem?_eq_getElem h, List.getD_eq_getElem?_getD, List.getElem?_eq_getElem h]
 simp only [Option.toList_some, Option.getD_some, List.map_append, List.map_cons, List.map_nil, List.sum_append, List.sum_cons, List.sum_nil, Int.add_zero]
theorem sum_b {α : Type} (f : α → Int) (m : Int) (hm : ∀ x, 0 ≤ f x ∧ f x ≤ m) : ∀ l : List α, 0 ≤ (l.map f).sum ∧ (l.map f).sum ≤ m * l.length
 | [] => by simp
 | a :: l => by
  have ih := sum_b f m hm l
  have := hm a
  rw [List.map_cons, List.sum_cons, List.length_cons, Int.natCast_add, Int.mul_add]
  omega
theorem K8a (s : List K01) {ρ : Type} (r r0 : ρ) : ∀ (k i : Nat), i + k = s.length → (∀ j, j + 1 < i → sless (s.getD j zSg).1 (s.getD (j + 1) zSg).1 = true) →
  scan (fun i => if 0 < i ∧ sless (s.getD (i - 1) zSg).1 (s.getD i zSg).1 = false then some r else none) r0 i k = if incS s = true then r0 else r
 | 0, i, h, hj => by
  have hl : (nmsS s).length = s.length := by simp [nmsS]
  have : incS s = true := List.all_eq_true.2 fun j hj' => by
   have hj' : j < (nmsS s).length - 1 := by simpa using hj'
   rw [← K4x, ← K4x]
   exact hj j (by omega)
  rw [if_pos this]; rfl
 | k + 1, i, h, hj => by
  have hl : (nmsS s).length = s.length := by simp [nmsS]
  rw [scan]
  by_cases e : 0 < i ∧ sless (s.getD (i - 1) zSg).1 (s.getD i zSg).1 = false
  ·rw [if_pos e]
   have : ¬ incS s = true := fun hall => by
    have := List.all_eq_true.1 hall (i - 1) (by simp; omega)
    rw [← K4x, ← K4x, show i - 1 + 1 = i from by omega, e.2] at this
    cases this
   rw [if_neg this]
  ·rw [if_neg e]
   exact K8a s r r0 k (i + 1) (by omega) fun j hj' => by
    rcases (show j + 1 < i ∨ j + 1 = i by omega) with h1 | rfl
    ·exact hj j h1
    ·cases hh : sless (s.getD j zSg).1 (s.getD (j + 1) zSg).1 with
     | true => rfl
     | false => exact absurd ⟨by omega, by rw [show j + 1 - 1 = j from rfl]; exact hh⟩ e
abbrev S1 := List Val × List K01 × Int × Hdr × List UInt8
theorem K8z (set : List Val) (s t : List K01) (z n i : Int) (h : Hdr) (d : List UInt8) : q19_1_step set s z t n i h d = (fork (decide (i < n)) (need (0 ≤ i ∧ i < (t.length : Int)) (fork (decide ((0 : Int) < i)) (need (0 ≤ (w64 (i - (1 : Int))) ∧ (w64 (i - (1 : Int))) < (s.length : Int)) (fork (!sless (s.getD (Int.toNat (w64 (i - (1 : Int)))) zSg).1 (t.getD (Int.toNat i) zSg).1) (some (.inr (.inl (0 : Int)))) (some (.inl (w64 (i + (1 : Int))))))) (some (.inl (w64 (i + (1 : Int))))))) (some (.inr (.inr (set, s, z, h, d)))) : Option (Int ⊕ (Int ⊕ S1))) := rfl
theorem signers1 (set : List Val) (s : List K01) (hs : s.length ≤ 1000000) (h : Hdr) (d : List UInt8) : q19_1 set s 0 s (s.length : Int) 0 h d = some (if incS s = true then .inr (set, s, 0, h, d) else .inl 0) := by
 rw [← K8a s (.inl 0 : Int ⊕ S1) (.inr (set, s, 0, h, d)) s.length 0 (by omega) (fun j hj => by omega)]
 unfold q19_1
 refine K48 (step := fun (x : Int) => q19_1_step set s 0 s (s.length : Int) x h d) (fun i => (i : Int)) _ _ s.length (fun i hi hb => ?_) (fun i r hi hb => ?_) ?_ s.length 0 (by omega)
 ·rw [K8z, K2e (by omega), J4c (by omega)]
  by_cases h0 : 0 < i
  ·rw [K2e (by omega), J6z (n := (i : Int) - 1) (by omega) (by omega), J4c (by omega), show Int.toNat ((i : Int) - 1) = i - 1 from by omega, Int.toNat_natCast, J6z (by omega) (by omega)]
   cases e : sless (s.getD (i - 1) zSg).1 (s.getD i zSg).1 with
   | true => rfl
   | false => rw [if_pos ⟨h0, e⟩] at hb; cases hb
  ·rw [K28 (by omega), J6z (by omega) (by omega)]; rfl
 ·rw [K8z, K2e (by omega), J4c (by omega)]
  by_cases e : 0 < i ∧ sless (s.getD (i - 1) zSg).1 (s.getD i zSg).1 = false
  ·rw [if_pos e] at hb
   injection hb with hb; subst hb
   rw [K2e (by omega), J6z (n := (i : Int) - 1) (by omega) (by omega), J4c (by omega), show Int.toNat ((i : Int) - 1) = i - 1 from by omega, Int.toNat_natCast, e.2]
   rfl
  ·rw [if_neg e] at hb; cases hb
 ·rw [K8z, K28 (by omega)]
abbrev S2 := List Val × Int × List K01 × Int × Int × Hdr × List UInt8
theorem K90 (set : List Val) (acc : Int) (s : List K01) (x3 x4 : Int) (l : List Val) (n i : Int) (h : Hdr) (d : List UInt8) (x : K01) : q19_2_step set acc s x3 x4 l n i h d x = (fork (decide (i < n)) (need (0 ≤ i ∧ i < (l.length : Int)) (fork (decide ((l.getD (Int.toNat i) zVal).1 = x.1)) (andThen (q1g ((l.getD (Int.toNat i) zVal).2.2.1) h.1 d x.2.1) (fun u20 => fork u20 (some (.inl ((w64 (acc + (l.getD (Int.toNat i) zVal).2.1)), (w64 (i + (1 : Int)))))) (some (.inl (acc, (w64 (i + (1 : Int)))))))) (some (.inl (acc, (w64 (i + (1 : Int)))))))) (some (.inr (set, acc, s, x3, x4, h, d))) : Option ((Int × Int) ⊕ S2)) := rfl
theorem signers2 (set : List Val) (hset : K02 set) (acc : Int) (ha : 0 ≤ acc ∧ acc ≤ 1000000000000000) (s : List K01) (x3 x4 : Int) (h : Hdr) (d : List UInt8) (hd : d.length ≤ 100000) (x : K01) (hx : SigOk x.2.1) :
  q19_2 set acc s x3 x4 set (set.length : Int) 0 h d x = some (set, acc + hitS set h.1 d x, s, x3, x4, h, d) := by
 have hl := hset.1
 unfold q19_2
 have := K47 (step := fun (t : Int × Int) => q19_2_step set t.1 s x3 x4 set (set.length : Int) t.2 h d x) (fun i (_ : Unit) => (acc + hitS (set.take i) h.1 d x, (i : Int))) (fun _ _ => ()) (fun _ => (set, acc + hitS set h.1 d x, s, x3, x4, h, d)) set.length (fun _ _ => True) (fun i w hi _ => ⟨?_, trivial⟩) (fun w _ => ?_) set.length 0 () (by omega) trivial
 ·rw [show ((acc, (0 : Int)) : Int × Int) = (acc + hitS (set.take 0) h.1 d x, ((0 : Nat) : Int)) from by rw [List.take_zero]; simp [hitS, K5s]]
  exact this
 ·show q19_2_step set (acc + hitS (set.take i) h.1 d x) s x3 x4 set (set.length : Int) (i : Int) h d x = _
  have b := K5o (fun v => decide (v.1 = x.1) && verS v.2.2.1 h.1 d x.2.1) (set.take i) fun v hv => hset.2 v (List.mem_of_mem_take hv)
  have hm := hset.2 _ (K2i (z := zVal) hi)
  have t := K5v (fun v => decide (v.1 = x.1) && verS v.2.2.1 h.1 d x.2.1) set hi
  rw [List.length_take] at b
  rw [K90, K2e (by omega), J4c (by omega), Int.toNat_natCast, J6z (n := (i : Int) + 1) (by omega) (by omega)]
  unfold hitS
  rw [t]
  by_cases e : (set.getD i zVal).1 = x.1
  ·rw [K2e e, rVer_eq _ _ d hd _ hx, K05, decide_eq_true e, Bool.true_and]
   cases verS (set.getD i zVal).2.2.1 h.1 d x.2.1 with
   | true => rw [K2f, if_pos rfl, J6z (by omega) (by omega), Int.add_assoc]; rfl
   | false => rw [K29, if_neg (by simp), Int.add_zero]; rfl
  ·rw [K28 e, decide_eq_false e, Bool.false_and, if_neg (by simp), Int.add_zero]; rfl
 ·show q19_2_step set (acc + hitS (set.take set.length) h.1 d x) s x3 x4 set (set.length : Int) (set.length : Int) h d x = _
  rw [K90, K28 (by omega), List.take_of_length_le (Nat.le_refl _)]
theorem K91 (set : List Val) (acc : Int) (s : List K01) (n i : Int) (h : Hdr) (d : List UInt8) : q19_3_step set acc s n i h d = (fork (decide (i < n)) (need (0 ≤ i ∧ i < (s.length : Int)) (andThen (q19_2 set acc s n i set (set.length : Int) (0 : Int) h d (s.getD (Int.toNat i) zSg)) (fun o23 => some (.inl (o23.1, o23.2.1, o23.2.2.1, o23.2.2.2.1, (w64 (o23.2.2.2.2.1 + (1 : Int))), o23.2.2.2.2.2.1, o23.2.2.2.2.2.2))))) (some (.inr acc)) : Option (S2 ⊕ Int)) := rfl
theorem K93 (set : List Val) (hset : K02 set) (h : Hdr) (hh : K00 h) (hr : K6l h = true) (s : List K01) (hl : s.length ≤ 1000) (hs : SgOk s) :
  q19 set h s = some (if incS s = true then (s.map (hitS set h.1 (textS h))).sum else 0) := by
 have ht : qx h = some (textS h) := by
  rw [K6j h hh]
  unfold textS K0r
  rw [if_pos hr]
 unfold q19
 rw [ht, K05, signers1 set s (by omega), K05]
 cases hi : incS s with
 | false => rfl
 | true =>
  have hb := sum_b (hitS set h.1 (textS h)) 2097152000 (fun x => hit_b set hset h.1 (textS h) x)
  have main : q19_3 set 0 s (s.length : Int) 0 h (textS h) = some ((s.map (hitS set h.1 (textS h))).sum) := by
   unfold q19_3
   have := K47 (step := fun (t : S2) => q19_3_step t.1 t.2.1 t.2.2.1 t.2.2.2.1 t.2.2.2.2.1 t.2.2.2.2.2.1 t.2.2.2.2.2.2) (fun i (_ : Unit) => (set, ((s.take i).map (hitS set h.1 (textS h))).sum, s, (s.length : Int), (i : Int), h, textS h)) (fun _ _ => ()) (fun _ => (s.map (hitS set h.1 (textS h))).sum) s.length (fun _ _ => True) (fun i w hi _ => ⟨?_, trivial⟩) (fun w _ => ?_) s.length 0 () (by omega) trivial
   ·exact this
   ·show q19_3_step set ((s.take i).map (hitS set h.1 (textS h))).sum s (s.length : Int) (i : Int) h (textS h) = _
    have b := hb (s.take i)
    rw [List.length_take] at b
    rw [K91, K2e (by omega), J4c (by omega), Int.toNat_natCast, signers2 set hset _ (by omega) s _ _ h _ (by rw [K9m]; omega) _ (sg_at hs i), K05]
    simp only
    rw [J6z (by omega) (by omega), sum_take _ s zSg hi]
    rfl
   ·show q19_3_step set ((s.take s.length).map (hitS set h.1 (textS h))).sum s (s.length : Int) (s.length : Int) h (textS h) = _
    rw [K91, K28 (by omega), List.take_of_length_le (Nat.le_refl _)]
  show andThen (q19_3 set 0 s (s.length : Int) 0 h (textS h)) _ = _
  rw [main]
  rfl
theorem K5e (set : List Val) (hd : Dist set) (h : Hdr) : ∀ (s : List K01), (nmsS s).Nodup → pow (fun v => (K4n set h.1 (textS h) s).contains v.1) set = (s.map (hitS set h.1 (textS h))).sum
 | [], _ => by rw [K5t (fun v _ => by simp [K4n])]; rfl
 | x :: s, hn => by
  obtain ⟨h1, h2⟩ := List.nodup_cons.1 (show (x.1 :: nmsS s).Nodup from hn)
  rw [List.map_cons, List.sum_cons, ← K5e set hd h s h2]
  have sub : ∀ n, n ∈ K4n set h.1 (textS h) s → n ∈ nmsS s := fun n hm => by
   unfold K4n at hm
   obtain ⟨y, hy, rfl⟩ := List.mem_map.1 hm
   exact List.mem_map_of_mem (List.mem_filter.1 hy).1
  by_cases hg : goodS set h.1 (textS h) x = true
  ·have e : K4n set h.1 (textS h) (x :: s) = x.1 :: K4n set h.1 (textS h) s := by unfold K4n; rw [List.filter_cons_of_pos hg]; rfl
   have hp : hitS set h.1 (textS h) x = pow (fun v => decide (v.1 = x.1)) set := by
    refine K5p fun v hv => ?_
    by_cases c : v.1 = x.1
    ·have hf := K1n hd hv
     unfold goodS at hg
     rw [← c, hf, Bool.true_and] at hg
     rw [decide_eq_true c, hg]; rfl
    ·rw [decide_eq_false c]; rfl
   rw [e, hp, ← pow_or]
   ·refine K5p fun v _ => ?_
    rw [Bool.eq_iff_iff]
    simp
   ·intro v _ hv
    simp only [decide_eq_true_eq] at hv
    rw [hv]
    rw [← Bool.not_eq_true]
    intro hc
    exact h1 (sub _ (by simpa using hc))
  ·have e : K4n set h.1 (textS h) (x :: s) = K4n set h.1 (textS h) s := by unfold K4n; rw [List.filter_cons_of_neg hg]
   have hp : hitS set h.1 (textS h) x = 0 := by
    refine K5t fun v hv => ?_
    by_cases c : v.1 = x.1
    ·have hf := K1n hd hv
     unfold goodS at hg
     rw [← c, hf, Bool.true_and] at hg
     rw [Bool.not_eq_true] at hg
     rw [hg, Bool.and_false]
    ·rw [decide_eq_false c]; rfl
   rw [e, hp, Int.zero_add]
theorem K94 (set : List Val) (hset : K02 set) (hd : Dist set) (h : Hdr) (hh : K00 h) (hr : K6l h = true) (s : List K01) (hl : s.length ≤ 5) (hs : SgOk s) :
  q19 set h s = some (partS set h s) := by
 rw [K93 set hset h hh hr s (by omega) hs]
 unfold partS K4r K6p
 rw [decide_eq_true hl, Bool.and_true]
 cases hi : incS s with
 | true => rw [if_pos rfl, if_pos rfl, K5e set hd h s (K33 hi)]
 | false => rw [if_neg (by simp), if_neg (by simp), K5t (fun v _ => by simp)]
theorem K83 (set : List Val) (hset : K02 set) : q1e set = some (allS set) := K9s set hset
theorem rover_eq (a b n d : Int) (h1 : 0 ≤ a ∧ a ≤ 4294967296) (h2 : 0 ≤ b ∧ b ≤ 4294967296) (hn : 0 ≤ n ∧ n ≤ 1000) (hd : 0 ≤ d ∧ d ≤ 1000) : q21 a b n d = some (decide (b * n < a * d)) := K58 (a, b) n d h1 h2 hn hd
def seedK (i : Nat) : List UInt8 := List.set (List.set (List.replicate 32 (0 : UInt8)) 0 (77 : UInt8)) 1 (UInt8.ofNat i)
theorem K8g (i : Nat) : (seedK i).length = 32 := by simp [seedK]
theorem K3d (i : Nat) : q2c (i : Int) = some (seedK i) := by
 unfold q2c
 rw [K9x]
 rfl
theorem keyOf_eq (i : Nat) : q1z (i : Int) = some (K32 (seedK i)) := by
 unfold q1z
 rw [K3d, K05, K63 _ (K8g i)]
 rfl
noncomputable def K4l (p : Nat → Int) (i : Nat) : Val := (nm i, p i, K32 (seedK i), ())
noncomputable def ringN (p : Nat → Int) (n : Nat) : List Val := (List.range n).map (K4l p)
noncomputable def ringS (ps : List Int) : List Val := ringN (pw ps) (setN ps)
noncomputable def midS (p : Nat → Int) (n i : Nat) : List Val := (List.range n).map fun j => if j < i then K4l p j else mkVal p j
theorem mid_step (p : Nat → Int) (n i : Nat) (h : i < n) : List.set (midS p n i) i (((midS p n i).getD i zVal).1, ((midS p n i).getD i zVal).2.1, K32 (seedK i), ()) = midS p n (i + 1) := by
 have hg : (midS p n i).getD i zVal = mkVal p i := by
  unfold midS
  rw [List.getD_eq_getElem?_getD, List.getElem?_map, List.getElem?_range h]
  simp
 rw [hg]
 unfold midS
 apply List.ext_getElem
 ·simp
 ·intro j h1 h2
  rw [List.getElem_set]
  simp only [List.getElem_map, List.getElem_range]
  by_cases e : i = j
  ·subst e; rw [if_pos rfl, if_pos (by omega)]; rfl
  ·rw [if_neg e]
   by_cases c : j < i
   ·rw [if_pos c, if_pos (by omega)]
   ·rw [if_neg c, if_neg (by omega)]
theorem K73 (n i : Int) (l : List Val) : q1r_1_step n i l = (fork (decide (i < n)) (andThen (q1z i) (fun u5 => need (0 ≤ i ∧ i < (l.length : Int)) (some (.inl ((w64 (i + (1 : Int))), (List.set l (Int.toNat i) ((l.getD (Int.toNat i) zVal).1, (l.getD (Int.toNat i) zVal).2.1, u5, ()))))))) (some (.inr l)) : Option ((Int × List Val) ⊕ (List Val))) := rfl
theorem K8l (ps : List Int) : 1 ≤ setN ps ∧ setN ps ≤ 4 := by unfold setN; omega
theorem K74 (ps : List Int) (hp : ps.length ≤ 140737488351232) : q1r ps = some (ringS ps) := by
 have hn := K8l ps
 have main : q1r_1 ((setS ps).length : Int) 0 (setS ps) = some (ringS ps) := by
  have hl : (setS ps).length = setN ps := by simp [setS]
  rw [hl]
  unfold q1r_1
  have := K47 (step := fun (s : Int × List Val) => q1r_1_step (setN ps : Int) s.1 s.2) (fun i (_ : Unit) => ((i : Int), midS (pw ps) (setN ps) i)) (fun _ _ => ()) (fun _ => ringS ps) (setN ps) (fun _ _ => True) (fun i w hi _ => ⟨?_, trivial⟩) (fun w _ => ?_) (setN ps) 0 () (by omega) trivial
  ·rw [show setS ps = midS (pw ps) (setN ps) 0 from by unfold setS midS; congr 1]
   exact this
  ·show q1r_1_step (setN ps : Int) (i : Int) (midS (pw ps) (setN ps) i) = _
   have hm : (midS (pw ps) (setN ps) i).length = setN ps := by simp [midS]
   rw [K73, K2e (by omega), keyOf_eq, K05, J4c (by omega), Int.toNat_natCast, J6z (by omega) (by omega), mid_step _ _ _ hi]
   rfl
  ·show q1r_1_step (setN ps : Int) (setN ps : Int) (midS (pw ps) (setN ps) (setN ps)) = _
   rw [K73, K28 (by omega)]
   unfold midS ringS ringN
   congr 2
   apply List.map_congr_left
   intro j hj
   rw [if_pos (List.mem_range.1 hj)]
 unfold q1r
 rw [set_eq ps hp, K05, main]
 rfl
theorem nm_inj : ∀ i, i < 4 → ∀ j, j < 4 → nm i = nm j → i = j := by decide
theorem nm_inc : ∀ i, i < 4 → ∀ j, j < 4 → i < j → sless (nm i) (nm j) = true := by decide
theorem K6u (p : Nat → Int) (n : Nat) (h : n ≤ 4) : Dist (ringN p n) := by
 unfold Dist ringN
 rw [List.map_map]
 rw [List.nodup_iff_pairwise_ne, List.pairwise_map]
 refine List.Pairwise.imp_of_mem (fun {a b} ha hb hab e => hab (nm_inj a (by have := List.mem_range.1 ha; omega) b (by have := List.mem_range.1 hb; omega) e)) (List.nodup_iff_pairwise_ne.1 List.nodup_range)
theorem K6y (p : Nat → Int) (n : Nat) (h : n ≤ 4) (hp : ∀ i, 0 ≤ p i ∧ p i ≤ 2097152) : K02 (ringN p n) := by
 refine ⟨by simp [ringN]; omega, fun v hv => ?_⟩
 obtain ⟨i, _, rfl⟩ := List.mem_map.1 hv
 exact hp i
theorem K72 (ps : List Int) : (ringS ps).length = setN ps := by simp [ringS, ringN]
theorem good_own (set : List Val) (hd : Dist set) (h : Hdr) (h1 : 1 ≤ h.1) (h2 : h.1 ≤ 16) (v : Val) (hv : v ∈ set) (seed : List UInt8) (hk : v.2.2.1 = K32 seed) : goodS set h.1 (textS h) (sgS h v.1 seed) = true := by
 unfold goodS sgS
 simp only
 rw [K1n hd hv, hk, ver_sig _ _ _ h1 h2, K0e]
 rfl
theorem sgS_ok (h : Hdr) (h1 : 1 ≤ h.1) (h2 : h.1 ≤ 16) (n seed : List UInt8) : SigOk (sgS h n seed).2.1 := sig_ok seed h.1 h1 h2 _
noncomputable def sgJ (h : Hdr) (js : List Nat) : List K01 := js.map fun j => sgS h (nm j) (seedK j)
def pwJ (p : Nat → Int) (js : List Nat) : Int := (js.map p).sum
theorem pwJ_b (p : Nat → Int) (hp : ∀ i, 0 ≤ p i ∧ p i ≤ 2097152) : ∀ js, 0 ≤ pwJ p js ∧ pwJ p js ≤ 2097152 * js.length
 | [] => ⟨Int.le_refl _, Int.le_refl _⟩
 | j :: js => by
  have := pwJ_b p hp js
  have := hp j
  unfold pwJ at *
  rw [List.map_cons, List.sum_cons, List.length_cons]
  omega
theorem pwJ_snoc (p : Nat → Int) (js ks : List Nat) : pwJ p (js ++ ks) = pwJ p js + pwJ p ks := by
 unfold pwJ; rw [List.map_append, List.sum_append]
theorem K4y (h : Hdr) (js : List Nat) : nmsS (sgJ h js) = js.map nm := by
 unfold nmsS sgJ
 rw [List.map_map]
 rfl
theorem K35 {js : List Nat} (h1 : js.Pairwise (· < ·)) (h2 : ∀ j ∈ js, j < 4) : incN (js.map nm) = true := by
 refine incN_of _ ?_
 rw [List.pairwise_map]
 exact List.Pairwise.imp_of_mem (fun {a b} ha hb hab => nm_inc a (h2 a ha) b (h2 b hb) hab) h1
theorem sgJ_ok (h : Hdr) (h1 : 1 ≤ h.1) (h2 : h.1 ≤ 16) (js : List Nat) : SgOk (sgJ h js) := by
 intro x hx
 obtain ⟨j, _, rfl⟩ := List.mem_map.1 hx
 exact sgS_ok h h1 h2 _ _
theorem K6r (h : Hdr) {js : List Nat} (h1 : js.Pairwise (· < ·)) (h2 : ∀ j ∈ js, j < 4) (h3 : js.length ≤ 4) : K6p (sgJ h js) = true := by
 unfold K6p incS
 rw [K4y, K35 h1 h2, Bool.true_and, decide_eq_true_eq]
 simp [sgJ]; omega
theorem K5n (q : Val → Bool) (a b : List Val) : pow q (a ++ b) = pow q a + pow q b := by
 unfold pow
 rw [List.filter_append, List.map_append, List.sum_append]
theorem K5u (p : Nat → Int) (q : Val → Bool) (f : Nat → Bool) : ∀ n, (∀ i, i < n → q (K4l p i) = f i) → pow q (ringN p n) = pwJ p ((List.range n).filter f)
 | 0, _ => rfl
 | n + 1, h => by
  have e : ringN p (n + 1) = ringN p n ++ [K4l p n] := by unfold ringN; rw [List.range_succ, List.map_append]; rfl
  rw [e, K5n, K5u p q f n fun i hi => h i (by omega), List.range_succ, List.filter_append, pwJ_snoc, K5q, K5s, h n (by omega)]
  congr 1
  by_cases c : f n
  ·rw [if_pos c, List.filter_cons_of_pos c, List.filter_nil]; simp [pwJ, K4l]
  ·rw [if_neg c, List.filter_cons_of_neg c, List.filter_nil]; rfl
theorem K14 {js : List Nat} {i : Nat} (h : ∀ j ∈ js, j < 4) (hi : i < 4) : (js.map nm).contains (nm i) = js.contains i := by
 rw [Bool.eq_iff_iff]
 simp only [List.contains_iff_mem]
 constructor
 ·intro hm
  obtain ⟨j, hj, e⟩ := List.mem_map.1 hm
  rw [← nm_inj j (h j hj) i hi e]
  exact hj
 ·exact fun hm => List.mem_map_of_mem hm
theorem K8s (h : Hdr) (i : Nat) : sgJ h (List.range (i + 1)) = sgJ h (List.range i) ++ [sgS h (nm i) (seedK i)] := by
 unfold sgJ; rw [List.range_succ, List.map_append]; rfl
theorem K8r (h : Hdr) (js : List Nat) : (sgJ h js).length = js.length := by simp [sgJ]
def txtS (x : List UInt8) : List UInt8 := oneS x.length ++ x
theorem K9v (x : List UInt8) : (txtS x).length ≤ x.length + 7 := by
 have := K52 (x.length : Int)
 unfold txtS; rw [List.length_append]; omega
theorem vtext_eq (l : List (List UInt8)) (hl : l.length ≤ 1000) (h : ∀ x ∈ l, x.length ≤ 100000) : q3f l = some (l.flatMap txtS) := by
 have hlen : ∀ i, ((l.take i).flatMap txtS).length ≤ 100007 * i := by
  intro i
  have : ∀ (m : List (List UInt8)), (∀ x ∈ m, x.length ≤ 100000) → (m.flatMap txtS).length ≤ 100007 * m.length := by
   intro m
   induction m with
   | nil => intro _; simp
   | cons a m ih => intro hm; have h1 := ih (fun x hx => hm x (List.mem_cons_of_mem _ hx)); have h2 := hm a List.mem_cons_self; have h3 := K9v a; rw [List.flatMap_cons, List.length_append, List.length_cons]; omega
  have := this (l.take i) fun x hx => h x (List.mem_of_mem_take hx)
  rw [List.length_take] at this; omega
 have main : q3f_1 l (l.length : Int) 0 [] = some (l.flatMap txtS) := by
  unfold q3f_1
  have := K47 (step := fun (s : Int × List UInt8) => q3f_1_step l (l.length : Int) s.1 s.2) (fun i (_ : Unit) => ((i : Int), (l.take i).flatMap txtS)) (fun _ _ => ()) (fun _ => l.flatMap txtS) l.length (fun _ _ => True) (fun i w hi _ => ⟨?_, trivial⟩) (fun w _ => ?_) l.length 0 () (by omega) trivial
  ·exact this
  ·show q3f_1_step l (l.length : Int) (i : Int) ((l.take i).flatMap txtS) = _
   unfold q3f_1_step
   have b := hlen i
   have hm : (l.getD i []).length ≤ 100000 := h _ (K2i hi)
   have b2 := K52 ((l.getD i []).length : Int)
   rw [K2e (by omega), J4c (by omega), Int.toNat_natCast, K53, K05, J4c (by omega), J4c (by rw [List.length_append]; omega), J6z (by omega) (by omega), List.append_assoc, K1u txtS l [] hi]
   rfl
  ·show q3f_1_step l (l.length : Int) (l.length : Int) ((l.take l.length).flatMap txtS) = _
   unfold q3f_1_step
   rw [K28 (by omega), List.take_of_length_le (Nat.le_refl _)]
 unfold q3f
 rw [main, K05]
theorem grow_eq (n : Nat) (h : n ≤ 1000000000) : qg (n : Int) = some [] := by
 unfold qg
 rw [K28 (by omega), Int.sub_zero, J6z (by omega) (by omega)]
 by_cases c : (0 : Int) < (n : Int)
 ·rw [K2e c, J4c ⟨rfl, rfl⟩, J4c (by rw [List.length_replicate]; omega), J4c (by omega), J4c (by rw [List.length_replicate]; omega)]
  rfl
 ·rw [K28 c]
theorem K13 (l : List (List UInt8)) (h : l.flatten.length ≤ 1000000000) (hl : l.length ≤ 1000000) : qs l = some l.flatten := by
 have ht : ∀ i, ((l.take i).flatten).length ≤ 1000000000 := fun i => Nat.le_trans (K9l l i) h
 have m1 : qs_1 l 0 l (l.length : Int) 0 = some (l, (l.flatten.length : Int)) := by
  unfold qs_1
  have := K47 (step := fun (s : Int × Int) => qs_1_step l s.1 l (l.length : Int) s.2) (fun i (_ : Unit) => ((((l.take i).flatten).length : Int), (i : Int))) (fun _ _ => ()) (fun _ => (l, (l.flatten.length : Int))) l.length (fun _ _ => True) (fun i w hi _ => ⟨?_, trivial⟩) (fun w _ => ?_) l.length 0 () (by omega) trivial
  ·exact this
  ·show qs_1_step l (((l.take i).flatten).length : Int) l (l.length : Int) (i : Int) = _
   unfold qs_1_step
   have e := congrArg List.length (getD_take l hi)
   rw [List.length_append] at e
   have b := ht (i + 1)
   rw [K2e (by omega), J4c (by omega), Int.toNat_natCast, J6z (n := (((l.take i).flatten).length : Int) + ((l.getD i []).length : Int)) (by omega) (by omega), K28 (by omega), J6z (by omega) (by omega)]
   congr 3
   omega
  ·show qs_1_step l (((l.take l.length).flatten).length : Int) l (l.length : Int) (l.length : Int) = _
   unfold qs_1_step
   rw [K28 (by omega), List.take_of_length_le (Nat.le_refl _)]
 have m2 : qs_2 l (l.length : Int) 0 [] = some l.flatten := by
  unfold qs_2
  have := K47 (step := fun (s : Int × List UInt8) => qs_2_step l (l.length : Int) s.1 s.2) (fun i (_ : Unit) => ((i : Int), (l.take i).flatten)) (fun _ _ => ()) (fun _ => l.flatten) l.length (fun _ _ => True) (fun i w hi _ => ⟨?_, trivial⟩) (fun w _ => ?_) l.length 0 () (by omega) trivial
  ·exact this
  ·show qs_2_step l (l.length : Int) (i : Int) ((l.take i).flatten) = _
   unfold qs_2_step
   have e := congrArg List.length (getD_take l hi)
   rw [List.length_append] at e
   have b := ht (i + 1)
   rw [K2e (by omega), J4c (by omega), Int.toNat_natCast, J4c (by omega), J6z (by omega) (by omega), getD_take l hi]
   rfl
  ·show qs_2_step l (l.length : Int) (l.length : Int) ((l.take l.length).flatten) = _
   unfold qs_2_step
   rw [K28 (by omega), List.take_of_length_le (Nat.le_refl _)]
 unfold qs
 rw [m1, K05]
 simp only
 rw [grow_eq _ h, K05, m2, K05]
def valB (v : Val) : List UInt8 := txtS v.1 ++ oneS v.2.1 ++ v.2.2.1
def setB (l : List Val) : List UInt8 := oneS l.length ++ l.flatMap valB
def setH (l : List Val) : List UInt8 := sha (86 :: setB l)
def SetSm (l : List Val) : Prop := l.length ≤ 1000 ∧ ∀ v ∈ l, v.1.length ≤ 100000 ∧ v.2.2.1.length = 32
theorem K8k (l : List Val) : (setH l).length = 32 := K8t _
theorem Ka2 {v : Val} (h : v.1.length ≤ 100000 ∧ v.2.2.1.length = 32) : (valB v).length ≤ 100100 := by
 have h1 := K9v v.1
 have h2 := K52 v.2.1
 unfold valB
 rw [List.length_append, List.length_append]; omega
theorem Ka5 : ∀ (m : List Val), (∀ v ∈ m, v.1.length ≤ 100000 ∧ v.2.2.1.length = 32) → (m.flatMap valB).length ≤ 100100 * m.length
 | [], _ => by simp
 | a :: m, hm => by
  have h1 := Ka5 m fun x hx => hm x (List.mem_cons_of_mem _ hx)
  have h2 := Ka2 (hm a List.mem_cons_self)
  rw [List.flatMap_cons, List.length_append, List.length_cons]; omega
theorem K8j {l : List Val} (h : SetSm l) (i : Nat) : (oneS l.length ++ (l.take i).flatMap valB).length ≤ 100100 * 1000 + 7 := by
 have h1 := K52 (l.length : Int)
 have h2 := Ka5 (l.take i) fun v hv => h.2 v (List.mem_of_mem_take hv)
 have h3 := h.1
 rw [List.length_take] at h2
 rw [List.length_append]
 have : min i l.length ≤ 1000 := by omega
 have : 100100 * min i l.length ≤ 100100 * 1000 := Nat.mul_le_mul_left _ this
 omega
theorem Ka4 (x0 : List Val) (x1 : Int) (x2 : Int) (x3 : List UInt8) (x4 : List UInt8) : q3h_1_step x0 x1 x2 x3 x4 = (fork (decide (x2 < x1)) (need (0 ≤ x2 ∧ x2 < (List.length x0 : Int)) (andThen (q3f ([(List.getD x0 (Int.toNat x2) zVal).1] : List (List UInt8))) (fun u6 => andThen (q3v ([(List.getD x0 (Int.toNat x2) zVal).2.1] : List (Int))) (fun u8 => andThen (q3q ([(List.getD x0 (Int.toNat x2) zVal).2.2.1] : List (List UInt8))) (fun u10 => andThen (qs ([x4, u6, u8, u10] : List (List UInt8))) (fun u12 => some (.inl ((w64 (x2 + (1 : Int))), u12)))))))) (some (.inr (x3, x4))) : Option ((Int × List UInt8) ⊕ (List UInt8 × List UInt8))) := rfl
theorem Ka3 (l : List Val) (h : SetSm l) : q3h l = some (setH l) := by
 have hl := h.1
 have main : q3h_1 l (l.length : Int) 0 (List.replicate 32 0) (oneS l.length) = some (List.replicate 32 0, setB l) := by
  unfold q3h_1
  have := K47 (step := fun (s : Int × List UInt8) => q3h_1_step l (l.length : Int) s.1 (List.replicate 32 0) s.2) (fun i (_ : Unit) => ((i : Int), oneS l.length ++ (l.take i).flatMap valB)) (fun _ _ => ()) (fun _ => (List.replicate 32 0, setB l)) l.length (fun _ _ => True) (fun i w hi _ => ⟨?_, trivial⟩) (fun w _ => ?_) l.length 0 () (by omega) trivial
  ·rw [show ((0 : Int), oneS (l.length : Int)) = (((0 : Nat) : Int), oneS (l.length : Int) ++ (l.take 0).flatMap valB) from by simp]
   exact this
  ·show q3h_1_step l (l.length : Int) (i : Int) (List.replicate 32 0) (oneS l.length ++ (l.take i).flatMap valB) = _
   have hv := h.2 _ (K2i (z := zVal) hi)
   have b := K8j h i
   have b2 := Ka2 hv
   rw [Ka4, K2e (by omega), J4c (by omega), Int.toNat_natCast, vtext_eq _ (by simp) (by simp; exact hv.1), K05, put_eq _ (by simp), K05, K2t _ (by simp) (by simp; exact hv.2), K05]
   have e : [oneS (l.length : Int) ++ (l.take i).flatMap valB, [(l.getD i zVal).1].flatMap txtS, putS [(l.getD i zVal).2.1], [(l.getD i zVal).2.2.1].flatten].flatten = oneS (l.length : Int) ++ (l.take (i + 1)).flatMap valB := by
    rw [K1u valB l zVal hi]
    simp [valB, putS, List.append_assoc]
   have b3 := K8j h (i + 1)
   rw [K13 _ (by rw [e]; omega) (by simp), K05, e, J6z (by omega) (by omega)]
   rfl
  ·show q3h_1_step l (l.length : Int) (l.length : Int) (List.replicate 32 0) (oneS l.length ++ (l.take l.length).flatMap valB) = _
   unfold q3h_1_step
   rw [K28 (by omega), List.take_of_length_le (Nat.le_refl _)]
   rfl
 have b := K8j h l.length
 rw [List.take_of_length_le (Nat.le_refl _)] at b
 have b : (setB l).length ≤ 100100 * 1000 + 7 := b
 have hp : putS [(l.length : Int)] = oneS l.length := by simp [putS]
 have hf : [setB l].flatten = setB l := by simp
 unfold q3h
 rw [put_eq _ (by simp), K05, hp, main, K05]
 simp only
 rw [K9k _ _ (by rw [hf]; omega) (by simp), hf]
 rfl
theorem K82 (x : List UInt8) (hx : x.length ≤ 100000) : q25 x = some (txtS x) := by
 have := K52 (x.length : Int)
 unfold q25
 rw [K7q, K05, J4c (by omega)]
 rfl
theorem K03 (x0 : List Val) (x1 : Int) (x2 : Int) (x3 : List UInt8) (x4 : List UInt8) : q17_1_step x0 x1 x2 x3 x4 = (fork (decide (x2 < x1)) (need (0 ≤ x2 ∧ x2 < (List.length x0 : Int)) (andThen (q25 ((List.getD x0 (Int.toNat x2) zVal).1)) (fun u6 => need (List.length x4 + List.length u6 ≤ 2147483648) (andThen (q2k ((List.getD x0 (Int.toNat x2) zVal).2.1)) (fun u9 => need (List.length (x4 ++ u6) + List.length u9 ≤ 2147483648) (need (List.length ((x4 ++ u6) ++ u9) + List.length (List.getD x0 (Int.toNat x2) zVal).2.2.1 ≤ 2147483648) (some (.inl ((w64 (x2 + (1 : Int))), (((x4 ++ u6) ++ u9) ++ (List.getD x0 (Int.toNat x2) zVal).2.2.1)))))))))) (some (.inr (x3, x4))) : Option ((Int × List UInt8) ⊕ (List UInt8 × List UInt8))) := rfl
theorem K7x (l : List Val) (h : SetSm l) : q17 l = some (setH l) := by
 have hl := h.1
 have main : q17_1 l (l.length : Int) 0 (List.replicate 32 0) (oneS l.length) = some (List.replicate 32 0, setB l) := by
  unfold q17_1
  have := K47 (step := fun (s : Int × List UInt8) => q17_1_step l (l.length : Int) s.1 (List.replicate 32 0) s.2) (fun i (_ : Unit) => ((i : Int), oneS l.length ++ (l.take i).flatMap valB)) (fun _ _ => ()) (fun _ => (List.replicate 32 0, setB l)) l.length (fun _ _ => True) (fun i w hi _ => ⟨?_, trivial⟩) (fun w _ => ?_) l.length 0 () (by omega) trivial
  ·rw [show ((0 : Int), oneS (l.length : Int)) = (((0 : Nat) : Int), oneS (l.length : Int) ++ (l.take 0).flatMap valB) from by simp]
   exact this
  ·show q17_1_step l (l.length : Int) (i : Int) (List.replicate 32 0) (oneS l.length ++ (l.take i).flatMap valB) = _
   have hv := h.2 _ (K2i (z := zVal) hi)
   have b := K8j h i
   have b1 := K9v (l.getD i zVal).1
   have b2 := K52 (l.getD i zVal).2.1
   rw [K03, K2e (by omega), J4c (by omega), Int.toNat_natCast, K82 _ hv.1, K05, J4c (by omega), K7q, K05, J4c (by rw [List.length_append (as := oneS _ ++ _)]; omega), J4c (by rw [List.length_append (as := (oneS _ ++ _) ++ _), List.length_append (as := oneS _ ++ _)]; omega), J6z (by omega) (by omega), K1u valB l zVal hi]
   simp [valB, List.append_assoc]
  ·show q17_1_step l (l.length : Int) (l.length : Int) (List.replicate 32 0) (oneS l.length ++ (l.take l.length).flatMap valB) = _
   unfold q17_1_step
   rw [K28 (by omega), List.take_of_length_le (Nat.le_refl _)]
   rfl
 have b := K8j h l.length
 rw [List.take_of_length_le (Nat.le_refl _)] at b
 have b : (setB l).length ≤ 100100 * 1000 + 7 := b
 have hf : [setB l].flatten = setB l := by simp
 unfold q17
 rw [K7q, K05, main, K05]
 simp only
 rw [K81 _ _ (by rw [hf]; omega) (by simp), hf]
 rfl
abbrev Block := Hdr × List K01 × List Val × List Val × Unit
def zBlk : Block := (zHdr, ([] : List K01), ([] : List Val), ([] : List Val), ())
def K8i (n : Nat) : List (List UInt8) := (List.range n).map seedK
def K75 (n : Nat) : List (List (List UInt8)) := (List.range n).map fun i => keysS (seedK i)
def K4q (n : Nat) : List (List UInt8) := (List.range n).map nm
theorem K2j {α : Type} (f : Nat → α) (z : α) {n i : Nat} (h : i < n) : ((List.range n).map f).getD i z = f i := by
 rw [List.getD_eq_getElem?_getD, List.getElem?_map, List.getElem?_range h]; rfl
theorem K4g {α : Type} (f : Nat → α) (i : Nat) : (List.range (i + 1)).map f = (List.range i).map f ++ [f i] := by
 rw [List.range_succ, List.map_append]; rfl
theorem K7b {α : Type} (f : Nat → α) (n : Nat) : ((List.range n).map f).length = n := by simp
def setV (p : Nat → Int) (n : Nat) : List Val := (List.range n).map (mkVal p)
theorem setS_v (ps : List Int) : setS ps = setV (pw ps) (setN ps) := rfl
theorem chain1 (n : Nat) (hn : n ≤ 4) (set : List Val) : q1v_1 (n : Int) 0 set [] = some (set, K8i n) := by
 unfold q1v_1
 have := K47 (step := fun (t : Int × List (List UInt8)) => q1v_1_step (n : Int) t.1 set t.2) (fun i (_ : Unit) => ((i : Int), K8i i)) (fun _ _ => ()) (fun _ => (set, K8i n)) n (fun _ _ => True) (fun i w hi _ => ⟨?_, trivial⟩) (fun w _ => ?_) n 0 () (by omega) trivial
 ·exact this
 ·show q1v_1_step (n : Int) (i : Int) set (K8i i) = _
  unfold q1v_1_step
  have hl : (K8i i).length = i := K7b _ _
  rw [K2e (by omega), K3d, K05, J4c (by rw [hl]; simp only [List.length_cons, List.length_nil]; omega), J6z (by omega) (by omega)]
  unfold K8i
  rw [K4g]
  rfl
 ·show q1v_1_step (n : Int) (n : Int) set (K8i n) = _
  unfold q1v_1_step
  rw [K28 (by omega)]
theorem K4v (n i : Int) (set : List Val) (seeds : List (List UInt8)) (u : Unit) (r : List (List (List UInt8))) (ns : List (List UInt8)) : qj_1_step n i set seeds u r ns =
  (fork (decide (i < n)) (need (0 ≤ i ∧ i < (List.length set : Int)) (need (List.length ns + List.length ([(set.getD (Int.toNat i) zVal).1] : List (List UInt8)) ≤ 2147483648) (need (0 ≤ i ∧ i < (List.length seeds : Int)) (andThen (q2d (List.getD seeds (Int.toNat i) (List.replicate 32 (0 : UInt8)))) (fun u6 => need (List.length r + List.length ([u6] : List (List (List UInt8))) ≤ 2147483648) (some (.inl ((w64 (i + (1 : Int))), (r ++ ([u6] : List (List (List UInt8)))), (ns ++ ([(set.getD (Int.toNat i) zVal).1] : List (List UInt8))))))))))) (some (.inr (set, seeds, u, r, ns))) : Option ((Int × List (List (List UInt8)) × List (List UInt8)) ⊕ ((List Val) × List (List UInt8) × Unit × List (List (List UInt8)) × List (List UInt8)))) := rfl
theorem K4w (p : Nat → Int) (n : Nat) (hn : n ≤ 4) : qj (setV p n) (K8i n) = some (setV p n, K8i n, (), K75 n, K4q n) := by
 have hl : (setV p n).length = n := K7b _ _
 have hs : (K8i n).length = n := K7b _ _
 have main : qj_1 (n : Int) 0 (setV p n) (K8i n) () [] [] = some (setV p n, K8i n, (), K75 n, K4q n) := by
  unfold qj_1
  have := K47 (step := fun (t : Int × List (List (List UInt8)) × List (List UInt8)) => qj_1_step (n : Int) t.1 (setV p n) (K8i n) () t.2.1 t.2.2) (fun i (_ : Unit) => ((i : Int), K75 i, K4q i)) (fun _ _ => ()) (fun _ => (setV p n, K8i n, (), K75 n, K4q n)) n (fun _ _ => True) (fun i w hi _ => ⟨?_, trivial⟩) (fun w _ => ?_) n 0 () (by omega) trivial
  ·exact this
  ·show qj_1_step (n : Int) (i : Int) (setV p n) (K8i n) () (K75 i) (K4q i) = _
   have h1 : (K75 i).length = i := K7b _ _
   have h2 : (K4q i).length = i := K7b _ _
   have g1 : (setV p n).getD i zVal = mkVal p i := K2j _ _ hi
   have g2 : (K8i n).getD i (List.replicate 32 (0 : UInt8)) = seedK i := K2j _ _ hi
   rw [K4v, K2e (by omega), J4c (by omega), Int.toNat_natCast, g1, g2, J4c (by rw [h2]; simp only [List.length_cons, List.length_nil]; omega), J4c (by omega), K64 _ (K8g i), K05, J4c (by rw [h1]; simp only [List.length_cons, List.length_nil]; omega), J6z (by omega) (by omega)]
   unfold K75 K4q
   rw [K4g, K4g]
   rfl
  ·show qj_1_step (n : Int) (n : Int) (setV p n) (K8i n) () (K75 n) (K4q n) = _
   rw [K4v, K28 (by omega)]
 unfold qj
 rw [hl, main]
 rfl
theorem K0s (n i : Int) (set : List Val) (u : Unit) (seeds : List (List UInt8)) (r : List (List (List UInt8))) (ns : List (List UInt8)) : q1v_2_step n i set u seeds r ns =
  (fork (decide (i < n)) (need (0 ≤ i ∧ i < (List.length r : Int)) (andThen (q2e (List.getD r (Int.toNat i) ([] : List (List UInt8)))) (fun u15 => need (0 ≤ i ∧ i < (List.length set : Int)) (some (.inl ((w64 (i + (1 : Int))), (List.set set (Int.toNat i) ((set.getD (Int.toNat i) zVal).1, (set.getD (Int.toNat i) zVal).2.1, u15, ())))))))) (some (.inr (u, seeds, r, ns, set))) : Option ((Int × List Val) ⊕ (Unit × List (List UInt8) × List (List (List UInt8)) × List (List UInt8) × List Val))) := rfl
theorem chain2 (p : Nat → Int) (n : Nat) (hn : n ≤ 4) : q1v_2 (n : Int) 0 (setV p n) () (K8i n) (K75 n) (K4q n) = some ((), K8i n, K75 n, K4q n, ringN p n) := by
 have hr : (K75 n).length = n := K7b _ _
 unfold q1v_2
 have := K47 (step := fun (t : Int × List Val) => q1v_2_step (n : Int) t.1 t.2 () (K8i n) (K75 n) (K4q n)) (fun i (_ : Unit) => ((i : Int), midS p n i)) (fun _ _ => ()) (fun _ => ((), K8i n, K75 n, K4q n, ringN p n)) n (fun _ _ => True) (fun i w hi _ => ⟨?_, trivial⟩) (fun w _ => ?_) n 0 () (by omega) trivial
 ·rw [show setV p n = midS p n 0 from by unfold setV midS; congr 1]
  exact this
 ·show q1v_2_step (n : Int) (i : Int) (midS p n i) () (K8i n) (K75 n) (K4q n) = _
  have hm : (midS p n i).length = n := by simp [midS]
  have g1 : (K75 n).getD i [] = keysS (seedK i) := K2j _ _ hi
  rw [K0s, K2e (by omega), J4c (by omega), Int.toNat_natCast, g1, K7u _ (by rw [K3h]; omega) (K3i _), K05, J4c (by omega), J6z (by omega) (by omega)]
  show some (Sum.inl (_, List.set (midS p n i) i (((midS p n i).getD i zVal).1, ((midS p n i).getD i zVal).2.1, K32 (seedK i), ()))) = _
  rw [mid_step _ _ _ hi]
  rfl
 ·show q1v_2_step (n : Int) (n : Int) (midS p n n) () (K8i n) (K75 n) (K4q n) = _
  rw [K0s, K28 (by omega)]
  unfold midS ringN
  congr 6
  apply List.map_congr_left
  intro j hj
  rw [if_pos (List.mem_range.1 hj)]
theorem K0t (ps : List Int) (hp : ps.length ≤ 140737488351232) : q1v ps = some ((), K8i (setN ps), K75 (setN ps), K4q (setN ps), ringS ps) := by
 have hn := K8l ps
 have hl : (setV (pw ps) (setN ps)).length = setN ps := K7b _ _
 unfold q1v
 rw [set_eq ps hp, K05, setS_v, hl, chain1 _ hn.2, K05]
 simp only
 rw [K4w _ _ hn.2, K05]
 simp only
 rw [hl, chain2 _ _ hn.2]
 rfl
noncomputable def root0 : List UInt8 := sha (83 :: (oneS 0 ++ rootS []))
theorem K7c : root0.length = 32 := K8t _
theorem K9j : q13 [] = some root0 := by
 have h1 : q1n [] = some [] := by
  unfold q1n q1n_1
  rw [J3y (r := []) rfl]; rfl
 have h2 := K7u [] (by simp) (fun x hx => nomatch hx)
 have h3 : [oneS 0, rootS []].flatten = oneS 0 ++ rootS [] := by simp
 have h4 : (rootS []).length ≤ 1000000 := by rw [K7g]; omega
 have h5 := K52 0
 unfold q13
 rw [h1, K05, h2, K05]
 unfold q1u
 rw [show ((([] : List (List UInt8 × List UInt8 × Unit)).length : Int)) = 0 from rfl, K7q, K05, K81 _ _ (by rw [h3, List.length_append]; omega) (by simp), h3]
 rfl
def lastB (B : List Block) : Block := B.getD (B.length - 1) zBlk
noncomputable def hdS (S : List Val) (B : List Block) (t : Int) : Hdr :=
 if B.length = 0 then (1, t, root0, setH S, setH S, List.replicate 32 0, ())
 else ((B.length : Int) + 1, t, root0, setH (lastB B).2.2.2.1, setH S, sha (72 :: bodyS (lastB B).1), ())
theorem K2w (S : List Val) (B : List Block) (t : Int) : K00 (hdS S B t) := by
 unfold hdS
 split
 ·exact ⟨K7c, K8k _, K8k _, by simp⟩
 ·exact ⟨K7c, K8k _, K8k _, K8t _⟩
theorem hdS_1 (S : List Val) (B : List Block) (t : Int) : (hdS S B t).1 = (B.length : Int) + 1 := by
 unfold hdS; split
 ·show (1 : Int) = _; omega
 ·rfl
theorem hdS_t (S : List Val) (B : List Block) (t : Int) : (hdS S B t).2.1 = t := by unfold hdS; split <;> rfl
theorem hdS_next (S : List Val) (B : List Block) (t : Int) : (hdS S B t).2.2.2.2.1 = setH S := by unfold hdS; split <;> rfl
def nowS (S : List Val) (B : List Block) : List Val := if B.length = 0 then S else (lastB B).2.2.2.1
theorem hdS_vals (S : List Val) (B : List Block) (t : Int) : (hdS S B t).2.2.2.1 = setH (nowS S B) := by unfold hdS nowS; split <;> rfl
theorem K2x {S : List Val} {B : List Block} {t : Int} (hb : B.length < 16) (h1 : 0 ≤ t) (h2 : t ≤ 1073741824) : K6l (hdS S B t) = true := by
 rw [K6m, hdS_1, hdS_t]; omega
noncomputable def blkS (n : Nat) (S : List Val) (B : List Block) (t : Int) : Block := (hdS S B t, sgJ (hdS S B t) (List.range n), nowS S B, S, ())
def Good (B : List Block) : Prop := B.length = 0 ∨ (SetSm (lastB B).2.2.2.1 ∧ K00 (lastB B).1)
theorem K9n {h : Hdr} (hr : K6l h = true) : textS h = sha (72 :: bodyS h) := by
 unfold textS K0r; rw [if_pos hr]
abbrev Rows := List (List (List UInt8 × List UInt8 × Unit))
theorem cm1 (n : Nat) (hn : n ≤ 4) (k : Int) (B : List Block) (R : Rows) (S : List Val) (h : Hdr) (ps nx : List Val) (hk : w64 (k + 1) = h.1) (h1 : 1 ≤ h.1) (h2 : h.1 ≤ 16) :
  qc_1 k (n : Int) 0 B R () (K8i n) (K75 n) (K4q n) S h ps () [] nx (textS h) = some (k, B, R, (), K8i n, K75 n, K4q n, S, h, ps, (), sgJ h (List.range n), nx) := by
 have e1 : (K8i n).length = n := K7b _ _
 have e2 : (K75 n).length = n := K7b _ _
 have e3 : (K4q n).length = n := K7b _ _
 unfold qc_1
 have := K47 (step := fun (t : Int × List K01) => qc_1_step k (n : Int) t.1 B R () (K8i n) (K75 n) (K4q n) S h ps () t.2 nx (textS h)) (fun i (_ : Unit) => ((i : Int), sgJ h (List.range i))) (fun _ _ => ()) (fun _ => (k, B, R, (), K8i n, K75 n, K4q n, S, h, ps, (), sgJ h (List.range n), nx)) n (fun _ _ => True) (fun i w hi _ => ⟨?_, trivial⟩) (fun w _ => ?_) n 0 () (by omega) trivial
 ·exact this
 ·show qc_1_step k (n : Int) (i : Int) B R () (K8i n) (K75 n) (K4q n) S h ps () (sgJ h (List.range i)) nx (textS h) = _
  unfold qc_1_step
  have g1 : (K8i n).getD i (List.replicate 32 (0 : UInt8)) = seedK i := K2j _ _ hi
  have g2 : (K75 n).getD i [] = keysS (seedK i) := K2j _ _ hi
  have g3 : (K4q n).getD i [] = nm i := K2j _ _ hi
  rw [K2e (by omega), J4c (by omega), J4c (by omega), J4c (by omega), Int.toNat_natCast, g1, g2, g3, hk, K62 _ (by rw [K3h]; omega) (K3i _) _ _ (K8g i) _ h1 h2 (by rw [K9m]; omega), K05, J4c (by rw [K8r, List.length_range]; simp only [List.length_cons, List.length_nil]; omega), J6z (n := (i : Int) + 1) (by omega) (by omega), K8s]
  rfl
 ·show qc_1_step k (n : Int) (n : Int) B R () (K8i n) (K75 n) (K4q n) S h ps () (sgJ h (List.range n)) nx (textS h) = _
  unfold qc_1_step
  rw [K28 (by omega)]
theorem cm2 (n : Nat) (hn : n ≤ 4) (k : Int) (B : List Block) (R : Rows) (S : List Val) (h : Hdr) (nx : List Val) (hk : w64 (k + 1) = h.1) (h1 : 1 ≤ h.1) (h2 : h.1 ≤ 16) :
  qc_2 k (n : Int) 0 B R () (K8i n) (K75 n) (K4q n) S h () [] nx (textS h) = some (k, B, R, (), K8i n, K75 n, K4q n, S, h, (), sgJ h (List.range n), nx) := by
 have e1 : (K8i n).length = n := K7b _ _
 have e2 : (K75 n).length = n := K7b _ _
 have e3 : (K4q n).length = n := K7b _ _
 unfold qc_2
 have := K47 (step := fun (t : Int × List K01) => qc_2_step k (n : Int) t.1 B R () (K8i n) (K75 n) (K4q n) S h () t.2 nx (textS h)) (fun i (_ : Unit) => ((i : Int), sgJ h (List.range i))) (fun _ _ => ()) (fun _ => (k, B, R, (), K8i n, K75 n, K4q n, S, h, (), sgJ h (List.range n), nx)) n (fun _ _ => True) (fun i w hi _ => ⟨?_, trivial⟩) (fun w _ => ?_) n 0 () (by omega) trivial
 ·exact this
 ·show qc_2_step k (n : Int) (i : Int) B R () (K8i n) (K75 n) (K4q n) S h () (sgJ h (List.range i)) nx (textS h) = _
  unfold qc_2_step
  have g1 : (K8i n).getD i (List.replicate 32 (0 : UInt8)) = seedK i := K2j _ _ hi
  have g2 : (K75 n).getD i [] = keysS (seedK i) := K2j _ _ hi
  have g3 : (K4q n).getD i [] = nm i := K2j _ _ hi
  rw [K2e (by omega), J4c (by omega), J4c (by omega), J4c (by omega), Int.toNat_natCast, g1, g2, g3, hk, K62 _ (by rw [K3h]; omega) (K3i _) _ _ (K8g i) _ h1 h2 (by rw [K9m]; omega), K05, J4c (by rw [K8r, List.length_range]; simp only [List.length_cons, List.length_nil]; omega), J6z (n := (i : Int) + 1) (by omega) (by omega), K8s]
  rfl
 ·show qc_2_step k (n : Int) (n : Int) B R () (K8i n) (K75 n) (K4q n) S h () (sgJ h (List.range n)) nx (textS h) = _
  unfold qc_2_step
  rw [K28 (by omega)]
theorem K12 (a0 : Int) (a1 : List Block) (a2 : Rows) (a3 : Unit) (a4 : List (List UInt8)) (a5 : List (List (List UInt8))) (a6 : List (List UInt8)) (a7 : List Val) : qc a0 a1 a2 a3 a4 a5 a6 a7 =
  (fork (decide ((16 : Int) ≤ (List.length a1 : Int))) (some ((0 : Int), a1, a2, a3, a4, a5, a6, a7)) (fork (decide (a0 < (0 : Int))) (some ((0 : Int), a1, a2, a3, a4, a5, a6, a7)) (fork (decide ((1073741824 : Int) < a0)) (some ((0 : Int), a1, a2, a3, a4, a5, a6, a7)) (fork (decide ((0 : Int) < (List.length a1 : Int))) (need (0 ≤ (w64 ((List.length a1 : Int) - (1 : Int))) ∧ (w64 ((List.length a1 : Int) - (1 : Int))) < (List.length a1 : Int)) (fork (decide (a0 ≤ (List.getD a1 (Int.toNat (w64 ((List.length a1 : Int) - (1 : Int)))) zBlk).1.2.1)) (some ((0 : Int), a1, a2, a3, a4, a5, a6, a7)) (need (List.length ([] : List Val) + List.length a7 ≤ 2147483648) (andThen (q13 ([] : List (List UInt8 × List UInt8 × Unit))) (fun u8 => andThen (qx ((List.getD a1 (Int.toNat (w64 ((List.length a1 : Int) - (1 : Int)))) zBlk).1)) (fun u10 => andThen (q17 ((List.getD a1 (Int.toNat (w64 ((List.length a1 : Int) - (1 : Int)))) zBlk).2.2.2.1)) (fun u12 => andThen (q17 (([] : List Val) ++ a7)) (fun u14 => andThen (qx ((w64 ((List.length a1 : Int) + (1 : Int))), a0, u8, u12, u14, u10, ())) (fun u16 => andThen (qc_1 (List.length a1 : Int) (List.length a4 : Int) (0 : Int) a1 a2 a3 a4 a5 a6 a7 ((w64 ((List.length a1 : Int) + (1 : Int))), a0, u8, u12, u14, u10, ()) (List.getD a1 (Int.toNat (w64 ((List.length a1 : Int) - (1 : Int)))) zBlk).2.2.2.1 (()) ([] : List K01) (([] : List Val) ++ a7) u16) (fun o26 => need (List.length ([] : List Block) + List.length o26.2.1 ≤ 2147483648) (need (List.length (([] : List Block) ++ o26.2.1) + List.length ([(o26.2.2.2.2.2.2.2.2.1, o26.2.2.2.2.2.2.2.2.2.2.2.1, o26.2.2.2.2.2.2.2.2.2.1, o26.2.2.2.2.2.2.2.2.2.2.2.2, ())] : List Block) ≤ 2147483648) (need (List.length ([] : Rows) + List.length o26.2.2.1 ≤ 2147483648) (need (List.length (([] : Rows) ++ o26.2.2.1) + List.length ([([] : List (List UInt8 × List UInt8 × Unit))] : Rows) ≤ 2147483648) (some ((w64 (o26.1 + (1 : Int))), ((([] : List Block) ++ o26.2.1) ++ ([(o26.2.2.2.2.2.2.2.2.1, o26.2.2.2.2.2.2.2.2.2.2.2.1, o26.2.2.2.2.2.2.2.2.2.1, o26.2.2.2.2.2.2.2.2.2.2.2.2, ())] : List Block)), ((([] : Rows) ++ o26.2.2.1) ++ ([([] : List (List UInt8 × List UInt8 × Unit))] : Rows)), o26.2.2.2.1, o26.2.2.2.2.1, o26.2.2.2.2.2.1, o26.2.2.2.2.2.2.1, o26.2.2.2.2.2.2.2.1))))))))))))))) (need (List.length ([] : List Val) + List.length a7 ≤ 2147483648) (andThen (q13 ([] : List (List UInt8 × List UInt8 × Unit))) (fun u33 => andThen (q17 (([] : List Val) ++ a7)) (fun u35 => andThen (q17 (([] : List Val) ++ a7)) (fun u37 => andThen (qx ((w64 ((List.length a1 : Int) + (1 : Int))), a0, u33, u35, u37, (List.replicate 32 (0 : UInt8)), ())) (fun u39 => andThen (qc_2 (List.length a1 : Int) (List.length a4 : Int) (0 : Int) a1 a2 a3 a4 a5 a6 a7 ((w64 ((List.length a1 : Int) + (1 : Int))), a0, u33, u35, u37, (List.replicate 32 (0 : UInt8)), ()) (()) ([] : List K01) (([] : List Val) ++ a7) u39) (fun o49 => need (List.length ([] : List Block) + List.length o49.2.1 ≤ 2147483648) (need (List.length (([] : List Block) ++ o49.2.1) + List.length ([(o49.2.2.2.2.2.2.2.2.1, o49.2.2.2.2.2.2.2.2.2.2.1, o49.2.2.2.2.2.2.2.2.2.2.2, o49.2.2.2.2.2.2.2.2.2.2.2, ())] : List Block) ≤ 2147483648) (need (List.length ([] : Rows) + List.length o49.2.2.1 ≤ 2147483648) (need (List.length (([] : Rows) ++ o49.2.2.1) + List.length ([([] : List (List UInt8 × List UInt8 × Unit))] : Rows) ≤ 2147483648) (some ((w64 (o49.1 + (1 : Int))), ((([] : List Block) ++ o49.2.1) ++ ([(o49.2.2.2.2.2.2.2.2.1, o49.2.2.2.2.2.2.2.2.2.2.1, o49.2.2.2.2.2.2.2.2.2.2.2, o49.2.2.2.2.2.2.2.2.2.2.2, ())] : List Block)), ((([] : Rows) ++ o49.2.2.1) ++ ([([] : List (List UInt8 × List UInt8 × Unit))] : Rows)), o49.2.2.2.1, o49.2.2.2.2.1, o49.2.2.2.2.2.1, o49.2.2.2.2.2.2.1, o49.2.2.2.2.2.2.2.1))))))))))))))) : Option (Int × (List Block) × (Rows) × Unit × List (List UInt8) × List (List (List UInt8)) × List (List UInt8) × List Val)) := rfl
theorem K11 (n : Nat) (hn : n ≤ 4) (t : Int) (B : List Block) (R : Rows) (S : List Val) (hb : B.length < 16) (hR : R.length ≤ 100) (h1 : 0 ≤ t) (h2 : t ≤ 1073741824) (h3 : B.length ≠ 0 → (lastB B).1.2.1 < t) (hB : Good B) (hS : SetSm S) :
  qc t B R () (K8i n) (K75 n) (K4q n) S = some ((B.length : Int) + 1, B ++ [blkS n S B t], R ++ [[]], (), K8i n, K75 n, K4q n, S) := by
 have e1 : (K8i n).length = n := K7b _ _
 have hSl := hS.1
 have hnil : ([] : List Val) ++ S = S := rfl
 have hr := K2x (S := S) hb h1 h2
 have hh := K2w S B t
 have hd1 := hdS_1 S B t
 have w1 : w64 ((B.length : Int) + 1) = (B.length : Int) + 1 := J6z (by omega) (by omega)
 rw [K12, K28 (by omega), K28 (by omega), K28 (by omega)]
 by_cases c : B.length = 0
 ·rw [K28 (by omega), J4c (by simp only [List.length_nil]; omega), K9j, K05, hnil, K7x S hS, K05, K05, w1]
  have hh0 : ((B.length : Int) + 1, t, root0, setH S, setH S, List.replicate 32 (0 : UInt8), ()) = hdS S B t := by
   unfold hdS; rw [if_pos c, c]; rfl
  rw [hh0, K6j _ hh, K05, ← K9n hr, e1, cm2 n hn _ B R S _ S (by rw [w1, hd1]) (by omega) (by omega), K05]
  simp only
  have hB0 : B = [] := List.eq_nil_of_length_eq_zero c
  rw [J4c (by simp only [List.length_nil]; omega), J4c (by simp only [List.nil_append, List.length_cons, List.length_nil]; omega), J4c (by simp only [List.length_nil]; omega), J4c (by simp only [List.nil_append, List.length_cons, List.length_nil]; omega), w1]
  have hnow : nowS S B = S := by unfold nowS; rw [if_pos c]
  unfold blkS
  rw [hnow]
  rfl
 ·obtain ⟨g1, g2⟩ := hB.resolve_left c
  have hix : Int.toNat (w64 ((B.length : Int) - 1)) = B.length - 1 := by rw [J6z (by omega) (by omega)]; omega
  have hw : w64 ((B.length : Int) - 1) = (B.length : Int) - 1 := J6z (by omega) (by omega)
  have hl : B.getD (B.length - 1) zBlk = lastB B := rfl
  have h3 := h3 c
  rw [K2e (by omega), J4c (by omega), hix, hl, K28 (by omega), J4c (by simp only [List.length_nil]; omega), K9j, K05, K6j _ g2, K05, K7x _ g1, K05, hnil, K7x S hS, K05, w1]
  have hh0 : ((B.length : Int) + 1, t, root0, setH (lastB B).2.2.2.1, setH S, sha (72 :: bodyS (lastB B).1), ()) = hdS S B t := by
   unfold hdS; rw [if_neg c]
  rw [hh0, K6j _ hh, K05, ← K9n hr, e1, cm1 n hn _ B R S _ _ S (by rw [w1, hd1]) (by omega) (by omega), K05]
  simp only
  rw [J4c (by simp only [List.length_nil]; omega), J4c (by simp only [List.nil_append, List.length_cons, List.length_nil]; omega), J4c (by simp only [List.length_nil]; omega), J4c (by simp only [List.nil_append, List.length_cons, List.length_nil]; omega), w1]
  have hnow : nowS S B = (lastB B).2.2.2.1 := by unfold nowS; rw [if_neg c]
  unfold blkS
  rw [hnow]
  rfl
theorem K3q (B : List Block) (b : Block) : lastB (B ++ [b]) = b := by
 unfold lastB
 rw [List.length_append, List.getD_eq_getElem?_getD, List.getElem?_append_right (by simp)]
 simp
theorem K2l {n : Nat} {S : List Val} (hS : SetSm S) (B : List Block) (t : Int) : Good (B ++ [blkS n S B t]) := by
 right
 rw [K3q]
 exact ⟨hS, K2w S B t⟩
theorem K6x (p : Nat → Int) (n : Nat) (h : n ≤ 4) : SetSm (ringN p n) := by
 refine ⟨by simp [ringN]; omega, fun v hv => ?_⟩
 obtain ⟨i, hi, rfl⟩ := List.mem_map.1 hv
 have hi := List.mem_range.1 hi
 have : ∀ i, i < 4 → (nm i).length ≤ 100000 := by decide
 exact ⟨this i (by omega), K7g _⟩
abbrev eqH (x y : List UInt8) : Bool := Ty.beq (.arr 32 (.int .u8)) x y
abbrev Cli := List Hdr × List Val × Int × Bool × Unit
def KeyOk (l : List Val) : Prop := ∀ v ∈ l, v.2.2.1.length = 32
def BlkOk (b : Block) : Prop := K00 b.1 ∧ SgOk b.2.1 ∧ b.2.1.length ≤ 1000000 ∧ KeyOk b.2.2.1 ∧ KeyOk b.2.2.2.1 ∧ b.2.2.1.length ≤ 1000000 ∧ b.2.2.2.1.length ≤ 1000000
theorem K6t {l : List Val} (h : K6o l = true) : K02 l ∧ l.length ≤ 5 ∧ 1 ≤ l.length ∧ ∀ v ∈ l, v.1.length ≤ 16 := by
 unfold K6o at h
 simp only [Bool.and_eq_true, decide_eq_true_eq] at h
 obtain ⟨h1, h2, h3⟩ := h
 have key : ∀ v ∈ l, mayS v = true := by
  intro v hv
  obtain ⟨i, hi, rfl⟩ := List.getElem_of_mem hv
  have := List.all_eq_true.1 h1 i (List.mem_range.2 hi)
  unfold okAt at this
  rw [Bool.and_eq_true] at this
  rw [List.getD_eq_getElem?_getD, List.getElem?_eq_getElem hi] at this
  exact this.1
 have key2 : ∀ v ∈ l, v.1.length ≤ 16 ∧ 1 ≤ v.2.1 ∧ v.2.1 ≤ 1048576 := by
  intro v hv
  have := key v hv
  unfold mayS at this
  simp only [Bool.and_eq_true, decide_eq_true_eq] at this
  omega
 exact ⟨⟨by omega, fun v hv => by have := key2 v hv; omega⟩, h3, h2, fun v hv => (key2 v hv).1⟩
theorem K6s {l : List Val} (h : K6o l = true) (hk : KeyOk l) : SetSm l := by
 obtain ⟨_, h2, _, h4⟩ := K6t h
 exact ⟨by omega, fun v hv => ⟨by have := h4 v hv; omega, hk v hv⟩⟩
def Ka7 (b : Block) : Bool := K6l b.1 && (K6o b.2.2.1 && (K6o b.2.2.2.1 && (decide (b.2.1.length ≤ 5) && (eqH (setH b.2.2.1) b.1.2.2.2.1 && eqH (setH b.2.2.2.1) b.1.2.2.2.2.1))))
theorem Ka8 (b : Block) (hb : BlkOk b) : q2x b = some (Ka7 b) := by
 obtain ⟨b1, b2, b3, b4, b5, b6, b7⟩ := hb
 unfold q2x Ka7
 rw [K6n, K05]
 cases c1 : K6l b.1 with
 | false => rfl
 | true =>
  rw [K2f, right_eq _ (by omega), K05]
  cases c2 : K6o b.2.2.1 with
  | false => rfl
  | true =>
   rw [K2f, right_eq _ (by omega), K05]
   cases c3 : K6o b.2.2.2.1 with
   | false => rfl
   | true =>
    rw [K2f]
    by_cases c4 : b.2.1.length ≤ 5
    ·rw [K2e (by omega), Ka3 _ (K6s c2 b4), K05, decide_eq_true c4]
     cases c5 : Ty.beq (.arr 32 (.int .u8)) (setH b.2.2.1) b.1.2.2.2.1 with
     | false => rw [show eqH (setH b.2.2.1) b.1.2.2.2.1 = false from c5]; rfl
     | true => rw [show eqH (setH b.2.2.1) b.1.2.2.2.1 = true from c5, K2f, Ka3 _ (K6s c3 b5), K05]; rfl
    ·rw [K28 (by omega), decide_eq_false c4]; rfl
def lastH (c : Cli) : Hdr := c.1.getD (c.1.length - 1) zHdr
theorem K3u (c : Cli) : qo c = need (0 ≤ (w64 ((List.length c.1 : Int) - (1 : Int))) ∧ (w64 ((List.length c.1 : Int) - (1 : Int))) < (List.length c.1 : Int)) (some (List.getD c.1 (Int.toNat (w64 ((List.length c.1 : Int) - (1 : Int)))) zHdr)) := rfl
theorem K3t (c : Cli) (h1 : 1 ≤ c.1.length) (h2 : c.1.length ≤ 1000000) : qo c = some (lastH c) := by
 rw [K3u, J6z (by omega) (by omega), J4c (by omega)]
 unfold lastH
 congr 2
 omega
def CliOk (c : Cli) : Prop := 1 ≤ c.1.length ∧ c.1.length ≤ 1000000 ∧ K02 c.2.1 ∧ (0 ≤ (lastH c).1 ∧ (lastH c).1 ≤ 1099511627776) ∧ (0 ≤ (lastH c).2.1 ∧ (lastH c).2.1 ≤ 1099511627776)
theorem K1g (now : Int) (c : Cli) (hc : CliOk c) (hn : -1099511627776 ≤ now ∧ now ≤ 1099511627776) : ql now c = some (decide (c.2.2.1 < now - (lastH c).2.1)) := by
 obtain ⟨h1, h2, _, _, h5⟩ := hc
 unfold ql
 rw [K3t c h1 h2, K05, J6z (by omega) (by omega)]
theorem K0y (l : List Val) (h : l.length ≤ 2147483648) : q15 l = some l := by unfold q15; rw [J4c h]
theorem K0x (l : List Hdr) (h : l.length ≤ 2147483648) : qi l = some l := by unfold qi; rw [J4c h]
def enS (set : List Val) (h : Hdr) (s : List K01) : Bool := decide (allS set * 2 < partS set h s * 3)
def soS (set : List Val) (h : Hdr) (s : List K01) : Bool := decide (allS set * 1 < partS set h s * 3)
def cut6 (l : List Hdr) : List Hdr := if 6 < l.length then l.drop 1 else l
def updS (b : Block) (now : Int) (c : Cli) : Int × Cli :=
 if c.2.2.2.1 = true then (5, c) else if Ka7 b = false then (1, c) else if b.1.1 ≤ (lastH c).1 then (8, c) else if b.1.2.1 ≤ (lastH c).2.1 then (1, c)
 else if c.2.2.1 < now - (lastH c).2.1 then (6, c) else if now < b.1.2.1 then (6, c)
 else if b.1.1 = (lastH c).1 + 1 ∧ eqH b.1.2.2.2.1 (lastH c).2.2.2.2.1 = false then (9, c) else if enS b.2.2.1 b.1 b.2.1 = false then (9, c)
 else if b.1.1 ≠ (lastH c).1 + 1 ∧ soS c.2.1 b.1 b.2.1 = false then (9, c)
 else (0, (cut6 (c.1 ++ [b.1]), b.2.2.2.1, c.2.2.1, c.2.2.2.1, ()))
theorem tail_eq (b : Block) (c : Cli) (hc : c.1.length ≤ 1000000) (hb : b.2.2.2.1.length ≤ 1000000) : (andThen (qi c.1) (fun u22 => need (List.length u22 + List.length ([b.1] : List Hdr) ≤ 2147483648) (fork (decide ((6 : Int) < (List.length (u22 ++ ([b.1] : List Hdr)) : Int))) (need (0 ≤ (1 : Int) ∧ (1 : Int) ≤ (List.length (u22 ++ ([b.1] : List Hdr)) : Int) ∧ (List.length (u22 ++ ([b.1] : List Hdr)) : Int) ≤ (List.length (u22 ++ ([b.1] : List Hdr)) : Int)) (andThen (q15 b.2.2.2.1) (fun u27 => some ((0 : Int), ((cutL (u22 ++ ([b.1] : List Hdr)) (1 : Int) (List.length (u22 ++ ([b.1] : List Hdr)) : Int)), u27, c.2.2.1, c.2.2.2.1, ()))))) (andThen (q15 b.2.2.2.1) (fun u29 => some ((0 : Int), ((u22 ++ ([b.1] : List Hdr)), u29, c.2.2.1, c.2.2.2.1, ())))))) : Option (Int × Cli)) =
  some (0, (cut6 (c.1 ++ [b.1]), b.2.2.2.1, c.2.2.1, c.2.2.2.1, ())) := by
 have hl : (c.1 ++ [b.1]).length = c.1.length + 1 := by simp
 have h1 : ([b.1] : List Hdr).length = 1 := rfl
 rw [K0x _ (by omega), K05, J4c (by omega)]
 unfold cut6
 by_cases h : (6 : Int) < ((c.1 ++ [b.1]).length : Int)
 ·rw [K2e h, J4c (by omega), K0y _ (by omega), K05, if_pos (by omega), K16]
  rfl
 ·rw [K28 h, K0y _ (by omega), K05, if_neg (by omega)]
theorem Ka0 (b : Block) (now : Int) (c : Cli) (hb : BlkOk b) (hc : CliOk c) (hn : -1099511627776 ≤ now ∧ now ≤ 1099511627776) : qq b now c = some (updS b now c) := by
 have hex := K1g now c hc hn
 obtain ⟨c1, c2, c3, c4, c5⟩ := hc
 have hw := Ka8 b hb
 obtain ⟨b1, b2, b3, b4, b5, b6, b7⟩ := hb
 have wl : w64 ((lastH c).1 + 1) = (lastH c).1 + 1 := J6z (by omega) (by omega)
 have htail := tail_eq b c (by omega) (by omega)
 unfold qq updS
 rw [K3t c c1 c2, K05]
 by_cases q1 : c.2.2.2.1 = true
 ·rw [q1, K2f, if_pos rfl]
 rw [if_neg q1]
 have q1 : c.2.2.2.1 = false := by simpa using q1
 rw [q1] at htail ⊢
 rw [K29, hw, K05]
 cases q2 : Ka7 b with
 | false => rw [if_pos rfl]; rfl
 | true =>
  rw [if_neg (by simp), Bool.not_true, K29]
  have hset : K02 b.2.2.1 := by
   unfold Ka7 at q2
   simp only [Bool.and_eq_true] at q2
   exact (K6t q2.2.1).1
  by_cases q3 : b.1.1 ≤ (lastH c).1
  ·rw [K2e q3, if_pos q3]
  rw [K28 q3, if_neg q3]
  by_cases q4 : b.1.2.1 ≤ (lastH c).2.1
  ·rw [K2e q4, if_pos q4]
  rw [K28 q4, if_neg q4, hex, K05]
  by_cases q5 : c.2.2.1 < now - (lastH c).2.1
  ·rw [K2e q5, if_pos q5]
  rw [K28 q5, if_neg q5]
  by_cases q6 : now < b.1.2.1
  ·rw [K2e q6, if_pos q6]
  rw [K28 q6, if_neg q6, wl]
  have en := K1d b.2.2.1 hset b.1 b1 b.2.1 b3 b2
  have so := K9c c.2.1 c3 b.1 b1 b.2.1 b3 b2
  rw [show decide (allS b.2.2.1 * 2 < partS b.2.2.1 b.1 b.2.1 * 3) = enS b.2.2.1 b.1 b.2.1 from rfl] at en
  rw [show decide (allS c.2.1 * 1 < partS c.2.1 b.1 b.2.1 * 3) = soS c.2.1 b.1 b.2.1 from rfl] at so
  by_cases q7 : b.1.1 = (lastH c).1 + 1
  ·rw [K2e q7]
   cases q8 : Ty.beq (.arr 32 (.int .u8)) b.1.2.2.2.1 (lastH c).2.2.2.2.1 with
   | false => rw [if_pos ⟨q7, q8⟩]; rfl
   | true =>
    rw [if_neg (by rw [show eqH b.1.2.2.2.1 (lastH c).2.2.2.2.1 = true from q8]; simp), Bool.not_true, K29, en, K05]
    cases q9 : enS b.2.2.1 b.1 b.2.1 with
    | false => rw [if_pos rfl]; rfl
    | true =>
     rw [if_neg (by simp), Bool.not_true, K29, K2d q7, if_neg (fun h => h.1 q7)]
     exact htail
  ·rw [K28 q7, if_neg (fun h => q7 h.1), en, K05]
   cases q9 : enS b.2.2.1 b.1 b.2.1 with
   | false => rw [if_pos rfl]; rfl
   | true =>
    rw [if_neg (by simp), Bool.not_true, K29, K2c q7, so, K05]
    cases q10 : soS c.2.1 b.1 b.2.1 with
    | false => rw [if_pos ⟨q7, rfl⟩]; rfl
    | true =>
     rw [if_neg (by simp), Bool.not_true, K29]
     exact htail
def newS (h : Hdr) (next : List Val) (p : Int) : Int ⊕ (Int × Cli) :=
 if K6l h = true ∧ K6o next = true ∧ eqH h.2.2.2.2.1 (setH next) = true ∧ (0 ≤ p ∧ p ≤ 1073741824) then .inr (0, ([h], next, p, false, ())) else .inl 1
theorem new_eq (h : Hdr) (next : List Val) (p : Int) (hk : KeyOk next) (hl : next.length ≤ 1000000) : q3s h next p = some (newS h next p) := by
 unfold q3s newS
 rw [K6n, K05]
 cases q1 : K6l h with
 | false => rw [if_neg (by simp)]; rfl
 | true =>
  rw [Bool.not_true, K29, right_eq _ (by omega), K05]
  cases q2 : K6o next with
  | false => rw [if_neg (by simp)]; rfl
  | true =>
   rw [Bool.not_true, K29, Ka3 _ (K6s q2 hk), K05]
   cases q3 : Ty.beq (.arr 32 (.int .u8)) h.2.2.2.2.1 (setH next) with
   | false => rw [if_neg (by rw [show eqH h.2.2.2.2.1 (setH next) = false from q3]; simp)]; rfl
   | true =>
    rw [Bool.not_true, K29]
    unfold q2t
    by_cases q4 : 0 ≤ p
    ·rw [K2e q4, K05]
     by_cases q5 : p ≤ 1073741824
     ·rw [decide_eq_true q5, Bool.not_true, K29, K0y _ (by omega), if_pos ⟨rfl, rfl, q3, q4, q5⟩]
      rfl
     ·rw [decide_eq_false q5, if_neg (by omega)]; rfl
    ·rw [K28 q4, K05, if_neg (by omega)]; rfl
theorem K4u (p : Nat → Int) {n : Nat} (hn : n ≤ 4) (h : Hdr) (h1 : 1 ≤ h.1) (h2 : h.1 ≤ 16) {js : List Nat} (q1 : js.Pairwise (· < ·)) (q2 : ∀ j ∈ js, j < n) (q3 : js.length ≤ 4) : K4r (ringN p n) h (sgJ h js) = js.map nm := by
 unfold K4r K4n
 rw [if_pos (K6r h q1 (fun j hj => by have := q2 j hj; omega) q3), List.filter_eq_self.2, ← K4y h js]
 ·rfl
 ·intro x hx
  obtain ⟨j, hj, rfl⟩ := List.mem_map.1 hx
  exact good_own _ (K6u p n hn) h h1 h2 (K4l p j) (List.mem_map_of_mem (List.mem_range.2 (q2 j hj))) (seedK j) rfl
theorem filt_inc (g : Nat → Bool) (n : Nat) : ((List.range n).filter g).Pairwise (· < ·) := List.Pairwise.filter _ List.pairwise_lt_range
theorem K1l {g : Nat → Bool} {n j : Nat} (h : j ∈ (List.range n).filter g) : j < n := List.mem_range.1 (List.mem_filter.1 h).1
theorem K1k (g : Nat → Bool) (n : Nat) : ((List.range n).filter g).length ≤ n := by
 have := List.length_filter_le g (List.range n)
 rwa [List.length_range] at this
theorem K5f (p : Nat → Int) {n : Nat} (hn : n ≤ 4) (h : Hdr) (h1 : 1 ≤ h.1) (h2 : h.1 ≤ 16) (g : Nat → Bool) : partS (ringN p n) h (sgJ h ((List.range n).filter g)) = pwJ p ((List.range n).filter g) := by
 have hl := K1k g n
 unfold partS
 rw [K4u p hn h h1 h2 (filt_inc g n) (fun j hj => K1l hj) (by omega)]
 refine K5u p _ g n fun i hi => ?_
 show (((List.range n).filter g).map nm).contains (nm i) = g i
 rw [K14 (fun j hj => by have := K1l hj; omega) (by omega), Bool.eq_iff_iff]
 simp only [List.contains_iff_mem, List.mem_filter, List.mem_range]
 exact ⟨fun x => x.2, fun x => ⟨hi, x⟩⟩
theorem K1j (n : Nat) : (List.range n).filter (fun _ => true) = List.range n := List.filter_eq_self.2 fun _ _ => rfl
theorem K5c (p : Nat → Int) {n : Nat} (hn : n ≤ 4) (h : Hdr) (h1 : 1 ≤ h.1) (h2 : h.1 ≤ 16) : partS (ringN p n) h (sgJ h (List.range n)) = pwJ p (List.range n) := by
 have := K5f p hn h h1 h2 fun _ => true
 rwa [K1j] at this
theorem K04 (p : Nat → Int) (n : Nat) : allS (ringN p n) = pwJ p (List.range n) := by
 unfold allS
 rw [K5u p (fun _ => true) (fun _ => true) n (fun _ _ => rfl), K1j]
def PwOk (p : Nat → Int) : Prop := ∀ i, 1 ≤ p i ∧ p i ≤ 1000000
theorem pw_ok (ps : List Int) : PwOk (pw ps) := fun i => by have := pw_b ps i; omega
theorem PwOk.s {p : Nat → Int} (h : PwOk p) : ∀ i, 0 ≤ p i ∧ p i ≤ 2097152 := fun i => by have := h i; omega
theorem K61 {p : Nat → Int} (h : PwOk p) : ∀ js : List Nat, js ≠ [] → 1 ≤ pwJ p js
 | [], e => absurd rfl e
 | j :: js, _ => by
  have := h j
  have := pwJ_b p h.s js
  unfold pwJ at *
  rw [List.map_cons, List.sum_cons]; omega
theorem K67 {n : Nat} (h : 1 ≤ n) : List.range n ≠ [] := fun e => by have := congrArg List.length e; simp at this; omega
theorem K6w {p : Nat → Int} (hp : PwOk p) {n : Nat} (h1 : 1 ≤ n) (hn : n ≤ 4) : K6o (ringN p n) = true := by
 have hl : (ringN p n).length = n := by simp [ringN]
 have hg : ∀ i, i < n → (ringN p n).getD i zVal = K4l p i := fun i hi => K2j _ _ hi
 have h2 : ∀ i, i < 4 → nm i ≠ [] ∧ (nm i).length ≤ 16 := by decide
 unfold K6o
 rw [hl]
 simp only [Bool.and_eq_true, decide_eq_true_eq]
 refine ⟨List.all_eq_true.2 fun i hi => ?_, by omega, by omega⟩
 have hi := List.mem_range.1 hi
 obtain ⟨a, b⟩ := h2 i (by omega)
 have := hp i
 unfold okAt mayS
 rw [hg i hi]
 simp only [Bool.and_eq_true, Bool.or_eq_true, Bool.not_eq_true', decide_eq_true_eq, decide_eq_false_iff_not, beq_iff_eq]
 refine ⟨⟨a, ?_, this.1, ?_⟩, ?_⟩
 ·show ((nm i).length : Int) ≤ 16; omega
 ·show p i ≤ 1048576; omega
 ·by_cases c : i = 0
  ·exact .inl c
  ·right
   rw [hg (i - 1) (by omega)]
   exact nm_inc (i - 1) (by omega) i (by omega) (by omega)
theorem K6v (p : Nat → Int) (n : Nat) : KeyOk (ringN p n) := by
 intro v hv
 obtain ⟨i, hi, rfl⟩ := List.mem_map.1 hv
 exact K7g _
theorem K6z {p : Nat → Int} (hp : PwOk p) {n : Nat} (hn : n ≤ 4) : K02 (ringN p n) := K6y p n hn hp.s
theorem K1b {p : Nat → Int} (hp : PwOk p) {n : Nat} (h1 : 1 ≤ n) (hn : n ≤ 4) (h : Hdr) (q1 : 1 ≤ h.1) (q2 : h.1 ≤ 16) : enS (ringN p n) h (sgJ h (List.range n)) = true := by
 unfold enS
 rw [K5c p hn h q1 q2, K04, decide_eq_true_eq]
 have := K61 hp _ (K67 h1)
 omega
theorem K9b {p : Nat → Int} (hp : PwOk p) {n : Nat} (h1 : 1 ≤ n) (hn : n ≤ 4) (h : Hdr) (q1 : 1 ≤ h.1) (q2 : h.1 ≤ 16) : soS (ringN p n) h (sgJ h (List.range n)) = true := by
 unfold soS
 rw [K5c p hn h q1 q2, K04, decide_eq_true_eq]
 have := K61 hp _ (K67 h1)
 omega
noncomputable def blF (n : Nat) (S : List Val) (f : Nat → Int) : Nat → List Block
 | 0 => []
 | k + 1 => blF n S f k ++ [blkS n S (blF n S f k) (f k)]
noncomputable def hF (n : Nat) (S : List Val) (f : Nat → Int) (j : Nat) : Hdr := hdS S (blF n S f j) (f j)
noncomputable def honB (n : Nat) (S : List Val) (h : Hdr) : Block := (h, sgJ h (List.range n), S, S, ())
theorem K0h (n : Nat) (S : List Val) (f : Nat → Int) : ∀ k, (blF n S f k).length = k
 | 0 => rfl
 | k + 1 => by rw [blF, List.length_append, K0h n S f k]; rfl
theorem nowF (n : Nat) (S : List Val) (f : Nat → Int) : ∀ k, nowS S (blF n S f k) = S
 | 0 => rfl
 | k + 1 => by
  unfold nowS
  rw [K0h, if_neg (by omega), blF, K3q]
  rfl
theorem K0g (n : Nat) (S : List Val) (f : Nat → Int) : ∀ {k j : Nat}, j < k → (blF n S f k).getD j zBlk = honB n S (hF n S f j)
 | k + 1, j, h => by
  rw [blF]
  rcases Nat.lt_or_ge j k with c | c
  ·rw [List.getD_eq_getElem?_getD, List.getElem?_append_left (by rw [K0h]; exact c), ← List.getD_eq_getElem?_getD]
   exact K0g n S f c
  ·have : j = k := by omega
   subst this
   rw [List.getD_eq_getElem?_getD, List.getElem?_append_right (by rw [K0h]; omega), K0h]
   simp only [Nat.sub_self, List.getElem?_cons_zero, Option.getD_some]
   unfold blkS
   rw [nowF]
   rfl
theorem hF_1 (n : Nat) (S : List Val) (f : Nat → Int) (j : Nat) : (hF n S f j).1 = (j : Int) + 1 := by unfold hF; rw [hdS_1, K0h]
theorem hF_t (n : Nat) (S : List Val) (f : Nat → Int) (j : Nat) : (hF n S f j).2.1 = f j := hdS_t _ _ _
theorem K2n (n : Nat) (S : List Val) (f : Nat → Int) (j : Nat) : (hF n S f j).2.2.2.2.1 = setH S := hdS_next _ _ _
theorem K2p (n : Nat) (S : List Val) (f : Nat → Int) (j : Nat) : (hF n S f j).2.2.2.1 = setH S := by unfold hF; rw [hdS_vals, nowF]
theorem K2m (n : Nat) (S : List Val) (f : Nat → Int) (j : Nat) : K00 (hF n S f j) := K2w _ _ _
theorem K2o {n : Nat} {S : List Val} {f : Nat → Int} {j : Nat} (hj : j < 16) (h1 : 0 ≤ f j) (h2 : f j ≤ 1073741824) : K6l (hF n S f j) = true := K2x (by rw [K0h]; exact hj) h1 h2
theorem last_blF (n : Nat) (S : List Val) (f : Nat → Int) (k : Nat) : lastB (blF n S f (k + 1)) = honB n S (hF n S f k) := by
 unfold lastB
 rw [K0h]
 exact K0g n S f (by omega)
theorem good_blF {n : Nat} {S : List Val} (hS : SetSm S) (f : Nat → Int) : ∀ k, Good (blF n S f k)
 | 0 => .inl rfl
 | k + 1 => K2l hS _ _
def Rise (f : Nat → Int) : Prop := (∀ i, i < 16 → 0 ≤ f i ∧ f i ≤ 1000000000) ∧ ∀ i, i + 1 < 16 → f i < f (i + 1)
theorem Rise.lt {f : Nat → Int} (h : Rise f) {i : Nat} : ∀ {j : Nat}, i < j → j < 16 → f i < f j
 | j + 1, hij, hj => by
  have := h.2 j hj
  rcases Nat.lt_or_ge i j with c | c
  ·have := h.lt c (by omega); omega
  ·have : i = j := by omega
   subst this; omega
theorem commitF {n : Nat} (hn : n ≤ 4) {S : List Val} (hS : SetSm S) {f : Nat → Int} (k : Nat) (hk : k < 16) (h0 : 0 ≤ f k ∧ f k ≤ 1000000000) (h1 : k ≠ 0 → f (k - 1) < f k) :
  qc (f k) (blF n S f k) (List.replicate k []) () (K8i n) (K75 n) (K4q n) S = some ((k : Int) + 1, blF n S f (k + 1), List.replicate (k + 1) [], (), K8i n, K75 n, K4q n, S) := by
 have hl := K0h n S f k
 rw [K11 n hn (f k) (blF n S f k) (List.replicate k []) S (by omega) (by simp; omega) h0.1 (by omega) ?_ (good_blF hS f k) hS, hl, List.replicate_succ']
 ·rfl
 ·intro hne
  obtain ⟨q, rfl⟩ : ∃ q, k = q + 1 := ⟨k - 1, by omega⟩
  rw [last_blF]
  show (hF n S f q).2.1 < _
  rw [hF_t]
  exact h1 (by omega)
theorem K31 {n : Nat} (hn : n ≤ 4) (p : Nat → Int) {h : Hdr} (hh : K00 h) (h1 : 1 ≤ h.1) (h2 : h.1 ≤ 16) : BlkOk (honB n (ringN p n) h) := by
 have hl : (ringN p n).length = n := by simp [ringN]
 refine ⟨hh, sgJ_ok h h1 h2 _, ?_, K6v p n, K6v p n, ?_, ?_⟩
 ·show (sgJ h (List.range n)).length ≤ 1000000
  rw [K8r, List.length_range]; omega
 ·show (ringN p n).length ≤ 1000000; omega
 ·show (ringN p n).length ≤ 1000000; omega
theorem Ka9 {p : Nat → Int} (hp : PwOk p) {n : Nat} (h1 : 1 ≤ n) (hn : n ≤ 4) {h : Hdr} (hr : K6l h = true) (hv : h.2.2.2.1 = setH (ringN p n)) (hx : h.2.2.2.2.1 = setH (ringN p n)) : Ka7 (honB n (ringN p n) h) = true := by
 unfold Ka7 honB
 simp only
 rw [hr, K6w hp h1 hn, hv, hx, show eqH (setH (ringN p n)) (setH (ringN p n)) = true from K0e _, decide_eq_true (by rw [K8r, List.length_range]; omega)]
 rfl
def Knows (S : List Val) (P : Int) (h : Hdr) (c : Cli) : Prop := 1 ≤ c.1.length ∧ c.1.length ≤ 1000 ∧ lastH c = h ∧ c.2.1 = S ∧ c.2.2.1 = P ∧ c.2.2.2.1 = false
theorem K3l {p : Nat → Int} (hp : PwOk p) {n : Nat} (hn : n ≤ 4) {P : Int} {f : Nat → Int} (hf : Rise f) {i : Nat} (hi : i < 16) {c : Cli} (hc : Knows (ringN p n) P (hF n (ringN p n) f i) c) : CliOk c := by
 obtain ⟨c1, c2, c3, c4, _, _⟩ := hc
 have := hf.1 i hi
 refine ⟨c1, by omega, by rw [c4]; exact K6z hp hn, ?_, ?_⟩
 ·rw [c3, hF_1]; omega
 ·rw [c3, hF_t]; omega
theorem K3s (l : List Hdr) (h : Hdr) (x : List Val × Int × Bool × Unit) : lastH (l ++ [h], x) = h := by
 unfold lastH
 simp only
 rw [List.length_append, List.getD_eq_getElem?_getD, List.getElem?_append_right (by simp)]
 simp
theorem K3r (l : List Hdr) (h : Hdr) (x : List Val × Int × Bool × Unit) (hl : 1 ≤ l.length) : lastH (cut6 (l ++ [h]), x) = h := by
 unfold cut6
 split
 ·rw [List.drop_append_of_le_length hl]
  exact K3s _ _ _
 ·exact K3s _ _ _
theorem Ka1 {p : Nat → Int} (hp : PwOk p) {n : Nat} (h1 : 1 ≤ n) (hn : n ≤ 4) {P : Int} {f : Nat → Int} (hf : Rise f) {i j : Nat} (hi : i < 16) (hj : j < 16) {c : Cli} (hc : Knows (ringN p n) P (hF n (ringN p n) f i) c) (now : Int) :
  updS (honB n (ringN p n) (hF n (ringN p n) f j)) now c = if j ≤ i then (8, c) else if P < now - f i ∨ now < f j then (6, c) else (0, (cut6 (c.1 ++ [hF n (ringN p n) f j]), ringN p n, P, false, ())) := by
 obtain ⟨c1, c2, c3, c4, c5, c6⟩ := hc
 have r := K2o (n := n) (S := ringN p n) hj (hf.1 j hj).1 (by have := (hf.1 j hj).2; omega)
 have e1 := hF_1 n (ringN p n) f j
 have e2 := hF_1 n (ringN p n) f i
 unfold updS
 rw [if_neg (by rw [c6]; simp), Ka9 hp h1 hn r (K2p _ _ _ _) (K2n _ _ _ _), if_neg (by simp), c3, e2, hF_t, K2n]
 show (if (hF n (ringN p n) f j).1 ≤ _ then _ else if (hF n (ringN p n) f j).2.1 ≤ _ then _ else _) = _
 rw [e1, hF_t]
 by_cases q1 : j ≤ i
 ·rw [if_pos (by omega), if_pos q1]
 rw [if_neg (by omega), if_neg q1]
 have := hf.lt (show i < j by omega) hj
 rw [if_neg (by omega), c5]
 by_cases q2 : P < now - f i
 ·rw [if_pos q2, if_pos (.inl q2)]
 rw [if_neg q2]
 show (if now < (hF n (ringN p n) f j).2.1 then _ else _) = _
 rw [hF_t]
 by_cases q3 : now < f j
 ·rw [if_pos q3, if_pos (.inr q3)]
 rw [if_neg q3]
 show (if (hF n (ringN p n) f j).1 = _ ∧ eqH (hF n (ringN p n) f j).2.2.2.1 _ = false then _ else if enS (ringN p n) (hF n (ringN p n) f j) (sgJ (hF n (ringN p n) f j) (List.range n)) = false then _ else if (hF n (ringN p n) f j).1 ≠ _ ∧ soS c.2.1 (hF n (ringN p n) f j) (sgJ (hF n (ringN p n) f j) (List.range n)) = false then _ else (0, (cut6 (c.1 ++ [hF n (ringN p n) f j]), ringN p n, P, c.2.2.2.1, ()))) = _
 rw [K2p, show eqH (setH (ringN p n)) (setH (ringN p n)) = true from K0e _, if_neg (by simp), K1b hp h1 hn _ (by omega) (by omega), if_neg (by simp), c4, K9b hp h1 hn _ (by omega) (by omega), if_neg (by simp), c6, if_neg (by omega)]
theorem K3k {S : List Val} {P : Int} {h0 h : Hdr} {c : Cli} (hc : Knows S P h0 c) (hl : c.1.length ≤ 990) : Knows S P h (cut6 (c.1 ++ [h]), S, P, false, ()) := by
 obtain ⟨c1, c2, c3, c4, c5, c6⟩ := hc
 have hcut : 1 ≤ (cut6 (c.1 ++ [h])).length ∧ (cut6 (c.1 ++ [h])).length ≤ 1000 := by
  unfold cut6
  split
  ·rw [List.length_drop, List.length_append]; simp only [List.length_cons, List.length_nil]; omega
  ·rw [List.length_append]; simp only [List.length_cons, List.length_nil]; omega
 exact ⟨hcut.1, hcut.2, K3r _ _ _ c1, rfl, rfl, rfl⟩
theorem new_hon {p : Nat → Int} (hp : PwOk p) {n : Nat} (h1 : 1 ≤ n) (hn : n ≤ 4) {f : Nat → Int} (hf : Rise f) {P : Int} (hP : 0 ≤ P ∧ P ≤ 1073741824) {j : Nat} (hj : j < 16) :
  q3s (hF n (ringN p n) f j) (ringN p n) P = some (.inr (0, ([hF n (ringN p n) f j], ringN p n, P, false, ()))) := by
 have hl : (ringN p n).length = n := by simp [ringN]
 rw [new_eq _ _ _ (K6v p n) (by omega)]
 unfold newS
 rw [if_pos ⟨K2o hj (hf.1 j hj).1 (by have := (hf.1 j hj).2; omega), K6w hp h1 hn, by rw [K2n]; exact K0e _, hP.1, hP.2⟩]
theorem K3j (S : List Val) (P : Int) (h : Hdr) : Knows S P h ([h], S, P, false, ()) := ⟨Nat.le_refl _, by simp, rfl, rfl, rfl, rfl⟩
noncomputable def wi (w : Int) : Int := (q1s w 0 4).getD 0
theorem wi_eq (w : Int) : q1s w 0 4 = some (wi w) ∧ 0 ≤ wi w ∧ wi w ≤ 4 := by
 obtain ⟨r, e, a, b⟩ := Kab w 0 4 (by omega) (by omega) (by omega)
 unfold wi
 rw [e]
 exact ⟨rfl, a, b⟩
noncomputable def hitW (who : List Int) (i : Nat) : Bool := who.any fun w => decide (wi w = (i : Int))
noncomputable def reSig (h : Hdr) (x : List UInt8) (i : Nat) (s : K01) : K01 := (s.1, sigS (seedK i) h.1 x, ())
noncomputable def K1x (h : Hdr) (x : List UInt8) (i : Nat) (s : List K01) (b : Bool) : List K01 := if b = true then List.set s i (reSig h x i (s.getD i zSg)) else s
theorem K1y (h : Hdr) (x : List UInt8) (i : Nat) (s : List K01) (b : Bool) : (K1x h x i s b).length = s.length := by unfold K1x; split <;> simp
theorem K1i (x0 : List Int) (x1 x2 x3 : Int) (x4 : List Int) (x5 x6 : Int) (x7 : Hdr) (x8 : Unit) (x9 : Hdr) (x10 : List Val × List Val × Unit) (x11 : List K01) (x12 : List UInt8) : q1m_1_step x0 x1 x2 x3 x4 x5 x6 x7 x8 x9 x10 x11 x12 =
  (fork (decide (x6 < x5)) (need (0 ≤ x6 ∧ x6 < (List.length x4 : Int)) (andThen (q1s (List.getD x4 (Int.toNat x6) (0 : Int)) (0 : Int) (4 : Int)) (fun u12 => fork (decide (u12 = x1)) (andThen (q2c x1) (fun u15 => andThen (q1p u15 x9.1 x12) (fun u17 => need (0 ≤ x1 ∧ x1 < (List.length x11 : Int)) (some (.inl ((w64 (x6 + (1 : Int))), (List.set x11 (Int.toNat x1) ((List.getD x11 (Int.toNat x1) zSg).1, u17, ())))))))) (some (.inl ((w64 (x6 + (1 : Int))), x11)))))) (some (.inr (x0, x2, x3, x7, x8, x9, x10, x11, x12))) : Option ((Int × List K01) ⊕ (List Int × Int × Int × Hdr × Unit × Hdr × (List Val × List Val × Unit) × List K01 × List UInt8))) := rfl
theorem forged_1 (who : List Int) (hw : who.length ≤ 1152921504606846976) (i : Nat) (x2 x3 : Int) (x7 : Hdr) (h : Hdr) (h1 : 1 ≤ h.1) (h2 : h.1 ≤ 16) (x10 : List Val × List Val × Unit) (s : List K01) (hi : i < s.length) (hs : s.length ≤ 1000000) (x : List UInt8) (hx : x.length ≤ 1000) :
  q1m_1 who (i : Int) x2 x3 who (who.length : Int) 0 x7 () h x10 s x = some (who, x2, x3, x7, (), h, x10, K1x h x i s (hitW who i), x) := by
 unfold q1m_1
 have := K47 (step := fun (t : Int × List K01) => q1m_1_step who (i : Int) x2 x3 who (who.length : Int) t.1 x7 () h x10 t.2 x) (fun m (_ : Unit) => ((m : Int), K1x h x i s (hitW (who.take m) i))) (fun _ _ => ()) (fun _ => (who, x2, x3, x7, (), h, x10, K1x h x i s (hitW who i), x)) who.length (fun _ _ => True) (fun m w hm _ => ⟨?_, trivial⟩) (fun w _ => ?_) who.length 0 () (by omega) trivial
 ·exact this
 ·show q1m_1_step who (i : Int) x2 x3 who (who.length : Int) (m : Int) x7 () h x10 (K1x h x i s (hitW (who.take m) i)) x = _
  obtain ⟨e, a, b⟩ := wi_eq (who.getD m 0)
  have hl := K1y h x i s (hitW (who.take m) i)
  have ht : who.take (m + 1) = who.take m ++ [who.getD m 0] := by
   rw [List.take_add_one, List.getD_eq_getElem?_getD, List.getElem?_eq_getElem hm]; rfl
  have hn : hitW (who.take (m + 1)) i = (hitW (who.take m) i || decide (wi (who.getD m 0) = (i : Int))) := by
   unfold hitW; rw [ht, List.any_append]; simp
  rw [K1i, K2e (by omega), J4c (by omega), Int.toNat_natCast, e, K05, J6z (by omega) (by omega), hn]
  by_cases c : wi (who.getD m 0) = (i : Int)
  ·rw [K2e c, K3d, K05, K65 _ _ (K8g i) _ h1 h2 (by omega), K05, J4c (by omega), Int.toNat_natCast, decide_eq_true c, Bool.or_true]
   have : List.set (K1x h x i s (hitW (who.take m) i)) i (((K1x h x i s (hitW (who.take m) i)).getD i zSg).1, sigS (seedK i) h.1 x, ()) = K1x h x i s true := by
    cases hitW (who.take m) i
    ·rfl
    ·show List.set (List.set s i _) i (((List.set s i (reSig h x i (s.getD i zSg))).getD i zSg).1, _, ()) = List.set s i _
     rw [List.set_set, List.getD_eq_getElem?_getD, List.getElem?_set]
     simp only [hi, if_true, Option.getD_some]
     rfl
   rw [this]
   rfl
  ·rw [K28 c, decide_eq_false c, Bool.or_false]
   rfl
 ·show q1m_1_step who (i : Int) x2 x3 who (who.length : Int) (who.length : Int) x7 () h x10 (K1x h x i s (hitW (who.take who.length) i)) x = _
  rw [K1i, K28 (by omega), List.take_of_length_le (Nat.le_refl _)]
noncomputable def K1z (h : Hdr) (x : List UInt8) (who : List Int) (s : List K01) (k : Nat) : List K01 := (List.range s.length).map fun i => if i < k ∧ hitW who i = true then reSig h x i (s.getD i zSg) else s.getD i zSg
noncomputable def K23 (h : Hdr) (x : List UInt8) (who : List Int) (s : List K01) : List K01 := (List.range s.length).map fun i => if hitW who i = true then reSig h x i (s.getD i zSg) else s.getD i zSg
theorem K21 (h : Hdr) (x : List UInt8) (who : List Int) (s : List K01) (k : Nat) : (K1z h x who s k).length = s.length := by simp [K1z]
theorem forgeK_0 (h : Hdr) (x : List UInt8) (who : List Int) (s : List K01) : K1z h x who s 0 = s := by
 apply List.ext_getElem
 ·simp [K1z]
 ·intro i h1 h2
  simp only [K1z, List.getElem_map, List.getElem_range, Nat.not_lt_zero, false_and, if_false]
  rw [List.getD_eq_getElem?_getD, List.getElem?_eq_getElem h2]; rfl
theorem K20 (h : Hdr) (x : List UInt8) (who : List Int) (s : List K01) : K1z h x who s s.length = K23 h x who s := by
 unfold K1z K23
 apply List.map_congr_left
 intro i hi
 have hi := List.mem_range.1 hi
 by_cases c : hitW who i = true
 ·rw [if_pos ⟨hi, c⟩, if_pos c]
 ·rw [if_neg (fun h => c h.2), if_neg c]
theorem K22 (h : Hdr) (x : List UInt8) (who : List Int) (s : List K01) {k : Nat} (hk : k < s.length) : K1x h x k (K1z h x who s k) (hitW who k) = K1z h x who s (k + 1) := by
 have hg : (K1z h x who s k).getD k zSg = s.getD k zSg := by
  unfold K1z
  rw [K2j _ _ hk, if_neg (by omega)]
 unfold K1x
 rw [hg]
 have r : ∀ i h2, (K1z h x who s (k + 1))[i]'h2 = if i < k + 1 ∧ hitW who i = true then reSig h x i (s.getD i zSg) else s.getD i zSg := by intro i h2; simp [K1z]
 have l : ∀ i h3, (K1z h x who s k)[i]'h3 = if i < k ∧ hitW who i = true then reSig h x i (s.getD i zSg) else s.getD i zSg := by intro i h3; simp [K1z]
 have same : ∀ i, k ≠ i → (if i < k ∧ hitW who i = true then reSig h x i (s.getD i zSg) else s.getD i zSg) = if i < k + 1 ∧ hitW who i = true then reSig h x i (s.getD i zSg) else s.getD i zSg := by
  intro i e
  by_cases c2 : hitW who i = true
  ·by_cases c3 : i < k
   ·rw [if_pos ⟨c3, c2⟩, if_pos ⟨by omega, c2⟩]
   ·rw [if_neg (fun h => c3 h.1), if_neg (fun h => by omega)]
  ·rw [if_neg (fun h => c2 h.2), if_neg (fun h => c2 h.2)]
 by_cases c : hitW who k = true
 ·rw [if_pos c]
  apply List.ext_getElem
  ·simp [K1z]
  ·intro i h1 h2
   rw [r, List.getElem_set]
   by_cases e : k = i
   ·subst e; rw [if_pos rfl, if_pos ⟨by omega, c⟩]
   ·rw [if_neg e, l, same i e]
 ·rw [if_neg c]
  apply List.ext_getElem
  ·simp [K1z]
  ·intro i h1 h2
   rw [r, l]
   by_cases e : k = i
   ·subst e; rw [if_neg (by omega), if_neg (fun h => c h.2)]
   ·exact same i e
theorem forged_2 (who : List Int) (hw : who.length ≤ 1152921504606846976) (x7 : Hdr) (h : Hdr) (h1 : 1 ≤ h.1) (h2 : h.1 ≤ 16) (x10 : List Val × List Val × Unit) (s : List K01) (hs : s.length ≤ 1000000) (x : List UInt8) (hx : x.length ≤ 1000) :
  q1m_2 who (s.length : Int) 0 x7 () h x10 s x = some (x7, (), h, x10, K23 h x who s) := by
 unfold q1m_2
 have := K47 (step := fun (t : List Int × Int × Int × Hdr × Unit × Hdr × (List Val × List Val × Unit) × List K01 × List UInt8) => q1m_2_step t.1 t.2.1 t.2.2.1 t.2.2.2.1 t.2.2.2.2.1 t.2.2.2.2.2.1 t.2.2.2.2.2.2.1 t.2.2.2.2.2.2.2.1 t.2.2.2.2.2.2.2.2) (fun k (_ : Unit) => (who, (s.length : Int), (k : Int), x7, (), h, x10, K1z h x who s k, x)) (fun _ _ => ()) (fun _ => (x7, (), h, x10, K23 h x who s)) s.length (fun _ _ => True) (fun k w hk _ => ⟨?_, trivial⟩) (fun w _ => ?_) s.length 0 () (by omega) trivial
 ·rw [forgeK_0] at this
  exact this
 ·show q1m_2_step who (s.length : Int) (k : Int) x7 () h x10 (K1z h x who s k) x = _
  unfold q1m_2_step
  have hl := K21 h x who s k
  rw [K2e (by omega), forged_1 who hw k _ _ x7 h h1 h2 x10 _ (by omega) (by omega) x hx, K05, K22 h x who s hk]
  simp only
  rw [J6z (by omega) (by omega)]
  rfl
 ·show q1m_2_step who (s.length : Int) (s.length : Int) x7 () h x10 (K1z h x who s s.length) x = _
  unfold q1m_2_step
  rw [K28 (by omega), K20]
def turnH (h : Hdr) (r : Nat) : Hdr := (h.1, h.2.1, List.set h.2.2.1 r ((h.2.2.1.getD r 0) ^^^ 1), h.2.2.2.1, h.2.2.2.2.1, h.2.2.2.2.2.1, ())
theorem K9t {h : Hdr} (hh : K00 h) (r : Nat) : K00 (turnH h r) := ⟨by unfold turnH; simp only [List.length_set]; exact hh.1, hh.2.1, hh.2.2.1, hh.2.2.2⟩
theorem xor1_ne (a : UInt8) : a ^^^ 1 ≠ a := by
 intro e
 have := congrArg (fun z => z ^^^ a) e
 simp only [UInt8.xor_self] at this
 rw [UInt8.xor_comm a 1, UInt8.xor_assoc, UInt8.xor_self] at this
 exact absurd this (by decide)
theorem turnH_ne {h : Hdr} (hh : K00 h) {r : Nat} (hr : r < 32) : turnH h r ≠ h := by
 intro e
 have : (turnH h r).2.2.1 = h.2.2.1 := by rw [e]
 have h2 := congrArg (fun l => l.getD r 0) this
 unfold turnH at h2
 simp only at h2
 rw [List.getD_eq_getElem?_getD (l := List.set _ _ _), List.getElem?_set, if_pos rfl, if_pos (by rw [hh.1]; exact hr)] at h2
 exact xor1_ne _ h2
noncomputable def K1v (b : Block) (who : List Int) (r : Nat) : Block := (turnH b.1 r, K23 (turnH b.1 r) (sha (72 :: bodyS (turnH b.1 r))) who b.2.1, b.2.2.1, b.2.2.2.1, ())
theorem K27 (b : Block) (who : List Int) (hw : who.length ≤ 1152921504606846976) (how : Int) (hh : K00 b.1) (h1 : 1 ≤ b.1.1) (h2 : b.1.1 ≤ 16) (hs : b.2.1.length ≤ 1000000) : ∃ r, r < 32 ∧ q1m b who how = some (K1v b who r) := by
 obtain ⟨r, e, a, c⟩ := Kab how 0 31 (by omega) (by omega) (by omega)
 refine ⟨r.toNat, by omega, ?_⟩
 unfold q1m
 have hth := K9t hh r.toNat
 rw [e, K05, J4c (by omega)]
 show andThen (qx (turnH b.1 r.toNat)) _ = _
 rw [K6j _ hth, K05, J4c (by simp only [List.length_nil]; omega), List.nil_append]
 show andThen (q1m_2 who (b.2.1.length : Int) 0 _ () (turnH b.1 r.toNat) (b.2.2.1, b.2.2.2.1, ()) b.2.1 (sha (72 :: bodyS (turnH b.1 r.toNat)))) _ = _
 rw [forged_2 who hw _ (turnH b.1 r.toNat) h1 h2 _ _ hs _ (by rw [K8t]; omega), K05]
 rfl
abbrev HdT : Ty := .fld (.int .i64) (.fld (.int .i64) (.fld (.arr 32 (.int .u8)) (.fld (.arr 32 (.int .u8)) (.fld (.arr 32 (.int .u8)) (.fld (.arr 32 (.int .u8)) .unit)))))
abbrev eqHd (a b : Hdr) : Bool := Ty.beq HdT a b
theorem K1e (a b : Hdr) : eqHd a b = true ↔ a = b := Ty.beq_iff HdT rfl a b
theorem K1f (a : Hdr) : eqHd a a = true := (K1e a a).2 rfl
theorem eqHd_ne {a b : Hdr} (h : a ≠ b) : eqHd a b = false := by
 rw [← Bool.not_eq_true]; exact fun e => h ((K1e a b).1 e)
def misS (a b : Block) (c : Cli) : Int × Cli :=
 if c.2.2.2.1 = true then (5, c) else if Ka7 a = false then (1, c) else if Ka7 b = false then (1, c) else if a.1.1 ≠ b.1.1 then (1, c) else if eqHd a.1 b.1 = true then (1, c)
 else if enS a.2.2.1 a.1 a.2.1 = false ∨ soS c.2.1 a.1 a.2.1 = false then (9, c) else if enS b.2.2.1 b.1 b.2.1 = false ∨ soS c.2.1 b.1 b.2.1 = false then (9, c)
 else (0, (c.1, c.2.1, c.2.2.1, true, ()))
theorem K4f (n i : Int) (c : Cli) (l : List Block) : qf_1_step n i c l =
  (fork (decide (i < n)) (need (0 ≤ i ∧ i < (List.length l : Int)) (andThen (q2w (l.getD (Int.toNat i) zBlk).2.2.1 (l.getD (Int.toNat i) zBlk).1 (l.getD (Int.toNat i) zBlk).2.1) (fun u13 => fork (!u13) (some (.inr (.inl ((9 : Int), c)))) (andThen (q3k c.2.1 (l.getD (Int.toNat i) zBlk).1 (l.getD (Int.toNat i) zBlk).2.1) (fun u16 => fork (!u16) (some (.inr (.inl ((9 : Int), c)))) (some (.inl (w64 (i + (1 : Int)))))))))) (some (.inr (.inr c))) : Option (Int ⊕ ((Int × Cli) ⊕ Cli))) := rfl
theorem m_one (a b : Block) (c : Cli) (hb : BlkOk b) (hset : K02 b.2.2.1) (hn : K02 c.2.1) (i : Int) (hi : i = 0 ∨ i = 1) (l : List Block) (hl : l.length = 2) (hg : l.getD (Int.toNat i) zBlk = b) : qf_1_step 2 i c l =
  if enS b.2.2.1 b.1 b.2.1 = false ∨ soS c.2.1 b.1 b.2.1 = false then some (.inr (.inl (9, c))) else some (.inl (i + 1)) := by
 obtain ⟨b1, b2, b3, _⟩ := hb
 have en := K1d b.2.2.1 hset b.1 b1 b.2.1 b3 b2
 have so := K9c c.2.1 hn b.1 b1 b.2.1 b3 b2
 rw [show decide (allS b.2.2.1 * 2 < partS b.2.2.1 b.1 b.2.1 * 3) = enS b.2.2.1 b.1 b.2.1 from rfl] at en
 rw [show decide (allS c.2.1 * 1 < partS c.2.1 b.1 b.2.1 * 3) = soS c.2.1 b.1 b.2.1 from rfl] at so
 rw [K4f, K2e (by omega), J4c (by omega), hg, en, K05]
 cases enS b.2.2.1 b.1 b.2.1 with
 | false => rw [if_pos (.inl rfl)]; rfl
 | true =>
  rw [Bool.not_true, K29, so, K05]
  cases soS c.2.1 b.1 b.2.1 with
  | false => rw [if_pos (.inr rfl)]; rfl
  | true => rw [if_neg (by simp), Bool.not_true, K29, J6z (by omega) (by omega)]
theorem mis_eq (a b : Block) (c : Cli) (ha : BlkOk a) (hb : BlkOk b) (hc : CliOk c) : qf a b c = some (misS a b c) := by
 obtain ⟨c1, c2, c3, _, _⟩ := hc
 have wa := Ka8 a ha
 have wb := Ka8 b hb
 unfold qf misS
 by_cases q1 : c.2.2.2.1 = true
 ·rw [q1, K2f, if_pos rfl]
 rw [if_neg q1]
 have q1 : c.2.2.2.1 = false := by simpa using q1
 rw [q1, K29, wa, K05]
 cases q2 : Ka7 a with
 | false => rw [if_pos rfl]; rfl
 | true =>
  rw [if_neg (by simp), Bool.not_true, K29, wb, K05]
  have sa : K02 a.2.2.1 := by
   unfold Ka7 at q2
   simp only [Bool.and_eq_true] at q2
   exact (K6t q2.2.1).1
  cases q3 : Ka7 b with
  | false => rw [if_pos rfl]; rfl
  | true =>
   have sb : K02 b.2.2.1 := by
    unfold Ka7 at q3
    simp only [Bool.and_eq_true] at q3
    exact (K6t q3.2.1).1
   rw [if_neg (by simp), Bool.not_true, K29]
   by_cases q4 : a.1.1 = b.1.1
   ·rw [K2d q4, if_neg (by simpa using q4)]
    show fork (eqHd a.1 b.1) _ _ = _
    cases q5 : eqHd a.1 b.1 with
    | true => rw [K2f, if_pos rfl]
    | false =>
     rw [K29, if_neg (by simp)]
     have s0 := m_one a a c ha sa c3 0 (.inl rfl) [a, b] rfl rfl
     have s1 := m_one a b c hb sb c3 1 (.inr rfl) [a, b] rfl rfl
     show andThen (qf_1 2 0 c [a, b]) _ = _
     unfold qf_1
     by_cases r1 : enS a.2.2.1 a.1 a.2.1 = false ∨ soS c.2.1 a.1 a.2.1 = false
     ·rw [if_pos r1] at s0
      rw [if_pos r1, J3y s0]
      rfl
     ·rw [if_neg r1] at s0
      rw [if_neg r1, J3x s0]
      by_cases r2 : enS b.2.2.1 b.1 b.2.1 = false ∨ soS c.2.1 b.1 b.2.1 = false
      ·rw [if_pos r2] at s1
       rw [if_pos r2, show (0 : Int) + 1 = 1 from rfl, J3y s1]
       rfl
      ·rw [if_neg r2] at s1
       rw [if_neg r2, show (0 : Int) + 1 = 1 from rfl, J3x s1]
       have s2 : qf_1_step 2 ((1 : Int) + 1) c [a, b] = some (.inr (.inr c)) := by rw [K4f, K28 (by omega)]
       rw [J3y s2]
       rfl
   ·rw [K2c q4, if_pos (by simpa using q4)]
theorem K6q {l : List Val} (h : K6o l = true) : K02 l ∧ l.length ≤ 5 ∧ 1 ≤ l.length ∧ (∀ v ∈ l, v.1.length ≤ 16) ∧ Dist l := by
 unfold K6o at h
 simp only [Bool.and_eq_true, decide_eq_true_eq] at h
 obtain ⟨h1, h2, h3⟩ := h
 have key0 : ∀ i, i < l.length → okAt l i = true := fun i hi => List.all_eq_true.1 h1 i (List.mem_range.2 hi)
 have key : ∀ v ∈ l, mayS v = true := by
  intro v hv
  obtain ⟨i, hi, rfl⟩ := List.getElem_of_mem hv
  have := key0 i hi
  unfold okAt at this
  rw [Bool.and_eq_true] at this
  rw [List.getD_eq_getElem?_getD, List.getElem?_eq_getElem hi] at this
  exact this.1
 have key2 : ∀ v ∈ l, v.1.length ≤ 16 ∧ 1 ≤ v.2.1 ∧ v.2.1 ≤ 1048576 := by
  intro v hv
  have := key v hv
  unfold mayS at this
  simp only [Bool.and_eq_true, decide_eq_true_eq] at this
  omega
 refine ⟨⟨by omega, fun v hv => by have := key2 v hv; omega⟩, h3, h2, fun v hv => (key2 v hv).1, K33 (List.all_eq_true.2 fun i hi => ?_)⟩
 have hi := List.mem_range.1 hi
 rw [List.length_map] at hi
 have := key0 (i + 1) (by omega)
 unfold okAt at this
 simp only [Bool.and_eq_true, Bool.or_eq_true, beq_iff_eq] at this
 have t := this.2.resolve_left (by omega)
 rw [Nat.add_sub_cancel] at t
 have e : ∀ j, (l.map (·.1)).getD j [] = (l.getD j zVal).1 := fun j => by
  rw [List.getD_eq_getElem?_getD, List.getD_eq_getElem?_getD, List.getElem?_map]
  cases l[j]? <;> rfl
 rw [e, e]; exact t
theorem K7s (x0 : List Val) (x1 : List Val) (x2 : Int) (x3 : Int) : q16_1_step x0 x1 x2 x3 =
  (fork (decide (x3 < x2)) (need (0 ≤ x3 ∧ x3 < (List.length x1 : Int)) (fork (decide ((List.length (List.getD x1 (Int.toNat x3) zVal).1 : Int) < (1 : Int))) (some (.inr (.inl false))) (fork (decide ((16 : Int) < (List.length (List.getD x1 (Int.toNat x3) zVal).1 : Int))) (some (.inr (.inl false))) (fork (decide ((List.getD x1 (Int.toNat x3) zVal).2.1 < (1 : Int))) (some (.inr (.inl false))) (fork (decide ((1048576 : Int) < (List.getD x1 (Int.toNat x3) zVal).2.1)) (some (.inr (.inl false))) (fork (decide ((0 : Int) < x3)) (need (0 ≤ (w64 (x3 - (1 : Int))) ∧ (w64 (x3 - (1 : Int))) < (List.length x0 : Int)) (fork (!sless (List.getD x0 (Int.toNat (w64 (x3 - (1 : Int)))) zVal).1 (List.getD x1 (Int.toNat x3) zVal).1) (some (.inr (.inl false))) (some (.inl (w64 (x3 + (1 : Int))))))) (some (.inl (w64 (x3 + (1 : Int))))))))))) (some (.inr (.inr x0))) : Option ((Int) ⊕ ((Bool) ⊕ (List Val)))) := rfl
theorem K7y (l : List Val) (hl : l.length ≤ 1073741824) (hn : ∀ v ∈ l, v.1.length ≤ 140737488355328) : q16 l = some (K6o l) := by
 have main : q16_1 l l (l.length : Int) 0 = some (scan (fun i => if okAt l i then none else some (.inl false)) (.inr l) 0 l.length) := by
  unfold q16_1
  have step : ∀ i, i < l.length → q16_1_step l l (l.length : Int) (i : Int) = if okAt l i then some (.inl ((i + 1 : Nat) : Int)) else some (.inr (.inl false)) := by
   intro i hi
   have hne : ∀ x : List UInt8, decide ((x.length : Int) < 1) = decide (x = []) := fun x => by
    rw [Bool.eq_iff_iff, decide_eq_true_eq, decide_eq_true_eq, ← List.length_eq_zero_iff]; omega
   have h16 : ∀ x : List UInt8, decide ((16 : Int) < (x.length : Int)) = !decide ((x.length : Int) ≤ 16) := fun x => by
    rw [Bool.eq_iff_iff, Bool.not_eq_true', decide_eq_true_eq, decide_eq_false_iff_not]; omega
   have hp : ∀ x : Int, decide (x < 1) = !decide (1 ≤ x) := fun x => by
    rw [Bool.eq_iff_iff, Bool.not_eq_true', decide_eq_true_eq, decide_eq_false_iff_not]; omega
   have hq : ∀ x : Int, decide (1048576 < x) = !decide (x ≤ 1048576) := fun x => by
    rw [Bool.eq_iff_iff, Bool.not_eq_true', decide_eq_true_eq, decide_eq_false_iff_not]; omega
   rw [K7s, K2e (by omega), J4c (by omega), Int.toNat_natCast, J6z (n := (i : Int) + 1) (by omega) (by omega), J6z (n := (i : Int) - 1) (by omega) (by omega), hne, h16, hp, hq]
   have ho : okAt l i = (mayS (l.getD i zVal) && (i == 0 || sless (l.getD (i - 1) zVal).1 (l.getD i zVal).1)) := rfl
   have hm : mayS (l.getD i zVal) = (!decide ((l.getD i zVal).1 = []) && (decide (((l.getD i zVal).1.length : Int) ≤ 16) && (decide (1 ≤ (l.getD i zVal).2.1) && decide ((l.getD i zVal).2.1 ≤ 1048576)))) := rfl
   rw [ho, hm]
   generalize decide ((l.getD i zVal).1 = []) = c1
   generalize decide (((l.getD i zVal).1.length : Int) ≤ 16) = c2
   generalize decide (1 ≤ (l.getD i zVal).2.1) = c3
   generalize decide ((l.getD i zVal).2.1 ≤ 1048576) = c4
   cases c1
   ·cases c2
    ·rfl
    ·cases c3
     ·rfl
     ·cases c4
      ·rfl
      ·simp only [Bool.not_true, Bool.not_false, K29, Bool.true_and]
       by_cases h0 : i = 0
       ·subst h0; rw [K28 (by omega)]; rfl
       ·rw [K2e (by omega), J4c (by omega), show Int.toNat ((i : Int) - 1) = i - 1 from by omega]
        have : (i == 0) = false := by simp [h0]
        rw [this, Bool.false_or]
        cases sless (l.getD (i - 1) zVal).1 (l.getD i zVal).1 <;> rfl
   ·rfl
  refine K48 (step := fun (s : Int) => q16_1_step l l (l.length : Int) s) (fun i => (i : Int)) _ _ l.length (fun i hi h => ?_) (fun i r hi h => ?_) ?_ l.length 0 (by omega)
  ·by_cases hk : okAt l i
   ·exact (step i hi).trans (if_pos hk)
   ·rw [if_neg hk] at h; cases h
  ·by_cases hk : okAt l i
   ·rw [if_pos hk] at h; cases h
   ·rw [if_neg hk] at h; injection h with h; subst h
    exact (step i hi).trans (if_neg hk)
  ·rw [K7s, K28 (by omega)]
 unfold q16
 rw [main, K05]
 unfold K6o
 by_cases hall : (List.range l.length).all (okAt l)
 ·rw [K8b _ _ (fun j _ h => if_pos (List.all_eq_true.1 hall j (by simp; omega))), hall, Bool.true_and]
  simp only [K2b]
  by_cases h1 : 1 ≤ l.length
  ·rw [decide_eq_true h1, decide_eq_true (show (1 : Int) ≤ (l.length : Int) by omega), if_pos rfl, Bool.true_and]
   congr 1
   exact decide_eq_decide.2 (by omega)
  ·rw [decide_eq_false h1, decide_eq_false (show ¬ (1 : Int) ≤ (l.length : Int) by omega)]; rfl
 ·rw [Bool.not_eq_true] at hall
  have : ∃ j, j < l.length ∧ okAt l j = false := by
   rw [List.all_eq_false] at hall
   obtain ⟨j, hj, hk⟩ := hall
   exact ⟨j, by simpa using hj, by simpa using hk⟩
  obtain ⟨j, hj⟩ := Nat.find_of this
  have hsc : scan (fun i => if okAt l i then none else some (.inl false)) (.inr l : Bool ⊕ List Val) 0 l.length = .inl false := by
   refine K8c l.length 0 j (Nat.zero_le _) (by omega) (fun j' _ h => if_pos ?_) (if_neg ?_)
   ·have := hj.2 j' h
    cases hk : okAt l j' with
    | true => rfl
    | false => exact absurd ⟨by omega, hk⟩ this
   ·rw [hj.1.2]; simp
  rw [hall, hsc]
  rfl
theorem K87 (b : Block) (hb : BlkOk b) (hn1 : ∀ v ∈ b.2.2.1, v.1.length ≤ 140737488355328) (hn2 : ∀ v ∈ b.2.2.2.1, v.1.length ≤ 140737488355328) : q1d b = some (Ka7 b) := by
 obtain ⟨b1, b2, b3, b4, b5, b6, b7⟩ := hb
 unfold q1d Ka7
 rw [K7t, K05]
 cases c1 : K6l b.1 with
 | false => rfl
 | true =>
  rw [K2f, K7y _ (by omega) hn1, K05]
  cases c2 : K6o b.2.2.1 with
  | false => rfl
  | true =>
   rw [K2f, K7y _ (by omega) hn2, K05]
   cases c3 : K6o b.2.2.2.1 with
   | false => rfl
   | true =>
    rw [K2f]
    by_cases c4 : b.2.1.length ≤ 5
    ·rw [K2e (by omega), K7x _ (K6s c2 b4), K05, decide_eq_true c4]
     cases c5 : Ty.beq (.arr 32 (.int .u8)) (setH b.2.2.1) b.1.2.2.2.1 with
     | false => rw [show eqH (setH b.2.2.1) b.1.2.2.2.1 = false from c5]; rfl
     | true => rw [show eqH (setH b.2.2.1) b.1.2.2.2.1 = true from c5, K2f, K7x _ (K6s c3 b5), K05]; rfl
    ·rw [K28 (by omega), decide_eq_false c4]; rfl
def CliR (c : Cli) : Prop := CliOk c ∧ K6o c.2.1 = true
theorem Kaa {b : Block} (h : Ka7 b = true) : K6l b.1 = true ∧ K6o b.2.2.1 = true ∧ K6o b.2.2.2.1 = true ∧ b.2.1.length ≤ 5 := by
 unfold Ka7 at h
 simp only [Bool.and_eq_true, decide_eq_true_eq] at h
 exact ⟨h.1, h.2.1, h.2.2.1, h.2.2.2.1⟩
theorem K57 (set : List Val) (h : K6o set = true) (b : Block) (hb : BlkOk b) (hw : Ka7 b = true) (k : Int) (hk : k = 1 ∨ k = 2) {α : Type} (f : Bool → Option α) :
  (andThen (q19 set b.1 b.2.1) (fun u => andThen (q1e set) (fun v => andThen (q21 u v k (3 : Int)) f))) = f (decide (allS set * k < partS set b.1 b.2.1 * 3)) := by
 obtain ⟨d1, d2, d3, d4, d5⟩ := K6q h
 obtain ⟨w1, w2, w3, w4⟩ := Kaa hw
 obtain ⟨b1, b2, _⟩ := hb
 rw [K94 set d1 d5 b.1 b1 w1 b.2.1 w4 b2, K05, K83 set d1, K05, rover_eq _ _ _ _ (K5d set d1 _ _) (all_b set d1) (by omega) (by omega), K05]
theorem K2z (b : Block) (c : Cli) (hc : c.1.length ≤ 1000000) : (need (List.length ([] : List Hdr) + List.length c.1 ≤ 2147483648) (need (List.length (([] : List Hdr) ++ c.1) + List.length ([b.1] : List Hdr) ≤ 2147483648) (fork (decide ((6 : Int) < (List.length ((([] : List Hdr) ++ c.1) ++ ([b.1] : List Hdr)) : Int))) (need (0 ≤ (1 : Int) ∧ (1 : Int) ≤ (List.length ((([] : List Hdr) ++ c.1) ++ ([b.1] : List Hdr)) : Int) ∧ (List.length ((([] : List Hdr) ++ c.1) ++ ([b.1] : List Hdr)) : Int) ≤ (List.length ((([] : List Hdr) ++ c.1) ++ ([b.1] : List Hdr)) : Int)) (some ((0 : Int), ((cutL ((([] : List Hdr) ++ c.1) ++ ([b.1] : List Hdr)) (1 : Int) (List.length ((([] : List Hdr) ++ c.1) ++ ([b.1] : List Hdr)) : Int)), b.2.2.2.1, c.2.2.1, c.2.2.2.1, ())))) (some ((0 : Int), (((([] : List Hdr) ++ c.1) ++ ([b.1] : List Hdr)), b.2.2.2.1, c.2.2.1, c.2.2.2.1, ()))))) : Option (Int × Cli)) =
  some (0, (cut6 (c.1 ++ [b.1]), b.2.2.2.1, c.2.2.1, c.2.2.2.1, ())) := by
 have hl : (c.1 ++ [b.1]).length = c.1.length + 1 := by simp
 rw [List.nil_append, J4c (by rw [List.length_nil]; omega), J4c (by rw [List.length_singleton]; omega)]
 unfold cut6
 by_cases h : (6 : Int) < ((c.1 ++ [b.1]).length : Int)
 ·rw [K2e h, J4c (by omega), if_pos (by omega), K16]; rfl
 ·rw [K28 h, if_neg (by omega)]
theorem rupd_eq (b : Block) (now : Int) (c : Cli) (hb : BlkOk b) (hn1 : ∀ v ∈ b.2.2.1, v.1.length ≤ 140737488355328) (hn2 : ∀ v ∈ b.2.2.2.1, v.1.length ≤ 140737488355328) (hc : CliR c) (hn : -1099511627776 ≤ now ∧ now ≤ 1099511627776) : qb b now c = some (updS b now c) := by
 obtain ⟨⟨c1, c2, c3, c4, c5⟩, c6⟩ := hc
 have hw := K87 b hb hn1 hn2
 have wl : w64 ((lastH c).1 + 1) = (lastH c).1 + 1 := J6z (by omega) (by omega)
 have wn : w64 (now - (lastH c).2.1) = now - (lastH c).2.1 := J6z (by omega) (by omega)
 have wi : w64 ((c.1.length : Int) - 1) = ((c.1.length - 1 : Nat) : Int) := by rw [J6z (by omega) (by omega)]; omega
 have htail := K2z b c c2
 unfold qb
 rw [wi, Int.toNat_natCast]
 simp only [show List.getD c.1 (c.1.length - 1) ((0 : Int), (0 : Int), (List.replicate 32 (0 : UInt8)), (List.replicate 32 (0 : UInt8)), (List.replicate 32 (0 : UInt8)), (List.replicate 32 (0 : UInt8)), ()) = lastH c from rfl, wl, wn]
 unfold updS
 by_cases q1 : c.2.2.2.1 = true
 ·rw [q1, K2f, if_pos rfl]
 rw [if_neg q1]
 have q1 : c.2.2.2.1 = false := by simpa using q1
 rw [q1] at htail ⊢
 rw [K29, hw, K05]
 cases q2 : Ka7 b with
 | false => rw [if_pos rfl]; rfl
 | true =>
  rw [if_neg (by simp), Bool.not_true, K29, J4c (by omega)]
  by_cases q3 : b.1.1 ≤ (lastH c).1
  ·rw [K2e q3, if_pos q3]
  rw [K28 q3, if_neg q3]
  by_cases q4 : b.1.2.1 ≤ (lastH c).2.1
  ·rw [K2e q4, if_pos q4]
  rw [K28 q4, if_neg q4]
  by_cases q5 : c.2.2.1 < now - (lastH c).2.1
  ·rw [K2e q5, if_pos q5]
  rw [K28 q5, if_neg q5]
  by_cases q6 : now < b.1.2.1
  ·rw [K2e q6, if_pos q6]
  rw [K28 q6, if_neg q6, K57 b.2.2.1 (Kaa q2).2.1 b hb q2 2 (.inr rfl)]
  rw [show decide (allS b.2.2.1 * 2 < partS b.2.2.1 b.1 b.2.1 * 3) = enS b.2.2.1 b.1 b.2.1 from rfl]
  have so := fun (f : Bool → Option (Int × Cli)) => K57 c.2.1 c6 b hb q2 1 (.inl rfl) f
  rw [show decide (allS c.2.1 * 1 < partS c.2.1 b.1 b.2.1 * 3) = soS c.2.1 b.1 b.2.1 from rfl] at so
  by_cases q7 : b.1.1 = (lastH c).1 + 1
  ·rw [K2e q7]
   cases q8 : Ty.beq (.arr 32 (.int .u8)) b.1.2.2.2.1 (lastH c).2.2.2.2.1 with
   | false => rw [if_pos ⟨q7, q8⟩]; rfl
   | true =>
    rw [if_neg (by rw [show eqH b.1.2.2.2.1 (lastH c).2.2.2.2.1 = true from q8]; simp), Bool.not_true, K29]
    cases q9 : enS b.2.2.1 b.1 b.2.1 with
    | false => rw [if_pos rfl]; rfl
    | true =>
     rw [if_neg (by simp), Bool.not_true, K29, K28 (by omega), if_neg (fun h => h.1 q7)]
     exact htail
  ·rw [K28 q7, if_neg (fun h => q7 h.1)]
   cases q9 : enS b.2.2.1 b.1 b.2.1 with
   | false => rw [if_pos rfl]; rfl
   | true =>
    rw [if_neg (by simp), Bool.not_true, K29, K2e (by omega), so]
    cases q10 : soS c.2.1 b.1 b.2.1 with
    | false => rw [if_pos ⟨q7, rfl⟩]; rfl
    | true =>
     rw [if_neg (by simp), Bool.not_true, K29]
     exact htail
theorem K7a (n i : Int) (c : Cli) (l : List Block) : qa_1_step n i c l =
  (fork (decide (i < n)) (need (0 ≤ i ∧ i < (List.length l : Int)) (andThen (q19 (l.getD (Int.toNat i) zBlk).2.2.1 (l.getD (Int.toNat i) zBlk).1 (l.getD (Int.toNat i) zBlk).2.1) (fun u13 => andThen (q1e (l.getD (Int.toNat i) zBlk).2.2.1) (fun u15 => andThen (q21 u13 u15 (2 : Int) (3 : Int)) (fun u17 => fork (!u17) (some (.inr (.inl ((9 : Int), c)))) (andThen (q19 c.2.1 (l.getD (Int.toNat i) zBlk).1 (l.getD (Int.toNat i) zBlk).2.1) (fun u20 => andThen (q1e c.2.1) (fun u22 => andThen (q21 u20 u22 (1 : Int) (3 : Int)) (fun u24 => fork (!u24) (some (.inr (.inl ((9 : Int), c)))) (some (.inl (w64 (i + (1 : Int)))))))))))))) (some (.inr (.inr c))) : Option (Int ⊕ ((Int × Cli) ⊕ Cli))) := rfl
theorem rm_one (b : Block) (c : Cli) (hb : BlkOk b) (hw : Ka7 b = true) (hc : K6o c.2.1 = true) (i : Int) (hi : i = 0 ∨ i = 1) (l : List Block) (hl : l.length = 2) (hg : l.getD (Int.toNat i) zBlk = b) : qa_1_step 2 i c l =
  if enS b.2.2.1 b.1 b.2.1 = false ∨ soS c.2.1 b.1 b.2.1 = false then some (.inr (.inl (9, c))) else some (.inl (i + 1)) := by
 rw [K7a, K2e (by omega), J4c (by omega), hg, K57 b.2.2.1 (Kaa hw).2.1 b hb hw 2 (.inr rfl), K57 c.2.1 hc b hb hw 1 (.inl rfl)]
 rw [show decide (allS b.2.2.1 * 2 < partS b.2.2.1 b.1 b.2.1 * 3) = enS b.2.2.1 b.1 b.2.1 from rfl, show decide (allS c.2.1 * 1 < partS c.2.1 b.1 b.2.1 * 3) = soS c.2.1 b.1 b.2.1 from rfl]
 cases enS b.2.2.1 b.1 b.2.1 with
 | false => rw [if_pos (.inl rfl)]; rfl
 | true =>
  rw [Bool.not_true, K29]
  cases soS c.2.1 b.1 b.2.1 with
  | false => rw [if_pos (.inr rfl)]; rfl
  | true => rw [if_neg (by simp), Bool.not_true, K29, J6z (by omega) (by omega)]
def NmOk (b : Block) : Prop := (∀ v ∈ b.2.2.1, v.1.length ≤ 140737488355328) ∧ ∀ v ∈ b.2.2.2.1, v.1.length ≤ 140737488355328
theorem rmis_eq (a b : Block) (c : Cli) (ha : BlkOk a) (na : NmOk a) (hb : BlkOk b) (nb : NmOk b) (hc : CliR c) : qa a b c = some (misS a b c) := by
 obtain ⟨⟨c1, c2, c3, _, _⟩, c6⟩ := hc
 have wa := K87 a ha na.1 na.2
 have wb := K87 b hb nb.1 nb.2
 unfold qa misS
 by_cases q1 : c.2.2.2.1 = true
 ·rw [q1, K2f, if_pos rfl]
 rw [if_neg q1]
 have q1 : c.2.2.2.1 = false := by simpa using q1
 rw [q1, K29, wa, K05]
 cases q2 : Ka7 a with
 | false => rw [if_pos rfl]; rfl
 | true =>
  rw [if_neg (by simp), Bool.not_true, K29, wb, K05]
  cases q3 : Ka7 b with
  | false => rw [if_pos rfl]; rfl
  | true =>
   rw [if_neg (by simp), Bool.not_true, K29]
   by_cases q4 : a.1.1 = b.1.1
   ·rw [K2d q4, if_neg (by simpa using q4)]
    show fork (eqHd a.1 b.1) _ _ = _
    cases q5 : eqHd a.1 b.1 with
    | true => rw [K2f, if_pos rfl]
    | false =>
     rw [K29, if_neg (by simp)]
     have s0 := rm_one a c ha q2 c6 0 (.inl rfl) [a, b] rfl rfl
     have s1 := rm_one b c hb q3 c6 1 (.inr rfl) [a, b] rfl rfl
     show andThen (qa_1 2 0 c [a, b]) _ = _
     unfold qa_1
     by_cases r1 : enS a.2.2.1 a.1 a.2.1 = false ∨ soS c.2.1 a.1 a.2.1 = false
     ·rw [if_pos r1] at s0
      rw [if_pos r1, J3y s0]
      rfl
     ·rw [if_neg r1] at s0
      rw [if_neg r1, J3x s0]
      by_cases r2 : enS b.2.2.1 b.1 b.2.1 = false ∨ soS c.2.1 b.1 b.2.1 = false
      ·rw [if_pos r2] at s1
       rw [if_pos r2, show (0 : Int) + 1 = 1 from rfl, J3y s1]
       rfl
      ·rw [if_neg r2] at s1
       rw [if_neg r2, show (0 : Int) + 1 = 1 from rfl, J3x s1]
       have s2 : qa_1_step 2 ((1 : Int) + 1) c [a, b] = some (.inr (.inr c)) := by rw [K7a, K28 (by omega)]
       rw [J3y s2]
       rfl
   ·rw [K2c q4, if_pos (by simpa using q4)]
def f10 (i : Nat) : Int := 10 * ((i : Int) + 1)
theorem K44 (n : Nat) (hn : n ≤ 4) (S : List Val) (hS : SetSm S) : qz_1 0 [] [] () (K8i n) (K75 n) (K4q n) S = some (blF n S f10 3, List.replicate 3 [], (), K8i n, K75 n, K4q n, S) := by
 unfold qz_1
 have := K47 (step := fun (t : Int × List Block × Rows × Unit × List (List UInt8) × List (List (List UInt8)) × List (List UInt8) × List Val) => qz_1_step t.1 t.2.1 t.2.2.1 t.2.2.2.1 t.2.2.2.2.1 t.2.2.2.2.2.1 t.2.2.2.2.2.2.1 t.2.2.2.2.2.2.2) (fun i (_ : Unit) => ((i : Int), blF n S f10 i, List.replicate i [], (), K8i n, K75 n, K4q n, S)) (fun _ _ => ()) (fun _ => (blF n S f10 3, List.replicate 3 [], (), K8i n, K75 n, K4q n, S)) 3 (fun _ _ => True) (fun i w hi _ => ⟨?_, trivial⟩) (fun w _ => ?_) 3 0 () (by omega) trivial
 ·exact this
 ·show qz_1_step (i : Int) (blF n S f10 i) (List.replicate i []) () (K8i n) (K75 n) (K4q n) S = _
  unfold qz_1_step
  have e : w64 (10 * w64 ((i : Int) + 1)) = f10 i := by rw [J6z (n := (i : Int) + 1) (by omega) (by omega), J6z (by omega) (by omega)]; rfl
  rw [K2e (by omega), e, commitF hn hS i (by omega) (by unfold f10; omega) (fun h => by unfold f10; omega), K05, J6z (by omega) (by omega)]
  rfl
 ·show qz_1_step 3 (blF n S f10 3) (List.replicate 3 []) () (K8i n) (K75 n) (K4q n) S = _
  unfold qz_1_step
  rw [K28 (by omega)]
theorem K1h : Rise f10 := ⟨fun i hi => by unfold f10; omega, fun i hi => by unfold f10; omega⟩
theorem K24 {n : Nat} {who : List Int} (hw : ∀ i, i < n → hitW who i = true) (h h' : Hdr) : K23 h' (textS h') who (sgJ h (List.range n)) = sgJ h' (List.range n) := by
 unfold K23
 rw [K8r, List.length_range]
 unfold sgJ
 apply List.map_congr_left
 intro i hi
 have hi := List.mem_range.1 hi
 rw [if_pos (hw i hi), K2j _ _ hi]
 rfl
theorem K3v : qz = some true := by
 have hp := pw_ok [1]
 have hn : setN [1] = 1 := rfl
 have hS := K6x (pw [1]) 1 (by omega)
 have hce := K0t [1] (by simp)
 rw [hn] at hce
 have hce : q1v [1] = some ((), K8i 1, K75 1, K4q 1, ringN (pw [1]) 1) := hce
 generalize pw [1] = p at *
 have hl := K0h 1 (ringN p 1) f10 3
 have g0 : (blF 1 (ringN p 1) f10 3).getD 0 zBlk = honB 1 (ringN p 1) (hF 1 (ringN p 1) f10 0) := K0g _ _ _ (by omega)
 have g1 : (blF 1 (ringN p 1) f10 3).getD 1 zBlk = honB 1 (ringN p 1) (hF 1 (ringN p 1) f10 1) := K0g _ _ _ (by omega)
 have g2 : (blF 1 (ringN p 1) f10 3).getD 2 zBlk = honB 1 (ringN p 1) (hF 1 (ringN p 1) f10 2) := K0g _ _ _ (by omega)
 have hnew := new_hon hp (Nat.le_refl 1) (show 1 ≤ 4 by omega) K1h (P := 100) (by omega) (j := 0) (by omega)
 have k0 := K3j (ringN p 1) 100 (hF 1 (ringN p 1) f10 0)
 have u1 := Ka1 hp (Nat.le_refl 1) (show 1 ≤ 4 by omega) K1h (i := 0) (j := 1) (by omega) (by omega) k0 25
 rw [if_neg (by omega), if_neg (by unfold f10; omega)] at u1
 have k1 := K3k (h := hF 1 (ringN p 1) f10 1) k0 (by simp)
 have u2 := Ka1 hp (Nat.le_refl 1) (show 1 ≤ 4 by omega) K1h (i := 1) (j := 1) (by omega) (by omega) k1 25
 rw [if_pos (by omega)] at u2
 have o1 := K2m 1 (ringN p 1) f10 1
 have o2 := K2m 1 (ringN p 1) f10 2
 have e1 := hF_1 1 (ringN p 1) f10 1
 have e2 := hF_1 1 (ringN p 1) f10 2
 have r2 : K6l (hF 1 (ringN p 1) f10 2) = true := K2o (by omega) (by unfold f10; omega) (by unfold f10; omega)
 have v2 := K2p 1 (ringN p 1) f10 2
 have x2 := K2n 1 (ringN p 1) f10 2
 have c0 := K3l hp (show 1 ≤ 4 by omega) K1h (by omega) k0
 have c1 := K3l hp (show 1 ≤ 4 by omega) K1h (by omega) k1
 have b1 := K31 (show 1 ≤ 4 by omega) p o1 (by omega) (by omega)
 have b2 := K31 (show 1 ≤ 4 by omega) p o2 (by omega) (by omega)
 obtain ⟨r, hr, ef⟩ := K27 (honB 1 (ringN p 1) (hF 1 (ringN p 1) f10 2)) [0] (by simp) 5 o2 (by show 1 ≤ (hF 1 (ringN p 1) f10 2).1; omega) (by show (hF 1 (ringN p 1) f10 2).1 ≤ 16; omega) b2.2.2.1
 have hodd : K1v (honB 1 (ringN p 1) (hF 1 (ringN p 1) f10 2)) [0] r = honB 1 (ringN p 1) (turnH (hF 1 (ringN p 1) f10 2) r) := by
  unfold K1v honB
  simp only
  have hrt : K6l (turnH (hF 1 (ringN p 1) f10 2) r) = true := r2
  rw [← K9n hrt, K24]
  intro i hi
  have : i = 0 := by omega
  subst this
  unfold hitW
  rw [List.any_cons, List.any_nil, Bool.or_false, decide_eq_true_eq]
  obtain ⟨w, _, _⟩ := wi_eq 0
  have hw : q1s 0 0 4 = some 0 := by
   unfold q1s
   rfl
  rw [hw] at w
  injection w with w
 rw [hodd] at ef
 have ot := K9t o2 r
 have bt := K31 (show 1 ≤ 4 by omega) p ot (by show 1 ≤ (hF 1 (ringN p 1) f10 2).1; omega) (by show (hF 1 (ringN p 1) f10 2).1 ≤ 16; omega)
 have wb2 := Ka9 hp (Nat.le_refl 1) (show 1 ≤ 4 by omega) r2 v2 x2
 have wbt := Ka9 hp (Nat.le_refl 1) (show 1 ≤ 4 by omega) (h := turnH (hF 1 (ringN p 1) f10 2) r) r2 v2 x2
 have hm : misS (honB 1 (ringN p 1) (hF 1 (ringN p 1) f10 2)) (honB 1 (ringN p 1) (turnH (hF 1 (ringN p 1) f10 2) r)) (cut6 ([hF 1 (ringN p 1) f10 0] ++ [hF 1 (ringN p 1) f10 1]), ringN p 1, 100, false, ()) = (0, (cut6 ([hF 1 (ringN p 1) f10 0] ++ [hF 1 (ringN p 1) f10 1]), ringN p 1, 100, true, ())) := by
  unfold misS
  rw [if_neg (by simp), wb2, if_neg (by simp), wbt, if_neg (by simp), if_neg (by intro h; exact h rfl)]
  show (if eqHd (hF 1 (ringN p 1) f10 2) (turnH (hF 1 (ringN p 1) f10 2) r) = true then _ else if enS (ringN p 1) (hF 1 (ringN p 1) f10 2) (sgJ (hF 1 (ringN p 1) f10 2) (List.range 1)) = false ∨ soS (ringN p 1) (hF 1 (ringN p 1) f10 2) (sgJ (hF 1 (ringN p 1) f10 2) (List.range 1)) = false then _ else if enS (ringN p 1) (turnH (hF 1 (ringN p 1) f10 2) r) (sgJ (turnH (hF 1 (ringN p 1) f10 2) r) (List.range 1)) = false ∨ soS (ringN p 1) (turnH (hF 1 (ringN p 1) f10 2) r) (sgJ (turnH (hF 1 (ringN p 1) f10 2) r) (List.range 1)) = false then _ else _) = _
  have t1 : 1 ≤ (turnH (hF 1 (ringN p 1) f10 2) r).1 := by show 1 ≤ (hF 1 (ringN p 1) f10 2).1; omega
  have t2 : (turnH (hF 1 (ringN p 1) f10 2) r).1 ≤ 16 := by show (hF 1 (ringN p 1) f10 2).1 ≤ 16; omega
  rw [eqHd_ne (Ne.symm (turnH_ne o2 hr)), if_neg (by simp), K1b hp (Nat.le_refl 1) (by omega) _ (by omega) (by omega), K9b hp (Nat.le_refl 1) (by omega) _ (by omega) (by omega), if_neg (by simp), K1b hp (Nat.le_refl 1) (by omega) _ t1 t2, K9b hp (Nat.le_refl 1) (by omega) _ t1 t2, if_neg (by simp)]
 unfold qz
 rw [hce, K05, K44 1 (by omega) _ hS, K05]
 simp only
 show need _ (andThen (q3s ((blF 1 (ringN p 1) f10 3).getD (Int.toNat 0) zBlk).1 ((blF 1 (ringN p 1) f10 3).getD (Int.toNat 0) zBlk).2.2.2.1 100) (fun u10 => match u10 with | .inl u12 => none | .inr u13 => fork (!decide (u13.1 = (0 : Int))) none (need (0 ≤ (1 : Int) ∧ (1 : Int) < ((blF 1 (ringN p 1) f10 3).length : Int)) (andThen (qq ((blF 1 (ringN p 1) f10 3).getD (Int.toNat 1) zBlk) 25 u13.2) (fun u16 => andThen (qq ((blF 1 (ringN p 1) f10 3).getD (Int.toNat 1) zBlk) 25 u16.2) (fun u18 => need (0 ≤ (2 : Int) ∧ (2 : Int) < ((blF 1 (ringN p 1) f10 3).length : Int)) (andThen (q1m ((blF 1 (ringN p 1) f10 3).getD (Int.toNat 2) zBlk) [0] 5) (fun u21 => andThen (qf ((blF 1 (ringN p 1) f10 3).getD (Int.toNat 2) zBlk) u21 u18.2) (fun u23 => fork (decide (u16.1 = (0 : Int))) (fork (decide (u18.1 = (8 : Int))) (fork (decide (u23.1 = (0 : Int))) (andThen (qp u23.2) (fun u28 => fork u28 (andThen (qq ((blF 1 (ringN p 1) f10 3).getD (Int.toNat 2) zBlk) 35 u23.2) (fun u31 => some (decide (u31.1 = (5 : Int))))) none)) none) none) none))))))))) = _
 rw [J4c (by omega), show Int.toNat 0 = 0 from rfl, show Int.toNat 1 = 1 from rfl, show Int.toNat 2 = 2 from rfl, g0, g1, g2]
 show andThen (q3s (hF 1 (ringN p 1) f10 0) (ringN p 1) 100) _ = _
 rw [hnew, K05]
 simp only
 rw [K2d trivial, J4c (by omega), Ka0 _ _ _ b1 c0 (by omega), K05, u1]
 simp only
 rw [Ka0 _ _ _ b1 c1 (by omega), K05, u2, J4c (by omega), ef, K05]
 simp only
 rw [mis_eq _ _ _ b2 bt c1, K05, hm]
 simp only
 rw [K2e trivial, K2e trivial, K2e trivial]
 unfold qp
 rw [K05, K2f]
 have hz : CliOk (cut6 ([hF 1 (ringN p 1) f10 0] ++ [hF 1 (ringN p 1) f10 1]), ringN p 1, 100, true, ()) := c1
 rw [Ka0 _ _ _ b2 hz (by omega), K05]
 unfold updS
 rw [if_pos rfl]
 rfl
abbrev Pr := List UInt8 × List UInt8 × Unit
def zPr : Pr := ([], [], ())
theorem K97 : ∀ a b : List UInt8, sless a b = false → a = b ∨ sless b a = true
 | [], [], _ => .inl rfl
 | _ :: _, [], _ => .inr rfl
 | [], _ :: _, h => by simp [sless] at h
 | x :: a, y :: b, h => by
  simp only [sless, Bool.or_eq_false_iff, Bool.and_eq_false_iff, decide_eq_false_iff_not, beq_eq_false_iff_ne, ne_eq] at h
  obtain ⟨h1, h2⟩ := h
  by_cases e : x = y
  ·subst e
   rcases K97 a b (h2.resolve_left (fun q => q rfl)) with rfl | h
   ·exact .inl rfl
   ·exact .inr (by simp [sless, h])
  ·right
   have : y < x := by
    rcases UInt8.lt_or_lt_of_ne e with q | q
    ·exact absurd q h1
    ·exact q
   simp [sless, this]
def K09 : List Pr → List UInt8 → Nat
 | [], _ => 0
 | p :: r, k => bif sless p.1 k then K09 r k + 1 else 0
theorem below_le : ∀ (l : List Pr) (k : List UInt8), K09 l k ≤ l.length
 | [], _ => Nat.le_refl _
 | p :: r, k => by
  have := below_le r k
  unfold K09
  cases sless p.1 k
  ·exact Nat.zero_le _
  ·rw [cond_true, List.length_cons]; omega
theorem K0c : ∀ (l : List Pr) (k : List UInt8) (i : Nat), i < K09 l k → sless (l.getD i zPr).1 k = true
 | [], _, i, h => by unfold K09 at h; omega
 | p :: r, k, i, h => by
  unfold K09 at h
  cases e : sless p.1 k with
  | false => rw [e, cond_false] at h; omega
  | true =>
   rw [e, cond_true] at h
   match i with
   | 0 => exact e
   | j + 1 => exact K0c r k j (by omega)
theorem K0a : ∀ (l : List Pr) (k : List UInt8), K09 l k < l.length → sless (l.getD (K09 l k) zPr).1 k = false
 | [], _, h => by simp at h
 | p :: r, k, h => by
  unfold K09 at h ⊢
  cases e : sless p.1 k with
  | false => exact e
  | true =>
   rw [e, cond_true, List.length_cons] at h
   exact K0a r k (by omega)
theorem K0d (l : List Pr) (k : List UInt8) (n : Nat) (hn : n ≤ l.length) (h1 : ∀ i, i < n → sless (l.getD i zPr).1 k = true) (h2 : n < l.length → sless (l.getD n zPr).1 k = false) : K09 l k = n := by
 rcases Nat.lt_trichotomy (K09 l k) n with h | h | h
 ·have a := h1 _ h
  rw [K0a l k (by omega)] at a; cases a
 ·exact h
 ·have a := K0c l k n h
  have b := below_le l k
  rw [h2 (by omega)] at a; cases a
def RiseP (l : List Pr) : Prop := l.Pairwise (fun a b => sless a.1 b.1 = true)
theorem K3o {l : List Pr} (h : RiseP l) {i j : Nat} (hij : i < j) (hj : j < l.length) : sless (l.getD i zPr).1 (l.getD j zPr).1 = true := by
 rw [List.getD_eq_getElem?_getD, List.getD_eq_getElem?_getD, List.getElem?_eq_getElem hj, List.getElem?_eq_getElem (by omega)]
 exact List.pairwise_iff_getElem.1 h i j (by omega) hj hij
theorem K0b {l : List Pr} (h : RiseP l) (k : List UInt8) {i : Nat} (hi : i < l.length) : sless (l.getD i zPr).1 k = true ↔ i < K09 l k := by
 refine ⟨fun hs => ?_, K0c l k i⟩
 apply Classical.byContradiction
 intro hn
 have b := K0a l k (by omega)
 rcases Nat.lt_or_ge (K09 l k) i with c | c
 ·rw [K98 _ _ _ (K3o h c hi) hs] at b; cases b
 ·have : K09 l k = i := by omega
  rw [this, hs] at b; cases b
def isAt (l : List Pr) (k : List UInt8) : Bool := decide (K09 l k < l.length ∧ (l.getD (K09 l k) zPr).1 = k)
theorem K38 {l : List Pr} (h : RiseP l) (k : List UInt8) : isAt l k = true ↔ ∃ p ∈ l, p.1 = k := by
 unfold isAt
 rw [decide_eq_true_eq]
 constructor
 ·rintro ⟨h1, h2⟩
  exact ⟨_, K2i h1, h2⟩
 ·rintro ⟨p, hp, e⟩
  obtain ⟨i, hi, rfl⟩ := List.getElem_of_mem hp
  have hg : l.getD i zPr = l[i] := by rw [List.getD_eq_getElem?_getD, List.getElem?_eq_getElem hi]; rfl
  have : K09 l k = i := by
   refine K0d l k i (by omega) (fun j hj => ?_) fun _ => ?_
   ·rw [← e, ← hg]; exact K3o h hj hi
   ·rw [hg, e]; exact K95 k
  rw [this, hg]; exact ⟨hi, e⟩
def mayP (p : Pr) : Bool := !decide (p.1 = []) && (decide ((p.1.length : Int) ≤ 16) && decide ((p.2.1.length : Int) ≤ 24))
def putP (l : List Pr) (p : Pr) : List Pr := if isAt l p.1 then l.take (K09 l p.1) ++ p :: l.drop (K09 l p.1 + 1) else l.take (K09 l p.1) ++ p :: l.drop (K09 l p.1)
def cutP (l : List Pr) (k : List UInt8) : List Pr := if isAt l k then l.take (K09 l k) ++ l.drop (K09 l k + 1) else l
theorem K39 {l : List Pr} {k : List UInt8} (h : isAt l k = true) : K09 l k < l.length ∧ (l.getD (K09 l k) zPr).1 = k := by
 unfold isAt at h; rw [decide_eq_true_eq] at h; exact h
theorem K3p {l : List Pr} (h : RiseP l) (n : Nat) : RiseP (l.take n) := h.sublist (List.take_sublist n l)
theorem K3m {l : List Pr} (h : RiseP l) (n : Nat) : RiseP (l.drop n) := h.sublist (List.drop_sublist n l)
theorem K4i {l : List Pr} {k : List UInt8} {p : Pr} (h : p ∈ l.take (K09 l k)) : sless p.1 k = true := by
 obtain ⟨i, hi, rfl⟩ := List.getElem_of_mem h
 rw [List.length_take] at hi
 rw [List.getElem_take]
 have := K0c l k i (by omega)
 rw [List.getD_eq_getElem?_getD, List.getElem?_eq_getElem (by omega)] at this
 exact this
theorem K4h {l : List Pr} {n : Nat} {p : Pr} (h : p ∈ l.drop n) : ∃ i, n ≤ i ∧ i < l.length ∧ l.getD i zPr = p := by
 obtain ⟨i, hi, rfl⟩ := List.getElem_of_mem h
 rw [List.length_drop] at hi
 refine ⟨n + i, by omega, by omega, ?_⟩
 rw [List.getElem_drop, List.getD_eq_getElem?_getD, List.getElem?_eq_getElem (by omega)]; rfl
theorem K1a {l : List Pr} (hr : RiseP l) {k : List UInt8} {n : Nat} (h : isAt l k = false ∧ n = K09 l k ∨ isAt l k = true ∧ n = K09 l k + 1) {p : Pr} (hp : p ∈ l.drop n) : sless k p.1 = true := by
 obtain ⟨i, h1, h2, rfl⟩ := K4h hp
 rcases h with ⟨ha, rfl⟩ | ⟨ha, rfl⟩
 ·have b : sless (l.getD i zPr).1 k = false := by
   cases q : sless (l.getD i zPr).1 k with
   | false => rfl
   | true => have := (K0b hr k h2).1 q; omega
  rcases K97 _ _ b with e | e
  ·exact absurd ((K38 hr k).2 ⟨_, K2i h2, e⟩) (by rw [ha]; simp)
  ·exact e
 ·have e := (K39 ha).2
  have := K3o hr (i := K09 l k) (j := i) (by omega) h2
  rw [e] at this; exact this
theorem K5z {l : List Pr} (hr : RiseP l) (p : Pr) : RiseP (putP l p) := by
 have key : ∀ n, (isAt l p.1 = false ∧ n = K09 l p.1 ∨ isAt l p.1 = true ∧ n = K09 l p.1 + 1) → RiseP (l.take (K09 l p.1) ++ p :: l.drop n) := fun n hn => by
  refine List.pairwise_append.2 ⟨K3p hr _, List.pairwise_cons.2 ⟨fun q hq => K1a hr hn hq, K3m hr _⟩, fun a ha b hb => ?_⟩
  have h1 := K4i ha
  rcases List.mem_cons.1 hb with rfl | hb
  ·exact h1
  ·exact K98 _ _ _ h1 (K1a hr hn hb)
 unfold putP
 cases ha : isAt l p.1 with
 | true => rw [if_pos rfl]; exact key _ (.inr ⟨ha, rfl⟩)
 | false => rw [if_neg (by simp)]; exact key _ (.inl ⟨ha, rfl⟩)
theorem K15 {l : List Pr} (hr : RiseP l) (k : List UInt8) : RiseP (cutP l k) := by
 unfold cutP
 cases ha : isAt l k with
 | false => rw [if_neg (by simp)]; exact hr
 | true =>
  rw [if_pos rfl]
  refine List.pairwise_append.2 ⟨K3p hr _, K3m hr _, fun a ha2 b hb => ?_⟩
  exact K98 _ _ _ (K4i ha2) (K1a hr (.inr ⟨ha, rfl⟩) hb)
theorem putP_len (l : List Pr) (p : Pr) : (putP l p).length = if isAt l p.1 then l.length else l.length + 1 := by
 have hb := below_le l p.1
 unfold putP
 cases ha : isAt l p.1 with
 | true =>
  have := (K39 ha).1
  rw [if_pos rfl, if_pos rfl, List.length_append, List.length_cons, List.length_take, List.length_drop]; omega
 | false => rw [if_neg (by simp), if_neg (by simp), List.length_append, List.length_cons, List.length_take, List.length_drop]; omega
theorem cutP_len (l : List Pr) (k : List UInt8) : (cutP l k).length ≤ l.length := by
 unfold cutP
 split
 ·rw [List.length_append, List.length_take, List.length_drop]; omega
 ·exact Nat.le_refl _
theorem putP_mem {l : List Pr} {p q : Pr} (h : q ∈ putP l p) : q = p ∨ q ∈ l := by
 unfold putP at h
 split at h
 ·rcases List.mem_append.1 h with h | h
  ·exact .inr (List.mem_of_mem_take h)
  ·rcases List.mem_cons.1 h with h | h
   ·exact .inl h
   ·exact .inr (List.mem_of_mem_drop h)
 ·rcases List.mem_append.1 h with h | h
  ·exact .inr (List.mem_of_mem_take h)
  ·rcases List.mem_cons.1 h with h | h
   ·exact .inl h
   ·exact .inr (List.mem_of_mem_drop h)
theorem cutP_mem {l : List Pr} {k : List UInt8} {q : Pr} (h : q ∈ cutP l k) : q ∈ l := by
 unfold cutP at h
 split at h
 ·rcases List.mem_append.1 h with h | h
  ·exact List.mem_of_mem_take h
  ·exact List.mem_of_mem_drop h
 ·exact h
def RowB (l : List Pr) : Prop := RiseP l ∧ l.length ≤ 30 ∧ ∀ p ∈ l, p.1.length ≤ 16 ∧ p.2.1.length ≤ 24
theorem rowB_nil : RowB [] := ⟨List.Pairwise.nil, by simp, by simp⟩
theorem cutP_row {l : List Pr} (h : RowB l) (k : List UInt8) : RowB (cutP l k) := ⟨K15 h.1 k, by have := cutP_len l k; have := h.2.1; omega, fun q hq => h.2.2 q (cutP_mem hq)⟩
def leafB (p : Pr) : List UInt8 := txtS p.1 ++ txtS p.2.1
def K3x (l : List Pr) : List (List UInt8) := l.map leafB
def KvOk (l : List Pr) : Prop := l.length ≤ 60 ∧ ∀ p ∈ l, p.1.length ≤ 100000 ∧ p.2.1.length ≤ 100000
theorem K3y (l : List Pr) : (K3x l).length = l.length := by simp [K3x]
theorem K3w {p : Pr} (h : p.1.length ≤ 100000 ∧ p.2.1.length ≤ 100000) : (leafB p).length ≤ 200100 := by
 have a := K9v p.1
 have b := K9v p.2.1
 unfold leafB; rw [List.length_append]; omega
theorem K3z {l : List Pr} (h : KvOk l) : Small (K3x l) := by
 intro x hx
 obtain ⟨p, hp, rfl⟩ := List.mem_map.1 hx
 have := K3w (h.2 p hp)
 omega
theorem K40 (l : List Pr) {i : Nat} (hi : i < l.length) : K3x (l.take i) ++ [leafB (l.getD i zPr)] = K3x (l.take (i + 1)) := by
 unfold K3x
 rw [List.take_add_one, List.map_append, List.getElem?_eq_getElem hi, List.getD_eq_getElem?_getD, List.getElem?_eq_getElem hi]; rfl
theorem K6i (x0 : List Pr) (x1 : List UInt8) (x2 : Int) : q1w_1_step x0 x1 x2 =
  (fork (decide (x2 < (List.length x0 : Int))) (need (0 ≤ x2 ∧ x2 < (List.length x0 : Int)) (fork (sless (List.getD x0 (Int.toNat x2) zPr).1 x1) (some (.inl (w64 (x2 + (1 : Int))))) (some (.inr x2)))) (some (.inr x2)) : Option ((Int) ⊕ (Int))) := rfl
theorem K79 (x0 : List Pr) (x1 : Int) (x2 : Int) (x3 : List (List UInt8)) : q1n_1_step x0 x1 x2 x3 =
  (fork (decide (x2 < x1)) (need (0 ≤ x2 ∧ x2 < (List.length x0 : Int)) (andThen (q24 (List.getD x0 (Int.toNat x2) zPr)) (fun u4 => need (List.length x3 + List.length ([u4] : List (List UInt8)) ≤ 2147483648) (some (.inl ((w64 (x2 + (1 : Int))), (x3 ++ ([u4] : List (List UInt8))))))))) (some (.inr x3)) : Option ((Int × List (List UInt8)) ⊕ (List (List UInt8)))) := rfl
theorem K6h (l : List Pr) (hl : l.length ≤ 1000) (k : List UInt8) : ∀ (m i : Nat), i + m = K09 l k → q1w_1 l k (i : Int) = some (K09 l k : Int)
 | 0, i, h => by
  have hb := below_le l k
  unfold q1w_1
  refine J3y ?_
  show q1w_1_step l k (i : Int) = _
  have hi : i = K09 l k := by omega
  rw [K6i]
  by_cases c : i < l.length
  ·rw [K2e (by omega), J4c (by omega), Int.toNat_natCast, hi, K0a l k (by omega), K29]
  ·rw [K28 (by omega), hi]
 | m + 1, i, h => by
  have hb := below_le l k
  have ih := K6h l hl k m (i + 1) (by omega)
  unfold q1w_1 at ih ⊢
  have hs : q1w_1_step l k (i : Int) = some (.inl ((i + 1 : Nat) : Int)) := by
   rw [K6i, K2e (by omega), J4c (by omega), Int.toNat_natCast, K0c l k i (by omega), K2f, J6z (by omega) (by omega)]; rfl
  rw [J3x hs]
  exact ih
theorem K6g (l : List Pr) (hl : l.length ≤ 1000) (k : List UInt8) : q1w l k = some (K09 l k : Int) := by
 unfold q1w
 rw [show (0 : Int) = ((0 : Nat) : Int) from rfl, K6h l hl k (K09 l k) 0 (by omega), K05]
theorem rLeaf_eq (p : Pr) (h : p.1.length ≤ 100000 ∧ p.2.1.length ≤ 100000) : q24 p = some (leafB p) := by
 have a := K9v p.1
 have b := K9v p.2.1
 unfold q24
 rw [K82 _ h.1, K05, K82 _ h.2, K05, J4c (by omega)]; rfl
theorem K78 (l : List Pr) (h : KvOk l) : q1n l = some (K3x l) := by
 have hl := h.1
 have m1 : q1n_1 l (l.length : Int) 0 [] = some (K3x l) := by
  unfold q1n_1
  have := K47 (step := fun (s : Int × List (List UInt8)) => q1n_1_step l (l.length : Int) s.1 s.2) (fun i (_ : Unit) => ((i : Int), K3x (l.take i))) (fun _ _ => ()) (fun _ => K3x l) l.length (fun _ _ => True) (fun i w hi _ => ⟨?_, trivial⟩) (fun w _ => ?_) l.length 0 () (by omega) trivial
  ·exact this
  ·show q1n_1_step l (l.length : Int) (i : Int) (K3x (l.take i)) = _
   rw [K79, K2e (by omega), J4c (by omega), Int.toNat_natCast, rLeaf_eq _ (h.2 _ (K2i hi)), K05, J4c (by rw [K3y, List.length_take]; simp only [List.length_cons, List.length_nil]; omega), K40 l hi, J6z (by omega) (by omega)]
   rfl
  ·show q1n_1_step l (l.length : Int) (l.length : Int) (K3x (l.take l.length)) = _
   rw [K79, K28 (by omega), List.take_of_length_le (Nat.le_refl _)]
 unfold q1n
 rw [m1, K05]
def K3f : List (List UInt8) := [[97], [97, 98], [97, 98, 99], [98], [98, 97], [115, 47, 97], [115, 47, 98], [115, 47, 99], [116], [117], [122], [122, 122]]
theorem keys_eq : q29 = some K3f := rfl
theorem kkey_eq (n : Int) : ∃ i, i < 12 ∧ q2i n = some (K3f.getD i []) := by
 obtain ⟨r, er, r1, r2⟩ := Kab n 0 11 (by omega) (by omega) (by omega)
 refine ⟨r.toNat, by omega, ?_⟩
 have hk : K3f.length = 12 := rfl
 unfold q2i
 rw [keys_eq, K05, K05, hk, show w64 (((12 : Nat) : Int) - 1) = 11 from rfl, er, K05, J4c (by omega)]
theorem ktext_eq (n : Int) : ∃ x, q2a n = some x ∧ x.length ≤ 8 := by
 obtain ⟨r, er, r1, r2⟩ := Kab n 0 4 (by omega) (by omega) (by omega)
 unfold q2a
 rw [er, K05, J4c (by show 0 ≤ r ∧ r < ((5 : Nat) : Int); omega)]
 refine ⟨_, rfl, ?_⟩
 have : ∀ i, i < 5 → (([([] : List UInt8), ([49] : List UInt8), ([120] : List UInt8), ([118, 97, 108, 117, 101] : List UInt8), ([49, 50, 51, 52, 53, 54, 55, 56] : List UInt8)] : List (List UInt8)).getD i []).length ≤ 8 := by decide
 exact this r.toNat (by omega)
theorem keys_b : ∀ k ∈ K3f, 1 ≤ k.length ∧ k.length ≤ 3 := by decide
theorem K46 {σ ρ : Type} {step : σ → Option (σ ⊕ ρ)} (I : Nat → σ → Prop) (Q : ρ → Prop)
  (h : ∀ k s, I k s → (∃ r, step s = some (.inr r) ∧ Q r) ∨ (∃ j s', k = j + 1 ∧ step s = some (.inl s') ∧ I j s')) : ∀ k s, I k s → ∃ r, loop step s = some r ∧ Q r := by
 intro k
 induction k with
 | zero =>
  intro s hi
  rcases h 0 s hi with ⟨r, e, q⟩ | ⟨j, s', hk, e, hi'⟩
  ·exact ⟨r, J3y e, q⟩
  ·omega
 | succ k ih =>
  intro s hi
  rcases h (k + 1) s hi with ⟨r, e, q⟩ | ⟨j, s', hk, e, hi'⟩
  ·exact ⟨r, J3y e, q⟩
  ·have : j = k := by omega
   subst this
   obtain ⟨r, e2, q⟩ := ih s' hi'
   exact ⟨r, (J3x e).trans e2, q⟩
theorem split_at {l : List Pr} {b : Nat} (h : b < l.length) : l = l.take b ++ l.getD b zPr :: l.drop (b + 1) := by
 have e : l.getD b zPr = l[b] := by rw [List.getD_eq_getElem?_getD, List.getElem?_eq_getElem h]; rfl
 rw [e, ← List.drop_eq_getElem_cons h, List.take_append_drop]
theorem K96 {a b : List UInt8} (h : sless a b = true) : a ≠ b := fun e => by rw [e, K95] at h; cases h
theorem mem_cut {l : List Pr} (hr : RiseP l) (k : List UInt8) (q : Pr) : q ∈ cutP l k ↔ q ∈ l ∧ q.1 ≠ k := by
 unfold cutP
 cases ha : isAt l k with
 | true =>
  obtain ⟨h1, h2⟩ := K39 ha
  rw [if_pos rfl]
  constructor
  ·intro h
   rcases List.mem_append.1 h with h | h
   ·exact ⟨List.mem_of_mem_take h, K96 (K4i h)⟩
   ·exact ⟨List.mem_of_mem_drop h, Ne.symm (K96 (K1a hr (.inr ⟨ha, rfl⟩) h))⟩
  ·rintro ⟨h3, h4⟩
   rw [split_at h1] at h3
   rcases List.mem_append.1 h3 with h | h
   ·exact List.mem_append.2 (.inl h)
   ·rcases List.mem_cons.1 h with h | h
    ·exact absurd (by rw [h]; exact h2) h4
    ·exact List.mem_append.2 (.inr h)
 | false =>
  rw [if_neg (by simp)]
  refine ⟨fun h => ⟨h, fun e => ?_⟩, fun h => h.1⟩
  have := (K38 hr k).2 ⟨q, h, e⟩
  rw [ha] at this; cases this
theorem K3n : ∀ {a b : List Pr}, RiseP a → RiseP b → (∀ q, q ∈ a ↔ q ∈ b) → a = b
 | [], [], _, _, _ => rfl
 | [], y :: b, _, _, h => by cases (h y).2 List.mem_cons_self
 | x :: a, [], _, _, h => by cases (h x).1 List.mem_cons_self
 | x :: a, y :: b, ha, hb, h => by
  obtain ⟨a1, a2⟩ := List.pairwise_cons.1 ha
  obtain ⟨b1, b2⟩ := List.pairwise_cons.1 hb
  have e : x = y := by
   rcases List.mem_cons.1 ((h x).1 List.mem_cons_self) with e | e
   ·exact e
   ·rcases List.mem_cons.1 ((h y).2 List.mem_cons_self) with e2 | e2
    ·exact e2.symm
    ·have := K98 _ _ _ (b1 x e) (a1 y e2)
     rw [K95] at this; cases this
  subst e
  congr 1
  refine K3n a2 b2 fun q => ⟨fun hq => ?_, fun hq => ?_⟩
  ·rcases List.mem_cons.1 ((h q).1 (List.mem_cons_of_mem _ hq)) with e | e
   ·have := a1 q hq
    rw [e, K95] at this; cases this
   ·exact e
  ·rcases List.mem_cons.1 ((h q).2 (List.mem_cons_of_mem _ hq)) with e | e
   ·have := b1 q hq
    rw [e, K95] at this; cases this
   ·exact e
theorem rowB_kv {l : List Pr} (h : RowB l) : KvOk l := ⟨by have := h.2.1; omega, fun p hp => by have := h.2.2 p hp; omega⟩
def boundS (n : Nat) (r : List UInt8) : List UInt8 := sha (83 :: (oneS (n : Int) ++ r))
noncomputable def rootL (l : List Pr) : List UInt8 := boundS l.length (rootS (K3x l))
theorem K6a (n : Nat) (r : List UInt8) (hr : r.length = 32) : q1u (n : Int) r = some (boundS n r) := by
 have h1 := K52 (n : Int)
 have hf : [oneS (n : Int), r].flatten = oneS (n : Int) ++ r := by simp
 unfold q1u
 rw [K7q, K05, K81 _ _ (by rw [hf, List.length_append]; omega) (by simp), hf]
 rfl
theorem K7z (l : List Pr) (h : KvOk l) : q13 l = some (rootL l) := by
 have hl := h.1
 unfold q13
 rw [K78 l h, K05, K7u _ (by rw [K3y]; omega) (K3z h), K05, K6a _ _ (K7g _), K05]
 rfl
theorem rset1_eq (l : List Pr) (hl : l.length ≤ 1000) (p : Pr) : q2n l p = some (putP l p) := by
 have hb := below_le l p.1
 unfold q2n putP
 have e1 : cutL l 0 (K09 l p.1 : Int) = l.take (K09 l p.1) := by rw [K17, Int.toNat_natCast]
 have e2 : cutL l ((K09 l p.1 : Int) + 1) (l.length : Int) = l.drop (K09 l p.1 + 1) := by rw [K16]; rfl
 have e3 : cutL l (K09 l p.1 : Int) (l.length : Int) = l.drop (K09 l p.1) := by rw [K16, Int.toNat_natCast]
 have t1 : (l.take (K09 l p.1)).length ≤ 1000 := by rw [List.length_take]; omega
 have t2 : (l.drop (K09 l p.1)).length ≤ 1000 := by rw [List.length_drop]; omega
 have t3 : (l.drop (K09 l p.1 + 1)).length ≤ 1000 := by rw [List.length_drop]; omega
 rw [K6g l hl, K05, J4c (by omega), J6z (by omega) (by omega), Int.toNat_natCast, e1, e2, e3, List.nil_append]
 have a1 : (([] : List Pr).length + (l.take (K09 l p.1)).length ≤ 2147483648) := by rw [List.length_nil]; omega
 have a2 : ((l.take (K09 l p.1)).length + [p].length ≤ 2147483648) := by rw [List.length_singleton]; omega
 have a3 : ((l.take (K09 l p.1) ++ [p]).length + (l.drop (K09 l p.1 + 1)).length ≤ 2147483648) := by rw [List.length_append, List.length_singleton]; omega
 have a4 : ((l.take (K09 l p.1) ++ [p]).length + (l.drop (K09 l p.1)).length ≤ 2147483648) := by rw [List.length_append, List.length_singleton]; omega
 by_cases c : K09 l p.1 < l.length
 ·rw [K2e (by omega), J4c (by omega)]
  by_cases q : (l.getD (K09 l p.1) (([] : List UInt8), ([] : List UInt8), ())).1 = p.1
  ·have ha : isAt l p.1 = true := by unfold isAt; rw [decide_eq_true_eq]; exact ⟨c, q⟩
   rw [K2e q, J4c (by omega), J4c (by omega), J4c a1, J4c a2, J4c a3, if_pos ha, List.append_assoc]; rfl
  ·have ha : ¬ isAt l p.1 = true := by unfold isAt; rw [decide_eq_true_eq]; exact fun e => q e.2
   rw [K28 q, J4c (by omega), J4c a1, J4c a2, J4c a4, if_neg ha, List.append_assoc]; rfl
 ·have ha : ¬ isAt l p.1 = true := by unfold isAt; rw [decide_eq_true_eq]; exact fun e => c e.1
  rw [K28 (by omega), J4c (by omega), J4c a1, J4c a2, J4c a4, if_neg ha, List.append_assoc]; rfl
theorem K6d (x0 : List UInt8) (x1 : List Pr) (x2 : Int) (x3 : Int) (x4 : List Pr) : q2l_1_step x0 x1 x2 x3 x4 =
  (fork (decide (x3 < x2)) (need (0 ≤ x3 ∧ x3 < (List.length x1 : Int)) (fork (!decide ((List.getD x1 (Int.toNat x3) zPr).1 = x0)) (need (List.length x4 + List.length ([(List.getD x1 (Int.toNat x3) zPr)] : List Pr) ≤ 2147483648) (some (.inl ((w64 (x3 + (1 : Int))), (x4 ++ ([(List.getD x1 (Int.toNat x3) zPr)] : List Pr)))))) (some (.inl ((w64 (x3 + (1 : Int))), x4))))) (some (.inr x4)) : Option ((Int × List Pr) ⊕ (List Pr))) := rfl
theorem K1m (l : List Pr) (f : Pr → Bool) {i : Nat} (h : i < l.length) : (l.take (i + 1)).filter f = (l.take i).filter f ++ (if f (l.getD i zPr) then [l.getD i zPr] else []) := by
 rw [List.take_add_one, List.filter_append, List.getElem?_eq_getElem h, List.getD_eq_getElem?_getD, List.getElem?_eq_getElem h]
 show _ ++ List.filter f [l[i]] = _ ++ (if f l[i] then [l[i]] else [])
 rw [List.filter_cons]; rfl
theorem rdel1_eq (l : List Pr) (hr : RiseP l) (hl : l.length ≤ 1000) (k : List UInt8) : q2l l k = some (cutP l k) := by
 have hf : l.filter (fun p => !decide (p.1 = k)) = cutP l k := by
  refine K3n (hr.sublist List.filter_sublist) (K15 hr k) fun q => ?_
  rw [mem_cut hr, List.mem_filter, Bool.not_eq_true', decide_eq_false_iff_not]
 have m : q2l_1 k l (l.length : Int) 0 [] = some (cutP l k) := by
  unfold q2l_1
  have := K47 (step := fun (s : Int × List Pr) => q2l_1_step k l (l.length : Int) s.1 s.2) (fun i (_ : Unit) => ((i : Int), (l.take i).filter (fun p => !decide (p.1 = k)))) (fun _ _ => ()) (fun _ => cutP l k) l.length (fun _ _ => True) (fun i w hi _ => ⟨?_, trivial⟩) (fun w _ => ?_) l.length 0 () (by omega) trivial
  ·exact this
  ·show q2l_1_step k l (l.length : Int) (i : Int) ((l.take i).filter (fun p => !decide (p.1 = k))) = some (.inl (((i + 1 : Nat) : Int), (l.take (i + 1)).filter (fun p => !decide (p.1 = k))))
   have b : ((l.take i).filter (fun p => !decide (p.1 = k))).length ≤ i := Nat.le_trans (List.length_filter_le _ _) (by rw [List.length_take]; omega)
   have t := K1m l (fun p => !decide (p.1 = k)) hi
   rw [K6d, K2e (by omega), J4c (by omega), Int.toNat_natCast, J6z (by omega) (by omega), t]
   by_cases e : (l.getD i zPr).1 = k
   ·rw [K2d e, if_neg (by rw [decide_eq_true e]; simp), List.append_nil]; rfl
   ·have b3 : ∀ n : Nat, n ≤ i → n + [l.getD i zPr].length ≤ 2147483648 := fun n hn => by rw [List.length_singleton]; omega
    rw [K2c e, J4c (b3 _ b), if_pos (by rw [decide_eq_false e]; rfl)]; rfl
  ·show q2l_1_step k l (l.length : Int) (l.length : Int) ((l.take l.length).filter (fun p => !decide (p.1 = k))) = _
   rw [K6d, K28 (by omega), List.take_of_length_le (Nat.le_refl _), hf]
 unfold q2l
 rw [m, K05]
end Go.Ax.V
