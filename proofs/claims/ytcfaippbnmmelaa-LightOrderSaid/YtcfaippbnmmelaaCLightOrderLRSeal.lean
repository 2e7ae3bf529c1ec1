/-
  The document's signers; sets whose keys are their seeds'.
-/
import Derived.Test.YtcfaippbnmmelaaCLightOrderLSeal
import Derived.Test.YtcfaippbnmmelaaCLightOrderLValsLaws1
namespace Go.Ax.V
open Go.Ax
set_option linter.unusedVariables false
set_option linter.unusedSimpArgs false
def hitS (set : List Val) (h : Int) (d : List UInt8) (x : Signed) : Int := pow (fun v => decide (v.1 = x.1) && verS v.2.2.1 h d x.2.1) set
theorem hit_b (set : List Val) (hset : SmallV set) (h : Int) (d : List UInt8) (x : Signed) : 0 ≤ hitS set h d x ∧ hitS set h d x ≤ 2097152000 := by
 have := pow_bound (fun v => decide (v.1 = x.1) && verS v.2.2.1 h d x.2.1) set hset.2
 have := hset.1
 unfold hitS
 omega
theorem sum_take {α : Type} (f : α → Int) (l : List α) (z : α) {i : Nat} (h : i < l.length) : ((l.take (i + 1)).map f).sum = ((l.take i).map f).sum + f (l.getD i z) := by
 rw [List.take_add_one, List.getElem?_eq_getElem h, List.getD_eq_getElem?_getD, List.getElem?_eq_getElem h]
 simp only [Option.toList_some, Option.getD_some, List.map_append, List.map_cons, List.map_nil, List.sum_append, List.sum_cons, List.sum_nil, Int.add_zero]
theorem sum_b {α : Type} (f : α → Int) (m : Int) (hm : ∀ x, 0 ≤ f x ∧ f x ≤ m) : ∀ l : List α, 0 ≤ (l.map f).sum ∧ (l.map f).sum ≤ m * l.length
 | [] => by simp
 | a :: l => by
  have ih := sum_b f m hm l
  have := hm a
  rw [List.map_cons, List.sum_cons, List.length_cons, Int.natCast_add, Int.mul_add]
  omega
theorem scan_inc2 (s : List Signed) {ρ : Type} (r r0 : ρ) : ∀ (k i : Nat), i + k = s.length → (∀ j, j + 1 < i → sless (s.getD j zSg).1 (s.getD (j + 1) zSg).1 = true) →
  scan (fun i => if 0 < i ∧ sless (s.getD (i - 1) zSg).1 (s.getD i zSg).1 = false then some r else none) r0 i k = if incS s = true then r0 else r
 | 0, i, h, hj => by
  have hl : (nmsS s).length = s.length := by simp [nmsS]
  have : incS s = true := List.all_eq_true.2 fun j hj' => by
   have hj' : j < (nmsS s).length - 1 := by simpa using hj'
   rw [← nms_at, ← nms_at]
   exact hj j (by omega)
  rw [if_pos this]; rfl
 | k + 1, i, h, hj => by
  have hl : (nmsS s).length = s.length := by simp [nmsS]
  rw [scan]
  by_cases e : 0 < i ∧ sless (s.getD (i - 1) zSg).1 (s.getD i zSg).1 = false
  ·rw [if_pos e]
   have : ¬ incS s = true := fun hall => by
    have := List.all_eq_true.1 hall (i - 1) (by simp; omega)
    rw [← nms_at, ← nms_at, show i - 1 + 1 = i from by omega, e.2] at this
    cases this
   rw [if_neg this]
  ·rw [if_neg e]
   exact scan_inc2 s r r0 k (i + 1) (by omega) fun j hj' => by
    rcases (show j + 1 < i ∨ j + 1 = i by omega) with h1 | rfl
    ·exact hj j h1
    ·cases hh : sless (s.getD j zSg).1 (s.getD (j + 1) zSg).1 with
     | true => rfl
     | false => exact absurd ⟨by omega, by rw [show j + 1 - 1 = j from rfl]; exact hh⟩ e
abbrev S1 := List Val × List Signed × Int × Hdr × List UInt8
theorem sig1_step (set : List Val) (s t : List Signed) (z n i : Int) (h : Hdr) (d : List UInt8) : affiantref10_Signers_1_step set s z t n i h d = (fork (decide (i < n)) (need (0 ≤ i ∧ i < (t.length : Int)) (fork (decide ((0 : Int) < i)) (need (0 ≤ (w64 (i - (1 : Int))) ∧ (w64 (i - (1 : Int))) < (s.length : Int)) (fork (!sless (s.getD (Int.toNat (w64 (i - (1 : Int)))) zSg).1 (t.getD (Int.toNat i) zSg).1) (some (.inr (.inl (0 : Int)))) (some (.inl (w64 (i + (1 : Int))))))) (some (.inl (w64 (i + (1 : Int))))))) (some (.inr (.inr (set, s, z, h, d)))) : Option (Int ⊕ (Int ⊕ S1))) := rfl
theorem signers1 (set : List Val) (s : List Signed) (hs : s.length ≤ 1000000) (h : Hdr) (d : List UInt8) : affiantref10_Signers_1 set s 0 s (s.length : Int) 0 h d = some (if incS s = true then .inr (set, s, 0, h, d) else .inl 0) := by
 rw [← scan_inc2 s (.inl 0 : Int ⊕ S1) (.inr (set, s, 0, h, d)) s.length 0 (by omega) (fun j hj => by omega)]
 unfold affiantref10_Signers_1
 refine loop_scan (step := fun (x : Int) => affiantref10_Signers_1_step set s 0 s (s.length : Int) x h d) (fun i => (i : Int)) _ _ s.length (fun i hi hb => ?_) (fun i r hi hb => ?_) ?_ s.length 0 (by omega)
 ·rw [sig1_step, fork_t (by omega), need_true (by omega)]
  by_cases h0 : 0 < i
  ·rw [fork_t (by omega), w64_eq (n := (i : Int) - 1) (by omega) (by omega), need_true (by omega), show Int.toNat ((i : Int) - 1) = i - 1 from by omega, Int.toNat_natCast, w64_eq (by omega) (by omega)]
   cases e : sless (s.getD (i - 1) zSg).1 (s.getD i zSg).1 with
   | true => rfl
   | false => rw [if_pos ⟨h0, e⟩] at hb; cases hb
  ·rw [fork_f (by omega), w64_eq (by omega) (by omega)]; rfl
 ·rw [sig1_step, fork_t (by omega), need_true (by omega)]
  by_cases e : 0 < i ∧ sless (s.getD (i - 1) zSg).1 (s.getD i zSg).1 = false
  ·rw [if_pos e] at hb
   injection hb with hb; subst hb
   rw [fork_t (by omega), w64_eq (n := (i : Int) - 1) (by omega) (by omega), need_true (by omega), show Int.toNat ((i : Int) - 1) = i - 1 from by omega, Int.toNat_natCast, e.2]
   rfl
  ·rw [if_neg e] at hb; cases hb
 ·rw [sig1_step, fork_f (by omega)]
abbrev S2 := List Val × Int × List Signed × Int × Int × Hdr × List UInt8
theorem sig2_step (set : List Val) (acc : Int) (s : List Signed) (x3 x4 : Int) (l : List Val) (n i : Int) (h : Hdr) (d : List UInt8) (x : Signed) : affiantref10_Signers_2_step set acc s x3 x4 l n i h d x = (fork (decide (i < n)) (need (0 ≤ i ∧ i < (l.length : Int)) (fork (decide ((l.getD (Int.toNat i) zVal).1 = x.1)) (andThen (affiantref1_Verify ((l.getD (Int.toNat i) zVal).2.2.1) h.1 d x.2.1) (fun u20 => fork u20 (some (.inl ((w64 (acc + (l.getD (Int.toNat i) zVal).2.1)), (w64 (i + (1 : Int)))))) (some (.inl (acc, (w64 (i + (1 : Int)))))))) (some (.inl (acc, (w64 (i + (1 : Int)))))))) (some (.inr (set, acc, s, x3, x4, h, d))) : Option ((Int × Int) ⊕ S2)) := rfl
theorem signers2 (set : List Val) (hset : SmallV set) (acc : Int) (ha : 0 ≤ acc ∧ acc ≤ 1000000000000000) (s : List Signed) (x3 x4 : Int) (h : Hdr) (d : List UInt8) (hd : d.length ≤ 100000) (x : Signed) (hx : SigOk x.2.1) :
  affiantref10_Signers_2 set acc s x3 x4 set (set.length : Int) 0 h d x = some (set, acc + hitS set h.1 d x, s, x3, x4, h, d) := by
 have hl := hset.1
 unfold affiantref10_Signers_2
 have := loop_for (step := fun (t : Int × Int) => affiantref10_Signers_2_step set t.1 s x3 x4 set (set.length : Int) t.2 h d x) (fun i (_ : Unit) => (acc + hitS (set.take i) h.1 d x, (i : Int))) (fun _ _ => ()) (fun _ => (set, acc + hitS set h.1 d x, s, x3, x4, h, d)) set.length (fun _ _ => True) (fun i w hi _ => ⟨?_, trivial⟩) (fun w _ => ?_) set.length 0 () (by omega) trivial
 ·rw [show ((acc, (0 : Int)) : Int × Int) = (acc + hitS (set.take 0) h.1 d x, ((0 : Nat) : Int)) from by rw [List.take_zero]; simp [hitS, pow_nil]]
  exact this
 ·show affiantref10_Signers_2_step set (acc + hitS (set.take i) h.1 d x) s x3 x4 set (set.length : Int) (i : Int) h d x = _
  have b := pow_bound (fun v => decide (v.1 = x.1) && verS v.2.2.1 h.1 d x.2.1) (set.take i) fun v hv => hset.2 v (List.mem_of_mem_take hv)
  have hm := hset.2 _ (getD_mem (z := zVal) hi)
  have t := pow_take (fun v => decide (v.1 = x.1) && verS v.2.2.1 h.1 d x.2.1) set hi
  rw [List.length_take] at b
  rw [sig2_step, fork_t (by omega), need_true (by omega), Int.toNat_natCast, w64_eq (n := (i : Int) + 1) (by omega) (by omega)]
  unfold hitS
  rw [t]
  by_cases e : (set.getD i zVal).1 = x.1
  ·rw [fork_t e, rVer_eq _ _ d hd _ hx, andThen_mk, decide_eq_true e, Bool.true_and]
   cases verS (set.getD i zVal).2.2.1 h.1 d x.2.1 with
   | true => rw [fork_tt, if_pos rfl, w64_eq (by omega) (by omega), Int.add_assoc]; rfl
   | false => rw [fork_ff, if_neg (by simp), Int.add_zero]; rfl
  ·rw [fork_f e, decide_eq_false e, Bool.false_and, if_neg (by simp), Int.add_zero]; rfl
 ·show affiantref10_Signers_2_step set (acc + hitS (set.take set.length) h.1 d x) s x3 x4 set (set.length : Int) (set.length : Int) h d x = _
  rw [sig2_step, fork_f (by omega), List.take_of_length_le (Nat.le_refl _)]
theorem sig3_step (set : List Val) (acc : Int) (s : List Signed) (n i : Int) (h : Hdr) (d : List UInt8) : affiantref10_Signers_3_step set acc s n i h d = (fork (decide (i < n)) (need (0 ≤ i ∧ i < (s.length : Int)) (andThen (affiantref10_Signers_2 set acc s n i set (set.length : Int) (0 : Int) h d (s.getD (Int.toNat i) zSg)) (fun o23 => some (.inl (o23.1, o23.2.1, o23.2.2.1, o23.2.2.2.1, (w64 (o23.2.2.2.2.1 + (1 : Int))), o23.2.2.2.2.2.1, o23.2.2.2.2.2.2))))) (some (.inr acc)) : Option (S2 ⊕ Int)) := rfl
theorem signers_eq (set : List Val) (hset : SmallV set) (h : Hdr) (hh : Hashes h) (hr : rightHS h = true) (s : List Signed) (hl : s.length ≤ 1000) (hs : SgOk s) :
  affiantref10_Signers set h s = some (if incS s = true then (s.map (hitS set h.1 (textS h))).sum else 0) := by
 have ht : affiantref10_HeaderHash h = some (textS h) := by
  rw [rheadHash_eq h hh]
  unfold textS bytesS
  rw [if_pos hr]
 unfold affiantref10_Signers
 rw [ht, andThen_mk, signers1 set s (by omega), andThen_mk]
 cases hi : incS s with
 | false => rfl
 | true =>
  have hb := sum_b (hitS set h.1 (textS h)) 2097152000 (fun x => hit_b set hset h.1 (textS h) x)
  have main : affiantref10_Signers_3 set 0 s (s.length : Int) 0 h (textS h) = some ((s.map (hitS set h.1 (textS h))).sum) := by
   unfold affiantref10_Signers_3
   have := loop_for (step := fun (t : S2) => affiantref10_Signers_3_step t.1 t.2.1 t.2.2.1 t.2.2.2.1 t.2.2.2.2.1 t.2.2.2.2.2.1 t.2.2.2.2.2.2) (fun i (_ : Unit) => (set, ((s.take i).map (hitS set h.1 (textS h))).sum, s, (s.length : Int), (i : Int), h, textS h)) (fun _ _ => ()) (fun _ => (s.map (hitS set h.1 (textS h))).sum) s.length (fun _ _ => True) (fun i w hi _ => ⟨?_, trivial⟩) (fun w _ => ?_) s.length 0 () (by omega) trivial
   ·exact this
   ·show affiantref10_Signers_3_step set ((s.take i).map (hitS set h.1 (textS h))).sum s (s.length : Int) (i : Int) h (textS h) = _
    have b := hb (s.take i)
    rw [List.length_take] at b
    rw [sig3_step, fork_t (by omega), need_true (by omega), Int.toNat_natCast, signers2 set hset _ (by omega) s _ _ h _ (by rw [textS_len]; omega) _ (sg_at hs i), andThen_mk]
    simp only
    rw [w64_eq (by omega) (by omega), sum_take _ s zSg hi]
    rfl
   ·show affiantref10_Signers_3_step set ((s.take s.length).map (hitS set h.1 (textS h))).sum s (s.length : Int) (s.length : Int) h (textS h) = _
    rw [sig3_step, fork_f (by omega), List.take_of_length_le (Nat.le_refl _)]
  show andThen (affiantref10_Signers_3 set 0 s (s.length : Int) 0 h (textS h)) _ = _
  rw [main]
  rfl
theorem part_hits (set : List Val) (hd : Dist set) (h : Hdr) : ∀ (s : List Signed), (nmsS s).Nodup → pow (fun v => (namesF set h.1 (textS h) s).contains v.1) set = (s.map (hitS set h.1 (textS h))).sum
 | [], _ => by rw [pow_none (fun v _ => by simp [namesF])]; rfl
 | x :: s, hn => by
  obtain ⟨h1, h2⟩ := List.nodup_cons.1 (show (x.1 :: nmsS s).Nodup from hn)
  rw [List.map_cons, List.sum_cons, ← part_hits set hd h s h2]
  have sub : ∀ n, n ∈ namesF set h.1 (textS h) s → n ∈ nmsS s := fun n hm => by
   unfold namesF at hm
   obtain ⟨y, hy, rfl⟩ := List.mem_map.1 hm
   exact List.mem_map_of_mem (List.mem_filter.1 hy).1
  by_cases hg : goodS set h.1 (textS h) x = true
  ·have e : namesF set h.1 (textS h) (x :: s) = x.1 :: namesF set h.1 (textS h) s := by unfold namesF; rw [List.filter_cons_of_pos hg]; rfl
   have hp : hitS set h.1 (textS h) x = pow (fun v => decide (v.1 = x.1)) set := by
    refine pow_congr fun v hv => ?_
    by_cases c : v.1 = x.1
    ·have hf := find_in hd hv
     unfold goodS at hg
     rw [← c, hf, Bool.true_and] at hg
     rw [decide_eq_true c, hg]; rfl
    ·rw [decide_eq_false c]; rfl
   rw [e, hp, ← pow_or]
   ·refine pow_congr fun v _ => ?_
    rw [Bool.eq_iff_iff]
    simp
   ·intro v _ hv
    simp only [decide_eq_true_eq] at hv
    rw [hv]
    rw [← Bool.not_eq_true]
    intro hc
    exact h1 (sub _ (by simpa using hc))
  ·have e : namesF set h.1 (textS h) (x :: s) = namesF set h.1 (textS h) s := by unfold namesF; rw [List.filter_cons_of_neg hg]
   have hp : hitS set h.1 (textS h) x = 0 := by
    refine pow_none fun v hv => ?_
    by_cases c : v.1 = x.1
    ·have hf := find_in hd hv
     unfold goodS at hg
     rw [← c, hf, Bool.true_and] at hg
     rw [Bool.not_eq_true] at hg
     rw [hg, Bool.and_false]
    ·rw [decide_eq_false c]; rfl
   rw [e, hp, Int.zero_add]
theorem signers_part (set : List Val) (hset : SmallV set) (hd : Dist set) (h : Hdr) (hh : Hashes h) (hr : rightHS h = true) (s : List Signed) (hl : s.length ≤ 5) (hs : SgOk s) :
  affiantref10_Signers set h s = some (partS set h s) := by
 rw [signers_eq set hset h hh hr s (by omega) hs]
 unfold partS namesS rightSg
 rw [decide_eq_true hl, Bool.and_true]
 cases hi : incS s with
 | true => rw [if_pos rfl, if_pos rfl, part_hits set hd h s (incN_nodup hi)]
 | false => rw [if_neg (by simp), if_neg (by simp), pow_none (fun v _ => by simp)]
theorem rtotal_eq (set : List Val) (hset : SmallV set) : affiantref10_Total set = some (allS set) := total_eq set hset
theorem rover_eq (a b n d : Int) (h1 : 0 ≤ a ∧ a ≤ 4294967296) (h2 : 0 ≤ b ∧ b ≤ 4294967296) (hn : 0 ≤ n ∧ n ≤ 1000) (hd : 0 ≤ d ∧ d ≤ 1000) : affiantref10_Over a b n d = some (decide (b * n < a * d)) := over_eq (a, b) n d h1 h2 hn hd
end Go.Ax.V
