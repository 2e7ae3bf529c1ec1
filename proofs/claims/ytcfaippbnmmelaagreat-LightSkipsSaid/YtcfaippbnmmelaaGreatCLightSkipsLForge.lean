/-
  A block that is forged: another root, signed anew by some.
-/
import Derived.Test.YtcfaippbnmmelaaGreatCLightSkipsLLightB
namespace Go.Ax.V
open Go.Ax
set_option linter.unusedVariables false
set_option linter.unusedSimpArgs false
noncomputable def wi (w : Int) : Int := (q17 w 0 4).getD 0
theorem wi_eq (w : Int) : q17 w 0 4 = some (wi w) ∧ 0 ≤ wi w ∧ wi w ≤ 4 := by
 obtain ⟨r, e, a, b⟩ := within_eq w 0 4 (by omega) (by omega) (by omega)
 unfold wi
 rw [e]
 exact ⟨rfl, a, b⟩
noncomputable def hitW (who : List Int) (i : Nat) : Bool := who.any fun w => decide (wi w = (i : Int))
noncomputable def reSig (h : Hdr) (x : List UInt8) (i : Nat) (s : Signed) : Signed := (s.1, sigS (seedK i) h.1 x, ())
noncomputable def forgeI (h : Hdr) (x : List UInt8) (i : Nat) (s : List Signed) (b : Bool) : List Signed := if b = true then List.set s i (reSig h x i (s.getD i zSg)) else s
theorem forgeI_len (h : Hdr) (x : List UInt8) (i : Nat) (s : List Signed) (b : Bool) : (forgeI h x i s b).length = s.length := by unfold forgeI; split <;> simp
theorem f1_step (x0 : List Int) (x1 x2 x3 : Int) (x4 : List Int) (x5 x6 : Int) (x7 : Hdr) (x8 : Unit) (x9 : Hdr) (x10 : List Val × List Val × Unit) (x11 : List Signed) (x12 : List UInt8) : q1a_1_step x0 x1 x2 x3 x4 x5 x6 x7 x8 x9 x10 x11 x12 =
  (fork (decide (x6 < x5)) (need (0 ≤ x6 ∧ x6 < (List.length x4 : Int)) (andThen (q17 (List.getD x4 (Int.toNat x6) (0 : Int)) (0 : Int) (4 : Int)) (fun u12 => fork (decide (u12 = x1)) (andThen (q1v x1) (fun u15 => andThen (q1d u15 x9.1 x12) (fun u17 => need (0 ≤ x1 ∧ x1 < (List.length x11 : Int)) (some (.inl ((w64 (x6 + (1 : Int))), (List.set x11 (Int.toNat x1) ((List.getD x11 (Int.toNat x1) zSg).1, u17, ())))))))) (some (.inl ((w64 (x6 + (1 : Int))), x11)))))) (some (.inr (x0, x2, x3, x7, x8, x9, x10, x11, x12))) : Option ((Int × List Signed) ⊕ (List Int × Int × Int × Hdr × Unit × Hdr × (List Val × List Val × Unit) × List Signed × List UInt8))) := rfl
theorem forged_1 (who : List Int) (hw : who.length ≤ 1152921504606846976) (i : Nat) (x2 x3 : Int) (x7 : Hdr) (h : Hdr) (h1 : 1 ≤ h.1) (h2 : h.1 ≤ 16) (x10 : List Val × List Val × Unit) (s : List Signed) (hi : i < s.length) (hs : s.length ≤ 1000000) (x : List UInt8) (hx : x.length ≤ 1000) :
  q1a_1 who (i : Int) x2 x3 who (who.length : Int) 0 x7 () h x10 s x = some (who, x2, x3, x7, (), h, x10, forgeI h x i s (hitW who i), x) := by
 unfold q1a_1
 have := loop_for (step := fun (t : Int × List Signed) => q1a_1_step who (i : Int) x2 x3 who (who.length : Int) t.1 x7 () h x10 t.2 x) (fun m (_ : Unit) => ((m : Int), forgeI h x i s (hitW (who.take m) i))) (fun _ _ => ()) (fun _ => (who, x2, x3, x7, (), h, x10, forgeI h x i s (hitW who i), x)) who.length (fun _ _ => True) (fun m w hm _ => ⟨?_, trivial⟩) (fun w _ => ?_) who.length 0 () (by omega) trivial
 ·exact this
 ·show q1a_1_step who (i : Int) x2 x3 who (who.length : Int) (m : Int) x7 () h x10 (forgeI h x i s (hitW (who.take m) i)) x = _
  obtain ⟨e, a, b⟩ := wi_eq (who.getD m 0)
  have hl := forgeI_len h x i s (hitW (who.take m) i)
  have ht : who.take (m + 1) = who.take m ++ [who.getD m 0] := by
   rw [List.take_add_one, List.getD_eq_getElem?_getD, List.getElem?_eq_getElem hm]; rfl
  have hn : hitW (who.take (m + 1)) i = (hitW (who.take m) i || decide (wi (who.getD m 0) = (i : Int))) := by
   unfold hitW; rw [ht, List.any_append]; simp
  rw [f1_step, fork_t (by omega), need_true (by omega), Int.toNat_natCast, e, andThen_mk, w64_eq (by omega) (by omega), hn]
  by_cases c : wi (who.getD m 0) = (i : Int)
  ·rw [fork_t c, keepSeed_eq, andThen_mk, rSealed_eq _ _ (seedK_len i) _ h1 h2 (by omega), andThen_mk, need_true (by omega), Int.toNat_natCast, decide_eq_true c, Bool.or_true]
   have : List.set (forgeI h x i s (hitW (who.take m) i)) i (((forgeI h x i s (hitW (who.take m) i)).getD i zSg).1, sigS (seedK i) h.1 x, ()) = forgeI h x i s true := by
    cases hitW (who.take m) i
    ·rfl
    ·show List.set (List.set s i _) i (((List.set s i (reSig h x i (s.getD i zSg))).getD i zSg).1, _, ()) = List.set s i _
     rw [List.set_set, List.getD_eq_getElem?_getD, List.getElem?_set]
     simp only [hi, if_true, Option.getD_some]
     rfl
   rw [this]
   rfl
  ·rw [fork_f c, decide_eq_false c, Bool.or_false]
   rfl
 ·show q1a_1_step who (i : Int) x2 x3 who (who.length : Int) (who.length : Int) x7 () h x10 (forgeI h x i s (hitW (who.take who.length) i)) x = _
  rw [f1_step, fork_f (by omega), List.take_of_length_le (Nat.le_refl _)]
noncomputable def forgeK (h : Hdr) (x : List UInt8) (who : List Int) (s : List Signed) (k : Nat) : List Signed := (List.range s.length).map fun i => if i < k ∧ hitW who i = true then reSig h x i (s.getD i zSg) else s.getD i zSg
noncomputable def forgeS (h : Hdr) (x : List UInt8) (who : List Int) (s : List Signed) : List Signed := (List.range s.length).map fun i => if hitW who i = true then reSig h x i (s.getD i zSg) else s.getD i zSg
theorem forgeK_len (h : Hdr) (x : List UInt8) (who : List Int) (s : List Signed) (k : Nat) : (forgeK h x who s k).length = s.length := by simp [forgeK]
theorem forgeK_0 (h : Hdr) (x : List UInt8) (who : List Int) (s : List Signed) : forgeK h x who s 0 = s := by
 apply List.ext_getElem
 ·simp [forgeK]
 ·intro i h1 h2
  simp only [forgeK, List.getElem_map, List.getElem_range, Nat.not_lt_zero, false_and, if_false]
  rw [List.getD_eq_getElem?_getD, List.getElem?_eq_getElem h2]; rfl
theorem forgeK_all (h : Hdr) (x : List UInt8) (who : List Int) (s : List Signed) : forgeK h x who s s.length = forgeS h x who s := by
 unfold forgeK forgeS
 apply List.map_congr_left
 intro i hi
 have hi := List.mem_range.1 hi
 by_cases c : hitW who i = true
 ·rw [if_pos ⟨hi, c⟩, if_pos c]
 ·rw [if_neg (fun h => c h.2), if_neg c]
theorem forgeK_next (h : Hdr) (x : List UInt8) (who : List Int) (s : List Signed) {k : Nat} (hk : k < s.length) : forgeI h x k (forgeK h x who s k) (hitW who k) = forgeK h x who s (k + 1) := by
 have hg : (forgeK h x who s k).getD k zSg = s.getD k zSg := by
  unfold forgeK
  rw [getD_rng _ _ hk, if_neg (by omega)]
 unfold forgeI
 rw [hg]
 have r : ∀ i h2, (forgeK h x who s (k + 1))[i]'h2 = if i < k + 1 ∧ hitW who i = true then reSig h x i (s.getD i zSg) else s.getD i zSg := by intro i h2; simp [forgeK]
 have l : ∀ i h3, (forgeK h x who s k)[i]'h3 = if i < k ∧ hitW who i = true then reSig h x i (s.getD i zSg) else s.getD i zSg := by intro i h3; simp [forgeK]
 have same : ∀ i, k ≠ i → (if i < k ∧ hitW who i = true then reSig h x i (s.getD i zSg) else s.getD i zSg) = if i < k + 1 ∧ hitW who i = true then reSig h x i (s.getD i zSg) else s.getD i zSg := by
  intro i e
  by_cases c2 : hitW who i = true
  ·by_cases c3 : i < k
   ·rw [if_pos ⟨c3, c2⟩, if_pos ⟨by omega, c2⟩]
   ·rw [if_neg (fun h => c3 h.1), if_neg (fun h => by omega)]
  ·rw [if_neg (fun h => c2 h.2), if_neg (fun h => c2 h.2)]
 by_cases c : hitW who k = true
 ·rw [if_pos c]
  apply List.ext_getElem
  ·simp [forgeK]
  ·intro i h1 h2
   rw [r, List.getElem_set]
   by_cases e : k = i
   ·subst e; rw [if_pos rfl, if_pos ⟨by omega, c⟩]
   ·rw [if_neg e, l, same i e]
 ·rw [if_neg c]
  apply List.ext_getElem
  ·simp [forgeK]
  ·intro i h1 h2
   rw [r, l]
   by_cases e : k = i
   ·subst e; rw [if_neg (by omega), if_neg (fun h => c h.2)]
   ·exact same i e
theorem forged_2 (who : List Int) (hw : who.length ≤ 1152921504606846976) (x7 : Hdr) (h : Hdr) (h1 : 1 ≤ h.1) (h2 : h.1 ≤ 16) (x10 : List Val × List Val × Unit) (s : List Signed) (hs : s.length ≤ 1000000) (x : List UInt8) (hx : x.length ≤ 1000) :
  q1a_2 who (s.length : Int) 0 x7 () h x10 s x = some (x7, (), h, x10, forgeS h x who s) := by
 unfold q1a_2
 have := loop_for (step := fun (t : List Int × Int × Int × Hdr × Unit × Hdr × (List Val × List Val × Unit) × List Signed × List UInt8) => q1a_2_step t.1 t.2.1 t.2.2.1 t.2.2.2.1 t.2.2.2.2.1 t.2.2.2.2.2.1 t.2.2.2.2.2.2.1 t.2.2.2.2.2.2.2.1 t.2.2.2.2.2.2.2.2) (fun k (_ : Unit) => (who, (s.length : Int), (k : Int), x7, (), h, x10, forgeK h x who s k, x)) (fun _ _ => ()) (fun _ => (x7, (), h, x10, forgeS h x who s)) s.length (fun _ _ => True) (fun k w hk _ => ⟨?_, trivial⟩) (fun w _ => ?_) s.length 0 () (by omega) trivial
 ·rw [forgeK_0] at this
  exact this
 ·show q1a_2_step who (s.length : Int) (k : Int) x7 () h x10 (forgeK h x who s k) x = _
  unfold q1a_2_step
  have hl := forgeK_len h x who s k
  rw [fork_t (by omega), forged_1 who hw k _ _ x7 h h1 h2 x10 _ (by omega) (by omega) x hx, andThen_mk, forgeK_next h x who s hk]
  simp only
  rw [w64_eq (by omega) (by omega)]
  rfl
 ·show q1a_2_step who (s.length : Int) (s.length : Int) x7 () h x10 (forgeK h x who s s.length) x = _
  unfold q1a_2_step
  rw [fork_f (by omega), forgeK_all]
def turnH (h : Hdr) (r : Nat) : Hdr := (h.1, h.2.1, List.set h.2.2.1 r ((h.2.2.1.getD r 0) ^^^ 1), h.2.2.2.1, h.2.2.2.2.1, h.2.2.2.2.2.1, ())
theorem turnH_hashes {h : Hdr} (hh : Hashes h) (r : Nat) : Hashes (turnH h r) := ⟨by unfold turnH; simp only [List.length_set]; exact hh.1, hh.2.1, hh.2.2.1, hh.2.2.2⟩
theorem xor1_ne (a : UInt8) : a ^^^ 1 ≠ a := by
 intro e
 have := congrArg (fun z => z ^^^ a) e
 simp only [UInt8.xor_self] at this
 rw [UInt8.xor_comm a 1, UInt8.xor_assoc, UInt8.xor_self] at this
 exact absurd this (by decide)
theorem turnH_ne {h : Hdr} (hh : Hashes h) {r : Nat} (hr : r < 32) : turnH h r ≠ h := by
 intro e
 have : (turnH h r).2.2.1 = h.2.2.1 := by rw [e]
 have h2 := congrArg (fun l => l.getD r 0) this
 unfold turnH at h2
 simp only at h2
 rw [List.getD_eq_getElem?_getD (l := List.set _ _ _), List.getElem?_set, if_pos rfl, if_pos (by rw [hh.1]; exact hr)] at h2
 exact xor1_ne _ h2
noncomputable def forgeB (b : Block) (who : List Int) (r : Nat) : Block := (turnH b.1 r, forgeS (turnH b.1 r) (sha (72 :: bodyS (turnH b.1 r))) who b.2.1, b.2.2.1, b.2.2.2.1, ())
theorem forged_eq (b : Block) (who : List Int) (hw : who.length ≤ 1152921504606846976) (how : Int) (hh : Hashes b.1) (h1 : 1 ≤ b.1.1) (h2 : b.1.1 ≤ 16) (hs : b.2.1.length ≤ 1000000) : ∃ r, r < 32 ∧ q1a b who how = some (forgeB b who r) := by
 obtain ⟨r, e, a, c⟩ := within_eq how 0 31 (by omega) (by omega) (by omega)
 refine ⟨r.toNat, by omega, ?_⟩
 unfold q1a
 have hth := turnH_hashes hh r.toNat
 rw [e, andThen_mk, need_true (by omega)]
 show andThen (qt (turnH b.1 r.toNat)) _ = _
 rw [rheadHash_eq _ hth, andThen_mk, need_true (by simp only [List.length_nil]; omega), List.nil_append]
 show andThen (q1a_2 who (b.2.1.length : Int) 0 _ () (turnH b.1 r.toNat) (b.2.2.1, b.2.2.2.1, ()) b.2.1 (sha (72 :: bodyS (turnH b.1 r.toNat)))) _ = _
 rw [forged_2 who hw _ (turnH b.1 r.toNat) h1 h2 _ _ hs _ (by rw [sha_len]; omega), andThen_mk]
 rfl
end Go.Ax.V
