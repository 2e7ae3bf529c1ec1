/-
  Signatures under a header: what the functions of seal compute.
-/
import Derived.Test.YtcfaippbnmmelaaGreatCLightSkipsLPow
import Derived.Test.YtcfaippbnmmelaaGreatCLightSkipsLRRing
import Derived.Test.YtcfaippbnmmelaaGreatCLightSkipsLRHead
namespace Go.Ax.V
open Go.Ax
set_option linter.unusedVariables false
set_option linter.unusedSimpArgs false
abbrev Signed := List UInt8 × Sig × Unit
def zSg : Signed := (([] : List UInt8), ((0 : Int), (([] : List (List UInt8)), ([] : List (List UInt8)), ()), ([] : List (List UInt8)), ()), ())
def nmsS (s : List Signed) : List (List UInt8) := s.map (·.1)
theorem nms_at (s : List Signed) (i : Nat) : (s.getD i zSg).1 = (nmsS s).getD i [] := by
 unfold nmsS
 rw [List.getD_eq_getElem?_getD, List.getD_eq_getElem?_getD, List.getElem?_map]
 cases s[i]? <;> rfl
def incS (s : List Signed) : Bool := incN (nmsS s)
def rightSg (s : List Signed) : Bool := incS s && decide (s.length ≤ 5)
theorem right1_step (s : List Signed) (i : Int) : q2i_1_step s i = (fork (decide (i < (s.length : Int))) (need (0 ≤ (w64 (i - 1)) ∧ (w64 (i - 1)) < (s.length : Int)) (need (0 ≤ i ∧ i < (s.length : Int)) (fork (!sless (s.getD (Int.toNat (w64 (i - 1))) zSg).1 (s.getD (Int.toNat i) zSg).1) (some (.inr (.inl false))) (some (.inl (w64 (i + 1))))))) (some (.inr (.inr s))) : Option (Int ⊕ (Bool ⊕ List Signed))) := rfl
theorem scan_inc (s : List Signed) {ρ : Type} (r r0 : ρ) : ∀ (k i : Nat), i + k = s.length - 1 → (∀ j, j < i → sless (s.getD j zSg).1 (s.getD (j + 1) zSg).1 = true) →
  scan (fun i => if sless (s.getD i zSg).1 (s.getD (i + 1) zSg).1 = true then none else some r) r0 i k = if incS s = true then r0 else r
 | 0, i, h, hj => by
  have : incS s = true := List.all_eq_true.2 fun j hj' => by
   have hj' : j < (nmsS s).length - 1 := by simpa using hj'
   have hl : (nmsS s).length = s.length := by simp [nmsS]
   rw [← nms_at, ← nms_at]
   exact hj j (by omega)
  rw [if_pos this]; rfl
 | k + 1, i, h, hj => by
  rw [scan]
  by_cases e : sless (s.getD i zSg).1 (s.getD (i + 1) zSg).1 = true
  ·rw [if_pos e]
   exact scan_inc s r r0 k (i + 1) (by omega) fun j hj' => by
    rcases (show j < i ∨ j = i by omega) with h1 | rfl
    ·exact hj j h1
    ·exact e
  ·rw [if_neg e]
   have hl : (nmsS s).length = s.length := by simp [nmsS]
   have : ¬ incS s = true := fun hall => e (by
    have := List.all_eq_true.1 hall i (by simp; omega)
    rwa [← nms_at, ← nms_at] at this)
   rw [if_neg this]
theorem sealRight_eq (s : List Signed) (hs : s.length ≤ 1073741824) : q2i s = some (rightSg s) := by
 have h : q2i_1 s 1 = some (scan (fun i => if sless (s.getD i zSg).1 (s.getD (i + 1) zSg).1 = true then none else some (.inl false)) (.inr s) 0 (s.length - 1)) := by
  unfold q2i_1
  refine loop_scan (step := fun (x : Int) => q2i_1_step s x) (fun i => ((i + 1 : Nat) : Int)) _ _ (s.length - 1) (fun i hi h => ?_) (fun i r hi h => ?_) ?_ (s.length - 1) 0 (by omega)
  ·rw [right1_step, fork_t (by omega), w64_eq (n := ((i + 1 : Nat) : Int) - 1) (by omega) (by omega), need_true (by omega), need_true (by omega), show Int.toNat (((i + 1 : Nat) : Int) - 1) = i from by omega, Int.toNat_natCast]
   by_cases e : sless (s.getD i zSg).1 (s.getD (i + 1) zSg).1 = true
   ·rw [e, w64_eq (by omega) (by omega)]; rfl
   ·rw [if_neg e] at h; cases h
  ·rw [right1_step, fork_t (by omega), w64_eq (n := ((i + 1 : Nat) : Int) - 1) (by omega) (by omega), need_true (by omega), need_true (by omega), show Int.toNat (((i + 1 : Nat) : Int) - 1) = i from by omega, Int.toNat_natCast]
   by_cases e : sless (s.getD i zSg).1 (s.getD (i + 1) zSg).1 = true
   ·rw [if_pos e] at h; cases h
   ·rw [if_neg e] at h; injection h with h; subst h
    rw [Bool.not_eq_true] at e
    rw [e]; rfl
  ·rw [right1_step, fork_f (by omega)]
 unfold q2i rightSg
 rw [h, andThen_mk, scan_inc s _ _ (s.length - 1) 0 (by omega) (fun j hj => by omega)]
 cases incS s with
 | true =>
  show some (decide ((s.length : Int) ≤ 5)) = some (true && decide (s.length ≤ 5))
  rw [Bool.true_and]
  congr 1
  exact decide_eq_decide.2 (by omega)
 | false => rfl
def textS (h : Hdr) : List UInt8 := sha (72 :: bytesS h)
theorem textS_len (h : Hdr) : (textS h).length = 32 := sha_len _
theorem text_eq (h : Hdr) (hh : Hashes h) : q34 h = some (textS h) := by
 unfold q34
 rw [headHash_eq h hh]
 rfl
noncomputable def sgS (h : Hdr) (n seed : List UInt8) : Signed := (n, sigS seed h.1 (textS h), ())
def SgOk (s : List Signed) : Prop := ∀ x ∈ s, SigOk x.2.1
theorem sg_at {s : List Signed} (h : SgOk s) (i : Nat) : SigOk (s.getD i zSg).2.1 := by
 rw [List.getD_eq_getElem?_getD]
 cases e : s[i]? with
 | none => exact noSig_ok
 | some x => exact h x (List.mem_of_getElem? e)
def goodS (set : List Val) (h : Int) (d : List UInt8) (x : Signed) : Bool := (findS set x.1).2 && verS (findS set x.1).1.2.2.1 h d x.2.1
def namesF (set : List Val) (h : Int) (d : List UInt8) (s : List Signed) : List (List UInt8) := (s.filter (goodS set h d)).map (·.1)
def namesS (set : List Val) (h : Hdr) (s : List Signed) : List (List UInt8) := if rightSg s then namesF set h.1 (textS h) s else []
theorem namesF_len (set : List Val) (h : Int) (d : List UInt8) (s : List Signed) : (namesF set h d s).length ≤ s.length := by
 unfold namesF
 rw [List.length_map]
 exact List.length_filter_le _ _
theorem namesF_take (set : List Val) (h : Int) (d : List UInt8) (s : List Signed) {i : Nat} (hi : i < s.length) : namesF set h d (s.take (i + 1)) = namesF set h d (s.take i) ++ (if goodS set h d (s.getD i zSg) then [(s.getD i zSg).1] else []) := by
 unfold namesF
 rw [List.take_add_one, List.getElem?_eq_getElem hi, List.getD_eq_getElem?_getD, List.getElem?_eq_getElem hi]
 simp only [Option.toList_some, Option.getD_some, List.filter_append, List.map_append]
 by_cases hg : goodS set h d s[i]
 ·rw [List.filter_cons_of_pos hg, if_pos hg]; rfl
 ·rw [List.filter_cons_of_neg hg, if_neg hg]; rfl
theorem names1_step (set : List Val) (s : List Signed) (n i : Int) (h : Hdr) (o : List (List UInt8)) (d : List UInt8) : q2p_1_step set s n i h o d = (fork (decide (i < n)) (need (0 ≤ i ∧ i < (s.length : Int)) (andThen (q30 set (s.getD (Int.toNat i) zSg).1) (fun u9 => fork u9.2 (andThen (q29 u9.1.2.2.1 h.1 d (s.getD (Int.toNat i) zSg).2.1) (fun u12 => fork u12 (need (o.length + ([(s.getD (Int.toNat i) zSg).1] : List (List UInt8)).length ≤ 2147483648) (some (.inl ((w64 (i + 1)), o ++ ([(s.getD (Int.toNat i) zSg).1] : List (List UInt8)))))) (some (.inl ((w64 (i + 1)), o))))) (some (.inl ((w64 (i + 1)), o)))))) (some (.inr o)) : Option ((Int × List (List UInt8)) ⊕ (List (List UInt8)))) := rfl
theorem names_eq (set : List Val) (hset : set.length ≤ 1073741824) (h : Hdr) (hh : Hashes h) (s : List Signed) (hl : s.length ≤ 1073741824) (hs : SgOk s) : q2p set h s = some (namesS set h s) := by
 unfold q2p namesS
 rw [sealRight_eq s hl, andThen_mk]
 cases hr : rightSg s with
 | false => rfl
 | true =>
  have main : ∀ d : List UInt8, d.length ≤ 100000 → q2p_1 set s (s.length : Int) 0 h [] d = some (namesF set h.1 d s) := by
   intro d hd
   unfold q2p_1
   have := loop_for (step := fun (x : Int × List (List UInt8)) => q2p_1_step set s (s.length : Int) x.1 h x.2 d) (fun i (_ : Unit) => ((i : Int), namesF set h.1 d (s.take i))) (fun _ _ => ()) (fun _ => namesF set h.1 d s) s.length (fun _ _ => True) (fun i w hi _ => ⟨?_, trivial⟩) (fun w _ => ?_) s.length 0 () (by omega) trivial
   ·exact this
   ·show q2p_1_step set s (s.length : Int) (i : Int) h (namesF set h.1 d (s.take i)) d = _
    have b := namesF_len set h.1 d (s.take i)
    rw [List.length_take] at b
    have t := namesF_take set h.1 d s hi
    rw [names1_step, fork_t (by omega), need_true (by omega), Int.toNat_natCast, find_eq set hset, andThen_mk, t, w64_eq (by omega) (by omega)]
    unfold goodS
    cases hf : (findS set (s.getD i zSg).1).2 with
    | false => rw [fork_ff, Bool.false_and, if_neg (by simp), List.append_nil]; rfl
    | true =>
     rw [fork_tt, Bool.true_and, Ver_eq _ _ d hd _ (sg_at hs i), andThen_mk]
     cases hv : verS (findS set (s.getD i zSg).1).1.2.2.1 h.1 d (s.getD i zSg).2.1 with
     | false => rw [fork_ff, if_neg (by simp), List.append_nil]; rfl
     | true => rw [fork_tt, need_true (by simp; omega), if_pos rfl]; rfl
   ·show q2p_1_step set s (s.length : Int) (s.length : Int) h (namesF set h.1 d (s.take s.length)) d = _
    rw [names1_step, fork_f (by omega), List.take_of_length_le (Nat.le_refl _)]
  rw [show (!true) = false from rfl, fork_ff, text_eq h hh, andThen_mk, main _ (by rw [textS_len]; omega), if_pos rfl]
  rfl
theorem namesS_len (set : List Val) (h : Hdr) (s : List Signed) : (namesS set h s).length ≤ s.length := by
 unfold namesS
 split
 ·exact namesF_len _ _ _ _
 ·simp
def partS (set : List Val) (h : Hdr) (s : List Signed) : Int := pow (fun v => (namesS set h s).contains v.1) set
def allS (set : List Val) : Int := pow (fun _ => true) set
theorem part_b (set : List Val) (hset : SmallV set) (h : Hdr) (s : List Signed) : 0 ≤ partS set h s ∧ partS set h s ≤ 4294967296 := by
 have := pow_bound (fun v => (namesS set h s).contains v.1) set hset.2
 have := hset.1
 unfold partS
 omega
theorem all_b (set : List Val) (hset : SmallV set) : 0 ≤ allS set ∧ allS set ≤ 4294967296 := by
 have := pow_bound (fun _ => true) set hset.2
 have := hset.1
 unfold allS
 omega
theorem sealTally_eq (set : List Val) (hset : SmallV set) (h : Hdr) (hh : Hashes h) (s : List Signed) (hl : s.length ≤ 1000000) (hs : SgOk s) : q2d set h s = some (partS set h s, allS set) := by
 have := namesS_len set h s
 unfold q2d
 rw [names_eq set (by have := hset.1; omega) h hh s (by omega) hs, andThen_mk, tally_eq set hset _ (by omega)]
 rfl
theorem enough_eq (set : List Val) (hset : SmallV set) (h : Hdr) (hh : Hashes h) (s : List Signed) (hl : s.length ≤ 1000000) (hs : SgOk s) : q2b set h s = some (decide (allS set * 2 < partS set h s * 3)) := by
 unfold q2b
 rw [sealTally_eq set hset h hh s hl hs, andThen_mk, over_eq _ 2 3 (part_b set hset h s) (all_b set hset) (by omega) (by omega)]
 rfl
theorem some_eq (set : List Val) (hset : SmallV set) (h : Hdr) (hh : Hashes h) (s : List Signed) (hl : s.length ≤ 1000000) (hs : SgOk s) : q31 set h s = some (decide (allS set * 1 < partS set h s * 3)) := by
 unfold q31
 rw [sealTally_eq set hset h hh s hl hs, andThen_mk, over_eq _ 1 3 (part_b set hset h s) (all_b set hset) (by omega) (by omega)]
 rfl
end Go.Ax.V
