/-
  What the functions of vals compute.
-/
import Derived.Test.YtcfaippbnmmelaaGreatCLightSkipsP
import Derived.Test.YtcfaippbnmmelaaGreatCLightSkipsLLp
namespace Go.Ax.V
open Go.Ax
set_option linter.unusedVariables false
set_option linter.unusedSimpArgs false
abbrev Val := List UInt8 × Int × List UInt8 × Unit
def zVal : Val := (([] : List UInt8), (0 : Int), (List.replicate 32 (0 : UInt8)), ())
theorem zVal_eq : ((([] : List UInt8), (0 : Int), (List.replicate 32 (0 : UInt8)), ()) : Val) = zVal := rfl
theorem index_eq (l : List (List UInt8)) (x : List UInt8) (hl : l.length ≤ 1073741824) : qb l x = some (l.contains x) := by
 have h : qe_1 l x (l.length : Int) 0 = some (scan (fun i => if x = l.getD i [] then some (.inl (i : Int)) else none) (.inr ()) 0 l.length) := by
  unfold qe_1
  refine loop_scan (step := fun (s : Int) => qe_1_step l x (l.length : Int) s) (fun i => (i : Int)) _ _ l.length (fun i hi h => ?_) (fun i r hi h => ?_) ?_ l.length 0 (by omega)
  ·unfold qe_1_step
   simp (disch := omega) only [fork_t, w64_eq, need_true, Int.toNat_natCast]
   by_cases e : x = l.getD i []
   ·rw [if_pos e] at h; cases h
   ·rw [fork_f e]; rfl
  ·unfold qe_1_step
   simp (disch := omega) only [fork_t, w64_eq, need_true, Int.toNat_natCast]
   by_cases e : x = l.getD i []
   ·rw [if_pos e] at h; rw [fork_t e]; injection h with h; subst h; rfl
   ·rw [if_neg e] at h; cases h
  ·unfold qe_1_step
   rw [fork_f (by omega)]
 unfold qb qe
 rw [h, andThen_mk]
 by_cases hx : x ∈ l
 ·have hm : ∃ j, j < l.length ∧ x = l.getD j [] := by
   obtain ⟨j, hj, e⟩ := List.getElem_of_mem hx
   exact ⟨j, hj, by rw [List.getD_eq_getElem?_getD, List.getElem?_eq_getElem hj]; exact e.symm⟩
  obtain ⟨j, hj⟩ := Nat.find_of (p := fun j => j < l.length ∧ x = l.getD j []) hm
  rw [scan_some l.length 0 j (Nat.zero_le _) (by omega) (fun j' _ h => ?_) (if_pos hj.1.2)]
  ·simp [andThen, hx]
  ·rw [if_neg]
   intro e
   exact hj.2 j' h ⟨by omega, e⟩
 ·rw [scan_none _ _ (fun j _ h => ?_)]
  ·simp [andThen, hx]
  ·rw [if_neg]
   intro e
   apply hx
   rw [e, List.getD_eq_getElem?_getD, List.getElem?_eq_getElem (by omega : j < l.length)]
   exact List.getElem_mem _
def pow (p : Val → Bool) (l : List Val) : Int := ((l.filter p).map (·.2.1)).sum
def SmallV (l : List Val) : Prop := l.length ≤ 1000 ∧ ∀ v ∈ l, 0 ≤ v.2.1 ∧ v.2.1 ≤ 2097152
theorem pow_bound (p : Val → Bool) : ∀ (l : List Val), (∀ v ∈ l, 0 ≤ v.2.1 ∧ v.2.1 ≤ 2097152) → 0 ≤ pow p l ∧ pow p l ≤ 2097152 * l.length
 | [], _ => by simp [pow]
 | v :: l, h => by
  have ih := pow_bound p l fun w hw => h w (List.mem_cons_of_mem _ hw)
  have hv := h v (List.mem_cons_self)
  unfold pow at ih ⊢
  by_cases hp : p v
  ·rw [List.filter_cons_of_pos hp]; simp only [List.map_cons, List.sum_cons, List.length_cons]; omega
  ·rw [List.filter_cons_of_neg hp]; simp only [List.length_cons]; omega
theorem pow_take (p : Val → Bool) (l : List Val) {i : Nat} (h : i < l.length) : pow p (l.take (i + 1)) = pow p (l.take i) + (if p (l.getD i zVal) then (l.getD i zVal).2.1 else 0) := by
 unfold pow
 rw [List.take_add_one, List.getElem?_eq_getElem h, List.getD_eq_getElem?_getD, List.getElem?_eq_getElem h]
 simp only [Option.toList_some, Option.getD_some, List.filter_append, List.map_append, List.sum_append]
 by_cases hp : p l[i]
 ·rw [List.filter_cons_of_pos hp]; simp [hp]
 ·rw [List.filter_cons_of_neg hp]; simp [hp]
theorem getD_mem {α : Type} {l : List α} {i : Nat} {z : α} (h : i < l.length) : l.getD i z ∈ l := by
 rw [List.getD_eq_getElem?_getD, List.getElem?_eq_getElem h]; exact List.getElem_mem _
theorem total_eq (l : List Val) (h : SmallV l) : q2k l = some (pow (fun _ => true) l) := by
 have main : q2k_1 0 l (l.length : Int) 0 = some (pow (fun _ => true) l) := by
  unfold q2k_1
  have := loop_for (step := fun (s : Int × Int) => q2k_1_step s.1 l (l.length : Int) s.2) (fun i (_ : Unit) => (pow (fun _ => true) (l.take i), (i : Int))) (fun _ _ => ()) (fun _ => pow (fun _ => true) l) l.length (fun _ _ => True) (fun i w hi _ => ⟨?_, trivial⟩) (fun w _ => ?_) l.length 0 () (by omega) trivial
  ·exact this
  ·unfold q2k_1_step
   simp only [zVal_eq]
   have b := pow_bound (fun _ => true) (l.take i) fun v hv => h.2 v (List.mem_of_mem_take hv)
   have hm := h.2 _ (getD_mem (z := zVal) hi)
   have hl := h.1
   have t := pow_take (fun _ => true) l hi
   rw [List.length_take] at b
   simp only [if_true] at t
   simp (disch := omega) only [fork_t, w64_eq, need_true, Int.toNat_natCast]
   rw [t]
   rfl
  ·unfold q2k_1_step
   rw [fork_f (by omega), List.take_of_length_le (Nat.le_refl _)]
 unfold q2k
 rw [main, andThen_mk]
theorem tally_eq (l : List Val) (h : SmallV l) (ns : List (List UInt8)) (hn : ns.length ≤ 1073741824) : q2r l ns = some (pow (fun v => ns.contains v.1) l, pow (fun _ => true) l) := by
 have hl := h.1
 have main : q2r_1 l ns 0 l (l.length : Int) 0 = some (l, pow (fun v => ns.contains v.1) l) := by
  unfold q2r_1
  have := loop_for (step := fun (s : Int × Int) => q2r_1_step l ns s.1 l (l.length : Int) s.2) (fun i (_ : Unit) => (pow (fun v => ns.contains v.1) (l.take i), (i : Int))) (fun _ _ => ()) (fun _ => (l, pow (fun v => ns.contains v.1) l)) l.length (fun _ _ => True) (fun i w hi _ => ⟨?_, trivial⟩) (fun w _ => ?_) l.length 0 () (by omega) trivial
  ·exact this
  ·unfold q2r_1_step
   simp only [zVal_eq]
   have b := pow_bound (fun v => ns.contains v.1) (l.take i) fun v hv => h.2 v (List.mem_of_mem_take hv)
   have hm := h.2 _ (getD_mem (z := zVal) hi)
   have t := pow_take (fun v => ns.contains v.1) l hi
   rw [List.length_take] at b
   simp (disch := omega) only [fork_t, w64_eq, need_true, Int.toNat_natCast, index_eq _ _ hn, andThen_mk]
   by_cases hc : ns.contains (l.getD i zVal).1
   ·rw [if_pos hc] at t
    rw [hc, fork_tt, t]
    rfl
   ·rw [if_neg hc] at t
    rw [Bool.not_eq_true] at hc
    rw [hc, fork_ff, t, Int.add_zero]
    rfl
  ·unfold q2r_1_step
   rw [fork_f (by omega), List.take_of_length_le (Nat.le_refl _)]
 have b1 := pow_bound (fun v => ns.contains v.1) l h.2
 have b2 := pow_bound (fun _ => true) l h.2
 unfold q2r
 rw [main, andThen_mk, need_true (by show Int.natAbs (pow _ l) < _; omega), total_eq l h, andThen_mk, need_true (by omega)]
theorem over_eq (t : Int × Int) (n d : Int) (h1 : 0 ≤ t.1 ∧ t.1 ≤ 4294967296) (h2 : 0 ≤ t.2 ∧ t.2 ≤ 4294967296) (hn : 0 ≤ n ∧ n ≤ 1000) (hd : 0 ≤ d ∧ d ≤ 1000) : q36 t n d = some (decide (t.2 * n < t.1 * d)) := by
 unfold q36
 have b1 : 0 ≤ t.2 * n ∧ t.2 * n ≤ 4294967296 * 1000 := ⟨Int.mul_nonneg h2.1 hn.1, Int.mul_le_mul h2.2 hn.2 hn.1 (by omega)⟩
 have b2 : 0 ≤ t.1 * d ∧ t.1 * d ≤ 4294967296 * 1000 := ⟨Int.mul_nonneg h1.1 hd.1, Int.mul_le_mul h1.2 hd.2 hd.1 (by omega)⟩
 rw [w64_eq (by omega) (by omega), w64_eq (by omega) (by omega)]
def mayS (v : Val) : Bool := !decide (v.1 = []) && (decide ((v.1.length : Int) ≤ 16) && (decide (1 ≤ v.2.1) && decide (v.2.1 ≤ 1048576)))
theorem may_eq (v : Val) : q37 v = some (mayS v) := by
 unfold q37 mayS
 simp only [fork_ite]
 split
 ·rename_i h; rw [h]; split
  ·rename_i h; rw [h]; split
   ·rename_i h; rw [h]; simp
   ·rename_i h; rw [Bool.not_eq_true] at h; rw [h]; simp
  ·rename_i h; rw [Bool.not_eq_true] at h; rw [h]; simp
 ·rename_i h; rw [Bool.not_eq_true] at h; rw [h]; simp
def okAt (l : List Val) (i : Nat) : Bool := mayS (l.getD i zVal) && (i == 0 || sless (l.getD (i - 1) zVal).1 (l.getD i zVal).1)
def rightS (l : List Val) : Bool := (List.range l.length).all (okAt l) && (decide (1 ≤ l.length) && decide (l.length ≤ 5))
theorem right_eq (l : List Val) (hl : l.length ≤ 1073741824) : q2m l = some (rightS l) := by
 have main : q2m_1 l l (l.length : Int) 0 = some (scan (fun i => if okAt l i then none else some (.inl false)) (.inr l) 0 l.length) := by
  unfold q2m_1
  have step : ∀ i, i < l.length → q2m_1_step l l (l.length : Int) (i : Int) = if okAt l i then some (.inl ((i + 1 : Nat) : Int)) else some (.inr (.inl false)) := by
   intro i hi
   unfold q2m_1_step
   simp only [zVal_eq]
   simp (disch := omega) only [fork_t, w64_eq, need_true, Int.toNat_natCast, may_eq, andThen_mk]
   unfold okAt
   by_cases hm : mayS (l.getD i zVal)
   ·rw [hm]
    rw [show (!true) = false from rfl, fork_ff, Bool.true_and]
    by_cases h0 : i = 0
    ·subst h0; rw [fork_f (by omega)]; rfl
    ·rw [fork_t (by omega), need_true (by omega), show Int.toNat ((i : Int) - 1) = i - 1 from by omega]
     have : (i == 0) = false := by simp [h0]
     rw [this, Bool.false_or]
     by_cases hs : sless (l.getD (i - 1) zVal).1 (l.getD i zVal).1
     ·rw [hs]; rfl
     ·rw [Bool.not_eq_true] at hs; rw [hs]; rfl
   ·rw [Bool.not_eq_true] at hm; rw [hm]; rfl
  refine loop_scan (step := fun (s : Int) => q2m_1_step l l (l.length : Int) s) (fun i => (i : Int)) _ _ l.length (fun i hi h => ?_) (fun i r hi h => ?_) ?_ l.length 0 (by omega)
  ·by_cases hk : okAt l i
   ·exact (step i hi).trans (if_pos hk)
   ·rw [if_neg hk] at h; cases h
  ·by_cases hk : okAt l i
   ·rw [if_pos hk] at h; cases h
   ·rw [if_neg hk] at h; injection h with h; subst h
    exact (step i hi).trans (if_neg hk)
  ·unfold q2m_1_step
   rw [fork_f (by omega)]
 unfold q2m
 rw [main, andThen_mk]
 unfold rightS
 by_cases hall : (List.range l.length).all (okAt l)
 ·rw [scan_none _ _ (fun j _ h => if_pos (List.all_eq_true.1 hall j (by simp; omega))), hall, Bool.true_and]
  simp only [fork_ite]
  by_cases h1 : 1 ≤ l.length
  ·rw [decide_eq_true h1, decide_eq_true (show (1 : Int) ≤ (l.length : Int) by omega), if_pos rfl, Bool.true_and]
   congr 1
   exact decide_eq_decide.2 (by omega)
  ·rw [decide_eq_false h1, decide_eq_false (show ¬ (1 : Int) ≤ (l.length : Int) by omega)]; rfl
 ·rw [Bool.not_eq_true] at hall
  have : ∃ j, j < l.length ∧ okAt l j = false := by
   rw [List.all_eq_false] at hall
   obtain ⟨j, hj, hk⟩ := hall
   exact ⟨j, by simpa using hj, by simpa using hk⟩
  obtain ⟨j, hj⟩ := Nat.find_of this
  have hsc : scan (fun i => if okAt l i then none else some (.inl false)) (.inr l : Bool ⊕ List Val) 0 l.length = .inl false := by
   refine scan_some l.length 0 j (Nat.zero_le _) (by omega) (fun j' _ h => if_pos ?_) (if_neg ?_)
   ·have := hj.2 j' h
    cases hk : okAt l j' with
    | true => rfl
    | false => exact absurd ⟨by omega, hk⟩ this
   ·rw [hj.1.2]; simp
  rw [hall, hsc]
  rfl
end Go.Ax.V
