/-
  Powers of sets, and texts in order.
-/
import Derived.Test.YtcfaippbnmmelaaGreatCLightSkipsLVals
namespace Go.Ax.V
open Go.Ax
set_option linter.unusedVariables false
set_option linter.unusedSimpArgs false
theorem pow_cons (p : Val → Bool) (v : Val) (l : List Val) : pow p (v :: l) = (if p v then v.2.1 else 0) + pow p l := by
 unfold pow
 by_cases h : p v
 ·rw [List.filter_cons_of_pos h, if_pos h]; simp
 ·rw [List.filter_cons_of_neg h, if_neg h]; simp
theorem pow_nil (p : Val → Bool) : pow p [] = 0 := rfl
def incN (ns : List (List UInt8)) : Bool := (List.range (ns.length - 1)).all fun i => sless (ns.getD i []) (ns.getD (i + 1) [])
theorem incN_of : ∀ (ns : List (List UInt8)), ns.Pairwise (fun a b => sless a b = true) → incN ns = true := by
 intro ns h
 refine List.all_eq_true.2 fun i hi => ?_
 have hi : i < ns.length - 1 := by simpa using hi
 rw [List.getD_eq_getElem?_getD, List.getD_eq_getElem?_getD, List.getElem?_eq_getElem (by omega), List.getElem?_eq_getElem (by omega)]
 exact List.pairwise_iff_getElem.1 h i (i + 1) (by omega) (by omega) (by omega)
def findS (l : List Val) (x : List UInt8) : Val × Bool := match l.find? (fun v => decide (v.1 = x)) with
 | some v => (v, true)
 | none => (zVal, false)
theorem scan_find (l : List Val) (x : List UInt8) : ∀ (k i : Nat), i + k = l.length → scan (fun i => if (l.getD i zVal).1 = x then some (.inl (true, l.getD i zVal)) else none) (.inr zVal : (Bool × Val) ⊕ Val) i k =
  match (l.drop i).find? (fun v => decide (v.1 = x)) with | some v => .inl (true, v) | none => .inr zVal
 | 0, i, h => by rw [List.drop_of_length_le (by omega)]; rfl
 | k + 1, i, h => by
  have hd : l.drop i = l.getD i zVal :: l.drop (i + 1) := by
   rw [List.drop_eq_getElem_cons (by omega), List.getD_eq_getElem?_getD, List.getElem?_eq_getElem (by omega)]; rfl
  rw [scan, hd]
  by_cases e : (l.getD i zVal).1 = x
  ·rw [if_pos e, List.find?_cons_of_pos (by simpa using e)]
  ·rw [if_neg e, List.find?_cons_of_neg (by simpa using e)]
   exact scan_find l x k (i + 1) (by omega)
theorem find_step (x : List UInt8) (l : List Val) (n i : Int) (z : Val) : q30_1_step x l n i z = (fork (decide (i < n)) (need (0 ≤ i ∧ i < (l.length : Int)) (fork (decide ((l.getD (Int.toNat i) zVal).1 = x)) (some (.inr (.inl (true, l.getD (Int.toNat i) zVal)))) (some (.inl (w64 (i + 1)))))) (some (.inr (.inr z))) : Option (Int ⊕ ((Bool × Val) ⊕ Val))) := rfl
theorem find_eq (l : List Val) (hl : l.length ≤ 1073741824) (x : List UInt8) : q30 l x = some (findS l x) := by
 have h : q30_1 x l (l.length : Int) 0 zVal = some (scan (fun i => if (l.getD i zVal).1 = x then some (.inl (true, l.getD i zVal)) else none) (.inr zVal) 0 l.length) := by
  unfold q30_1
  refine loop_scan (step := fun (s : Int) => q30_1_step x l (l.length : Int) s zVal) (fun i => (i : Int)) _ _ l.length (fun i hi h => ?_) (fun i r hi h => ?_) ?_ l.length 0 (by omega)
  ·rw [find_step, fork_t (by omega), need_true (by omega), Int.toNat_natCast, w64_eq (by omega) (by omega)]
   by_cases e : (l.getD i zVal).1 = x
   ·rw [if_pos e] at h; cases h
   ·rw [fork_f e]; rfl
  ·rw [find_step, fork_t (by omega), need_true (by omega), Int.toNat_natCast]
   by_cases e : (l.getD i zVal).1 = x
   ·rw [if_pos e] at h; injection h with h; subst h; rw [fork_t e]
   ·rw [if_neg e] at h; cases h
  ·unfold q30_1_step
   rw [fork_f (by omega)]
 unfold q30
 simp only [zVal_eq]
 rw [h, andThen_mk, scan_find l x l.length 0 (by omega), List.drop_zero]
 unfold findS
 cases l.find? (fun v => decide (v.1 = x)) <;> rfl
def Dist (l : List Val) : Prop := (l.map (·.1)).Nodup
theorem find_in {l : List Val} (hd : Dist l) {v : Val} (hv : v ∈ l) : findS l v.1 = (v, true) := by
 have : l.find? (fun w => decide (w.1 = v.1)) = some v := by
  induction l with
  | nil => cases hv
  | cons w l ih =>
   unfold Dist at hd
   rw [List.map_cons, List.nodup_cons] at hd
   rcases List.mem_cons.1 hv with rfl | hv
   ·rw [List.find?_cons_of_pos (by simp)]
   ·rw [List.find?_cons_of_neg]
    ·exact ih hd.2 hv
    ·simp only [decide_eq_true_eq]
     intro e
     exact hd.1 (by rw [e]; exact List.mem_map_of_mem hv)
 unfold findS
 rw [this]
end Go.Ax.V
