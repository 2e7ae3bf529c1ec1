/-
  Powers of sets, and texts in order.
-/
import Derived.Test.YtdiacaflcfiomaaCValsTellsLVals
namespace Go.Ax.V
open Go.Ax
set_option linter.unusedVariables false
set_option linter.unusedSimpArgs false
theorem pow_cons (p : Val → Bool) (v : Val) (l : List Val) : pow p (v :: l) = (if p v then v.2.1 else 0) + pow p l := by
 unfold pow
 by_cases h : p v
 ·rw [List.filter_cons_of_pos h, if_pos h]; simp
 ·rw [List.filter_cons_of_neg h, if_neg h]; simp
theorem pow_congr {p q : Val → Bool} : ∀ {l : List Val}, (∀ v ∈ l, p v = q v) → pow p l = pow q l
 | [], _ => rfl
 | v :: l, h => by rw [pow_cons, pow_cons, h v List.mem_cons_self, pow_congr fun w hw => h w (List.mem_cons_of_mem _ hw)]
theorem sless_irr : ∀ a : List UInt8, sless a a = false
 | [] => rfl
 | x :: a => by
  rw [sless, sless_irr a]
  simp
theorem sless_trans : ∀ a b c : List UInt8, sless a b = true → sless b c = true → sless a c = true
 | _, [], _, h, _ => by cases ‹List UInt8› <;> simp [sless] at h
 | _, _ :: _, [], _, h => by simp [sless] at h
 | [], _ :: _, _ :: _, _, _ => rfl
 | x :: a, y :: b, z :: c, h1, h2 => by
  simp only [sless, Bool.or_eq_true, Bool.and_eq_true, decide_eq_true_eq, beq_iff_eq] at h1 h2 ⊢
  rcases h1 with h1 | ⟨rfl, h1⟩
  ·rcases h2 with h2 | ⟨rfl, h2⟩
   ·exact .inl (UInt8.lt_trans h1 h2)
   ·exact .inl h1
  ·rcases h2 with h2 | ⟨rfl, h2⟩
   ·exact .inl h2
   ·exact .inr ⟨rfl, sless_trans a b c h1 h2⟩
def incN (ns : List (List UInt8)) : Bool := (List.range (ns.length - 1)).all fun i => sless (ns.getD i []) (ns.getD (i + 1) [])
theorem incN_pair : ∀ (ns : List (List UInt8)), incN ns = true → ns.Pairwise (fun a b => sless a b = true)
 | [], _ => List.Pairwise.nil
 | [x], _ => List.pairwise_singleton _ _
 | x :: y :: ns, h => by
  have hall : ∀ i, i < ns.length + 1 → sless ((x :: y :: ns).getD i []) ((x :: y :: ns).getD (i + 1) []) = true := fun i hi => List.all_eq_true.1 h i (by simp; omega)
  have ih := incN_pair (y :: ns) (List.all_eq_true.2 fun i hi => by
   have := hall (i + 1) (by simp at hi; omega)
   exact this)
  have h0 : sless x y = true := hall 0 (by omega)
  refine List.pairwise_cons.2 ⟨fun z hz => ?_, ih⟩
  rcases List.mem_cons.1 hz with rfl | hz
  ·exact h0
  ·exact sless_trans _ _ _ h0 ((List.pairwise_cons.1 ih).1 z hz)
theorem incN_nodup {ns : List (List UInt8)} (h : incN ns = true) : ns.Nodup :=
 (incN_pair ns h).imp fun {a b} hab e => by subst e; rw [sless_irr] at hab; cases hab
def findS (l : List Val) (x : List UInt8) : Val × Bool := match l.find? (fun v => decide (v.1 = x)) with
 | some v => (v, true)
 | none => (zVal, false)
theorem scan_find (l : List Val) (x : List UInt8) : ∀ (k i : Nat), i + k = l.length → scan (fun i => if (l.getD i zVal).1 = x then some (.inl (true, l.getD i zVal)) else none) (.inr zVal : (Bool × Val) ⊕ Val) i k =
  match (l.drop i).find? (fun v => decide (v.1 = x)) with | some v => .inl (true, v) | none => .inr zVal
 | 0, i, h => by rw [List.drop_of_length_le (by omega)]; rfl
 | k + 1, i, h => by
  have hd : l.drop i = l.getD i zVal :: l.drop (i + 1) := by
   rw [List.drop_eq_getElem_cons (by omega), List.getD_eq_getElem?_getD, List.getElem?_eq_getElem (by omega)]; rfl
  rw [scan, hd]
  by_cases e : (l.getD i zVal).1 = x
  ·rw [if_pos e, List.find?_cons_of_pos (by simpa using e)]
  ·rw [if_neg e, List.find?_cons_of_neg (by simpa using e)]
   exact scan_find l x k (i + 1) (by omega)
theorem find_step (x : List UInt8) (l : List Val) (n i : Int) (z : Val) : vals_Find_1_step x l n i z = (fork (decide (i < n)) (need (0 ≤ i ∧ i < (l.length : Int)) (fork (decide ((l.getD (Int.toNat i) zVal).1 = x)) (some (.inr (.inl (true, l.getD (Int.toNat i) zVal)))) (some (.inl (w64 (i + 1)))))) (some (.inr (.inr z))) : Option (Int ⊕ ((Bool × Val) ⊕ Val))) := rfl
theorem find_eq (l : List Val) (hl : l.length ≤ 1073741824) (x : List UInt8) : vals_Find l x = some (findS l x) := by
 have h : vals_Find_1 x l (l.length : Int) 0 zVal = some (scan (fun i => if (l.getD i zVal).1 = x then some (.inl (true, l.getD i zVal)) else none) (.inr zVal) 0 l.length) := by
  unfold vals_Find_1
  refine loop_scan (step := fun (s : Int) => vals_Find_1_step x l (l.length : Int) s zVal) (fun i => (i : Int)) _ _ l.length (fun i hi h => ?_) (fun i r hi h => ?_) ?_ l.length 0 (by omega)
  ·rw [find_step, fork_t (by omega), need_true (by omega), Int.toNat_natCast, w64_eq (by omega) (by omega)]
   by_cases e : (l.getD i zVal).1 = x
   ·rw [if_pos e] at h; cases h
   ·rw [fork_f e]; rfl
  ·rw [find_step, fork_t (by omega), need_true (by omega), Int.toNat_natCast]
   by_cases e : (l.getD i zVal).1 = x
   ·rw [if_pos e] at h; injection h with h; subst h; rw [fork_t e]
   ·rw [if_neg e] at h; cases h
  ·unfold vals_Find_1_step
   rw [fork_f (by omega)]
 unfold vals_Find
 simp only [zVal_eq]
 rw [h, andThen_mk, scan_find l x l.length 0 (by omega), List.drop_zero]
 unfold findS
 cases l.find? (fun v => decide (v.1 = x)) <;> rfl
def Dist (l : List Val) : Prop := (l.map (·.1)).Nodup
theorem find_in {l : List Val} (hd : Dist l) {v : Val} (hv : v ∈ l) : findS l v.1 = (v, true) := by
 have : l.find? (fun w => decide (w.1 = v.1)) = some v := by
  induction l with
  | nil => cases hv
  | cons w l ih =>
   unfold Dist at hd
   rw [List.map_cons, List.nodup_cons] at hd
   rcases List.mem_cons.1 hv with rfl | hv
   ·rw [List.find?_cons_of_pos (by simp)]
   ·rw [List.find?_cons_of_neg]
    ·exact ih hd.2 hv
    ·simp only [decide_eq_true_eq]
     intro e
     exact hd.1 (by rw [e]; exact List.mem_map_of_mem hv)
 unfold findS
 rw [this]
theorem find_out {l : List Val} {x : List UInt8} (h : ∀ v ∈ l, v.1 ≠ x) : findS l x = (zVal, false) := by
 have : l.find? (fun w => decide (w.1 = x)) = none := by
  rw [List.find?_eq_none]
  intro v hv
  simpa using h v hv
 unfold findS
 rw [this]
end Go.Ax.V
