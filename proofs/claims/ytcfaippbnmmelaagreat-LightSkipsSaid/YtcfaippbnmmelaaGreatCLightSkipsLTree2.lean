/-
  Trees: paths, and up to the root.
-/
import Derived.Test.YtcfaippbnmmelaaGreatCLightSkipsLTree
namespace Go.Ax.V
open Go.Ax
set_option linter.unusedVariables false
set_option linter.unusedSimpArgs false
abbrev zT : List UInt8 := List.replicate 32 (0 : UInt8)
noncomputable def pathS (l : List (List UInt8)) (i : Int) : List (List UInt8) := if 0 ≤ i ∧ i < (l.length : Int) then pathF l.length l i.toNat else []
theorem sides_loop : ∀ (f i n : Nat) (acc : List Bool), n ≤ f + 1 → n ≤ 1073741824 → i < n ∨ n = 0 → acc.length ≤ 10000000 - f → f ≤ 5000000 → q2g_1 (i : Int) (n : Int) acc = some (acc ++ sidesF f i n)
 | 0, i, n, acc, h, h2, hi, ha, hf => by
  unfold q2g_1
  refine loop_out ?_
  unfold q2g_1_step
  rw [fork_f (by show ¬ (1 : Int) < (n : Int); omega)]
  simp [sidesF]
 | f + 1, i, n, acc, h, h2, hi, ha, hf => by
  by_cases h1 : n ≤ 1
  ·rw [sidesF, if_pos h1]
   unfold q2g_1
   refine loop_out ?_
   unfold q2g_1_step
   rw [fork_f (by show ¬ (1 : Int) < (n : Int); omega)]
   simp
  ·obtain ⟨b1, b2, b3⟩ := leftS_b n (by omega) (by omega)
   rw [sidesF, if_neg h1]
   by_cases hl : i < leftS n
   ·rw [if_pos hl, show acc ++ true :: sidesF f i (leftS n) = (acc ++ [true]) ++ sidesF f i (leftS n) from by simp]
    have hst : q2g_1_step (i : Int) (n : Int) acc = some (.inl ((i : Int), ((leftS n : Nat) : Int), acc ++ [true])) := by
     unfold q2g_1_step
     rw [fork_t (by omega), left_eq _ (by omega), andThen_mk, need_true (by simp; omega), decide_eq_true (show (i : Int) < ((leftS n : Nat) : Int) by omega), fork_tt]
    rw [← sides_loop f i (leftS n) (acc ++ [true]) (by omega) (by omega) (by omega) (by simp; omega) (by omega)]
    unfold q2g_1
    rw [loop_next hst]
   ·rw [if_neg hl, show acc ++ false :: sidesF f (i - leftS n) (n - leftS n) = (acc ++ [false]) ++ sidesF f (i - leftS n) (n - leftS n) from by simp]
    have hst : q2g_1_step (i : Int) (n : Int) acc = some (.inl (((i - leftS n : Nat) : Int), ((n - leftS n : Nat) : Int), acc ++ [false])) := by
     unfold q2g_1_step
     rw [fork_t (by omega), left_eq _ (by omega), andThen_mk, need_true (by simp; omega), decide_eq_false (show ¬ (i : Int) < ((leftS n : Nat) : Int) by omega), fork_ff, w64_eq (by omega) (by omega), w64_eq (by omega) (by omega),
      show (i : Int) - ((leftS n : Nat) : Int) = ((i - leftS n : Nat) : Int) from by omega, show (n : Int) - ((leftS n : Nat) : Int) = ((n - leftS n : Nat) : Int) from by omega]
    rw [← sides_loop f (i - leftS n) (n - leftS n) (acc ++ [false]) (by omega) (by omega) (by omega) (by simp; omega) (by omega)]
    unfold q2g_1
    rw [loop_next hst]
theorem sides_eq (i n : Nat) (h : i < n) (hn : n ≤ 1000000) : q2g (i : Int) (n : Int) = some (sidesF n i n) := by
 unfold q2g
 rw [sides_loop n i n [] (by omega) (by omega) (by omega) (by simp) (by omega), andThen_mk]
 rfl
def isS (i n : Int) : Bool := decide (0 ≤ i) && (decide (i < n) && decide (n ≤ 1048576))
theorem is_eq (i n : Int) : q3f i n = some (isS i n) := by
 unfold q3f isS
 simp only [fork_ite]
 cases decide (0 ≤ i) <;> cases decide (i < n) <;> simp
theorem isS_iff (i n : Int) : isS i n = true ↔ 0 ≤ i ∧ i < n ∧ n ≤ 1048576 := by
 unfold isS; simp
theorem depth_eq (i n : Int) (hn : n ≤ 1000000 ∨ 1048576 < n) : q2h i n = some (if isS i n then ((sidesF n.toNat i.toNat n.toNat).length : Int) else -1) := by
 unfold q2h
 rw [is_eq, andThen_mk]
 cases h : isS i n with
 | false => rfl
 | true =>
  obtain ⟨h1, h2, h3⟩ := (isS_iff i n).1 h
  obtain ⟨a, rfl⟩ := Int.eq_ofNat_of_zero_le h1
  obtain ⟨b, rfl⟩ := Int.eq_ofNat_of_zero_le (show 0 ≤ n by omega)
  rw [show (!true) = false from rfl, fork_ff, sides_eq a b (by omega) (by omega), andThen_mk]
  rfl
def climb : List Bool → List (List UInt8) → List UInt8 → List UInt8
 | b :: bs, p :: ps, h => climb bs ps (if b then innerS h p else innerS p h)
 | _, _, h => h
theorem climb_snoc : ∀ (bs : List Bool) (ps : List (List UInt8)) (h : List UInt8) (b : Bool) (p : List UInt8), bs.length = ps.length → climb (bs ++ [b]) (ps ++ [p]) h = if b then innerS (climb bs ps h) p else innerS p (climb bs ps h)
 | [], [], h, b, p, _ => rfl
 | x :: bs, y :: ps, h, b, p, e => by
  show climb (bs ++ [b]) (ps ++ [p]) _ = _
  rw [climb_snoc bs ps _ b p (by simpa using e)]
  rfl
 | [], _ :: _, _, _, _, e => by simp at e
 | _ :: _, [], _, _, _, e => by simp at e
theorem climb_32 : ∀ (bs : List Bool) (ps : List (List UInt8)) (h : List UInt8), h.length = 32 → (climb bs ps h).length = 32
 | [], _, h, e => by simpa [climb] using e
 | _ :: _, [], h, e => by simpa [climb] using e
 | b :: bs, p :: ps, h, e => by
  rw [climb]
  exact climb_32 bs ps _ (by split <;> exact sha_len _)
theorem climb_take (bs : List Bool) (ps : List (List UInt8)) (h : List UInt8) (i : Nat) (h1 : i < bs.length) (h2 : i < ps.length) :
  climb (bs.take (i + 1)) (ps.take (i + 1)) h = if bs.getD i false then innerS (climb (bs.take i) (ps.take i) h) (ps.getD i zT) else innerS (ps.getD i zT) (climb (bs.take i) (ps.take i) h) := by
 rw [List.take_add_one, List.take_add_one, List.getElem?_eq_getElem h1, List.getElem?_eq_getElem h2, Option.toList_some, Option.toList_some, climb_snoc _ _ _ _ _ (by simp; omega)]
 rw [List.getD_eq_getElem?_getD, List.getElem?_eq_getElem h1, List.getD_eq_getElem?_getD, List.getElem?_eq_getElem h2]
 rfl
theorem up_loop (z h : List UInt8) (l : List Bool) (p : List (List UInt8)) (hl : l.length = p.length) (hp : ∀ x ∈ p, x.length = 32) (hh : h.length = 32) (hb : p.length ≤ 100000) : q3e_1 p (p.length : Int) 0 z h l = some (z, climb l.reverse p h) := by
 unfold q3e_1
 have := loop_for (step := fun (s : Int × List UInt8) => q3e_1_step p (p.length : Int) s.1 z s.2 l) (fun i (_ : Unit) => ((i : Int), climb (l.reverse.take i) (p.take i) h)) (fun _ _ => ()) (fun _ => (z, climb l.reverse p h)) p.length (fun _ _ => True) (fun i w hi _ => ⟨?_, trivial⟩) (fun w _ => ?_) p.length 0 () (by omega) trivial
 ·exact this
 ·show q3e_1_step p (p.length : Int) (i : Int) z (climb (l.reverse.take i) (p.take i) h) l = _
  unfold q3e_1_step
  have hg : (p.getD i (List.replicate 32 0)).length = 32 := by
   rw [List.getD_eq_getElem?_getD, List.getElem?_eq_getElem hi]; exact hp _ (List.getElem_mem _)
  have hc := climb_32 (l.reverse.take i) (p.take i) h hh
  have hr : l.getD (l.length - 1 - i) false = l.reverse.getD i false := by
   rw [List.getD_eq_getElem?_getD, List.getD_eq_getElem?_getD, List.getElem?_reverse (by omega)]
  rw [fork_t (by omega), need_true (by omega), w64_eq (n := (l.length : Int) - 1) (by omega) (by omega), w64_eq (by omega) (by omega), need_true (by omega), show Int.toNat ((l.length : Int) - 1 - (i : Int)) = l.length - 1 - i from by omega, hr, Int.toNat_natCast, inner_eq _ _ hc hg, inner_eq _ _ hg hc, andThen_mk, andThen_mk, w64_eq (by omega) (by omega),
   climb_take _ _ _ _ (by rw [List.length_reverse]; omega) hi]
  cases l.reverse.getD i false <;> rfl
 ·show q3e_1_step p (p.length : Int) (p.length : Int) z _ l = _
  unfold q3e_1_step
  rw [fork_f (by omega), List.take_of_length_le (Nat.le_refl _), List.take_of_length_le (by rw [List.length_reverse]; omega)]
def upS (leaf : List UInt8) (i n : Int) (p : List (List UInt8)) : List UInt8 × Bool :=
 if isS i n ∧ p.length = (sidesF n.toNat i.toNat n.toNat).length then (climb (sidesF n.toNat i.toNat n.toNat).reverse p (leafS leaf), true) else (zT, false)
theorem up_eq (leaf : List UInt8) (hf : leaf.length ≤ 1000000) (i n : Int) (hn : n ≤ 1000000) (p : List (List UInt8)) (hp : ∀ x ∈ p, x.length = 32) (hb : p.length ≤ 100000) : q3e leaf i n p = some (upS leaf i n p) := by
 unfold q3e upS
 rw [is_eq, andThen_mk]
 cases h : isS i n with
 | false => rw [if_neg (by simp)]; rfl
 | true =>
  obtain ⟨h1, h2, h3⟩ := (isS_iff i n).1 h
  rw [show (!true) = false from rfl, fork_ff, depth_eq i n (.inl hn), h, if_pos rfl, andThen_mk]
  by_cases e : p.length = (sidesF n.toNat i.toNat n.toNat).length
  ·rw [fork_nt (by omega), if_pos ⟨rfl, e⟩, root_eq [leaf] (by simp) (by intro x hx; simp at hx; rw [hx]; exact hf), andThen_mk]
   have hsd := sides_eq i.toNat n.toNat (by omega) (by omega)
   rw [show ((i.toNat : Nat) : Int) = i from by omega, show ((n.toNat : Nat) : Int) = n from by omega] at hsd
   rw [hsd, andThen_mk, up_loop _ _ _ _ e.symm hp (rootS_len _) hb, andThen_mk, rootS_one]
  ·rw [fork_nf (by omega), if_neg (fun h => e h.2)]
theorem path_up : ∀ (f : Nat) (l : List (List UInt8)) (i : Nat), i < l.length → l.length ≤ f + 1 → l.length ≤ 1000 → climb (sidesF f i l.length).reverse (pathF f l i) (leafS (l.getD i [])) = rootS l
 | 0, l, i, hi, h, h2 => by
  match l, hi, h with
  | [x], hi, h =>
   have : i = 0 := by simp at hi; exact hi
   subst this
   rw [rootS_one]; rfl
 | f + 1, l, i, hi, h, h2 => by
  rw [sidesF, pathF]
  by_cases h1 : l.length ≤ 1
  ·rw [if_pos h1, if_pos h1]
   match l, hi, h1 with
   | [x], hi, h1 =>
    have : i = 0 := by simp at hi; exact hi
    subst this
    rw [rootS_one]; rfl
  ·obtain ⟨b1, b2, b3⟩ := leftS_b l.length (by omega) (by omega)
   rw [if_neg h1, if_neg h1, rootS_two l (by omega) (by omega)]
   by_cases hl : i < leftS l.length
   ·rw [if_pos hl, if_pos hl, List.reverse_cons, climb_snoc _ _ _ _ _ (by rw [List.length_reverse, path_sides f _ _ (by rw [List.length_take]; omega), List.length_take, Nat.min_eq_left (by omega)]), if_pos rfl]
    have ih := path_up f (l.take (leftS l.length)) i (by rw [List.length_take]; omega) (by rw [List.length_take]; omega) (by rw [List.length_take]; omega)
    rw [List.length_take, Nat.min_eq_left (by omega)] at ih
    have hg : (l.take (leftS l.length)).getD i [] = l.getD i [] := by
     rw [List.getD_eq_getElem?_getD, List.getD_eq_getElem?_getD, List.getElem?_take_of_lt hl]
    rw [hg] at ih
    rw [ih]
   ·rw [if_neg hl, if_neg hl, List.reverse_cons, climb_snoc _ _ _ _ _ (by rw [List.length_reverse, path_sides f _ _ (by rw [List.length_drop]; omega), List.length_drop]), if_neg (by simp)]
    have ih := path_up f (l.drop (leftS l.length)) (i - leftS l.length) (by rw [List.length_drop]; omega) (by rw [List.length_drop]; omega) (by rw [List.length_drop]; omega)
    rw [List.length_drop] at ih
    have hg : (l.drop (leftS l.length)).getD (i - leftS l.length) [] = l.getD i [] := by
     rw [List.getD_eq_getElem?_getD, List.getD_eq_getElem?_getD, List.getElem?_drop]; congr 2; omega
    rw [hg] at ih
    rw [ih]
end Go.Ax.V
