/-
  One-time signatures: what the functions of lam compute.
-/
import Derived.Test.YtcfaippbnmmelaaGreatCLightSkipsLTag
import Derived.Test.YtcfaippbnmmelaaGreatCLightSkipsLBits
namespace Go.Ax.V
open Go.Ax
set_option linter.unusedVariables false
set_option linter.unusedSimpArgs false
abbrev zH : List UInt8 := List.replicate 32 (0 : UInt8)
def secS (seed : List UInt8) (i v : Nat) : List UInt8 := sha (115 :: (seed ++ [UInt8.ofNat i, UInt8.ofNat v]))
def pubS (s : List UInt8) : List UInt8 := sha (112 :: s)
def keyS (ps : List (List UInt8)) : List UInt8 := sha (107 :: ps.flatten)
def digS (m : List UInt8) : List UInt8 := sha (109 :: m)
def bitN (d : List UInt8) (i : Nat) : Nat := ((d.getD (i / 8) 0).toNat >>> (7 - i % 8)) % 2
theorem bitN_le (d : List UInt8) (i : Nat) : bitN d i ≤ 1 := by unfold bitN; omega
abbrev One := List (List UInt8) × List (List UInt8) × Unit
theorem pub_eq (s : List UInt8) (hs : s.length = 32) : q2n s = some (pubS s) := by
 unfold q2n
 have hf : [s].flatten = s := by simp
 rw [tagged_eq _ _ (by rw [hf]; omega) (by simp), hf]
 rfl
theorem secS_len (seed : List UInt8) (i v : Nat) : (secS seed i v).length = 32 := sha_len _
theorem pubS_len (s : List UInt8) : (pubS s).length = 32 := sha_len _
theorem keyS_len (s : List (List UInt8)) : (keyS s).length = 32 := sha_len _
theorem flat32 (m : List (List UInt8)) (hm : ∀ x ∈ m, x.length = 32) : m.flatten.length = 32 * m.length := by
 induction m with
 | nil => rfl
 | cons a m ih => rw [List.flatten_cons, List.length_append, ih (fun x hx => hm x (List.mem_cons_of_mem _ hx)), hm a List.mem_cons_self, List.length_cons]; omega
theorem flat_step (l : List (List UInt8)) {i : Nat} (h : i < l.length) : (l.take i).flatten ++ l.getD i zH = (l.take (i + 1)).flatten := by
 rw [List.take_add_one, List.flatten_append, List.getD_eq_getElem?_getD, List.getElem?_eq_getElem h]
 simp
theorem getD_len (l : List (List UInt8)) (h : ∀ x ∈ l, x.length = 32) (i : Nat) : (l.getD i zH).length = 32 := by
 rw [List.getD_eq_getElem?_getD]
 cases e : l[i]? with
 | none => rfl
 | some x => exact h x (List.mem_of_getElem? e)
theorem key_eq (l : List (List UInt8)) (hl : l.length ≤ 1000) (h : ∀ x ∈ l, x.length = 32) : q3b l = some (keyS l) := by
 have hlen : ∀ i, ((l.take i).flatten).length ≤ 32 * l.length := fun i => by
  rw [flat32 _ fun x hx => h x (List.mem_of_mem_take hx), List.length_take]; omega
 have main : ∀ z, q3b_1 l (l.length : Int) 0 z [] = some (z, l.flatten) := by
  intro z
  unfold q3b_1
  have := loop_for (step := fun (s : Int × List UInt8) => q3b_1_step l (l.length : Int) s.1 z s.2) (fun i (_ : Unit) => ((i : Int), (l.take i).flatten)) (fun _ _ => ()) (fun _ => (z, l.flatten)) l.length (fun _ _ => True) (fun i w hi _ => ⟨?_, trivial⟩) (fun w _ => ?_) l.length 0 () (by omega) trivial
  ·exact this
  ·show q3b_1_step l (l.length : Int) (i : Int) z (l.take i).flatten = _
   unfold q3b_1_step
   have b := hlen i
   have hm : (l.getD i (List.replicate 32 0)).length = 32 := getD_len l h i
   rw [fork_t (by omega), need_true (by omega), Int.toNat_natCast, need_true (by omega), w64_eq (by omega) (by omega), flat_step l hi]
   rfl
  ·show q3b_1_step l (l.length : Int) (l.length : Int) z (l.take l.length).flatten = _
   unfold q3b_1_step
   rw [fork_f (by omega), List.take_of_length_le (Nat.le_refl _)]
 unfold q3b
 have hf : [l.flatten].flatten = l.flatten := by simp
 have := flat32 l h
 rw [main, andThen_mk]
 simp only
 rw [tagged_eq _ _ (by rw [hf]; omega) (by simp), hf]
 rfl
theorem bit_eq (d : List UInt8) (i : Nat) (hi : i < 256) : q3c d (i : Int) = some ((bitN d i : Nat) : Int) := by
 unfold q3c
 have e1 : Int.tdiv (i : Int) 8 = ((i / 8 : Nat) : Int) := by rw [Int.tdiv_eq_ediv_of_nonneg (by omega)]; omega
 have e2 : Int.tmod (i : Int) 8 = ((i % 8 : Nat) : Int) := by rw [Int.tmod_eq_emod_of_nonneg (by omega)]; omega
 rw [e1, e2, w64_eq (by omega) (by omega), w64_eq (by omega) (by omega), need_true (by omega), need_true (by omega), Int.toNat_natCast, show Int.toNat (7 - ((i % 8 : Nat) : Int)) = 7 - i % 8 from by omega]
 generalize hx : d.getD (i / 8) 0 = x
 have hlt := x.toNat_lt
 have hs : x.toNat >>> (7 - i % 8) ≤ x.toNat := by rw [Nat.shiftRight_eq_div_pow]; exact Nat.div_le_self _ _
 rw [UInt8.toNat_ofNat', Nat.mod_eq_of_lt (by omega)]
 have hb := band_nat (x.toNat >>> (7 - i % 8)) 1 (by omega) (by omega)
 rw [show ((1 : Nat) : Int) = 1 from rfl] at hb
 rw [hb, show (1 : Nat) = 2 ^ 1 - 1 from rfl, Nat.and_two_pow_sub_one_eq_mod]
 unfold bitN
 rw [hx]
def pairS (seed : List UInt8) (i : Nat) : List (List UInt8) := [pubS (secS seed i 0), pubS (secS seed i 1)]
def partsS' (seed : List UInt8) (n : Nat) : List (List UInt8) := (List.range n).flatMap (pairS seed)
theorem parts_mem (seed : List UInt8) (n : Nat) : (∀ x ∈ partsS' seed n, x.length = 32) ∧ (partsS' seed n).length = 2 * n := by
 unfold partsS'
 refine ⟨fun x hx => ?_, ?_⟩
 ·obtain ⟨i, _, hi⟩ := List.mem_flatMap.1 hx
  simp only [pairS, List.mem_cons, List.not_mem_nil, or_false] at hi
  rcases hi with rfl | rfl <;> exact pubS_len _
 ·induction n with
  | zero => rfl
  | succ n ih => rw [List.range_succ, List.flatMap_append, List.length_append, ih]; simp [pairS]; omega
theorem flatCongr {α β : Type} {f g : α → List β} : ∀ {l : List α}, (∀ a ∈ l, f a = g a) → l.flatMap f = l.flatMap g
 | [], _ => rfl
 | a :: l, h => by rw [List.flatMap_cons, List.flatMap_cons, h a List.mem_cons_self, flatCongr fun b hb => h b (List.mem_cons_of_mem _ hb)]
theorem flatRange {α : Type} (f : Nat → List α) (n : Nat) : (List.range (n + 1)).flatMap f = (List.range n).flatMap f ++ f n := by
 rw [List.range_succ, List.flatMap_append]; simp
def KeyS (seed : List UInt8) : List UInt8 := keyS (partsS' seed 32)
def openS (seed d : List UInt8) (n : Nat) : List (List UInt8) := (List.range n).map fun i => secS seed i (bitN d i)
def shutS (seed d : List UInt8) (n : Nat) : List (List UInt8) := (List.range n).map fun i => pubS (secS seed i (1 - bitN d i))
def signS (seed m : List UInt8) : One := (openS seed (digS m) 32, shutS seed (digS m) 32, ())
theorem mapRange {α : Type} (f : Nat → α) (n : Nat) : (List.range (n + 1)).map f = (List.range n).map f ++ [f n] := by
 rw [List.range_succ, List.map_append]; rfl
theorem dig_eq (m : List UInt8) (hm : m.length ≤ 100000) : q2l 109 [m] = some (digS m) := by
 have hf : [m].flatten = m := by simp
 rw [tagged_eq _ _ (by rw [hf]; omega) (by simp), hf]
 rfl
def wpart (d : List UInt8) (o s : List (List UInt8)) (i : Nat) : List (List UInt8) := if bitN d i = 0 then [pubS (o.getD i zH), s.getD i zH] else [s.getD i zH, pubS (o.getD i zH)]
def wparts (d : List UInt8) (o s : List (List UInt8)) : List (List UInt8) := (List.range 32).flatMap (wpart d o s)
def Len32 (l : List (List UInt8)) : Prop := ∀ x ∈ l, x.length = 32
def whoS (m : List UInt8) (x : One) : List UInt8 × Bool := if x.1.length = 32 ∧ x.2.1.length = 32 then (keyS (wparts (digS m) x.1 x.2.1), true) else (zH, false)
theorem wpart_len (d : List UInt8) (o s : List (List UInt8)) (i : Nat) : (wpart d o s i).length = 2 := by unfold wpart; split <;> rfl
theorem wparts_len (d : List UInt8) (o s : List (List UInt8)) : ∀ n, ((List.range n).flatMap (wpart d o s)).length = 2 * n
 | 0 => rfl
 | n + 1 => by rw [flatRange, List.length_append, wparts_len d o s n, wpart_len]; omega
theorem wparts_mem (d : List UInt8) (o s : List (List UInt8)) (hs : Len32 s) (n : Nat) : Len32 ((List.range n).flatMap (wpart d o s)) := by
 intro x hx
 obtain ⟨i, _, hi⟩ := List.mem_flatMap.1 hx
 unfold wpart at hi
 split at hi <;> simp only [List.mem_cons, List.not_mem_nil, or_false] at hi <;> rcases hi with rfl | rfl <;> first | exact pubS_len _ | exact getD_len s hs i
theorem set_at {α : Type} (a l : List α) (k : Nat) (x : α) (n : Nat) (h : n = a.length + k) : (a ++ l).set n x = a ++ l.set k x := by
 subst h; exact set_app a l k x
theorem who_1 (d : List UInt8) (z : List UInt8) (x : One) (ho : x.1.length = 32) (hs : x.2.1.length = 32) (lo : Len32 x.1) : q3a_1 0 x z d (List.replicate 64 zH) = some (z, wparts d x.1 x.2.1) := by
 unfold q3a_1
 have := loop_for (step := fun (s : Int × List (List UInt8)) => q3a_1_step s.1 x z d s.2) (fun i (_ : Unit) => ((i : Int), (List.range i).flatMap (wpart d x.1 x.2.1) ++ List.replicate (64 - 2 * i) zH)) (fun _ _ => ()) (fun _ => (z, wparts d x.1 x.2.1)) 32 (fun _ _ => True) (fun i w hi _ => ⟨?_, trivial⟩) (fun w _ => ?_) 32 0 () (by omega) trivial
 ·exact this
 ·show q3a_1_step (i : Int) x z d ((List.range i).flatMap (wpart d x.1 x.2.1) ++ List.replicate (64 - 2 * i) zH) = _
  unfold q3a_1_step
  have hb := bitN_le d i
  have hl := wparts_len d x.1 x.2.1 i
  have hlen : ((List.range i).flatMap (wpart d x.1 x.2.1) ++ List.replicate (64 - 2 * i) zH).length = 64 := by rw [List.length_append, hl, List.length_replicate]; omega
  rw [fork_t (by omega), bit_eq d i (by omega), andThen_mk, need_true (by omega), Int.toNat_natCast, pub_eq _ (getD_len _ lo i), andThen_mk, need_true (by omega)]
  have e1 : w64 (w64 (2 * (i : Int)) + ((bitN d i : Nat) : Int)) = ((2 * i + bitN d i : Nat) : Int) := by rw [w64_eq (n := 2 * (i : Int)) (by omega) (by omega), w64_eq (by omega) (by omega)]; omega
  have e2 : w64 (w64 (w64 (2 * (i : Int)) + 1) - ((bitN d i : Nat) : Int)) = ((2 * i + 1 - bitN d i : Nat) : Int) := by rw [w64_eq (n := 2 * (i : Int)) (by omega) (by omega), w64_eq (n := 2 * (i : Int) + 1) (by omega) (by omega), w64_eq (by omega) (by omega)]; omega
  rw [e1, e2, hlen, need_true (by omega), List.length_set, hlen, need_true (by omega), Int.toNat_natCast, Int.toNat_natCast, w64_eq (by omega) (by omega), flatRange]
  have hr : List.replicate (64 - 2 * i) zH = zH :: zH :: List.replicate (64 - 2 * (i + 1)) zH := by
   rw [show 64 - 2 * i = (64 - 2 * (i + 1)) + 1 + 1 from by omega, List.replicate_succ, List.replicate_succ]
  rw [hr]
  have hw : wpart d x.1 x.2.1 i = if bitN d i = 0 then [pubS (x.1.getD i zH), x.2.1.getD i zH] else [x.2.1.getD i zH, pubS (x.1.getD i zH)] := rfl
  rw [hw]
  rcases (show bitN d i = 0 ∨ bitN d i = 1 by omega) with h0 | h0
  ·rw [h0, if_pos rfl, set_at _ _ 0 _ _ (by rw [hl]), set_at _ _ 1 _ _ (by rw [hl]; rfl), List.append_assoc]
   rfl
  ·rw [h0, if_neg (by omega), set_at _ _ 1 _ _ (by rw [hl]), set_at _ _ 0 _ _ (by rw [hl]; omega), List.append_assoc]
   rfl
 ·show q3a_1_step 32 x z d _ = _
  unfold q3a_1_step
  rw [fork_f (by omega)]
  simp [wparts]
theorem who_eq (m : List UInt8) (hm : m.length ≤ 100000) (x : One) (lo : Len32 x.1) (ls : Len32 x.2.1) : q3a m x = some (whoS m x) := by
 unfold q3a whoS
 by_cases ho : x.1.length = 32
 ·rw [fork_nt (by omega)]
  by_cases hs : x.2.1.length = 32
  ·rw [fork_nt (by omega), dig_eq m hm, andThen_mk, need_true (by omega), if_pos ⟨ho, hs⟩]
   have w := who_1 (digS m) zH x ho hs lo
   rw [show Int.toNat (64 : Int) = 64 from rfl, w, andThen_mk]
   simp only
   have hk : q3b (wparts (digS m) x.1 x.2.1) = some (keyS (wparts (digS m) x.1 x.2.1)) := key_eq _ (by unfold wparts; rw [wparts_len]; omega) (wparts_mem _ _ _ ls 32)
   rw [hk]
   rfl
  ·rw [fork_nf (by omega), if_neg (fun h => hs h.2)]
 ·rw [fork_nf (by omega), if_neg (fun h => ho h.1)]
theorem sign_len (seed m : List UInt8) : (signS seed m).1.length = 32 ∧ (signS seed m).2.1.length = 32 ∧ Len32 (signS seed m).1 ∧ Len32 (signS seed m).2.1 := by
 refine ⟨by simp [signS, openS], by simp [signS, shutS], fun x hx => ?_, fun x hx => ?_⟩
 ·obtain ⟨i, _, rfl⟩ := List.mem_map.1 hx; exact secS_len _ _ _
 ·obtain ⟨i, _, rfl⟩ := List.mem_map.1 hx; exact pubS_len _
theorem getD_mapRange (f : Nat → List UInt8) (n i : Nat) (h : i < n) : ((List.range n).map f).getD i zH = f i := by
 rw [List.getD_eq_getElem?_getD, List.getElem?_map, List.getElem?_range h]; rfl
def pairB (seed d e : List UInt8) (i : Nat) : List (List UInt8) := if bitN d i = bitN e i then pairS seed i else [pubS (secS seed i 1), pubS (secS seed i 0)]
theorem wparts_sign (seed d e : List UInt8) : wparts e (openS seed d 32) (shutS seed d 32) = (List.range 32).flatMap (pairB seed d e) := by
 unfold wparts
 have : ∀ i ∈ List.range 32, wpart e (openS seed d 32) (shutS seed d 32) i = pairB seed d e i := by
  intro i hi
  have hi : i < 32 := List.mem_range.1 hi
  unfold wpart pairB openS shutS pairS
  rw [getD_mapRange _ 32 i hi, getD_mapRange _ 32 i hi]
  have h1 := bitN_le d i
  have h2 := bitN_le e i
  rcases (show bitN d i = 0 ∨ bitN d i = 1 by omega) with a | a <;> rcases (show bitN e i = 0 ∨ bitN e i = 1 by omega) with b | b <;> simp [a, b]
 rw [flatCongr this]
theorem who_sign (seed m : List UInt8) : whoS m (signS seed m) = (KeyS seed, true) := by
 obtain ⟨h1, h2, _, _⟩ := sign_len seed m
 unfold whoS
 rw [if_pos ⟨h1, h2⟩]
 show (keyS (wparts (digS m) (openS seed (digS m) 32) (shutS seed (digS m) 32)), true) = _
 rw [wparts_sign]
 have : ∀ i ∈ List.range 32, pairB seed (digS m) (digS m) i = pairS seed i := fun i _ => if_pos rfl
 rw [flatCongr this]
 rfl
end Go.Ax.V
