/-
  Numbers and hashes in bytes, as vint writes them.
-/
import Derived.Test.YtcfaippbnmmelaaCLightOrderP
import Derived.Test.YtcfaippbnmmelaaCLightOrderLBits
namespace Go.Ax.V
open Go.Ax
set_option linter.unusedVariables false
set_option linter.unusedSimpArgs false
def putF : Nat → Nat → List UInt8
 | 0, n => [UInt8.ofNat n]
 | f + 1, n => if n < 128 then [UInt8.ofNat n] else UInt8.ofNat (n % 128 + 128) :: putF f (n / 128)
def oneS (n : Int) : List UInt8 := if 0 ≤ n ∧ n ≤ 1099511627775 then putF 6 n.toNat else []
theorem putF_len : ∀ (f n : Nat), (putF f n).length ≤ f + 1
 | 0, _ => by simp [putF]
 | f + 1, n => by
  rw [putF]; split
  ·simp
  ·have := putF_len f (n / 128); simp; omega
theorem putF_pos : ∀ (f n : Nat), 1 ≤ (putF f n).length
 | 0, _ => by simp [putF]
 | f + 1, n => by
  rw [putF]; split <;> simp
theorem oneS_len (n : Int) : (oneS n).length ≤ 7 := by
 unfold oneS; split
 ·exact putF_len 6 _
 ·simp
theorem one_loop : ∀ (f n : Nat) (acc : List UInt8), n < 128 ^ (f + 1) → n < 9223372036854775808 → acc.length ≤ 1000 - f → f ≤ 10 → ∃ (m : Nat) (l : List UInt8), vint_one_1 (n : Int) acc = some ((m : Int), acc ++ l) ∧ l ++ [UInt8.ofNat m] = putF f n ∧ (acc ++ l).length ≤ 1000
 | 0, n, acc, h, h2, ha, _ => by
  refine ⟨n, [], ?_, rfl, by simp; omega⟩
  rw [List.append_nil]
  unfold vint_one_1
  refine loop_out ?_
  show vint_one_1_step (n : Int) acc = _
  unfold vint_one_1_step
  rw [fork_f (by omega)]
 | f + 1, n, acc, h, h2, ha, hf => by
  by_cases hn : n < 128
  ·refine ⟨n, [], ?_, by rw [putF, if_pos hn]; rfl, by simp; omega⟩
   rw [List.append_nil]
   unfold vint_one_1
   refine loop_out ?_
   show vint_one_1_step (n : Int) acc = _
   unfold vint_one_1_step
   rw [fork_f (by omega)]
  ·have hs : vint_one_1_step (n : Int) acc = some (.inl (((n / 128 : Nat) : Int), acc ++ [UInt8.ofNat (n % 128 + 128)])) := by
    unfold vint_one_1_step
    rw [fork_t (by omega), need_true (by simp; omega), band127 n (by omega), bor128 _ (by omega), u8_ofInt, show Int.toNat 7 = 7 from rfl, ishr_nat n 7 (by omega)]
   have hd : n / 128 < 128 ^ (f + 1) := by
    rw [Nat.div_lt_iff_lt_mul (by omega)]
    have : 128 ^ (f + 1 + 1) = 128 ^ (f + 1) * 128 := Nat.pow_succ ..
    omega
   obtain ⟨m, l, h4, h5, h6⟩ := one_loop f (n / 128) (acc ++ [UInt8.ofNat (n % 128 + 128)]) hd (by omega) (by simp; omega) (by omega)
   refine ⟨m, UInt8.ofNat (n % 128 + 128) :: l, ?_, ?_, ?_⟩
   ·unfold vint_one_1 at h4 ⊢
    rw [loop_next (s' := (((n / 128 : Nat) : Int), acc ++ [UInt8.ofNat (n % 128 + 128)])) hs, h4]
    simp
   ·rw [putF, if_neg hn, ← h5]; rfl
   ·simpa using h6
theorem one_eq' (n : Int) : vint_one n = some (oneS n) := by
 unfold vint_one oneS
 by_cases h0 : n < 0
 ·rw [fork_t h0, if_neg (by omega)]
 ·rw [fork_f h0]
  by_cases h1 : 1099511627775 < n
  ·rw [fork_t h1, if_neg (by omega)]
  ·rw [fork_f h1, if_pos (by omega)]
   obtain ⟨k, rfl⟩ := Int.eq_ofNat_of_zero_le (show 0 ≤ n by omega)
   obtain ⟨m, l, h2, h3, h4⟩ := one_loop 6 k [] (by omega) (by omega) (by simp) (by omega)
   rw [h2, andThen_mk]
   simp only [List.nil_append] at h4 ⊢
   rw [need_true (by simp; omega), u8_ofInt, h3]
   rfl
def putS (l : List Int) : List UInt8 := l.flatMap oneS
theorem put_len : ∀ (l : List Int), (putS l).length ≤ 7 * l.length
 | [] => by simp [putS]
 | n :: l => by
  have := put_len l
  have h := oneS_len n
  unfold putS at this ⊢
  rw [List.flatMap_cons, List.length_append, List.length_cons]; omega
theorem flat_take {α β : Type} (f : α → List β) (l : List α) (z : α) {i : Nat} (h : i < l.length) : (l.take (i + 1)).flatMap f = (l.take i).flatMap f ++ f (l.getD i z) := by
 rw [List.take_add_one, List.flatMap_append, List.getD_eq_getElem?_getD]
 congr 1
 rw [List.getElem?_eq_getElem h]
 simp only [Option.toList_some, Option.getD_some, List.flatMap_cons, List.flatMap_nil, List.append_nil]
theorem put_eq (l : List Int) (hl : l.length ≤ 100000000) : vint_Put l = some (putS l) := by
 have main : vint_Put_1 l (l.length : Int) 0 [] = some (putS l) := by
  unfold vint_Put_1
  have := loop_for (step := fun (s : Int × List UInt8) => vint_Put_1_step l (l.length : Int) s.1 s.2) (fun i (_ : Unit) => ((i : Int), putS (l.take i))) (fun _ _ => ()) (fun _ => putS l) l.length (fun _ _ => True) (fun i w hi _ => ⟨?_, trivial⟩) (fun w _ => ?_) l.length 0 () (by omega) trivial
  ·exact this
  ·show vint_Put_1_step l (l.length : Int) (i : Int) (putS (l.take i)) = _
   unfold vint_Put_1_step
   have b := put_len (l.take i)
   have b2 := oneS_len (l.getD i 0)
   rw [List.length_take] at b
   rw [fork_t (by omega), need_true (by omega), one_eq', andThen_mk, Int.toNat_natCast, need_true (by omega), w64_eq (by omega) (by omega)]
   unfold putS
   rw [flat_take oneS l 0 hi]
   rfl
  ·show vint_Put_1_step l (l.length : Int) (l.length : Int) (putS (l.take l.length)) = _
   unfold vint_Put_1_step
   rw [fork_f (by omega), List.take_of_length_le (Nat.le_refl _)]
 unfold vint_Put
 rw [main, andThen_mk]
theorem hash_eq (l : List (List UInt8)) (hl : l.length ≤ 1000000) (h : ∀ x ∈ l, x.length = 32) : vint_Hash l = some l.flatten := by
 have hlen : ∀ i, ((l.take i).flatten).length ≤ 32 * l.length := by
  intro i
  have : ∀ (m : List (List UInt8)), (∀ x ∈ m, x.length = 32) → m.flatten.length = 32 * m.length := by
   intro m
   induction m with
   | nil => intro _; rfl
   | cons a m ih => intro hm; rw [List.flatten_cons, List.length_append, ih (fun x hx => hm x (List.mem_cons_of_mem _ hx)), hm a List.mem_cons_self, List.length_cons]; omega
  rw [this _ fun x hx => h x (List.mem_of_mem_take hx), List.length_take]; omega
 have main : vint_Hash_1 l (l.length : Int) 0 [] = some l.flatten := by
  unfold vint_Hash_1
  have := loop_for (step := fun (s : Int × List UInt8) => vint_Hash_1_step l (l.length : Int) s.1 s.2) (fun i (_ : Unit) => ((i : Int), (l.take i).flatten)) (fun _ _ => ()) (fun _ => l.flatten) l.length (fun _ _ => True) (fun i w hi _ => ⟨?_, trivial⟩) (fun w _ => ?_) l.length 0 () (by omega) trivial
  ·exact this
  ·show vint_Hash_1_step l (l.length : Int) (i : Int) (l.take i).flatten = _
   unfold vint_Hash_1_step
   have b := hlen i
   have hm : (l.getD i (List.replicate 32 0)).length = 32 := h _ (by rw [List.getD_eq_getElem?_getD, List.getElem?_eq_getElem hi]; exact List.getElem_mem _)
   have e := flat_take (fun x : List UInt8 => x) l (List.replicate 32 0) hi
   simp only [List.flatMap_id'] at e
   rw [fork_t (by omega), need_true (by omega), Int.toNat_natCast, need_true (by omega), w64_eq (by omega) (by omega), e]
   rfl
  ·show vint_Hash_1_step l (l.length : Int) (l.length : Int) (l.take l.length).flatten = _
   unfold vint_Hash_1_step
   rw [fork_f (by omega), List.take_of_length_le (Nat.le_refl _)]
 unfold vint_Hash
 rw [main, andThen_mk]
abbrev Rdr := List UInt8 × Bool × Unit
def takeS (n : Nat) (r : Rdr) : List UInt8 × Rdr := if r.2.1 then ([], (r.1, true, ())) else if r.1.length < n then ([], (r.1, true, ())) else (r.1.take n, (r.1.drop n, false, ()))
theorem take_eq (n : Nat) (hn : n ≤ 1000) (r : Rdr) : vint_Reader_take_a34d (n : Int) r = some (takeS n r) := by
 obtain ⟨l, b, u⟩ := r
 unfold vint_Reader_take_a34d takeS
 cases b with
 | true => rfl
 | false =>
  simp only [fork_ff, Bool.false_eq_true, if_false]
  by_cases h : l.length < n
  ·rw [fork_t (by omega), if_pos h]
  ·rw [fork_f (by omega), if_neg h, need_true (by omega), need_true (by omega)]
   have e1 : cutL l 0 (n : Int) = l.take n := by rw [cut_to, Int.toNat_natCast]
   have e2 : cutL l (n : Int) (l.length : Int) = l.drop n := by rw [cut_from, Int.toNat_natCast]
   rw [e1, e2]
def numF : Nat → Nat → Nat → List UInt8 → Int × Rdr
 | 0, _, _, l => (0, l, true, ())
 | k + 1, i, acc, [] => (0, [], true, ())
 | k + 1, i, acc, b :: l => if b.toNat < 128 then (if 1099511627775 < acc + b.toNat * 128 ^ i ∨ (b = 0 ∧ 0 < i) then (0, l, true, ()) else (((acc + b.toNat * 128 ^ i : Nat) : Int), l, false, ()))
   else numF k (i + 1) (acc + (b.toNat % 128) * 128 ^ i) l
def numS (r : Rdr) : Int × Rdr := if r.2.1 then (0, (r.1, true, ())) else numF 6 0 0 r.1
theorem num_loop : ∀ (k i acc : Nat) (l : List UInt8), i + k = 6 → acc < 128 ^ i →
  (match vint_Reader_Number_4c5f_1 (acc : Int) ((7 * i : Nat) : Int) (l, false, ()) with | some (.inl o) => some (o.1, o.2) | some (.inr o) => some ((0 : Int), (o.1, true, ())) | none => none) = some (numF k i acc l)
 | 0, i, acc, l, hi, ha => by
  have : i = 6 := by omega
  subst this
  have : vint_Reader_Number_4c5f_1 (acc : Int) ((7 * 6 : Nat) : Int) (l, false, ()) = some (.inr (l, false, ())) := by
   unfold vint_Reader_Number_4c5f_1
   refine loop_out ?_
   show vint_Reader_Number_4c5f_1_step (acc : Int) ((7 * 6 : Nat) : Int) (l, false, ()) = _
   unfold vint_Reader_Number_4c5f_1_step
   rw [fork_f (by omega)]
  rw [this]; rfl
 | k + 1, i, acc, [], hi, ha => by
  have : vint_Reader_Number_4c5f_1 (acc : Int) ((7 * i : Nat) : Int) ([], false, ()) = some (.inl (0, ([], true, ()))) := by
   unfold vint_Reader_Number_4c5f_1
   refine loop_out ?_
   show vint_Reader_Number_4c5f_1_step (acc : Int) ((7 * i : Nat) : Int) ([], false, ()) = _
   unfold vint_Reader_Number_4c5f_1_step
   rw [fork_t (by omega), show (1 : Int) = ((1 : Nat) : Int) from rfl, take_eq 1 (by omega), andThen_mk]
   rfl
  rw [this]; rfl
 | k + 1, i, acc, b :: l, hi, ha => by
  have hp : 128 ^ i = 2 ^ (7 * i) := by rw [Nat.pow_mul]
  have hb := b.toNat_lt
  have hpi : 128 ^ i ≤ 128 ^ 5 := Nat.pow_le_pow_right (by omega) (by omega)
  have hpow : 128 ^ (i + 1) = 128 ^ i * 128 := Nat.pow_succ ..
  have hm : (b.toNat % 128) * 128 ^ i ≤ 127 * 128 ^ i := Nat.mul_le_mul_right _ (by omega)
  have e : bor (acc : Int) (ishl ((UInt8.toNat (b &&& 127) : Nat) : Int) (7 * i)) = ((acc + (b.toNat % 128) * 128 ^ i : Nat) : Int) := by
   rw [u8_and127, ishl_nat _ _ (by omega) (by rw [← hp]; omega), hp]
   have ho := or_high acc (b.toNat % 128) (7 * i) (by rw [← hp]; exact ha)
   rw [bor_nat _ _ (by rw [ho, ← hp]; omega), ho]
  have ht : takeS 1 (b :: l, false, ()) = ([b], (l, false, ())) := by
   unfold takeS
   rw [if_neg (by simp), if_neg (by simp)]; rfl
  have step : ∀ r, vint_Reader_Number_4c5f_1_step (acc : Int) ((7 * i : Nat) : Int) (b :: l, false, ()) = some r ↔ (if b.toNat < 128 then (if 1099511627775 < acc + b.toNat * 128 ^ i then some (.inr (.inr (l, false, ()))) else if b = 0 then (if 0 < i then some (.inr (.inr (l, false, ()))) else some (.inr (.inl (((acc + b.toNat * 128 ^ i : Nat) : Int), l, false, ())))) else some (.inr (.inl (((acc + b.toNat * 128 ^ i : Nat) : Int), l, false, ())))) else some (.inl (((acc + (b.toNat % 128) * 128 ^ i : Nat) : Int), ((7 * (i + 1) : Nat) : Int), (l, false, ())))) = some r := by
   intro r
   unfold vint_Reader_Number_4c5f_1_step
   rw [fork_t (by omega), show (1 : Int) = ((1 : Nat) : Int) from rfl, take_eq 1 (by omega), andThen_mk, ht]
   simp only [List.length_cons, List.length_nil, Int.toNat_zero, List.getD_cons_zero, Int.toNat_natCast, e]
   rw [fork_f (by omega), need_true (by omega), need_true (by omega), w64_eq (by omega) (by omega)]
   by_cases h1 : b.toNat < 128
   ·have hlt : b < 128 := UInt8.lt_iff_toNat_lt.2 h1
    rw [fork_t hlt, if_pos h1, Nat.mod_eq_of_lt h1]
    by_cases h2 : 1099511627775 < acc + b.toNat * 128 ^ i
    ·rw [fork_t (by omega), if_pos h2]
    ·rw [fork_f (by omega), if_neg h2]
     by_cases h3 : b = 0
     ·rw [fork_t h3, if_pos h3]
      by_cases h4 : 0 < i
      ·rw [fork_t (by omega), if_pos h4]
      ·rw [fork_f (by omega), if_neg h4]
     ·rw [fork_f h3, if_neg h3]
   ·have hlt : ¬ b < 128 := fun h => h1 (UInt8.lt_iff_toNat_lt.1 h)
    rw [fork_f hlt, if_neg h1, show ((7 * i : Nat) : Int) + 7 = ((7 * (i + 1) : Nat) : Int) from by omega]
  rw [numF]
  by_cases h1 : b.toNat < 128
  ·rw [if_pos h1]
   have go : ∀ r, (if 1099511627775 < acc + b.toNat * 128 ^ i then some (.inr (.inr (l, false, ()))) else if b = 0 then (if 0 < i then some (.inr (.inr (l, false, ()))) else some (.inr (.inl (((acc + b.toNat * 128 ^ i : Nat) : Int), l, false, ())))) else some (.inr (.inl (((acc + b.toNat * 128 ^ i : Nat) : Int), l, false, ())))) = some (.inr r : (Int × Int × Rdr) ⊕ ((Int × Rdr) ⊕ Rdr)) →
     vint_Reader_Number_4c5f_1 (acc : Int) ((7 * i : Nat) : Int) (b :: l, false, ()) = some r := by
    intro r hr
    unfold vint_Reader_Number_4c5f_1
    refine loop_out ?_
    refine (step _).2 ?_
    rw [if_pos h1]; exact hr
   by_cases h2 : 1099511627775 < acc + b.toNat * 128 ^ i
   ·rw [go (.inr (l, false, ())) (if_pos h2), if_pos (Or.inl h2)]
   ·by_cases h3 : b = 0 ∧ 0 < i
    ·rw [go (.inr (l, false, ())) (by rw [if_neg h2, if_pos h3.1, if_pos h3.2]), if_pos (Or.inr h3)]
    ·rw [go (.inl (((acc + b.toNat * 128 ^ i : Nat) : Int), l, false, ())) (by
      rw [if_neg h2]
      by_cases h4 : b = 0
      ·rw [if_pos h4, if_neg (fun h => h3 ⟨h4, h⟩)]
      ·rw [if_neg h4]), if_neg (fun h => h.elim h2 h3)]
  ·rw [if_neg h1, ← num_loop k (i + 1) (acc + (b.toNat % 128) * 128 ^ i) l (by omega) (by omega)]
   have hs : vint_Reader_Number_4c5f_1_step (acc : Int) ((7 * i : Nat) : Int) (b :: l, false, ()) = some (.inl (((acc + (b.toNat % 128) * 128 ^ i : Nat) : Int), ((7 * (i + 1) : Nat) : Int), (l, false, ()))) := (step _).2 (by rw [if_neg h1])
   unfold vint_Reader_Number_4c5f_1
   rw [loop_next hs]
theorem number_eq (r : Rdr) : vint_Reader_Number_4c5f r = some (numS r) := by
 obtain ⟨l, b, u⟩ := r
 unfold vint_Reader_Number_4c5f numS
 cases b with
 | true =>
  have : vint_Reader_Number_4c5f_1 0 0 (l, true, ()) = some (.inl (0, (l, true, ()))) := by
   unfold vint_Reader_Number_4c5f_1
   refine loop_out ?_
   show vint_Reader_Number_4c5f_1_step 0 0 (l, true, ()) = _
   unfold vint_Reader_Number_4c5f_1_step
   rw [fork_t (by omega), show (1 : Int) = ((1 : Nat) : Int) from rfl, take_eq 1 (by omega), andThen_mk]
   rfl
  rw [show ((l, true, u) : Rdr) = (l, true, ()) from rfl, this]; rfl
 | false =>
  have := num_loop 6 0 0 l rfl (by decide)
  rw [if_neg (by simp), ← this]
  show andThen (vint_Reader_Number_4c5f_1 0 0 (l, false, ())) _ = match vint_Reader_Number_4c5f_1 0 0 (l, false, ()) with | some (.inl o) => _ | some (.inr o) => _ | none => _
  cases vint_Reader_Number_4c5f_1 0 0 (l, false, ()) with
  | none => rfl
  | some o => cases o <;> rfl
end Go.Ax.V
