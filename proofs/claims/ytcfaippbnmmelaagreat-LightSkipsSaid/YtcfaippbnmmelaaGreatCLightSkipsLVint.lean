/-
  Numbers and hashes in bytes, as vint writes them.
-/
import Derived.Test.YtcfaippbnmmelaaGreatCLightSkipsP
import Derived.Test.YtcfaippbnmmelaaGreatCLightSkipsLBits
namespace Go.Ax.V
open Go.Ax
set_option linter.unusedVariables false
set_option linter.unusedSimpArgs false
def putF : Nat → Nat → List UInt8
 | 0, n => [UInt8.ofNat n]
 | f + 1, n => if n < 128 then [UInt8.ofNat n] else UInt8.ofNat (n % 128 + 128) :: putF f (n / 128)
def oneS (n : Int) : List UInt8 := if 0 ≤ n ∧ n ≤ 1099511627775 then putF 6 n.toNat else []
theorem putF_len : ∀ (f n : Nat), (putF f n).length ≤ f + 1
 | 0, _ => by simp [putF]
 | f + 1, n => by
  rw [putF]; split
  ·simp
  ·have := putF_len f (n / 128); simp; omega
theorem oneS_len (n : Int) : (oneS n).length ≤ 7 := by
 unfold oneS; split
 ·exact putF_len 6 _
 ·simp
theorem one_loop : ∀ (f n : Nat) (acc : List UInt8), n < 128 ^ (f + 1) → n < 9223372036854775808 → acc.length ≤ 1000 - f → f ≤ 10 → ∃ (m : Nat) (l : List UInt8), q39_1 (n : Int) acc = some ((m : Int), acc ++ l) ∧ l ++ [UInt8.ofNat m] = putF f n ∧ (acc ++ l).length ≤ 1000
 | 0, n, acc, h, h2, ha, _ => by
  refine ⟨n, [], ?_, rfl, by simp; omega⟩
  rw [List.append_nil]
  unfold q39_1
  refine loop_out ?_
  show q39_1_step (n : Int) acc = _
  unfold q39_1_step
  rw [fork_f (by omega)]
 | f + 1, n, acc, h, h2, ha, hf => by
  by_cases hn : n < 128
  ·refine ⟨n, [], ?_, by rw [putF, if_pos hn]; rfl, by simp; omega⟩
   rw [List.append_nil]
   unfold q39_1
   refine loop_out ?_
   show q39_1_step (n : Int) acc = _
   unfold q39_1_step
   rw [fork_f (by omega)]
  ·have hs : q39_1_step (n : Int) acc = some (.inl (((n / 128 : Nat) : Int), acc ++ [UInt8.ofNat (n % 128 + 128)])) := by
    unfold q39_1_step
    rw [fork_t (by omega), need_true (by simp; omega), band127 n (by omega), bor128 _ (by omega), u8_ofInt, show Int.toNat 7 = 7 from rfl, ishr_nat n 7 (by omega)]
   have hd : n / 128 < 128 ^ (f + 1) := by
    rw [Nat.div_lt_iff_lt_mul (by omega)]
    have : 128 ^ (f + 1 + 1) = 128 ^ (f + 1) * 128 := Nat.pow_succ ..
    omega
   obtain ⟨m, l, h4, h5, h6⟩ := one_loop f (n / 128) (acc ++ [UInt8.ofNat (n % 128 + 128)]) hd (by omega) (by simp; omega) (by omega)
   refine ⟨m, UInt8.ofNat (n % 128 + 128) :: l, ?_, ?_, ?_⟩
   ·unfold q39_1 at h4 ⊢
    rw [loop_next (s' := (((n / 128 : Nat) : Int), acc ++ [UInt8.ofNat (n % 128 + 128)])) hs, h4]
    simp
   ·rw [putF, if_neg hn, ← h5]; rfl
   ·simpa using h6
theorem one_eq' (n : Int) : q39 n = some (oneS n) := by
 unfold q39 oneS
 by_cases h0 : n < 0
 ·rw [fork_t h0, if_neg (by omega)]
 ·rw [fork_f h0]
  by_cases h1 : 1099511627775 < n
  ·rw [fork_t h1, if_neg (by omega)]
  ·rw [fork_f h1, if_pos (by omega)]
   obtain ⟨k, rfl⟩ := Int.eq_ofNat_of_zero_le (show 0 ≤ n by omega)
   obtain ⟨m, l, h2, h3, h4⟩ := one_loop 6 k [] (by omega) (by omega) (by simp) (by omega)
   rw [h2, andThen_mk]
   simp only [List.nil_append] at h4 ⊢
   rw [need_true (by simp; omega), u8_ofInt, h3]
   rfl
def putS (l : List Int) : List UInt8 := l.flatMap oneS
theorem put_len : ∀ (l : List Int), (putS l).length ≤ 7 * l.length
 | [] => by simp [putS]
 | n :: l => by
  have := put_len l
  have h := oneS_len n
  unfold putS at this ⊢
  rw [List.flatMap_cons, List.length_append, List.length_cons]; omega
theorem flat_take {α β : Type} (f : α → List β) (l : List α) (z : α) {i : Nat} (h : i < l.length) : (l.take (i + 1)).flatMap f = (l.take i).flatMap f ++ f (l.getD i z) := by
 rw [List.take_add_one, List.flatMap_append, List.getD_eq_getElem?_getD]
 congr 1
 rw [List.getElem?_eq_getElem h]
 simp only [Option.toList_some, Option.getD_some, List.flatMap_cons, List.flatMap_nil, List.append_nil]
theorem put_eq (l : List Int) (hl : l.length ≤ 100000000) : q38 l = some (putS l) := by
 have main : q38_1 l (l.length : Int) 0 [] = some (putS l) := by
  unfold q38_1
  have := loop_for (step := fun (s : Int × List UInt8) => q38_1_step l (l.length : Int) s.1 s.2) (fun i (_ : Unit) => ((i : Int), putS (l.take i))) (fun _ _ => ()) (fun _ => putS l) l.length (fun _ _ => True) (fun i w hi _ => ⟨?_, trivial⟩) (fun w _ => ?_) l.length 0 () (by omega) trivial
  ·exact this
  ·show q38_1_step l (l.length : Int) (i : Int) (putS (l.take i)) = _
   unfold q38_1_step
   have b := put_len (l.take i)
   have b2 := oneS_len (l.getD i 0)
   rw [List.length_take] at b
   rw [fork_t (by omega), need_true (by omega), one_eq', andThen_mk, Int.toNat_natCast, need_true (by omega), w64_eq (by omega) (by omega)]
   unfold putS
   rw [flat_take oneS l 0 hi]
   rfl
  ·show q38_1_step l (l.length : Int) (l.length : Int) (putS (l.take l.length)) = _
   unfold q38_1_step
   rw [fork_f (by omega), List.take_of_length_le (Nat.le_refl _)]
 unfold q38
 rw [main, andThen_mk]
theorem hash_eq (l : List (List UInt8)) (hl : l.length ≤ 1000000) (h : ∀ x ∈ l, x.length = 32) : q2u l = some l.flatten := by
 have hlen : ∀ i, ((l.take i).flatten).length ≤ 32 * l.length := by
  intro i
  have : ∀ (m : List (List UInt8)), (∀ x ∈ m, x.length = 32) → m.flatten.length = 32 * m.length := by
   intro m
   induction m with
   | nil => intro _; rfl
   | cons a m ih => intro hm; rw [List.flatten_cons, List.length_append, ih (fun x hx => hm x (List.mem_cons_of_mem _ hx)), hm a List.mem_cons_self, List.length_cons]; omega
  rw [this _ fun x hx => h x (List.mem_of_mem_take hx), List.length_take]; omega
 have main : q2u_1 l (l.length : Int) 0 [] = some l.flatten := by
  unfold q2u_1
  have := loop_for (step := fun (s : Int × List UInt8) => q2u_1_step l (l.length : Int) s.1 s.2) (fun i (_ : Unit) => ((i : Int), (l.take i).flatten)) (fun _ _ => ()) (fun _ => l.flatten) l.length (fun _ _ => True) (fun i w hi _ => ⟨?_, trivial⟩) (fun w _ => ?_) l.length 0 () (by omega) trivial
  ·exact this
  ·show q2u_1_step l (l.length : Int) (i : Int) (l.take i).flatten = _
   unfold q2u_1_step
   have b := hlen i
   have hm : (l.getD i (List.replicate 32 0)).length = 32 := h _ (by rw [List.getD_eq_getElem?_getD, List.getElem?_eq_getElem hi]; exact List.getElem_mem _)
   have e := flat_take (fun x : List UInt8 => x) l (List.replicate 32 0) hi
   simp only [List.flatMap_id'] at e
   rw [fork_t (by omega), need_true (by omega), Int.toNat_natCast, need_true (by omega), w64_eq (by omega) (by omega), e]
   rfl
  ·show q2u_1_step l (l.length : Int) (l.length : Int) (l.take l.length).flatten = _
   unfold q2u_1_step
   rw [fork_f (by omega), List.take_of_length_le (Nat.le_refl _)]
 unfold q2u
 rw [main, andThen_mk]
end Go.Ax.V
