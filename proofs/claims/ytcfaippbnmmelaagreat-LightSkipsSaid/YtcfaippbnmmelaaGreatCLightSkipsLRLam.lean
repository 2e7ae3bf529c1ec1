/-
  The document's one-time signatures.
-/
import Derived.Test.YtcfaippbnmmelaaGreatCLightSkipsLLam
import Derived.Test.YtcfaippbnmmelaaGreatCLightSkipsLRTag
namespace Go.Ax.V
open Go.Ax
set_option linter.unusedVariables false
set_option linter.unusedSimpArgs false
theorem rsec_eq (seed : List UInt8) (hs : seed.length = 32) (i v : Nat) (hi : i < 256) (hv : v < 256) : q1f seed (i : Int) (v : Int) = some (secS seed i v) := by
 unfold q1f
 have hf : [seed, [UInt8.ofNat (Int.toNat ((i : Int) % 256)), UInt8.ofNat (Int.toNat ((v : Int) % 256))]].flatten = seed ++ [UInt8.ofNat i, UInt8.ofNat v] := by
  rw [u8_ofInt, u8_ofInt]; simp
 rw [rtagged_eq _ _ (by rw [hf]; simp; omega) (by simp), hf]
 rfl
theorem rpub_eq (s : List UInt8) (hs : s.length = 32) : q16 s = some (pubS s) := by
 unfold q16
 have hf : [s].flatten = s := by simp
 rw [rtagged_eq _ _ (by rw [hf]; omega) (by simp), hf]
 rfl
theorem rdig_eq (m : List UInt8) (hm : m.length ≤ 100000) : q1g 109 [m] = some (digS m) := by
 have hf : [m].flatten = m := by simp
 rw [rtagged_eq _ _ (by rw [hf]; omega) (by simp), hf]
 rfl
theorem rbit_at (d : List UInt8) (i : Nat) (hi : i < 256) : need (0 ≤ (w64 (Int.tdiv (i : Int) (8 : Int))) ∧ (w64 (Int.tdiv (i : Int) (8 : Int))) < (32 : Int)) (need (0 ≤ (((UInt64.ofNat (Int.toNat ((w64 ((7 : Int) - (Int.tmod (i : Int) (8 : Int)))) % 18446744073709551616))).toNat : Nat) : Int))
  (some (band ((UInt8.toNat (UInt8.ofNat (UInt8.toNat (List.getD d (Int.toNat (w64 (Int.tdiv (i : Int) (8 : Int)))) (0 : UInt8)) >>> (Int.toNat (((UInt64.ofNat (Int.toNat ((w64 ((7 : Int) - (Int.tmod (i : Int) (8 : Int)))) % 18446744073709551616))).toNat : Nat) : Int)))) : Nat) : Int) (1 : Int)))) = some ((bitN d i : Nat) : Int) := by
 have e1 : Int.tdiv (i : Int) 8 = ((i / 8 : Nat) : Int) := by rw [Int.tdiv_eq_ediv_of_nonneg (by omega)]; omega
 have e2 : Int.tmod (i : Int) 8 = ((i % 8 : Nat) : Int) := by rw [Int.tmod_eq_emod_of_nonneg (by omega)]; omega
 have e3 : (UInt64.ofNat (Int.toNat ((7 - ((i % 8 : Nat) : Int)) % 18446744073709551616))).toNat = 7 - i % 8 := by
  rw [show Int.toNat ((7 - ((i % 8 : Nat) : Int)) % 18446744073709551616) = 7 - i % 8 from by omega, UInt64.toNat_ofNat']; omega
 rw [e1, e2, w64_eq (by omega) (by omega), w64_eq (by omega) (by omega), need_true (by omega), e3, need_true (by omega), Int.toNat_natCast, Int.toNat_natCast]
 generalize hx : d.getD (i / 8) 0 = x
 have hlt := x.toNat_lt
 have hs : x.toNat >>> (7 - i % 8) ≤ x.toNat := by rw [Nat.shiftRight_eq_div_pow]; exact Nat.div_le_self _ _
 rw [UInt8.toNat_ofNat', Nat.mod_eq_of_lt (by omega)]
 have hb := band_nat (x.toNat >>> (7 - i % 8)) 1 (by omega) (by omega)
 rw [show ((1 : Nat) : Int) = 1 from rfl] at hb
 rw [hb, show (1 : Nat) = 2 ^ 1 - 1 from rfl, Nat.and_two_pow_sub_one_eq_mod]
 unfold bitN
 rw [hx]
theorem rbit_eq (m : List UInt8) (hm : m.length ≤ 100000) (i : Nat) (hi : i < 256) : q23 m (i : Int) = some ((bitN (digS m) i : Nat) : Int) := by
 unfold q23
 rw [rdig_eq m hm, andThen_mk]
 exact rbit_at (digS m) i hi
theorem rkey_eq (l : List (List UInt8)) (hl : l.length ≤ 1000) (h : ∀ x ∈ l, x.length = 32) : q20 l = some (keyS l) := by
 have hlen : ∀ i, ((l.take i).flatten).length ≤ 32 * l.length := fun i => by
  rw [flat32 _ fun x hx => h x (List.mem_of_mem_take hx), List.length_take]; omega
 have main : ∀ z, q20_1 l (l.length : Int) 0 z [] = some (z, l.flatten) := by
  intro z
  unfold q20_1
  have := loop_for (step := fun (s : Int × List UInt8) => q20_1_step l (l.length : Int) s.1 z s.2) (fun i (_ : Unit) => ((i : Int), (l.take i).flatten)) (fun _ _ => ()) (fun _ => (z, l.flatten)) l.length (fun _ _ => True) (fun i w hi _ => ⟨?_, trivial⟩) (fun w _ => ?_) l.length 0 () (by omega) trivial
  ·exact this
  ·show q20_1_step l (l.length : Int) (i : Int) z (l.take i).flatten = _
   unfold q20_1_step
   have b := hlen i
   have hm : (l.getD i (List.replicate 32 0)).length = 32 := getD_len l h i
   rw [fork_t (by omega), need_true (by omega), Int.toNat_natCast, need_true (by omega), w64_eq (by omega) (by omega), flat_step l hi]
   rfl
  ·show q20_1_step l (l.length : Int) (l.length : Int) z (l.take l.length).flatten = _
   unfold q20_1_step
   rw [fork_f (by omega), List.take_of_length_le (Nat.le_refl _)]
 unfold q20
 have hf : [l.flatten].flatten = l.flatten := by simp
 have := flat32 l h
 rw [main, andThen_mk]
 simp only
 rw [rtagged_eq _ _ (by rw [hf]; omega) (by simp), hf]
 rfl
theorem rKey_eq (seed : List UInt8) (hs : seed.length = 32) : q21 seed = some (KeyS seed) := by
 have main : ∀ z, q21_1 0 seed z [] = some (z, partsS' seed 32) := by
  intro z
  unfold q21_1
  have := loop_for (step := fun (s : Int × List (List UInt8)) => q21_1_step s.1 seed z s.2) (fun i (_ : Unit) => ((i : Int), partsS' seed i)) (fun _ _ => ()) (fun _ => (z, partsS' seed 32)) 32 (fun _ _ => True) (fun i w hi _ => ⟨?_, trivial⟩) (fun w _ => ?_) 32 0 () (by omega) trivial
  ·exact this
  ·show q21_1_step (i : Int) seed z (partsS' seed i) = _
   unfold q21_1_step
   have hl := (parts_mem seed i).2
   have s0 := rsec_eq seed hs i 0 (by omega) (by omega)
   have s1 := rsec_eq seed hs i 1 (by omega) (by omega)
   rw [show ((0 : Nat) : Int) = 0 from rfl] at s0
   rw [show ((1 : Nat) : Int) = 1 from rfl] at s1
   rw [fork_t (by omega), s0, andThen_mk, rpub_eq _ (secS_len _ _ _), andThen_mk, s1, andThen_mk, rpub_eq _ (secS_len _ _ _), andThen_mk, need_true (by simp; omega), w64_eq (by omega) (by omega)]
   unfold partsS'
   rw [flatRange]
   rfl
  ·show q21_1_step 32 seed z (partsS' seed 32) = _
   unfold q21_1_step
   rw [fork_f (by omega)]
 unfold q21
 obtain ⟨h1, h2⟩ := parts_mem seed 32
 rw [main, andThen_mk]
 simp only
 rw [rkey_eq _ (by omega) h1]
 rfl
theorem rsign_eq (seed m : List UInt8) (hs : seed.length = 32) (hm : m.length ≤ 100000) : q1q seed m = some (signS seed m) := by
 have main : q1q_1 m 0 seed () () [] [] = some ((), (), openS seed (digS m) 32, shutS seed (digS m) 32) := by
  generalize hd : digS m = d
  unfold q1q_1
  have := loop_for (step := fun (s : Int × List (List UInt8) × List (List UInt8)) => q1q_1_step m s.1 seed () () s.2.1 s.2.2) (fun i (_ : Unit) => ((i : Int), openS seed d i, shutS seed d i)) (fun _ _ => ()) (fun _ => ((), (), openS seed d 32, shutS seed d 32)) 32 (fun _ _ => True) (fun i w hi _ => ⟨?_, trivial⟩) (fun w _ => ?_) 32 0 () (by omega) trivial
  ·exact this
  ·show q1q_1_step m (i : Int) seed () () (openS seed d i) (shutS seed d i) = _
   unfold q1q_1_step
   have hb := bitN_le d i
   have lo : (openS seed d i).length = i := by simp [openS]
   have ls : (shutS seed d i).length = i := by simp [shutS]
   rw [fork_t (by omega), rbit_eq m hm i (by omega), andThen_mk, hd, rsec_eq seed hs i _ (by omega) (by omega), andThen_mk, need_true (by simp; omega), w64_eq (by omega) (by omega), show (1 : Int) - ((bitN d i : Nat) : Int) = ((1 - bitN d i : Nat) : Int) from by omega,
    rsec_eq seed hs i _ (by omega) (by omega), andThen_mk, rpub_eq _ (secS_len _ _ _), andThen_mk, need_true (by simp; omega), w64_eq (by omega) (by omega)]
   unfold openS shutS
   rw [mapRange, mapRange]
   rfl
  ·show q1q_1_step m 32 seed () () (openS seed d 32) (shutS seed d 32) = _
   unfold q1q_1_step
   rw [fork_f (by omega)]
 unfold q1q
 rw [main, andThen_mk]
 rfl
end Go.Ax.V
