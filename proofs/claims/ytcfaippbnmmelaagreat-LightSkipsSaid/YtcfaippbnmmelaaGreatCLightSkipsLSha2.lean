/-
  The sum of any bytes by the program's own functions is SHA-256.
-/
import Derived.Test.YtcfaippbnmmelaaGreatCLightSkipsLSha1
namespace Go.Ax.V
open Go.Ax
set_option linter.unusedVariables false
set_option linter.unusedSimpArgs false
set_option maxRecDepth 100000
theorem blocks_eq (n : Nat) (h : n ≤ 1073741824) : q2j (n : Int) = some (((n + 8) / 64 + 1 : Nat) : Int) := by
 unfold q2j
 have e : Int.tdiv ((n : Int) + 8) 64 = (((n + 8) / 64 : Nat) : Int) := by
  rw [Int.tdiv_eq_ediv_of_nonneg (by omega)]; omega
 simp (disch := omega) only [w64_eq, e]
 rfl
theorem set_app {α : Type} (a l : List α) (k : Nat) (x : α) : (a ++ l).set (a.length + k) x = a ++ l.set k x := by
 rw [List.set_append_right _ _ (by omega)]
 congr 2; omega
theorem padded_loop (x0 : UInt64) (n : Nat) (hn : 8 ≤ n) (hn2 : n ≤ 2147483648) (l : List UInt8) (hl : l.length = n) : q2o_1 x0 0 l = some (runFor (fun i (w : List UInt8) => w.set (n - 1 - i) (byteAt x0 i)) 0 8 l) := by
 unfold q2o_1
 refine loop_for (fun i w => ((i : Int), w)) (fun i (w : List UInt8) => w.set (n - 1 - i) (byteAt x0 i)) (fun w => w) 8 (fun _ w => w.length = n) (fun i w hi hw => ⟨?_, by simp [hw]⟩) (fun w _ => ?_) 8 0 l rfl hl
 ·unfold q2o_1_step
  have e0 : Int.toNat ((n : Int) - 1 - (i : Int)) = n - 1 - i := by omega
  have e1 : Int.toNat (8 * (i : Int)) = 8 * i := by omega
  simp (disch := omega) only [fork_t, w64_eq, need_true, hw, e0, e1]
  rfl
 ·unfold q2o_1_step
  rfl
theorem padded_eq (b : List UInt8) (hb : b.length ≤ 1073741824) : q2o b = some (padS b) := by
 unfold q2o
 rw [blocks_eq _ hb, andThen_mk]
 have hN : w64 ((((b.length + 8) / 64 + 1 : Nat) : Int) * 64) = (((b.length + 8) / 64 * 64 + 64 : Nat) : Int) := by
  rw [w64_eq (by omega) (by omega)]; omega
 generalize hn : (b.length + 8) / 64 * 64 + 64 = n at hN
 rw [hN, need_true (by omega), Int.toNat_natCast, List.length_replicate, List.take_of_length_le (by omega), List.drop_replicate]
 have hz : n - b.length = ((b.length + 8) / 64 * 64 + 55 - b.length) + 1 + 8 := by omega
 have hl : (b ++ List.replicate (n - b.length) (0 : UInt8)).length = n := by simp; omega
 rw [hl, need_true (by omega), Int.toNat_natCast]
 have hbits : UInt64.ofNat (Int.toNat ((b.length : Int) % 18446744073709551616)) * 8 = bitsOf b := by
  unfold bitsOf; congr 2; omega
 rw [hbits, padded_loop (bitsOf b) n (by omega) (by omega) _ (by rw [List.length_set, hl]), andThen_mk]
 congr 1
 have h1 : (b ++ List.replicate (n - b.length) (0 : UInt8)).set b.length 128 = (b ++ 128 :: List.replicate ((b.length + 8) / 64 * 64 + 55 - b.length) 0) ++ [0, 0, 0, 0, 0, 0, 0, 0] := by
  rw [hz]
  generalize (b.length + 8) / 64 * 64 + 55 - b.length = z
  have h := set_app b (List.replicate ((z + 8) + 1) (0 : UInt8)) 0 128
  rw [Nat.add_zero b.length] at h
  rw [show z + 1 + 8 = (z + 8) + 1 from by omega, h, List.replicate_succ, List.set_cons_zero, ← List.replicate_append_replicate, List.append_assoc]
  rfl
 rw [h1]
 have hA : (b ++ 128 :: List.replicate ((b.length + 8) / 64 * 64 + 55 - b.length) (0 : UInt8)).length = n - 8 := by simp; omega
 generalize hA2 : (b ++ 128 :: List.replicate ((b.length + 8) / 64 * 64 + 55 - b.length) (0 : UInt8)) = A at hA
 have ix : ∀ i, i < 8 → n - 1 - i = A.length + (7 - i) := by intro i hi; omega
 simp only [runFor]
 rw [ix 0 (by omega), ix (0 + 1) (by omega), ix (0 + 1 + 1) (by omega), ix (0 + 1 + 1 + 1) (by omega), ix (0 + 1 + 1 + 1 + 1) (by omega), ix (0 + 1 + 1 + 1 + 1 + 1) (by omega), ix (0 + 1 + 1 + 1 + 1 + 1 + 1) (by omega), ix (0 + 1 + 1 + 1 + 1 + 1 + 1 + 1) (by omega)]
 simp only [set_app]
 unfold padS
 rw [show ∀ x : List UInt8, b ++ 128 :: (List.replicate ((b.length + 8) / 64 * 64 + 55 - b.length) 0 ++ x) = A ++ x from fun x => by rw [← hA2]; simp]
 rfl
theorem pad_len (b : List UInt8) : (padS b).length = 64 * ((b.length + 8) / 64 + 1) := by
 unfold padS
 simp
 omega
theorem runFor_len {α : Type} {f : Nat → List α → List α} (h : ∀ i w, (f i w).length = w.length) : ∀ (k i : Nat) (w : List α), (runFor f i k w).length = w.length
 | 0, _, _ => rfl
 | k + 1, i, w => by rw [runFor, runFor_len h k, h]
theorem mixS_len (k : List UInt32) (b : List UInt8) (h : List UInt32) : (mixS k b h).length = h.length := runFor_len (fun i w => by simp [addS]) _ _ _
theorem blocksS_len : ∀ (n : Nat) (l : List UInt8) (h : List UInt32), (blocksS n l h).length = h.length
 | 0, _, _ => rfl
 | n + 1, l, h => by rw [blocksS, blocksS_len n, mixS_len]
theorem sum_1 (out : List UInt8) : ∀ (n : Nat) (l : List UInt8), l.length = 64 * n → l.length ≤ 2147483648 → ∀ h, q3g_1 l out h kS = some (out, blocksS n l h)
 | 0, l, hl, _, h => by
  unfold q3g_1
  refine loop_out ?_
  unfold q3g_1_step
  show fork (decide ((0 : Int) < (l.length : Int))) _ _ = _
  rw [fork_f (by omega)]; rfl
 | n + 1, l, hl, hl2, h => by
  have hm := mix_eq (l.take 64) (by rw [List.length_take]; omega) h kS
  have hs : q3g_1_step l out h kS = some (.inl (l.drop 64, mixS kS (l.take 64) h, kS)) := by
   unfold q3g_1_step
   rw [fork_t (by omega), need_true (by omega), show cutL l (0 : Int) (64 : Int) = l.take 64 from rfl, hm, andThen_mk, need_true (by omega)]
   have : cutL l (64 : Int) (l.length : Int) = l.drop 64 := by
    unfold cutL; rw [Int.toNat_natCast, List.take_of_length_le (Nat.le_refl _)]; rfl
   rw [this]
  have ih := sum_1 out n (l.drop 64) (by rw [List.length_drop]; omega) (by rw [List.length_drop]; omega) (mixS kS (l.take 64) h)
  unfold q3g_1 at ih ⊢
  rw [loop_next (s' := (l.drop 64, mixS kS (l.take 64) h, kS)) hs, ih]
  rfl
def outRow (x : UInt32) (i : Nat) (acc : List UInt8) : List UInt8 := runFor (fun j (acc : List UInt8) => acc.set (4 * i + j) (outB x j)) 0 4 acc
theorem sum_2 (x : UInt32) (h : List UInt32) (z acc : List UInt8) {i : Nat} (hi : i < 8) : q3g_2 (i : Int) x h (i : Int) 0 z acc = some (h, (i : Int), z, outRow x i acc) := by
 unfold q3g_2
 refine loop_for (fun j acc => ((j : Int), acc)) (fun j (acc : List UInt8) => acc.set (4 * i + j) (outB x j)) (fun acc => (h, (i : Int), z, acc)) 4 (fun _ _ => True) (fun j acc hj _ => ⟨?_, trivial⟩) (fun acc _ => ?_) 4 0 acc rfl trivial
 ·unfold q3g_2_step
  have e0 : Int.toNat (4 * (i : Int) + (j : Int)) = 4 * i + j := by omega
  have e1 : Int.toNat (24 - 8 * (j : Int)) = 24 - 8 * j := by omega
  simp (disch := omega) only [fork_t, w64_eq, need_true, e0, e1]
  rfl
 ·unfold q3g_2_step
  rfl
theorem sum_3 (h : List UInt32) (z acc : List UInt8) : q3g_3 h 0 z acc = some (z, runFor (fun i acc => outRow (h.getD i 0) i acc) 0 8 acc) := by
 unfold q3g_3
 refine loop_for (fun i acc => (h, (i : Int), z, acc)) (fun i acc => outRow (h.getD i 0) i acc) (fun acc => (z, acc)) 8 (fun _ _ => True) (fun i acc hi _ => ⟨?_, trivial⟩) (fun acc _ => ?_) 8 0 acc rfl trivial
 ·show q3g_3_step h (i : Int) z acc = _
  unfold q3g_3_step
  rw [fork_t (by omega), need_true (by omega), Int.toNat_natCast, sum_2 _ _ _ _ hi, andThen_mk]
  rw [w64_eq (by show (-9223372036854775808 : Int) ≤ (i : Int) + 1; omega) (by show (i : Int) + 1 ≤ 9223372036854775807; omega)]
  rfl
 ·unfold q3g_3_step
  rfl
theorem out_eq8 (a b c d e f g i : UInt32) : runFor (fun j acc => outRow (List.getD [a, b, c, d, e, f, g, i] j 0) j acc) 0 8 (List.replicate 32 (0 : UInt8)) = outS [a, b, c, d, e, f, g, i] := by kernel_rfl
theorem out_eq (h : List UInt32) (hh : h.length = 8) : runFor (fun i acc => outRow (h.getD i 0) i acc) 0 8 (List.replicate 32 (0 : UInt8)) = outS h := by
 match h, hh with
 | [a, b, c, d, e, f, g, i], _ => exact out_eq8 a b c d e f g i
theorem first_eq : q2w = some h0S := by kernel_rfl
theorem added_eq : q2y = some kS := by kernel_rfl
theorem sum_eq (b : List UInt8) (hb : b.length ≤ 1073741824) : q3g b = some (sha b) := by
 unfold q3g
 rw [first_eq, andThen_mk, added_eq, andThen_mk, padded_eq b hb, andThen_mk, sum_1 _ _ _ (pad_len b) (by rw [pad_len]; omega), andThen_mk]
 simp only [sum_3, andThen_mk]
 rw [out_eq _ (by rw [blocksS_len]; rfl)]
 rfl
theorem sha_len (b : List UInt8) : (sha b).length = 32 := by
 unfold sha outS
 have : (blocksS ((b.length + 8) / 64 + 1) (padS b) h0S).length = 8 := by rw [blocksS_len]; rfl
 generalize blocksS ((b.length + 8) / 64 + 1) (padS b) h0S = h at this
 match h, this with
 | [a, b, c, d, e, f, g, i], _ => rfl
end Go.Ax.V
