/-
  The document's own sum is SHA-256.
-/
import Derived.Test.YtcfaippbnmmelaaGreatCLightSkipsLSha2
namespace Go.Ax.V
open Go.Ax
set_option linter.unusedVariables false
set_option linter.unusedSimpArgs false
set_option maxRecDepth 100000
theorem rotr_comm (x : UInt32) (n : Nat) : UInt32.ofNat (x.toNat >>> n) ||| UInt32.ofNat (x.toNat <<< (32 - n)) = rotr x n := UInt32.or_comm _ _
theorem turn7 (x : UInt32) : q1s x 7 = some (rotr x 7) := congrArg some (rotr_comm x 7)
theorem turn18 (x : UInt32) : q1s x 18 = some (rotr x 18) := congrArg some (rotr_comm x 18)
theorem turn17 (x : UInt32) : q1s x 17 = some (rotr x 17) := congrArg some (rotr_comm x 17)
theorem turn19 (x : UInt32) : q1s x 19 = some (rotr x 19) := congrArg some (rotr_comm x 19)
theorem turn6 (x : UInt32) : q1s x 6 = some (rotr x 6) := congrArg some (rotr_comm x 6)
theorem turn11 (x : UInt32) : q1s x 11 = some (rotr x 11) := congrArg some (rotr_comm x 11)
theorem turn25 (x : UInt32) : q1s x 25 = some (rotr x 25) := congrArg some (rotr_comm x 25)
theorem turn2 (x : UInt32) : q1s x 2 = some (rotr x 2) := congrArg some (rotr_comm x 2)
theorem turn13 (x : UInt32) : q1s x 13 = some (rotr x 13) := congrArg some (rotr_comm x 13)
theorem turn22 (x : UInt32) : q1s x 22 = some (rotr x 22) := congrArg some (rotr_comm x 22)
theorem rblock_1 (b : List UInt8) (hb : b.length = 64) (k h v z : List UInt32) : q1i_1 b k 0 h v z = some (k, h, v, runFor (sprd1 b) 0 16 z) := by
 unfold q1i_1
 refine loop_for (fun i w => ((i : Int), w)) (sprd1 b) (fun w => (k, h, v, w)) 16 (fun _ _ => True) (fun i w hi _ => ⟨?_, trivial⟩) (fun w _ => ?_) 16 0 z rfl trivial
 ·unfold q1i_1_step
  have e0 : Int.toNat (4 * (i : Int)) = 4 * i := by omega
  have e1 : Int.toNat (4 * (i : Int) + 1) = 4 * i + 1 := by omega
  have e2 : Int.toNat (4 * (i : Int) + 2) = 4 * i + 2 := by omega
  have e3 : Int.toNat (4 * (i : Int) + 3) = 4 * i + 3 := by omega
  simp (disch := omega) only [fork_t, w64_eq, need_true, hb, e0, e1, e2, e3, Int.toNat_natCast]
  rfl
 ·unfold q1i_1_step
  rfl
theorem rblock_2 (k h v z : List UInt32) : q1i_2 k 16 h v z = some (k, h, v, runFor sprd2 16 48 z) := by
 unfold q1i_2
 refine loop_for (fun i w => ((i : Int), w)) sprd2 (fun w => (k, h, v, w)) 64 (fun i _ => 16 ≤ i) (fun i w hi hh => ⟨?_, by omega⟩) (fun w _ => ?_) 48 16 z rfl (Nat.le_refl _)
 ·unfold q1i_2_step
  have e0 : Int.toNat ((i : Int) - 15) = i - 15 := by omega
  have e1 : Int.toNat ((i : Int) - 2) = i - 2 := by omega
  have e2 : Int.toNat ((i : Int) - 16) = i - 16 := by omega
  have e3 : Int.toNat ((i : Int) - 7) = i - 7 := by omega
  simp (disch := omega) only [fork_t, w64_eq, need_true, e0, e1, e2, e3, Int.toNat_natCast, turn7, turn18, turn17, turn19, andThen_mk]
  rfl
 ·unfold q1i_2_step
  rfl
theorem rblock_3 (k h v w : List UInt32) (hk : k.length = 64) (s : W8) : q1i_3 k 0 h v w (list8 s) = some (h, v, list8 (runFor (roundS k w) 0 64 s)) := by
 unfold q1i_3
 refine loop_for (fun i (s : W8) => ((i : Int), list8 s)) (roundS k w) (fun s => (h, v, list8 s)) 64 (fun _ _ => True) (fun i s hi _ => ⟨?_, trivial⟩) (fun s _ => ?_) 64 0 s rfl trivial
 ·obtain ⟨a, b, c, d, e, f, g, x⟩ := s
  unfold q1i_3_step
  simp (disch := omega) only [fork_t, w64_eq, need_true, hk, Int.toNat_natCast, turn6, turn11, turn25, turn2, turn13, turn22, andThen_mk]
  rw [show roundS k w i (a, b, c, d, e, f, g, x) = ((((((x + ((rotr e 6 ^^^ rotr e 11) ^^^ rotr e 25)) + ((e &&& f) ^^^ ((~~~e) &&& g))) + k.getD i 0) + w.getD i 0) + ((rotr a 2 ^^^ rotr a 13) ^^^ rotr a 22)) + (((a &&& b) ^^^ (a &&& c)) ^^^ (b &&& c)), a, b, c,
   d + ((((x + ((rotr e 6 ^^^ rotr e 11) ^^^ rotr e 25)) + ((e &&& f) ^^^ ((~~~e) &&& g))) + k.getD i 0) + w.getD i 0), e, f, g) from by simp only [roundS, UInt32.add_assoc]]
  rfl
 ·unfold q1i_3_step
  rfl
theorem rblock_4 (h z v : List UInt32) : q1i_4 0 h z v = some (runFor (addS v) 0 8 h, z) := by
 unfold q1i_4
 refine loop_for (fun i w => ((i : Int), w)) (addS v) (fun w => (w, z)) 8 (fun _ _ => True) (fun i w hi _ => ⟨?_, trivial⟩) (fun w _ => ?_) 8 0 h rfl trivial
 ·unfold q1i_4_step
  simp (disch := omega) only [fork_t, w64_eq, need_true, Int.toNat_natCast]
  rfl
 ·unfold q1i_4_step
  rfl
theorem list8_tup8 (h : List UInt32) (hh : h.length = 8) : list8 (tup8 h) = h := by
 match h, hh with
 | [a, b, c, d, e, f, g, i], _ => rfl
theorem rblock_eq (h : List UInt32) (hh : h.length = 8) (b : List UInt8) (hb : b.length = 64) (k : List UInt32) (hk : k.length = 64) : q1i h b k = some (mixS k b h) := by
 unfold q1i
 simp only [rblock_1 b hb, rblock_2, andThen_mk]
 have h3 := rblock_3 k h (List.replicate 8 0) (spreadS b) hk (tup8 h)
 rw [list8_tup8 h hh] at h3
 rw [show runFor sprd2 16 48 (runFor (sprd1 b) 0 16 (List.replicate 64 0)) = spreadS b from by rw [spreadS], h3, andThen_mk]
 simp only [rblock_4, andThen_mk]
 rw [mixS]
theorem tmod64 (n : Nat) : Int.tmod (n : Int) 64 = ((n % 64 : Nat) : Int) := by
 rw [Int.tmod_eq_emod_of_nonneg (by omega)]; omega
theorem rsum_1 (b : List UInt8) (hb : b.length ≤ 1073741824) (out : List UInt8) (k h : List UInt32) :
  q1z_1 b out k h (b ++ [128]) = some (b, out, k, h, (b ++ [128]) ++ List.replicate ((b.length + 8) / 64 * 64 + 55 - b.length) 0) := by
 unfold q1z_1
 generalize hz : (b.length + 8) / 64 * 64 + 55 - b.length = z
 have := loop_for (step := fun s => q1z_1_step b out k h s) (fun i (_ : Unit) => (b ++ [128]) ++ List.replicate i (0 : UInt8)) (fun _ _ => ()) (fun _ => (b, out, k, h, (b ++ [128]) ++ List.replicate z 0)) z (fun _ _ => True) (fun i w hi _ => ⟨?_, trivial⟩) (fun w _ => ?_) z 0 () (by omega) trivial
 ·simpa using this
 ·unfold q1z_1_step
  rw [tmod64, fork_nf (by simp; omega), need_true (by simp; omega), List.append_assoc, List.append_assoc, List.append_assoc, ← List.replicate_succ']
 ·unfold q1z_1_step
  rw [tmod64, fork_nt (by simp; omega)]
theorem u64_toNat8 {j : Nat} (h : j < 8) : (UInt64.ofNat (Int.toNat ((8 * ((7 : Int) - (j : Int))) % 18446744073709551616))).toNat = 8 * (7 - j) := by
 have : Int.toNat ((8 * ((7 : Int) - (j : Int))) % 18446744073709551616) = 8 * (7 - j) := by omega
 rw [this, UInt64.toNat_ofNat']; omega
theorem rsum_2 (b : List UInt8) (hb : b.length ≤ 1073741824) (out m : List UInt8) (hm : m.length ≤ 1073741924) (k h : List UInt32) :
  q1z_2 b 7 out k h m = some (out, k, h, runFor (fun j (l : List UInt8) => l ++ [byteAt (bitsOf b) (7 - j)]) 0 8 m) := by
 unfold q1z_2
 refine loop_for (step := fun (s : Int × List UInt8) => q1z_2_step b s.1 out k h s.2) (fun j l => ((7 : Int) - (j : Int), l)) (fun j (l : List UInt8) => l ++ [byteAt (bitsOf b) (7 - j)]) (fun l => (out, k, h, l)) 8 (fun j l => l.length = m.length + j) (fun j l hj hl => ⟨?_, by simp [hl]; omega⟩) (fun l _ => ?_) 8 0 m rfl rfl
 ·unfold q1z_2_step
  have hbits : UInt64.ofNat (Int.toNat ((8 * (b.length : Int)) % 18446744073709551616)) = bitsOf b := by
   rw [show Int.toNat ((8 * (b.length : Int)) % 18446744073709551616) = b.length * 8 from by omega, UInt64.ofNat_mul]; rfl
  simp (disch := omega) only [fork_t, w64_eq, hbits]
  rw [need_true (by omega), need_true (by simp; omega), u64_toNat8 hj, Int.toNat_natCast]
  rw [show (7 : Int) - (j : Int) - 1 = 7 - ((j + 1 : Nat) : Int) from by omega]
  rfl
 ·unfold q1z_2_step
  rfl
theorem rsum_3g (l out : List UInt8) (n : Nat) (hl : l.length = 64 * n) (hn : 64 * n ≤ 2147483648) (h : List UInt32) (hh : h.length = 8) :
  q1z_3 l 0 out kS h = some (out, runFor (fun j h => mixS kS ((l.drop (64 * j)).take 64) h) 0 n h) := by
 unfold q1z_3
 refine loop_for (step := fun (s : Int × List UInt32) => q1z_3_step l s.1 out kS s.2) (fun j h => (((64 * j : Nat) : Int), h)) (fun j h => mixS kS ((l.drop (64 * j)).take 64) h) (fun h => (out, h)) n (fun j h => h.length = 8) (fun j h hj hh => ⟨?_, by rw [mixS_len, hh]⟩) (fun l _ => ?_) n 0 h (by omega) hh
 ·unfold q1z_3_step
  have hc : cutL l ((64 * j : Nat) : Int) (((64 * j : Nat) : Int) + 64) = (l.drop (64 * j)).take 64 := by
   unfold cutL
   rw [Int.toNat_natCast, show Int.toNat (((64 * j : Nat) : Int) + 64) = 64 * j + 64 from by omega, List.drop_take]
   congr 1; omega
  simp (disch := omega) only [fork_t, w64_eq, need_true, hc]
  rw [rblock_eq h hh _ (by rw [List.length_take, List.length_drop]; omega) _ rfl, andThen_mk]
  rfl
 ·unfold q1z_3_step
  rw [fork_f (by omega)]
theorem blocksS_run (l : List UInt8) : ∀ (n j : Nat) (h : List UInt32), runFor (fun j h => mixS kS ((l.drop (64 * j)).take 64) h) j n h = blocksS n (l.drop (64 * j)) h
 | 0, _, _ => rfl
 | n + 1, j, h => by
  rw [runFor, blocksS_run l n (j + 1), blocksS, List.drop_drop]
  rfl
def outRow4 (x : UInt32) (i : Nat) (acc : List UInt8) : List UInt8 := (((acc.set (4 * i) (outB x 0)).set (4 * i + 1) (outB x 1)).set (4 * i + 2) (outB x 2)).set (4 * i + 3) (outB x 3)
theorem rsum_4 (h : List UInt32) (z acc : List UInt8) : q1z_4 h 0 z acc = some (z, runFor (fun i acc => outRow4 (h.getD i 0) i acc) 0 8 acc) := by
 unfold q1z_4
 refine loop_for (step := fun (s : Int × List UInt8) => q1z_4_step h s.1 z s.2) (fun i acc => ((i : Int), acc)) (fun i acc => outRow4 (h.getD i 0) i acc) (fun acc => (z, acc)) 8 (fun _ _ => True) (fun i acc hi _ => ⟨?_, trivial⟩) (fun acc _ => ?_) 8 0 acc rfl trivial
 ·unfold q1z_4_step
  have e0 : Int.toNat (4 * (i : Int)) = 4 * i := by omega
  have e1 : Int.toNat (4 * (i : Int) + 1) = 4 * i + 1 := by omega
  have e2 : Int.toNat (4 * (i : Int) + 2) = 4 * i + 2 := by omega
  have e3 : Int.toNat (4 * (i : Int) + 3) = 4 * i + 3 := by omega
  have hx : ∀ x : UInt32, outB x 3 = UInt8.ofNat x.toNat := by intro x; simp [outB]
  simp (disch := omega) only [fork_t, w64_eq, need_true, e0, e1, e2, e3, Int.toNat_natCast]
  rw [outRow4, hx]
  rfl
 ·unfold q1z_4_step
  rfl
theorem rout_eq8 (a b c d e f g i : UInt32) : runFor (fun j acc => outRow4 (List.getD [a, b, c, d, e, f, g, i] j 0) j acc) 0 8 (List.replicate 32 (0 : UInt8)) = outS [a, b, c, d, e, f, g, i] := by kernel_rfl
theorem rout_eq (h : List UInt32) (hh : h.length = 8) : runFor (fun i acc => outRow4 (h.getD i 0) i acc) 0 8 (List.replicate 32 (0 : UInt8)) = outS h := by
 match h, hh with
 | [a, b, c, d, e, f, g, i], _ => exact rout_eq8 a b c d e f g i
theorem const_eq : qx = some kS := by kernel_rfl
theorem rpad_eq (b : List UInt8) : runFor (fun j (l : List UInt8) => l ++ [byteAt (bitsOf b) (7 - j)]) 0 8 ((b ++ [128]) ++ List.replicate ((b.length + 8) / 64 * 64 + 55 - b.length) 0) = padS b := by
 unfold padS
 simp only [runFor, List.append_assoc]
 rfl
theorem rsum_eq (b : List UInt8) (hb : b.length ≤ 1073741824) : q1z b = some (sha b) := by
 unfold q1z
 have h0 : (List.set (List.set (List.set (List.set (List.set (List.set (List.set (List.set (List.replicate 8 (0 : UInt32)) 0 (1779033703 : UInt32)) 1 (3144134277 : UInt32)) 2 (1013904242 : UInt32)) 3 (2773480762 : UInt32)) 4 (1359893119 : UInt32)) 5 (2600822924 : UInt32)) 6 (528734635 : UInt32)) 7 (1541459225 : UInt32)) = h0S := by kernel_rfl
 rw [const_eq, andThen_mk, need_true (by simp; omega), need_true (by simp; omega), h0, List.nil_append, rsum_1 b hb, andThen_mk]
 simp only [rsum_2 b hb _ _ (show ((b ++ [128]) ++ List.replicate ((b.length + 8) / 64 * 64 + 55 - b.length) (0 : UInt8)).length ≤ 1073741924 by simp; omega), andThen_mk, rpad_eq]
 rw [rsum_3g _ _ ((b.length + 8) / 64 + 1) (pad_len b) (by omega) _ rfl, andThen_mk, blocksS_run]
 simp only [rsum_4, andThen_mk]
 rw [rout_eq _ (by rw [blocksS_len]; rfl)]
 rfl
end Go.Ax.V
