/-
  Headers in bytes, and read again.
-/
import Derived.Test.YtcfaippbnmmelaaCLightOrderLVint
namespace Go.Ax.V
open Go.Ax
set_option linter.unusedVariables false
set_option linter.unusedSimpArgs false
theorem putF_small {n : Nat} (h : n < 128) : ∀ f, putF f n = [UInt8.ofNat n]
 | 0 => rfl
 | f + 1 => by rw [putF, if_pos h]
theorem numF_inv : ∀ (k i acc : Nat) (l : List UInt8) (v : Int) (rest : List UInt8), numF k i acc l = (v, rest, false, ()) → ∃ n : Nat, v = ((acc + n * 128 ^ i : Nat) : Int) ∧ (0 < i → 1 ≤ n) ∧ acc + n * 128 ^ i ≤ 1099511627775 ∧ ∀ f, k ≤ f + 1 → l = putF f n ++ rest
 | 0, i, acc, l, v, rest, h => by simp [numF] at h
 | k + 1, i, acc, [], v, rest, h => by simp [numF] at h
 | k + 1, i, acc, b :: l, v, rest, h => by
  rw [numF] at h
  have hb := b.toNat_lt
  by_cases h1 : b.toNat < 128
  ·rw [if_pos h1] at h
   split at h
   ·simp at h
   ·rename_i h2
    simp only [Prod.mk.injEq, and_true] at h
    obtain ⟨rfl, rfl⟩ := h
    refine ⟨b.toNat, rfl, fun hi => ?_, by omega, fun f hf => ?_⟩
    ·rcases Nat.eq_zero_or_pos b.toNat with h0 | h0
     ·exact absurd (Or.inr ⟨UInt8.toNat_inj.1 h0, hi⟩) h2
     ·exact h0
    ·rw [putF_small h1 f]; simp
  ·rw [if_neg h1] at h
   obtain ⟨n, h3, h4, h5, h6⟩ := numF_inv k (i + 1) _ l v rest h
   have hn := h4 (by omega)
   have hpow : 128 ^ (i + 1) = 128 ^ i * 128 := Nat.pow_succ ..
   have he : acc + b.toNat % 128 * 128 ^ i + n * 128 ^ (i + 1) = acc + (b.toNat % 128 + 128 * n) * 128 ^ i := by
    rw [hpow, Nat.add_mul, Nat.add_assoc]; congr 2; rw [Nat.mul_comm (128 ^ i) 128, ← Nat.mul_assoc, Nat.mul_comm n 128]
   refine ⟨b.toNat % 128 + 128 * n, by rw [h3, he], fun _ => by omega, by rw [← he]; exact h5, fun f hf => ?_⟩
   cases f with
   | zero =>
    have hk : k = 0 := by omega
    subst hk; simp [numF] at h
   | succ f =>
    rw [putF, if_neg (by omega), show (b.toNat % 128 + 128 * n) % 128 + 128 = b.toNat from by omega, show (b.toNat % 128 + 128 * n) / 128 = n from by omega, UInt8.ofNat_toNat, List.cons_append, ← h6 f (by omega)]
theorem numF_put : ∀ (f k i acc n : Nat) (rest : List UInt8), i + k = 6 → (0 < i → 1 ≤ n) → acc + n * 128 ^ i ≤ 1099511627775 → acc < 128 ^ i → k ≤ f + 1 → (n < 128 → 1 ≤ k) → numF k i acc (putF f n ++ rest) = (((acc + n * 128 ^ i : Nat) : Int), rest, false, ())
 | f, k, i, acc, n, rest, hi, hn, hb, ha, hk, h1 => by
  by_cases hs : n < 128
  ·rw [putF_small hs f]
   obtain ⟨k, rfl⟩ : ∃ k', k = k' + 1 := ⟨k - 1, by have := h1 hs; omega⟩
   show numF (k + 1) i acc (UInt8.ofNat n :: rest) = _
   have hb' : (UInt8.ofNat n).toNat = n := by rw [UInt8.toNat_ofNat']; omega
   rw [numF, hb', if_pos hs, if_neg]
   rintro (h | ⟨h, h0⟩)
   ·omega
   ·have := hn h0
    rw [← UInt8.toNat_inj, hb'] at h
    have : n = 0 := h
    omega
  ·have hpow : 128 ^ (i + 1) = 128 ^ i * 128 := Nat.pow_succ ..
   have hi6 : i < 5 := by
    rcases Nat.lt_or_ge i 5 with h | h
    ·exact h
    ·have : 128 ^ 5 ≤ 128 ^ i := Nat.pow_le_pow_right (by omega) h
     have : 128 * 128 ^ i ≤ n * 128 ^ i := Nat.mul_le_mul_right _ (by omega)
     omega
   obtain ⟨k, rfl⟩ : ∃ k', k = k' + 1 := ⟨k - 1, by omega⟩
   obtain ⟨f, rfl⟩ : ∃ f', f = f' + 1 := ⟨f - 1, by omega⟩
   rw [putF, if_neg hs, List.cons_append]
   have hb' : (UInt8.ofNat (n % 128 + 128)).toNat = n % 128 + 128 := by rw [UInt8.toNat_ofNat']; omega
   rw [numF, hb', if_neg (by omega), show (n % 128 + 128) % 128 = n % 128 from by omega]
   have he : acc + n % 128 * 128 ^ i + n / 128 * 128 ^ (i + 1) = acc + n * 128 ^ i := by
    have hn2 : n * 128 ^ i = (n % 128 + 128 * (n / 128)) * 128 ^ i := by congr 1; omega
    rw [hpow, hn2, Nat.add_mul, Nat.add_assoc]; congr 2; rw [Nat.mul_comm (128 ^ i) 128, ← Nat.mul_assoc, Nat.mul_comm (n / 128) 128]
   have hm : (n % 128) * 128 ^ i ≤ 127 * 128 ^ i := Nat.mul_le_mul_right _ (by omega)
   rw [numF_put f k (i + 1) _ (n / 128) rest (by omega) (fun _ => by omega) (by rw [he]; exact hb) (by omega) (by omega) (fun _ => by omega), he]
theorem num_put (n : Int) (h0 : 0 ≤ n) (h1 : n ≤ 1099511627775) (rest : List UInt8) : numS (oneS n ++ rest, false, ()) = (n, rest, false, ()) := by
 unfold numS oneS
 rw [if_neg (by simp), if_pos ⟨h0, h1⟩]
 have := numF_put 6 6 0 0 n.toNat rest rfl (fun h => by omega) (by omega) (by decide) (by omega) (fun _ => by omega)
 rw [this]
 congr 1
 omega
theorem num_inv (l : List UInt8) (b : Bool) (v : Int) (rest : List UInt8) (h : numS (l, b, ()) = (v, rest, false, ())) : b = false ∧ 0 ≤ v ∧ v ≤ 1099511627775 ∧ l = oneS v ++ rest := by
 unfold numS at h
 cases b with
 | true => simp at h
 | false =>
  rw [if_neg (by simp)] at h
  obtain ⟨n, h1, h2, h3, h4⟩ := numF_inv 6 0 0 l v rest h
  have hv : v = (n : Int) := by rw [h1]; simp
  refine ⟨rfl, by omega, by omega, ?_⟩
  unfold oneS
  rw [if_pos (by omega), hv, Int.toNat_natCast]
  exact h4 6 (by omega)
theorem num_bad (r : Rdr) (h : r.2.1 = true) : (numS r).2.2.1 = true := by
 unfold numS; rw [if_pos h]
def hashS (r : Rdr) : List UInt8 × Rdr := (List.take 32 (takeS 32 r).1 ++ List.drop (takeS 32 r).1.length (List.replicate 32 0), (takeS 32 r).2)
theorem rhash_eq (r : Rdr) : vint_Reader_Hash_4c5f r = some (hashS r) := by
 unfold vint_Reader_Hash_4c5f
 rw [show (32 : Int) = ((32 : Nat) : Int) from rfl, take_eq 32 (by omega), andThen_mk, List.length_replicate]
 rfl
theorem hash_put (x rest : List UInt8) (h : x.length = 32) : hashS (x ++ rest, false, ()) = (x, rest, false, ()) := by
 unfold hashS takeS
 have hn : ¬ (x ++ rest).length < 32 := by simp; omega
 rw [if_neg (by simp), if_neg hn]
 simp only [List.take_left' h, List.drop_left' h]
 rw [List.take_of_length_le (by omega), h]
 simp
theorem hash_inv (l : List UInt8) (b : Bool) (x rest : List UInt8) (h : hashS (l, b, ()) = (x, rest, false, ())) : b = false ∧ x.length = 32 ∧ l = x ++ rest := by
 unfold hashS takeS at h
 cases b with
 | true => simp at h
 | false =>
  rw [if_neg (by simp)] at h
  split at h
  ·simp at h
  ·rename_i hn
   simp only [Prod.mk.injEq, and_true] at h
   obtain ⟨h1, h2⟩ := h
   have hl : (l.take 32).length = 32 := by rw [List.length_take]; simp at hn; omega
   rw [hl, List.drop_of_length_le (by simp), List.append_nil, List.take_take, Nat.min_self] at h1
   subst h1; subst h2
   exact ⟨rfl, hl, (List.take_append_drop 32 l).symm⟩
theorem hash_bad (r : Rdr) (h : r.2.1 = true) : (hashS r).2.2.1 = true := by
 unfold hashS takeS; rw [if_pos h]
abbrev Hdr := Int × Int × List UInt8 × List UInt8 × List UInt8 × List UInt8 × Unit
def rightHS (h : Hdr) : Bool := decide (1 ≤ h.1) && (decide (h.1 ≤ 16) && (decide (0 ≤ h.2.1) && decide (h.2.1 ≤ 1073741824)))
theorem rightH_eq (h : Hdr) : head_Right h = some (rightHS h) := by
 unfold head_Right rightHS
 simp only [fork_ite]
 cases decide (1 ≤ h.1) <;> cases decide (h.1 ≤ 16) <;> cases decide (0 ≤ h.2.1) <;> simp
theorem rightHS_iff (h : Hdr) : rightHS h = true ↔ (1 ≤ h.1 ∧ h.1 ≤ 16) ∧ 0 ≤ h.2.1 ∧ h.2.1 ≤ 1073741824 := by
 unfold rightHS
 simp only [Bool.and_eq_true, decide_eq_true_eq]
 exact ⟨fun ⟨a, b, c, d⟩ => ⟨⟨a, b⟩, c, d⟩, fun ⟨⟨a, b⟩, c, d⟩ => ⟨a, b, c, d⟩⟩
def Hashes (h : Hdr) : Prop := h.2.2.1.length = 32 ∧ h.2.2.2.1.length = 32 ∧ h.2.2.2.2.1.length = 32 ∧ h.2.2.2.2.2.1.length = 32
def bodyS (h : Hdr) : List UInt8 := oneS h.1 ++ (oneS h.2.1 ++ (h.2.2.1 ++ (h.2.2.2.1 ++ (h.2.2.2.2.1 ++ h.2.2.2.2.2.1))))
def bytesS (h : Hdr) : List UInt8 := if rightHS h then bodyS h else []
theorem bytes_eq (h : Hdr) (hh : Hashes h) : head_Bytes h = some (bytesS h) := by
 obtain ⟨a, b, c, d⟩ := hh
 unfold head_Bytes bytesS
 rw [rightH_eq, andThen_mk]
 cases rightHS h with
 | false => rfl
 | true =>
  rw [show (!true) = false from rfl, fork_ff, put_eq _ (by simp), andThen_mk, hash_eq _ (by simp) (by
   intro x hx
   simp only [List.mem_cons, List.not_mem_nil, or_false] at hx
   rcases hx with rfl | rfl | rfl | rfl <;> assumption), andThen_mk]
  have l1 := put_len [h.1, h.2.1]
  simp only [List.length_cons, List.length_nil] at l1
  rw [need_true (by simp; omega), if_pos rfl]
  congr 1
  simp [putS, bodyS, List.flatMap_cons]
theorem body_len (h : Hdr) (hh : Hashes h) : (bodyS h).length ≤ 142 := by
 obtain ⟨a, b, c, d⟩ := hh
 have := oneS_len h.1
 have := oneS_len h.2.1
 unfold bodyS
 simp only [List.length_append]; omega
def zHdr : Hdr := (0, 0, List.replicate 32 0, List.replicate 32 0, List.replicate 32 0, List.replicate 32 0, ())
theorem doneS (r : Rdr) : vint_Reader_Done_4c5f r = some (!r.2.1 && decide (r.1 = [])) := by
 unfold vint_Reader_Done_4c5f
 obtain ⟨l, b, u⟩ := r
 cases b with
 | true => rfl
 | false =>
  show some (decide ((l.length : Int) = 0)) = some (true && decide (l = []))
  rw [Bool.true_and]
  congr 1
  exact decide_eq_decide.2 ⟨fun h => List.eq_nil_of_length_eq_zero (by omega), fun h => by subst h; rfl⟩
theorem read_cases (b : List UInt8) (hb : b.length ≤ 1073741824) : head_Read b = some (zHdr, 1) ∨ ∃ h : Hdr, head_Read b = some (h, 0) ∧ rightHS h = true ∧ Hashes h ∧ bytesS h = b := by
 unfold head_Read vint_Read
 rw [need_true (by simp; omega), List.nil_append, andThen_mk, number_eq, andThen_mk, number_eq, andThen_mk, rhash_eq, andThen_mk, rhash_eq, andThen_mk, rhash_eq, andThen_mk, rhash_eq, andThen_mk, doneS, andThen_mk]
 generalize e1 : numS (b, false, ()) = r1
 obtain ⟨v1, l1, b1, u1⟩ := r1
 simp only
 generalize e2 : numS (l1, b1, u1) = r2
 obtain ⟨v2, l2, b2, u2⟩ := r2
 simp only
 generalize e3 : hashS (l2, b2, u2) = r3
 obtain ⟨v3, l3, b3, u3⟩ := r3
 simp only
 generalize e4 : hashS (l3, b3, u3) = r4
 obtain ⟨v4, l4, b4, u4⟩ := r4
 simp only
 generalize e5 : hashS (l4, b4, u4) = r5
 obtain ⟨v5, l5, b5, u5⟩ := r5
 simp only
 generalize e6 : hashS (l5, b5, u5) = r6
 obtain ⟨v6, l6, b6, u6⟩ := r6
 simp only
 by_cases hd : (!b6 && decide (l6 = [])) = true
 ·rw [hd, show (!true) = false from rfl, fork_ff, rightH_eq, andThen_mk]
  simp only [Bool.and_eq_true, Bool.not_eq_true', decide_eq_true_eq] at hd
  obtain ⟨rfl, rfl⟩ := hd
  cases hr : rightHS (v1, v2, v3, v4, v5, v6, ()) with
  | false => left; rfl
  | true =>
   right
   obtain ⟨rfl, k6, rfl⟩ := hash_inv _ _ _ _ e6
   obtain ⟨rfl, k5, rfl⟩ := hash_inv _ _ _ _ e5
   obtain ⟨rfl, k4, rfl⟩ := hash_inv _ _ _ _ e4
   obtain ⟨rfl, k3, rfl⟩ := hash_inv _ _ _ _ e3
   obtain ⟨rfl, _, _, rfl⟩ := num_inv _ _ _ _ e2
   obtain ⟨_, _, _, rfl⟩ := num_inv _ _ _ _ e1
   refine ⟨(v1, v2, v3, v4, v5, v6, ()), rfl, hr, ⟨k3, k4, k5, k6⟩, ?_⟩
   unfold bytesS
   rw [if_pos hr]
   simp [bodyS]
 ·left
  rw [Bool.not_eq_true] at hd
  rw [hd]; rfl
theorem read_bytes (h : Hdr) (hh : Hashes h) (hr : rightHS h = true) : head_Read (bytesS h) = some (h, 0) := by
 obtain ⟨a, b, c, d⟩ := hh
 have hlen := body_len h ⟨a, b, c, d⟩
 obtain ⟨⟨i1, i2⟩, i3, i4⟩ := (rightHS_iff h).1 hr
 obtain ⟨h1, h2, h3, h4, h5, h6, u⟩ := h
 simp only at a b c d i1 i2 i3 i4
 unfold bytesS
 rw [if_pos hr]
 unfold head_Read vint_Read
 rw [need_true (by simp; omega), List.nil_append, andThen_mk, number_eq, andThen_mk]
 have e1 : numS (bodyS (h1, h2, h3, h4, h5, h6, u), false, ()) = _ := num_put h1 (by omega) (by omega) _
 rw [e1]
 simp only
 rw [number_eq, andThen_mk, num_put h2 (by omega) (by omega)]
 simp only
 rw [rhash_eq, andThen_mk, hash_put h3 _ a]
 simp only
 rw [rhash_eq, andThen_mk, hash_put h4 _ b]
 simp only
 rw [rhash_eq, andThen_mk, hash_put h5 _ c]
 simp only
 have e6 := hash_put h6 [] d
 rw [List.append_nil] at e6
 rw [rhash_eq, andThen_mk, e6]
 simp only
 rw [doneS, andThen_mk]
 simp only [Bool.not_false, decide_true, Bool.and_self, Bool.not_true, fork_ff]
 rw [rightH_eq, andThen_mk, hr]
 rfl
end Go.Ax.V
