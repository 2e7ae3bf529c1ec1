/-
  SHA-256 on whole numbers, for sums of texts that are known.
-/
import Derived.Test.YtgjebofbjdfdhaaCRingTurnedLSha2
import Derived.Test.YtgjebofbjdfdhaaCRingTurnedLBits
namespace Go.Ax.V
open Go.Ax
set_option linter.unusedVariables false
set_option linter.unusedSimpArgs false
set_option maxRecDepth 100000

def seqN {α : Type} (n : Nat) (k : Nat → α) : α := Nat.rec (k 0) (fun m _ => k (m + 1)) n
theorem seqN_eq {α : Type} (n : Nat) (k : Nat → α) : seqN n k = k n := by cases n <;> rfl
def s3 (x a b c : Nat) : Nat := seqN (Nat.mul x 4294967297) fun y => Nat.mod (Nat.xor (Nat.xor (Nat.shiftRight y a) (Nat.shiftRight y b)) (Nat.shiftRight y c)) 4294967296
def s2 (x a b c : Nat) : Nat := seqN (Nat.mul x 4294967297) fun y => Nat.xor (Nat.mod (Nat.xor (Nat.shiftRight y a) (Nat.shiftRight y b)) 4294967296) (Nat.shiftRight x c)
def chN (e f g : Nat) : Nat := Nat.xor (Nat.land e f) (Nat.land (Nat.sub 4294967295 e) g)
def majN (a b c : Nat) : Nat := Nat.xor (Nat.xor (Nat.land a b) (Nat.land a c)) (Nat.land b c)
def schedN : Nat → List Nat → List Nat
  | 0, l => l
  | n + 1, l => seqN (Nat.mod (Nat.add (Nat.add (Nat.add (l.getD 15 0) (s2 (l.getD 14 0) 7 18 3)) (l.getD 6 0)) (s2 (l.getD 1 0) 17 19 10)) 4294967296) fun x => schedN n (x :: l)
def roundsN : List Nat → List Nat → Nat → Nat → Nat → Nat → Nat → Nat → Nat → Nat → List Nat
  | k :: ks, w :: ws, a, b, c, d, e, f, g, h =>
    seqN (Nat.add (Nat.add (Nat.add (Nat.add h (s3 e 6 11 25)) (chN e f g)) k) w) fun t =>
    seqN (Nat.mod (Nat.add t (Nat.add (s3 a 2 13 22) (majN a b c))) 4294967296) fun a' =>
    seqN (Nat.mod (Nat.add d t) 4294967296) fun e' => roundsN ks ws a' a b c e' e f g
  | _, _, a, b, c, d, e, f, g, h => [a, b, c, d, e, f, g, h]
def kN : List Nat := [1116352408, 1899447441, 3049323471, 3921009573, 961987163, 1508970993, 2453635748, 2870763221, 3624381080, 310598401, 607225278, 1426881987, 1925078388, 2162078206, 2614888103, 3248222580, 3835390401, 4022224774, 264347078, 604807628, 770255983, 1249150122, 1555081692, 1996064986, 2554220882, 2821834349, 2952996808, 3210313671, 3336571891, 3584528711, 113926993, 338241895, 666307205, 773529912, 1294757372, 1396182291, 1695183700, 1986661051, 2177026350, 2456956037, 2730485921, 2820302411, 3259730800, 3345764771, 3516065817, 3600352804, 4094571909, 275423344, 430227734, 506948616, 659060556, 883997877, 958139571, 1322822218, 1537002063, 1747873779, 1955562222, 2024104815, 2227730452, 2361852424, 2428436474, 2756734187, 3204031479, 3329325298]
def h0N : List Nat := [1779033703, 3144134277, 1013904242, 2773480762, 1359893119, 2600822924, 528734635, 1541459225]
def add8 : List Nat → List Nat → List Nat
  | x :: xs, y :: ys => seqN (Nat.mod (Nat.add x y) 4294967296) fun z => z :: add8 xs ys
  | _, _ => []
def blockN (w : List Nat) (h : List Nat) : List Nat :=
  match h with
  | [a, b, c, d, e, f, g, i] => add8 (roundsN kN (schedN 48 w).reverse a b c d e f g i) h
  | _ => []

theorem modE (a b : Nat) : Nat.mod a b = a % b := rfl
theorem M32 : (4294967296 : Nat) = 2 ^ 32 := rfl
theorem u32lt (x : UInt32) : x.toNat < 4294967296 := x.toNat_lt
theorem rotr_nat (x : UInt32) (n : Nat) (h : n ≤ 32) : (rotr x n).toNat = ((x.toNat * 4294967297) >>> n) % 4294967296 := by
  have hx := u32lt x
  unfold rotr
  rw [UInt32.toNat_or, UInt32.toNat_ofNat', UInt32.toNat_ofNat', Nat.shiftLeft_eq, Nat.shiftRight_eq_div_pow, Nat.shiftRight_eq_div_pow]
  generalize x.toNat = a at hx
  have hp : 2 ^ n * 2 ^ (32 - n) = 4294967296 := by rw [← Nat.pow_add, M32]; congr 1; omega
  have p1 : 0 < 2 ^ n := Nat.pow_pos (by omega)
  have p2 : 0 < 2 ^ (32 - n) := Nat.pow_pos (by omega)
  generalize 2 ^ (32 - n) = q at hp p2 ⊢
  have hq : ∃ k, q = 2 ^ k := ⟨32 - n, by
    have : 2 ^ n * q = 2 ^ n * 2 ^ (32 - n) := by rw [hp, ← Nat.pow_add, M32]; congr 1; omega
    exact Nat.eq_of_mul_eq_mul_left p1 this⟩
  generalize 2 ^ n = p at hp p1 ⊢
  have e1 : a * q % 4294967296 = (a % p) * q := by
    rw [← hp, Nat.mul_mod_mul_right]
  have e2 : a / p < q := by rw [Nat.div_lt_iff_lt_mul p1, Nat.mul_comm, hp]; exact hx
  have e3 : a / p % 4294967296 = a / p := Nat.mod_eq_of_lt (Nat.lt_of_le_of_lt (Nat.div_le_self a p) hx)
  have e4 : a * 4294967297 / p = a * q + a / p := by
    rw [show a * 4294967297 = a + a * q * p from by rw [Nat.mul_assoc, Nat.mul_comm q p, hp]; omega, Nat.add_mul_div_right _ _ p1, Nat.add_comm]
  have e5 : (a * q + a / p) % 4294967296 = (a % p) * q + a / p := by
    rw [Nat.add_mod, e1, e3]
    apply Nat.mod_eq_of_lt
    have : (a % p) * q + q ≤ p * q := by
      rw [← Nat.succ_mul]; exact Nat.mul_le_mul_right _ (Nat.mod_lt _ p1)
    rw [hp] at this; omega
  obtain ⟨k, rfl⟩ := hq
  rw [e1, e3, e4, e5, Nat.or_comm, or_high (a / p) (a % p) k e2, Nat.add_comm]
theorem shr_nat (x : UInt32) (n : Nat) : (shr x n).toNat = x.toNat >>> n := by
  have hx := u32lt x
  unfold shr
  rw [UInt32.toNat_ofNat', Nat.shiftRight_eq_div_pow]
  exact Nat.mod_eq_of_lt (Nat.lt_of_le_of_lt (Nat.div_le_self _ _) hx)
theorem s3_eq (x : UInt32) (a b c : Nat) (ha : a ≤ 32) (hb : b ≤ 32) (hc : c ≤ 32) : s3 x.toNat a b c = ((rotr x a ^^^ rotr x b) ^^^ rotr x c).toNat := by
  unfold s3
  rw [seqN_eq, UInt32.toNat_xor, UInt32.toNat_xor, rotr_nat x a ha, rotr_nat x b hb, rotr_nat x c hc, M32, ← Nat.xor_mod_two_pow, ← Nat.xor_mod_two_pow]
  rfl
theorem s2_eq (x : UInt32) (a b c : Nat) (ha : a ≤ 32) (hb : b ≤ 32) : s2 x.toNat a b c = ((rotr x a ^^^ rotr x b) ^^^ shr x c).toNat := by
  unfold s2
  rw [seqN_eq, UInt32.toNat_xor, UInt32.toNat_xor, rotr_nat x a ha, rotr_nat x b hb, shr_nat, M32, ← Nat.xor_mod_two_pow]
  rfl
theorem ch_eq (e f g : UInt32) : chN e.toNat f.toNat g.toNat = ((e &&& f) ^^^ ((~~~e) &&& g)).toNat := by
  rw [UInt32.toNat_xor, UInt32.toNat_and, UInt32.toNat_and, UInt32.toNat_not]
  rfl
theorem maj_eq (a b c : UInt32) : majN a.toNat b.toNat c.toNat = (((a &&& b) ^^^ (a &&& c)) ^^^ (b &&& c)).toNat := by
  rw [UInt32.toNat_xor, UInt32.toNat_xor, UInt32.toNat_and, UInt32.toNat_and, UInt32.toNat_and]
  rfl

def nums (l : List UInt32) : List Nat := l.map UInt32.toNat
theorem nums_getD (l : List UInt32) (i : Nat) : (nums l).getD i 0 = (l.getD i 0).toNat := by
  unfold nums
  rw [List.getD_eq_getElem?_getD, List.getD_eq_getElem?_getD, List.getElem?_map]
  cases l[i]? <;> rfl
def lst8 (s : W8) : List Nat := nums (list8 s)
theorem roundS_mk (k w : List UInt32) (i : Nat) (a b c d e f g h : UInt32) : roundS k w i (a, b, c, d, e, f, g, h) =
    (((((h + ((rotr e 6 ^^^ rotr e 11) ^^^ rotr e 25)) + ((e &&& f) ^^^ ((~~~e) &&& g))) + k.getD i 0) + w.getD i 0) + (((rotr a 2 ^^^ rotr a 13) ^^^ rotr a 22) + (((a &&& b) ^^^ (a &&& c)) ^^^ (b &&& c))), a, b, c,
      d + ((((h + ((rotr e 6 ^^^ rotr e 11) ^^^ rotr e 25)) + ((e &&& f) ^^^ ((~~~e) &&& g))) + k.getD i 0) + w.getD i 0), e, f, g) := rfl
theorem rounds_eq (k w : List UInt32) (hk : k.length = 64) (hw : w.length = 64) : ∀ (n i : Nat) (a b c d e f g h : UInt32), i + n = 64 →
    roundsN (nums (k.drop i)) (nums (w.drop i)) a.toNat b.toNat c.toNat d.toNat e.toNat f.toNat g.toNat h.toNat = lst8 (runFor (roundS k w) i n (a, b, c, d, e, f, g, h))
  | 0, i, a, b, c, d, e, f, g, h, hi => by
    rw [List.drop_of_length_le (by omega)]
    rfl
  | n + 1, i, a, b, c, d, e, f, g, h, hi => by
    have hki : k.drop i = k.getD i 0 :: k.drop (i + 1) := by
      rw [List.drop_eq_getElem_cons (by omega), List.getD_eq_getElem?_getD, List.getElem?_eq_getElem (by omega)]; rfl
    have hwi : w.drop i = w.getD i 0 :: w.drop (i + 1) := by
      rw [List.drop_eq_getElem_cons (by omega), List.getD_eq_getElem?_getD, List.getElem?_eq_getElem (by omega)]; rfl
    rw [hki, hwi, runFor]
    have ih := rounds_eq k w hk hw n (i + 1)
    show roundsN ((k.getD i 0).toNat :: nums (k.drop (i + 1))) ((w.getD i 0).toNat :: nums (w.drop (i + 1))) _ _ _ _ _ _ _ _ = _
    rw [roundsN, seqN_eq, seqN_eq, seqN_eq, s3_eq e 6 11 25 (by omega) (by omega) (by omega), ch_eq, s3_eq a 2 13 22 (by omega) (by omega) (by omega), maj_eq]
    rw [roundS_mk, ← ih _ _ _ _ _ _ _ _ (by omega)]
    generalize ((rotr e 6 ^^^ rotr e 11) ^^^ rotr e 25) = x1
    generalize ((e &&& f) ^^^ ((~~~e) &&& g)) = x2
    generalize ((rotr a 2 ^^^ rotr a 13) ^^^ rotr a 22) = x3
    generalize (((a &&& b) ^^^ (a &&& c)) ^^^ (b &&& c)) = x4
    generalize k.getD i 0 = x5
    generalize w.getD i 0 = x6
    congr 1
    · simp only [UInt32.toNat_add, Nat.add_eq, modE, ← M32]; omega
    · simp only [UInt32.toNat_add, Nat.add_eq, modE, ← M32]; omega

theorem take_set {α : Type} (w : List α) (i : Nat) (x : α) (h : i < w.length) : (w.set i x).take (i + 1) = w.take i ++ [x] := by
  rw [List.take_add_one, List.take_set_of_le (Nat.le_refl i), List.getElem?_set_self h]; rfl
theorem rev_getD (w : List UInt32) (i j : Nat) (h : i ≤ w.length) (hj : j < i) : ((nums (w.take i)).reverse).getD j 0 = (w.getD (i - 1 - j) 0).toNat := by
  unfold nums
  have hl : ((w.take i).map UInt32.toNat).length = i := by simp; omega
  rw [List.getD_eq_getElem?_getD, List.getElem?_reverse (by omega), hl, List.getElem?_map, List.getElem?_take_of_lt (by omega), List.getD_eq_getElem?_getD, List.getElem?_eq_getElem (by omega)]; rfl
theorem sched_eq : ∀ (n i : Nat) (w : List UInt32), w.length = 64 → 16 ≤ i → i + n = 64 → schedN n (nums (w.take i)).reverse = (nums (runFor sprd2 i n w)).reverse
  | 0, i, w, hw, h1, hi => by rw [List.take_of_length_le (by omega)]; rfl
  | n + 1, i, w, hw, h1, hi => by
    rw [schedN, seqN_eq, runFor, ← sched_eq n (i + 1) (sprd2 i w) (by simp [sprd2, hw]) (by omega) (by omega)]
    rw [rev_getD w i 15 (by omega) (by omega), rev_getD w i 14 (by omega) (by omega), rev_getD w i 6 (by omega) (by omega), rev_getD w i 1 (by omega) (by omega), s2_eq _ 7 18 3 (by omega) (by omega), s2_eq _ 17 19 10 (by omega) (by omega)]
    unfold sprd2
    rw [take_set w i _ (by omega), show i - 1 - 15 = i - 16 from by omega, show i - 1 - 14 = i - 15 from by omega, show i - 1 - 6 = i - 7 from by omega, show i - 1 - 1 = i - 2 from by omega]
    unfold nums
    rw [List.map_append, List.reverse_append]
    congr 1
    show _ :: _ = _ :: _
    congr 1
    simp only [UInt32.toNat_add, Nat.add_eq, modE, ← M32]; omega
def wordsN (b : List UInt8) : List Nat := [(word b 15).toNat, (word b 14).toNat, (word b 13).toNat, (word b 12).toNat, (word b 11).toNat, (word b 10).toNat, (word b 9).toNat, (word b 8).toNat, (word b 7).toNat, (word b 6).toNat, (word b 5).toNat, (word b 4).toNat, (word b 3).toNat, (word b 2).toNat, (word b 1).toNat, (word b 0).toNat]
theorem words_eq (b : List UInt8) : (nums ((runFor (sprd1 b) 0 16 (List.replicate 64 0)).take 16)).reverse = wordsN b := by kernel_rfl
theorem spread_nums (b : List UInt8) : (schedN 48 (wordsN b)).reverse = nums (spreadS b) := by
  rw [← words_eq, sched_eq 48 16 _ (runFor_len (fun i w => by simp [sprd1]) _ _ _) (by omega) rfl, List.reverse_reverse]
  rfl
theorem spread_len (b : List UInt8) : (spreadS b).length = 64 := by
  unfold spreadS
  rw [runFor_len (fun i w => by simp [sprd2]), runFor_len (fun i w => by simp [sprd1])]; rfl
theorem kN_eq : kN = nums kS := by kernel_rfl
theorem h0N_eq : h0N = nums h0S := by kernel_rfl
theorem add8_eq (v h : W8) : add8 (lst8 v) (lst8 h) = nums (runFor (addS (list8 v)) 0 8 (list8 h)) := by
  obtain ⟨a, b, c, d, e, f, g, i⟩ := v
  obtain ⟨a1, b1, c1, d1, e1, f1, g1, i1⟩ := h
  show add8 [a.toNat, b.toNat, c.toNat, d.toNat, e.toNat, f.toNat, g.toNat, i.toNat] [a1.toNat, b1.toNat, c1.toNat, d1.toNat, e1.toNat, f1.toNat, g1.toNat, i1.toNat] = nums [a1 + a, b1 + b, c1 + c, d1 + d, e1 + e, f1 + f, g1 + g, i1 + i]
  simp only [add8, seqN_eq, nums, List.map_cons, List.map_nil, UInt32.toNat_add, Nat.add_eq, modE, ← M32]
  simp only [Nat.add_comm]
theorem block_nums (b : List UInt8) (h : List UInt32) (hh : h.length = 8) : blockN (wordsN b) (nums h) = nums (mixS kS b h) := by
  match h, hh with
  | [a, b1, c, d, e, f, g, i], _ =>
    show add8 (roundsN kN (schedN 48 (wordsN b)).reverse a.toNat b1.toNat c.toNat d.toNat e.toNat f.toNat g.toNat i.toNat) (lst8 (a, b1, c, d, e, f, g, i)) = _
    have := rounds_eq kS (spreadS b) rfl (spread_len b) 64 0 a b1 c d e f g i rfl
    rw [List.drop_zero, List.drop_zero] at this
    rw [spread_nums, kN_eq, this, add8_eq]
    rfl
def blocksN : Nat → List UInt8 → List Nat → List Nat
  | 0, _, h => h
  | n + 1, l, h => blocksN n (l.drop 64) (blockN (wordsN (l.take 64)) h)
theorem blocks_nums : ∀ (n : Nat) (l : List UInt8) (h : List UInt32), h.length = 8 → blocksN n l (nums h) = nums (blocksS n l h)
  | 0, _, _, _ => rfl
  | n + 1, l, h, hh => by rw [blocksN, block_nums _ h hh, blocks_nums n _ _ (by rw [mixS_len, hh]), blocksS]
def outN (h : List Nat) : List UInt8 := h.flatMap fun x => [UInt8.ofNat (x >>> 24), UInt8.ofNat (x >>> 16), UInt8.ofNat (x >>> 8), UInt8.ofNat x]
theorem outN_eq (h : List UInt32) : outN (nums h) = outS h := by
  have e : ∀ (x : UInt32) (k : Nat), UInt8.ofNat (x.toNat >>> k) = UInt8.ofNat (UInt32.toNat (UInt32.ofNat (x.toNat >>> k))) := by
    intro x k
    have hx := u32lt x
    rw [UInt32.toNat_ofNat', Nat.shiftRight_eq_div_pow, Nat.mod_eq_of_lt (Nat.lt_of_le_of_lt (Nat.div_le_self _ _) hx)]
  unfold outN outS nums
  rw [List.flatMap_map]
  congr 1
  funext x
  unfold outB
  rw [e x 24, e x 16, e x 8, ← e x (24 - 8 * 3)]
  rfl
def shaN (b : List UInt8) : List UInt8 := outN (blocksN ((b.length + 8) / 64 + 1) (padS b) h0N)
theorem sha_fast (b : List UInt8) : sha b = shaN b := by
  unfold sha shaN
  rw [h0N_eq, blocks_nums _ _ _ rfl, outN_eq]
theorem shaN_abc : shaN [97, 98, 99] = [186, 120, 22, 191, 143, 1, 207, 234, 65, 65, 64, 222, 93, 174, 34, 35, 176, 3, 97, 163, 150, 23, 122, 156, 180, 16, 255, 97, 242, 0, 21, 173] := by kernel_rfl
end Go.Ax.V
