/-
  SHA-256 in plain words, and the program's own: what its functions compute is that.
-/
import Derived.Test.YtcfaippbnmmelaaGreatCLightSkipsP
import Derived.Test.YtcfaippbnmmelaaGreatCLightSkipsLLp
namespace Go.Ax.V
open Go.Ax
set_option linter.unusedVariables false
set_option linter.unusedSimpArgs false
set_option maxRecDepth 100000
def rotr (x : UInt32) (n : Nat) : UInt32 := UInt32.ofNat (x.toNat <<< (32 - n)) ||| UInt32.ofNat (x.toNat >>> n)
def shr (x : UInt32) (n : Nat) : UInt32 := UInt32.ofNat (x.toNat >>> n)
def byteW (b : List UInt8) (i k : Nat) : UInt32 := UInt32.ofNat (UInt32.toNat (UInt32.ofNat (UInt8.toNat (List.getD b i 0))) <<< k)
def word (b : List UInt8) (i : Nat) : UInt32 := ((byteW b (4 * i) 24 ||| byteW b (4 * i + 1) 16) ||| byteW b (4 * i + 2) 8) ||| UInt32.ofNat (UInt8.toNat (List.getD b (4 * i + 3) 0))
def sprd1 (b : List UInt8) (i : Nat) (w : List UInt32) : List UInt32 := w.set i (word b i)
def sprd2 (i : Nat) (w : List UInt32) : List UInt32 :=
 w.set i (((w.getD (i - 16) 0 + ((rotr (w.getD (i - 15) 0) 7 ^^^ rotr (w.getD (i - 15) 0) 18) ^^^ shr (w.getD (i - 15) 0) 3)) + w.getD (i - 7) 0) + ((rotr (w.getD (i - 2) 0) 17 ^^^ rotr (w.getD (i - 2) 0) 19) ^^^ shr (w.getD (i - 2) 0) 10))
def spreadS (b : List UInt8) : List UInt32 := runFor sprd2 16 48 (runFor (sprd1 b) 0 16 (List.replicate 64 0))
abbrev W8 := UInt32 × UInt32 × UInt32 × UInt32 × UInt32 × UInt32 × UInt32 × UInt32
def roundS (k w : List UInt32) (i : Nat) (s : W8) : W8 :=
 match s with
 | (a, b, c, d, e, f, g, h) =>
  let one := (((h + ((rotr e 6 ^^^ rotr e 11) ^^^ rotr e 25)) + ((e &&& f) ^^^ ((~~~e) &&& g))) + k.getD i 0) + w.getD i 0
  (one + (((rotr a 2 ^^^ rotr a 13) ^^^ rotr a 22) + (((a &&& b) ^^^ (a &&& c)) ^^^ (b &&& c))), a, b, c, d + one, e, f, g)
def list8 (s : W8) : List UInt32 := [s.1, s.2.1, s.2.2.1, s.2.2.2.1, s.2.2.2.2.1, s.2.2.2.2.2.1, s.2.2.2.2.2.2.1, s.2.2.2.2.2.2.2]
def tup8 (h : List UInt32) : W8 := (h.getD 0 0, h.getD 1 0, h.getD 2 0, h.getD 3 0, h.getD 4 0, h.getD 5 0, h.getD 6 0, h.getD 7 0)
def addS (v : List UInt32) (i : Nat) (h : List UInt32) : List UInt32 := h.set i (h.getD i 0 + v.getD i 0)
def mixS (k : List UInt32) (b : List UInt8) (h : List UInt32) : List UInt32 :=
 runFor (addS (list8 (runFor (roundS k (spreadS b)) 0 64 (tup8 h)))) 0 8 h
def kS : List UInt32 := [1116352408, 1899447441, 3049323471, 3921009573, 961987163, 1508970993, 2453635748, 2870763221, 3624381080, 310598401, 607225278, 1426881987, 1925078388, 2162078206, 2614888103, 3248222580, 3835390401, 4022224774, 264347078, 604807628, 770255983, 1249150122, 1555081692, 1996064986, 2554220882, 2821834349, 2952996808, 3210313671, 3336571891, 3584528711, 113926993, 338241895, 666307205, 773529912, 1294757372, 1396182291, 1695183700, 1986661051, 2177026350, 2456956037, 2730485921, 2820302411, 3259730800, 3345764771, 3516065817, 3600352804, 4094571909, 275423344, 430227734, 506948616, 659060556, 883997877, 958139571, 1322822218, 1537002063, 1747873779, 1955562222, 2024104815, 2227730452, 2361852424, 2428436474, 2756734187, 3204031479, 3329325298]
def h0S : List UInt32 := [1779033703, 3144134277, 1013904242, 2773480762, 1359893119, 2600822924, 528734635, 1541459225]
def byteAt (n : UInt64) (i : Nat) : UInt8 := UInt8.ofNat (UInt64.toNat (UInt64.ofNat (UInt64.toNat n >>> (8 * i))))
def bitsOf (b : List UInt8) : UInt64 := UInt64.ofNat b.length * 8
def padS (b : List UInt8) : List UInt8 :=
 b ++ 128 :: (List.replicate ((b.length + 8) / 64 * 64 + 55 - b.length) 0 ++ [byteAt (bitsOf b) 7, byteAt (bitsOf b) 6, byteAt (bitsOf b) 5, byteAt (bitsOf b) 4, byteAt (bitsOf b) 3, byteAt (bitsOf b) 2, byteAt (bitsOf b) 1, byteAt (bitsOf b) 0])
def blocksS : Nat → List UInt8 → List UInt32 → List UInt32
 | 0, _, h => h
 | n + 1, l, h => blocksS n (l.drop 64) (mixS kS (l.take 64) h)
def outB (x : UInt32) (j : Nat) : UInt8 := UInt8.ofNat (UInt32.toNat (UInt32.ofNat (UInt32.toNat x >>> (24 - 8 * j))))
def outS (h : List UInt32) : List UInt8 := h.flatMap fun x => [outB x 0, outB x 1, outB x 2, outB x 3]
def sha (b : List UInt8) : List UInt8 := outS (blocksS ((b.length + 8) / 64 + 1) (padS b) h0S)
theorem right7 (x : UInt32) : q2z x 7 = some (rotr x 7) := rfl
theorem right18 (x : UInt32) : q2z x 18 = some (rotr x 18) := rfl
theorem right17 (x : UInt32) : q2z x 17 = some (rotr x 17) := rfl
theorem right19 (x : UInt32) : q2z x 19 = some (rotr x 19) := rfl
theorem right6 (x : UInt32) : q2z x 6 = some (rotr x 6) := rfl
theorem right11 (x : UInt32) : q2z x 11 = some (rotr x 11) := rfl
theorem right25 (x : UInt32) : q2z x 25 = some (rotr x 25) := rfl
theorem right2 (x : UInt32) : q2z x 2 = some (rotr x 2) := rfl
theorem right13 (x : UInt32) : q2z x 13 = some (rotr x 13) := rfl
theorem right22 (x : UInt32) : q2z x 22 = some (rotr x 22) := rfl
theorem spread1_step (b : List UInt8) (hb : b.length = 64) (z w : List UInt32) {i : Nat} (hi : i < 16) :
  q2q_1_step b (i : Int) z w = some (.inl (((i + 1 : Nat) : Int), sprd1 b i w)) := by
 unfold q2q_1_step
 have e0 : Int.toNat (4 * (i : Int)) = 4 * i := by omega
 have e1 : Int.toNat (4 * (i : Int) + 1) = 4 * i + 1 := by omega
 have e2 : Int.toNat (4 * (i : Int) + 2) = 4 * i + 2 := by omega
 have e3 : Int.toNat (4 * (i : Int) + 3) = 4 * i + 3 := by omega
 simp (disch := omega) only [fork_t, w64_eq, need_true, hb, e0, e1, e2, e3, Int.toNat_natCast]
 rfl
theorem spread_1 (b : List UInt8) (hb : b.length = 64) (z : List UInt32) : q2q_1 b 0 z z = some (z, runFor (sprd1 b) 0 16 z) := by
 unfold q2q_1
 refine loop_for (fun i w => ((i : Int), w)) (sprd1 b) (fun w => (z, w)) 16 (fun _ _ => True) (fun i w hi _ => ⟨spread1_step b hb z w hi, trivial⟩) (fun w _ => ?_) 16 0 z rfl trivial
 unfold q2q_1_step
 rfl
theorem spread2_step (z w : List UInt32) {i : Nat} (h1 : 16 ≤ i) (hi : i < 64) :
  q2q_2_step (i : Int) z w = some (.inl (((i + 1 : Nat) : Int), sprd2 i w)) := by
 unfold q2q_2_step
 have e0 : Int.toNat ((i : Int) - 15) = i - 15 := by omega
 have e1 : Int.toNat ((i : Int) - 2) = i - 2 := by omega
 have e2 : Int.toNat ((i : Int) - 16) = i - 16 := by omega
 have e3 : Int.toNat ((i : Int) - 7) = i - 7 := by omega
 simp (disch := omega) only [fork_t, w64_eq, need_true, e0, e1, e2, e3, Int.toNat_natCast, right7, right18, right17, right19, andThen_mk]
 rfl
theorem spread_2 (z w : List UInt32) : q2q_2 16 z w = some (z, runFor sprd2 16 48 w) := by
 unfold q2q_2
 refine loop_for (fun i w => ((i : Int), w)) sprd2 (fun w => (z, w)) 64 (fun i _ => 16 ≤ i) (fun i w hi h => ⟨spread2_step z w h hi, by omega⟩) (fun w _ => ?_) 48 16 w rfl (Nat.le_refl _)
 unfold q2q_2_step
 rfl
theorem spread_eq (b : List UInt8) (hb : b.length = 64) : q2q b = some (spreadS b) := by
 unfold q2q
 rw [spread_1 b hb, andThen_mk, spread_2, andThen_mk, spreadS]
theorem mix1_step (k w hz : List UInt32) (s : W8) {i : Nat} (hi : i < 64) :
  q28_1_step s.1 s.2.1 s.2.2.1 s.2.2.2.1 s.2.2.2.2.1 s.2.2.2.2.2.1 s.2.2.2.2.2.2.1 s.2.2.2.2.2.2.2 (i : Int) hz k w =
   some (.inl ((roundS k w i s).1, (roundS k w i s).2.1, (roundS k w i s).2.2.1, (roundS k w i s).2.2.2.1, (roundS k w i s).2.2.2.2.1, (roundS k w i s).2.2.2.2.2.1, (roundS k w i s).2.2.2.2.2.2.1, (roundS k w i s).2.2.2.2.2.2.2, ((i + 1 : Nat) : Int))) := by
 obtain ⟨a, b, c, d, e, f, g, h⟩ := s
 unfold q28_1_step
 simp (disch := omega) only [fork_t, w64_eq, need_true, Int.toNat_natCast, right6, right11, right25, right2, right13, right22, andThen_mk]
 rfl
theorem mix_1 (k w hz : List UInt32) (s : W8) : q28_1 s.1 s.2.1 s.2.2.1 s.2.2.2.1 s.2.2.2.2.1 s.2.2.2.2.2.1 s.2.2.2.2.2.2.1 s.2.2.2.2.2.2.2 0 hz k w =
   some ((runFor (roundS k w) 0 64 s).1, (runFor (roundS k w) 0 64 s).2.1, (runFor (roundS k w) 0 64 s).2.2.1, (runFor (roundS k w) 0 64 s).2.2.2.1, (runFor (roundS k w) 0 64 s).2.2.2.2.1, (runFor (roundS k w) 0 64 s).2.2.2.2.2.1, (runFor (roundS k w) 0 64 s).2.2.2.2.2.2.1, (runFor (roundS k w) 0 64 s).2.2.2.2.2.2.2, hz, k) := by
 unfold q28_1
 refine loop_for (fun i (s : W8) => (s.1, s.2.1, s.2.2.1, s.2.2.2.1, s.2.2.2.2.1, s.2.2.2.2.2.1, s.2.2.2.2.2.2.1, s.2.2.2.2.2.2.2, (i : Int))) (roundS k w)
  (fun (s : W8) => (s.1, s.2.1, s.2.2.1, s.2.2.2.1, s.2.2.2.2.1, s.2.2.2.2.2.1, s.2.2.2.2.2.2.1, s.2.2.2.2.2.2.2, hz, k)) 64 (fun _ _ => True) (fun i s hi _ => ⟨mix1_step k w hz s hi, trivial⟩) (fun s _ => ?_) 64 0 s rfl trivial
 unfold q28_1_step
 rfl
theorem mix_2 (v h k : List UInt32) : q28_2 v 0 h k = some (runFor (addS v) 0 8 h, k) := by
 unfold q28_2
 refine loop_for (fun i w => ((i : Int), w)) (addS v) (fun w => (w, k)) 8 (fun _ _ => True) (fun i w hi _ => ⟨?_, trivial⟩) (fun w _ => ?_) 8 0 h rfl trivial
 ·unfold q28_2_step
  simp (disch := omega) only [fork_t, w64_eq, need_true, Int.toNat_natCast]
  rfl
 ·unfold q28_2_step
  rfl
theorem mix_eq (b : List UInt8) (hb : b.length = 64) (h k : List UInt32) : q28 b h k = some (mixS k b h, k) := by
 unfold q28
 rw [spread_eq b hb, andThen_mk]
 have := mix_1 k (spreadS b) h (tup8 h)
 simp only [tup8] at this
 rw [show (Int.toNat (0 : Int)) = 0 from rfl, show (Int.toNat (1 : Int)) = 1 from rfl, show (Int.toNat (2 : Int)) = 2 from rfl, show (Int.toNat (3 : Int)) = 3 from rfl, show (Int.toNat (4 : Int)) = 4 from rfl,
  show (Int.toNat (5 : Int)) = 5 from rfl, show (Int.toNat (6 : Int)) = 6 from rfl, show (Int.toNat (7 : Int)) = 7 from rfl, this, andThen_mk, mix_2, andThen_mk]
 rfl
end Go.Ax.V
