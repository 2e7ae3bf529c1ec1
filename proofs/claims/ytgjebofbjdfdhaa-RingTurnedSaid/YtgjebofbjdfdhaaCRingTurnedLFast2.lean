/-
  SHA-256 on words, quick: for sums of sums.
-/
import Derived.Test.YtgjebofbjdfdhaaCRingTurnedLFast
namespace Go.Ax.V
open Go.Ax
set_option linter.unusedVariables false
set_option linter.unusedSimpArgs false
set_option maxRecDepth 100000

/-- What is reckoned first, then handed on. -/
def seqK (n : Nat) (k : Nat → List Nat) : List Nat := Nat.rec (motive := fun _ => List Nat) [] (fun m _ => k m) (Nat.succ n)
theorem seqK_eq (n : Nat) (k : Nat → List Nat) : seqK n k = k n := by cases n <;> rfl
abbrev V8 := Nat → Nat → Nat → Nat → Nat → Nat → Nat → Nat → List Nat
noncomputable def rnds (ws : List Nat) : V8 :=
  List.rec (motive := fun _ => V8) (fun a b c d e f g h => [a, b, c, d, e, f, g, h])
    (fun w _ ih a b c d e f g h =>
      seqK (Nat.mul e 4294967297) fun y =>
      seqK (Nat.mul a 4294967297) fun z =>
      seqK (Nat.add (Nat.add (Nat.add h (Nat.mod (Nat.xor (Nat.xor (Nat.shiftRight y 6) (Nat.shiftRight y 11)) (Nat.shiftRight y 25)) 4294967296)) (Nat.xor g (Nat.land e (Nat.xor f g)))) w) fun t =>
      seqK (Nat.mod (Nat.add t (Nat.add (Nat.mod (Nat.xor (Nat.xor (Nat.shiftRight z 2) (Nat.shiftRight z 13)) (Nat.shiftRight z 22)) 4294967296) (Nat.xor (Nat.land a (Nat.xor b c)) (Nat.land b c)))) 4294967296) fun a' =>
      seqK (Nat.mod (Nat.add d t) 4294967296) fun e' => ih a' a b c e' e f g) ws
abbrev V16 := Nat → Nat → Nat → Nat → Nat → Nat → Nat → Nat → Nat → Nat → Nat → Nat → Nat → Nat → Nat → Nat → List Nat
/-- From the constants: constant and word, in order. -/
noncomputable def schd (ks : List Nat) : V16 :=
  List.rec (motive := fun _ => V16) (fun _ _ _ _ _ _ _ _ _ _ _ _ _ _ _ _ => [])
    (fun k _ ih a b c d e f g h i j l m n o p q =>
      List.cons (Nat.add k a)
      (seqK (Nat.mul b 4294967297) fun y =>
      seqK (Nat.mul p 4294967297) fun z =>
      seqK (Nat.mod (Nat.add (Nat.add (Nat.add a (Nat.xor (Nat.mod (Nat.xor (Nat.shiftRight y 7) (Nat.shiftRight y 18)) 4294967296) (Nat.shiftRight b 3))) j) (Nat.xor (Nat.mod (Nat.xor (Nat.shiftRight z 17) (Nat.shiftRight z 19)) 4294967296) (Nat.shiftRight p 10))) 4294967296) fun x =>
      ih b c d e f g h i j l m n o p q x)) ks
theorem rnds_nil (a b c d e f g h : Nat) : rnds [] a b c d e f g h = [a, b, c, d, e, f, g, h] := rfl
theorem rnds_cons (w : Nat) (ws : List Nat) (a b c d e f g h : Nat) : rnds (w :: ws) a b c d e f g h =
      (seqK (Nat.mul e 4294967297) fun y =>
      seqK (Nat.mul a 4294967297) fun z =>
      seqK (Nat.add (Nat.add (Nat.add h (Nat.mod (Nat.xor (Nat.xor (Nat.shiftRight y 6) (Nat.shiftRight y 11)) (Nat.shiftRight y 25)) 4294967296)) (Nat.xor g (Nat.land e (Nat.xor f g)))) w) fun t =>
      seqK (Nat.mod (Nat.add t (Nat.add (Nat.mod (Nat.xor (Nat.xor (Nat.shiftRight z 2) (Nat.shiftRight z 13)) (Nat.shiftRight z 22)) 4294967296) (Nat.xor (Nat.land a (Nat.xor b c)) (Nat.land b c)))) 4294967296) fun a' =>
      seqK (Nat.mod (Nat.add d t) 4294967296) fun e' => rnds ws a' a b c e' e f g) := rfl
theorem schd_nil (a b c d e f g h i j l m n o p q : Nat) : schd [] a b c d e f g h i j l m n o p q = [] := rfl
theorem schd_cons (k : Nat) (ks : List Nat) (a b c d e f g h i j l m n o p q : Nat) : schd (k :: ks) a b c d e f g h i j l m n o p q =
      List.cons (Nat.add k a)
      (seqK (Nat.mul b 4294967297) fun y =>
      seqK (Nat.mul p 4294967297) fun z =>
      seqK (Nat.mod (Nat.add (Nat.add (Nat.add a (Nat.xor (Nat.mod (Nat.xor (Nat.shiftRight y 7) (Nat.shiftRight y 18)) 4294967296) (Nat.shiftRight b 3))) j) (Nat.xor (Nat.mod (Nat.xor (Nat.shiftRight z 17) (Nat.shiftRight z 19)) 4294967296) (Nat.shiftRight p 10))) 4294967296) fun x =>
      schd ks b c d e f g h i j l m n o p q x) := rfl

theorem ch_alt (e f g : Nat) (he : e < 4294967296) (hg : g < 4294967296) : Nat.xor g (Nat.land e (Nat.xor f g)) = chN e f g := by
  unfold chN
  show g ^^^ (e &&& (f ^^^ g)) = (e &&& f) ^^^ ((4294967295 - e) &&& g)
  apply Nat.eq_of_testBit_eq
  intro i
  have hs : (4294967295 - e).testBit i = (decide (i < 32) && !e.testBit i) := by
    have h := Nat.testBit_two_pow_sub_succ (n := 32) (x := e) he i
    rw [← h]; congr 1; omega
  simp only [Nat.testBit_xor, Nat.testBit_and, hs]
  by_cases h : i < 32
  · cases e.testBit i <;> cases f.testBit i <;> cases g.testBit i <;> simp [h]
  · have hi : 2 ^ 32 ≤ 2 ^ i := Nat.pow_le_pow_right (by omega) (by omega)
    have h1 : e.testBit i = false := Nat.testBit_lt_two_pow (Nat.lt_of_lt_of_le he hi)
    have h2 : g.testBit i = false := Nat.testBit_lt_two_pow (Nat.lt_of_lt_of_le hg hi)
    simp [h1, h2, h]
theorem maj_alt (a b c : Nat) : Nat.xor (Nat.land a (Nat.xor b c)) (Nat.land b c) = majN a b c := by
  unfold majN
  show (a &&& (b ^^^ c)) ^^^ (b &&& c) = ((a &&& b) ^^^ (a &&& c)) ^^^ (b &&& c)
  rw [Nat.and_xor_distrib_left]
def addW : List Nat → List Nat → List Nat
  | k :: ks, w :: ws => Nat.add k w :: addW ks ws
  | _, _ => []
theorem s3_un (x a b c : Nat) : s3 x a b c = Nat.mod (Nat.xor (Nat.xor (Nat.shiftRight (Nat.mul x 4294967297) a) (Nat.shiftRight (Nat.mul x 4294967297) b)) (Nat.shiftRight (Nat.mul x 4294967297) c)) 4294967296 := by
  unfold s3; rw [seqN_eq]
theorem s2_un (x a b c : Nat) : s2 x a b c = Nat.xor (Nat.mod (Nat.xor (Nat.shiftRight (Nat.mul x 4294967297) a) (Nat.shiftRight (Nat.mul x 4294967297) b)) 4294967296) (Nat.shiftRight x c) := by
  unfold s2; rw [seqN_eq]
theorem rnds_step (k w : Nat) (ks : List Nat) (a b c d e f g h : Nat) (he : e < 4294967296) (hg : g < 4294967296) : rnds (Nat.add k w :: ks) a b c d e f g h =
    rnds ks (Nat.mod (Nat.add (Nat.add (Nat.add (Nat.add (Nat.add h (s3 e 6 11 25)) (chN e f g)) k) w) (Nat.add (s3 a 2 13 22) (majN a b c))) 4294967296) a b c (Nat.mod (Nat.add d (Nat.add (Nat.add (Nat.add (Nat.add h (s3 e 6 11 25)) (chN e f g)) k) w)) 4294967296) e f g := by
  rw [rnds_cons]
  simp only [seqK_eq]
  rw [← s3_un, ← s3_un, ch_alt e f g he hg, maj_alt]
  have : Nat.add (Nat.add (Nat.add h (s3 e 6 11 25)) (chN e f g)) (Nat.add k w) = Nat.add (Nat.add (Nat.add (Nat.add h (s3 e 6 11 25)) (chN e f g)) k) w := by
    simp only [Nat.add_eq, Nat.add_assoc]
  rw [this]
theorem mod_lt32 (x : Nat) : Nat.mod x 4294967296 < 4294967296 := Nat.mod_lt x (by omega)
theorem rnds_eq (ks : List Nat) : ∀ (ws : List Nat) (a b c d e f g h : Nat), ks.length = ws.length → e < 4294967296 → f < 4294967296 → g < 4294967296 → rnds (addW ks ws) a b c d e f g h = roundsN ks ws a b c d e f g h := by
  induction ks with
  | nil =>
    intro ws a b c d e f g h hl _ _ _
    cases ws with
    | nil => rfl
    | cons w ws => simp at hl
  | cons k ks ih =>
    intro ws a b c d e f g h hl he hf hg
    cases ws with
    | nil => simp at hl
    | cons w ws =>
      have hl' : ks.length = ws.length := by simpa using hl
      rw [roundsN, seqN_eq, seqN_eq, seqN_eq, addW, rnds_step k w _ a b c d e f g h he hg]
      exact ih ws _ _ _ _ _ _ _ _ hl' (mod_lt32 _) he hf
/-- The words of a block, in order, as many as are asked. -/
noncomputable def strm (r : Nat) : V16 :=
  Nat.rec (motive := fun _ => V16) (fun _ _ _ _ _ _ _ _ _ _ _ _ _ _ _ _ => [])
    (fun _ ih a b c d e f g h i j l m n o p q => a :: ih b c d e f g h i j l m n o p q (Nat.mod (Nat.add (Nat.add (Nat.add a (s2 b 7 18 3)) j) (s2 p 17 19 10)) 4294967296)) r
theorem strm_zero (a b c d e f g h i j l m n o p q : Nat) : strm 0 a b c d e f g h i j l m n o p q = [] := rfl
theorem strm_succ (r : Nat) (a b c d e f g h i j l m n o p q : Nat) : strm (r + 1) a b c d e f g h i j l m n o p q = a :: strm r b c d e f g h i j l m n o p q (Nat.mod (Nat.add (Nat.add (Nat.add a (s2 b 7 18 3)) j) (s2 p 17 19 10)) 4294967296) := rfl
theorem strm_len (r : Nat) : ∀ (a b c d e f g h i j l m n o p q : Nat), (strm r a b c d e f g h i j l m n o p q).length = r := by
  induction r with
  | zero => intros; rw [strm_zero]; rfl
  | succ r ih => intro a b c d e f g h i j l m n o p q; rw [strm_succ, List.length_cons, ih]
theorem schd_eq (ks : List Nat) : ∀ (a b c d e f g h i j l m n o p q : Nat), schd ks a b c d e f g h i j l m n o p q = addW ks (strm ks.length a b c d e f g h i j l m n o p q) := by
  induction ks with
  | nil => intros; rw [schd_nil]; rfl
  | cons k ks ih =>
    intro a b c d e f g h i j l m n o p q
    rw [List.length_cons, strm_succ, addW, ← ih, schd_cons, s2_un, s2_un, seqK_eq, seqK_eq, seqK_eq]
end Go.Ax.V
