/-
  Chapter 13: any chain, any blocks of it, turned, forged by some: each answer, what is trusted then; it rises.
-/
import Derived.Test.YtnckmagemlajeaaGreatCLightPlaysLB
namespace Go.Ax.V
open Go.Ax
set_option linter.unusedVariables false
set_option linter.unusedSimpArgs false
abbrev PrR := List UInt8 × List UInt8 × Unit
noncomputable def hdR (r : List UInt8) (S : List Val) (B : List Block) (t : Int) : Hdr :=
 if B.length = 0 then (1, t, r, setH S, setH S, List.replicate 32 0, ())
 else ((B.length : Int) + 1, t, r, setH (lastB B).2.2.2.1, setH S, sha (72 :: bodyS (lastB B).1), ())
theorem K2u {r : List UInt8} (hr32 : r.length = 32) (S : List Val) (B : List Block) (t : Int) : K00 (hdR r S B t) := by
 unfold hdR
 split
 ·exact ⟨hr32, K8k _, K8k _, by simp⟩
 ·exact ⟨hr32, K8k _, K8k _, K8t _⟩
theorem hdR_1 (r : List UInt8) (S : List Val) (B : List Block) (t : Int) : (hdR r S B t).1 = (B.length : Int) + 1 := by
 unfold hdR; split
 ·show (1 : Int) = _; omega
 ·rfl
theorem hdR_t (r : List UInt8) (S : List Val) (B : List Block) (t : Int) : (hdR r S B t).2.1 = t := by unfold hdR; split <;> rfl
theorem hdR_next (r : List UInt8) (S : List Val) (B : List Block) (t : Int) : (hdR r S B t).2.2.2.2.1 = setH S := by unfold hdR; split <;> rfl
theorem K2v {r : List UInt8} {S : List Val} {B : List Block} {t : Int} (hb : B.length < 16) (h1 : 0 ≤ t) (h2 : t ≤ 1073741824) : K6l (hdR r S B t) = true := by
 rw [K6m, hdR_1, hdR_t]; omega
noncomputable def blkR (n : Nat) (r : List UInt8) (S : List Val) (B : List Block) (t : Int) : Block := (hdR r S B t, sgJ (hdR r S B t) (List.range n), nowS S B, S, ())
theorem cg1 (n : Nat) (hn : n ≤ 4) (k : Int) (N : List PrR) (B : List Block) (R : Rows) (S : List Val) (h : Hdr) (ps nx : List Val) (hk : w64 (k + 1) = h.1) (h1 : 1 ≤ h.1) (h2 : h.1 ≤ 16) :
  qd_1 k (n : Int) 0 N S B R () (K8i n) (K75 n) (K4q n) h ps () [] nx (textS h) = some (k, N, S, B, R, (), K8i n, K75 n, K4q n, h, ps, (), sgJ h (List.range n), nx) := by
 have e1 : (K8i n).length = n := K7b _ _
 have e2 : (K75 n).length = n := K7b _ _
 have e3 : (K4q n).length = n := K7b _ _
 unfold qd_1
 have := K47 (step := fun (t : Int × List K01) => qd_1_step k (n : Int) t.1 N S B R () (K8i n) (K75 n) (K4q n) h ps () t.2 nx (textS h)) (fun i (_ : Unit) => ((i : Int), sgJ h (List.range i))) (fun _ _ => ()) (fun _ => (k, N, S, B, R, (), K8i n, K75 n, K4q n, h, ps, (), sgJ h (List.range n), nx)) n (fun _ _ => True) (fun i w hi _ => ⟨?_, trivial⟩) (fun w _ => ?_) n 0 () (by omega) trivial
 ·exact this
 ·show qd_1_step k (n : Int) (i : Int) N S B R () (K8i n) (K75 n) (K4q n) h ps () (sgJ h (List.range i)) nx (textS h) = _
  unfold qd_1_step
  have g1 : (K8i n).getD i (List.replicate 32 (0 : UInt8)) = seedK i := K2j _ _ hi
  have g2 : (K75 n).getD i [] = keysS (seedK i) := K2j _ _ hi
  have g3 : (K4q n).getD i [] = nm i := K2j _ _ hi
  rw [K2e (by omega), J4c (by omega), J4c (by omega), J4c (by omega), Int.toNat_natCast, g1, g2, g3, hk, K62 _ (by rw [K3h]; omega) (K3i _) _ _ (K8g i) _ h1 h2 (by rw [K9m]; omega), K05, J4c (by rw [K8r, List.length_range]; simp only [List.length_cons, List.length_nil]; omega), J6z (n := (i : Int) + 1) (by omega) (by omega), K8s]
  rfl
 ·show qd_1_step k (n : Int) (n : Int) N S B R () (K8i n) (K75 n) (K4q n) h ps () (sgJ h (List.range n)) nx (textS h) = _
  unfold qd_1_step
  rw [K28 (by omega)]
theorem cg2 (n : Nat) (hn : n ≤ 4) (k : Int) (N : List PrR) (B : List Block) (R : Rows) (S : List Val) (h : Hdr) (nx : List Val) (hk : w64 (k + 1) = h.1) (h1 : 1 ≤ h.1) (h2 : h.1 ≤ 16) :
  qd_2 k (n : Int) 0 N S B R () (K8i n) (K75 n) (K4q n) h () [] nx (textS h) = some (k, N, S, B, R, (), K8i n, K75 n, K4q n, h, (), sgJ h (List.range n), nx) := by
 have e1 : (K8i n).length = n := K7b _ _
 have e2 : (K75 n).length = n := K7b _ _
 have e3 : (K4q n).length = n := K7b _ _
 unfold qd_2
 have := K47 (step := fun (t : Int × List K01) => qd_2_step k (n : Int) t.1 N S B R () (K8i n) (K75 n) (K4q n) h () t.2 nx (textS h)) (fun i (_ : Unit) => ((i : Int), sgJ h (List.range i))) (fun _ _ => ()) (fun _ => (k, N, S, B, R, (), K8i n, K75 n, K4q n, h, (), sgJ h (List.range n), nx)) n (fun _ _ => True) (fun i w hi _ => ⟨?_, trivial⟩) (fun w _ => ?_) n 0 () (by omega) trivial
 ·exact this
 ·show qd_2_step k (n : Int) (i : Int) N S B R () (K8i n) (K75 n) (K4q n) h () (sgJ h (List.range i)) nx (textS h) = _
  unfold qd_2_step
  have g1 : (K8i n).getD i (List.replicate 32 (0 : UInt8)) = seedK i := K2j _ _ hi
  have g2 : (K75 n).getD i [] = keysS (seedK i) := K2j _ _ hi
  have g3 : (K4q n).getD i [] = nm i := K2j _ _ hi
  rw [K2e (by omega), J4c (by omega), J4c (by omega), J4c (by omega), Int.toNat_natCast, g1, g2, g3, hk, K62 _ (by rw [K3h]; omega) (K3i _) _ _ (K8g i) _ h1 h2 (by rw [K9m]; omega), K05, J4c (by rw [K8r, List.length_range]; simp only [List.length_cons, List.length_nil]; omega), J6z (n := (i : Int) + 1) (by omega) (by omega), K8s]
  rfl
 ·show qd_2_step k (n : Int) (n : Int) N S B R () (K8i n) (K75 n) (K4q n) h () (sgJ h (List.range n)) nx (textS h) = _
  unfold qd_2_step
  rw [K28 (by omega)]
theorem K10 (a0 : Int) (a1 : List (List UInt8 × List UInt8 × Unit)) (a2 : List Val) (a3 : List Block) (a4 : Rows) (a5 : Unit) (a6 : List (List UInt8)) (a7 : List (List (List UInt8))) (a8 : List (List UInt8)) : qd a0 a1 a2 a3 a4 a5 a6 a7 a8 =
  (fork (decide ((16 : Int) ≤ (List.length a3 : Int))) (some ((0 : Int), a1, a2, a3, a4, a5, a6, a7, a8)) (fork (decide (a0 < (0 : Int))) (some ((0 : Int), a1, a2, a3, a4, a5, a6, a7, a8)) (fork (decide ((1073741824 : Int) < a0)) (some ((0 : Int), a1, a2, a3, a4, a5, a6, a7, a8)) (fork (decide ((0 : Int) < (List.length a3 : Int))) (need (0 ≤ (w64 ((List.length a3 : Int) - (1 : Int))) ∧ (w64 ((List.length a3 : Int) - (1 : Int))) < (List.length a3 : Int)) (fork (decide (a0 ≤ (List.getD a3 (Int.toNat (w64 ((List.length a3 : Int) - (1 : Int)))) zBlk).1.2.1)) (some ((0 : Int), a1, a2, a3, a4, a5, a6, a7, a8)) (need (List.length ([] : List Val) + List.length a2 ≤ 2147483648) (andThen (q13 a1) (fun u8 => andThen (qx ((List.getD a3 (Int.toNat (w64 ((List.length a3 : Int) - (1 : Int)))) zBlk).1)) (fun u10 => andThen (q17 ((List.getD a3 (Int.toNat (w64 ((List.length a3 : Int) - (1 : Int)))) zBlk).2.2.2.1)) (fun u12 => andThen (q17 (([] : List Val) ++ a2)) (fun u14 => andThen (qx ((w64 ((List.length a3 : Int) + (1 : Int))), a0, u8, u12, u14, u10, ())) (fun u16 => andThen (qd_1 (List.length a3 : Int) (List.length a6 : Int) (0 : Int) a1 a2 a3 a4 a5 a6 a7 a8 ((w64 ((List.length a3 : Int) + (1 : Int))), a0, u8, u12, u14, u10, ()) (List.getD a3 (Int.toNat (w64 ((List.length a3 : Int) - (1 : Int)))) zBlk).2.2.2.1 (()) ([] : List K01) (([] : List Val) ++ a2) u16) (fun o26 => need (List.length ([] : List Block) + List.length o26.2.2.2.1 ≤ 2147483648) (need (List.length (([] : List Block) ++ o26.2.2.2.1) + List.length ([(o26.2.2.2.2.2.2.2.2.2.1, o26.2.2.2.2.2.2.2.2.2.2.2.2.1, o26.2.2.2.2.2.2.2.2.2.2.1, o26.2.2.2.2.2.2.2.2.2.2.2.2.2, ())] : List Block) ≤ 2147483648) (need (List.length ([] : Rows) + List.length o26.2.2.2.2.1 ≤ 2147483648) (need (List.length (([] : Rows) ++ o26.2.2.2.2.1) + List.length ([o26.2.1] : Rows) ≤ 2147483648) (some ((w64 (o26.1 + (1 : Int))), o26.2.1, o26.2.2.1, ((([] : List Block) ++ o26.2.2.2.1) ++ ([(o26.2.2.2.2.2.2.2.2.2.1, o26.2.2.2.2.2.2.2.2.2.2.2.2.1, o26.2.2.2.2.2.2.2.2.2.2.1, o26.2.2.2.2.2.2.2.2.2.2.2.2.2, ())] : List Block)), ((([] : Rows) ++ o26.2.2.2.2.1) ++ ([o26.2.1] : Rows)), o26.2.2.2.2.2.1, o26.2.2.2.2.2.2.1, o26.2.2.2.2.2.2.2.1, o26.2.2.2.2.2.2.2.2.1))))))))))))))) (need (List.length ([] : List Val) + List.length a2 ≤ 2147483648) (andThen (q13 a1) (fun u33 => andThen (q17 (([] : List Val) ++ a2)) (fun u35 => andThen (q17 (([] : List Val) ++ a2)) (fun u37 => andThen (qx ((w64 ((List.length a3 : Int) + (1 : Int))), a0, u33, u35, u37, (List.replicate 32 (0 : UInt8)), ())) (fun u39 => andThen (qd_2 (List.length a3 : Int) (List.length a6 : Int) (0 : Int) a1 a2 a3 a4 a5 a6 a7 a8 ((w64 ((List.length a3 : Int) + (1 : Int))), a0, u33, u35, u37, (List.replicate 32 (0 : UInt8)), ()) (()) ([] : List K01) (([] : List Val) ++ a2) u39) (fun o49 => need (List.length ([] : List Block) + List.length o49.2.2.2.1 ≤ 2147483648) (need (List.length (([] : List Block) ++ o49.2.2.2.1) + List.length ([(o49.2.2.2.2.2.2.2.2.2.1, o49.2.2.2.2.2.2.2.2.2.2.2.1, o49.2.2.2.2.2.2.2.2.2.2.2.2, o49.2.2.2.2.2.2.2.2.2.2.2.2, ())] : List Block) ≤ 2147483648) (need (List.length ([] : Rows) + List.length o49.2.2.2.2.1 ≤ 2147483648) (need (List.length (([] : Rows) ++ o49.2.2.2.2.1) + List.length ([o49.2.1] : Rows) ≤ 2147483648) (some ((w64 (o49.1 + (1 : Int))), o49.2.1, o49.2.2.1, ((([] : List Block) ++ o49.2.2.2.1) ++ ([(o49.2.2.2.2.2.2.2.2.2.1, o49.2.2.2.2.2.2.2.2.2.2.2.1, o49.2.2.2.2.2.2.2.2.2.2.2.2, o49.2.2.2.2.2.2.2.2.2.2.2.2, ())] : List Block)), ((([] : Rows) ++ o49.2.2.2.2.1) ++ ([o49.2.1] : Rows)), o49.2.2.2.2.2.1, o49.2.2.2.2.2.2.1, o49.2.2.2.2.2.2.2.1, o49.2.2.2.2.2.2.2.2.1))))))))))))))) : Option (Int × (List (List UInt8 × List UInt8 × Unit)) × (List Val) × (List Block) × (Rows) × Unit × List (List UInt8) × List (List (List UInt8)) × List (List UInt8))) := rfl
theorem K0z (n : Nat) (hn : n ≤ 4) (t : Int) (N : List PrR) (r : List UInt8) (hN : q13 N = some r) (hr32 : r.length = 32) (B : List Block) (R : Rows) (S : List Val) (hb : B.length < 16) (hR : R.length ≤ 100) (h1 : 0 ≤ t) (h2 : t ≤ 1073741824) (h3 : B.length ≠ 0 → (lastB B).1.2.1 < t) (hB : Good B) (hS : SetSm S) :
  qd t N S B R () (K8i n) (K75 n) (K4q n) = some ((B.length : Int) + 1, N, S, B ++ [blkR n r S B t], R ++ [N], (), K8i n, K75 n, K4q n) := by
 have e1 : (K8i n).length = n := K7b _ _
 have hSl := hS.1
 have hnil : ([] : List Val) ++ S = S := rfl
 have hr := K2v (r := r) (S := S) hb h1 h2
 have hh := K2u hr32 S B t
 have hd1 := hdR_1 r S B t
 have w1 : w64 ((B.length : Int) + 1) = (B.length : Int) + 1 := J6z (by omega) (by omega)
 rw [K10, K28 (by omega), K28 (by omega), K28 (by omega)]
 by_cases c : B.length = 0
 ·rw [K28 (by omega), J4c (by simp only [List.length_nil]; omega), hN, K05, hnil, K7x S hS, K05, K05, w1]
  have hh0 : ((B.length : Int) + 1, t, r, setH S, setH S, List.replicate 32 (0 : UInt8), ()) = hdR r S B t := by
   unfold hdR; rw [if_pos c, c]; rfl
  rw [hh0, K6j _ hh, K05, ← K9n hr, e1, cg2 n hn _ N B R S _ S (by rw [w1, hd1]) (by omega) (by omega), K05]
  simp only
  have hB0 : B = [] := List.eq_nil_of_length_eq_zero c
  rw [J4c (by simp only [List.length_nil]; omega), J4c (by simp only [List.nil_append, List.length_cons, List.length_nil]; omega), J4c (by simp only [List.length_nil]; omega), J4c (by simp only [List.nil_append, List.length_cons, List.length_nil]; omega), w1]
  have hnow : nowS S B = S := by unfold nowS; rw [if_pos c]
  unfold blkR
  rw [hnow]
  rfl
 ·obtain ⟨g1, g2⟩ := hB.resolve_left c
  have hix : Int.toNat (w64 ((B.length : Int) - 1)) = B.length - 1 := by rw [J6z (by omega) (by omega)]; omega
  have hw : w64 ((B.length : Int) - 1) = (B.length : Int) - 1 := J6z (by omega) (by omega)
  have hl : B.getD (B.length - 1) zBlk = lastB B := rfl
  have h3 := h3 c
  rw [K2e (by omega), J4c (by omega), hix, hl, K28 (by omega), J4c (by simp only [List.length_nil]; omega), hN, K05, K6j _ g2, K05, K7x _ g1, K05, hnil, K7x S hS, K05, w1]
  have hh0 : ((B.length : Int) + 1, t, r, setH (lastB B).2.2.2.1, setH S, sha (72 :: bodyS (lastB B).1), ()) = hdR r S B t := by
   unfold hdR; rw [if_neg c]
  rw [hh0, K6j _ hh, K05, ← K9n hr, e1, cg1 n hn _ N B R S _ _ S (by rw [w1, hd1]) (by omega) (by omega), K05]
  simp only
  rw [J4c (by simp only [List.length_nil]; omega), J4c (by simp only [List.nil_append, List.length_cons, List.length_nil]; omega), J4c (by simp only [List.length_nil]; omega), J4c (by simp only [List.nil_append, List.length_cons, List.length_nil]; omega), w1]
  have hnow : nowS S B = (lastB B).2.2.2.1 := by unfold nowS; rw [if_neg c]
  unfold blkR
  rw [hnow]
  rfl
theorem K2k {n : Nat} {r : List UInt8} (hr : r.length = 32) {S : List Val} (hS : SetSm S) (B : List Block) (t : Int) : Good (B ++ [blkR n r S B t]) := by
 right
 rw [K3q]
 exact ⟨hS, K2u hr S B t⟩
noncomputable def blG (n : Nat) (r : Nat → List UInt8) (S : Nat → List Val) (f : Nat → Int) : Nat → List Block
 | 0 => []
 | k + 1 => blG n r S f k ++ [blkR n (r k) (S k) (blG n r S f k) (f k)]
noncomputable def hG (n : Nat) (r : Nat → List UInt8) (S : Nat → List Val) (f : Nat → Int) (j : Nat) : Hdr := hdR (r j) (S j) (blG n r S f j) (f j)
def preS (S : Nat → List Val) (j : Nat) : List Val := if j = 0 then S 0 else S (j - 1)
noncomputable def genB (n : Nat) (r : Nat → List UInt8) (S : Nat → List Val) (f : Nat → Int) (j : Nat) : Block := (hG n r S f j, sgJ (hG n r S f j) (List.range n), preS S j, S j, ())
theorem K0k (n : Nat) (r : Nat → List UInt8) (S : Nat → List Val) (f : Nat → Int) : ∀ k, (blG n r S f k).length = k
 | 0 => rfl
 | k + 1 => by rw [blG, List.length_append, K0k n r S f k]; rfl
theorem nowG (n : Nat) (r : Nat → List UInt8) (S : Nat → List Val) (f : Nat → Int) : ∀ k, nowS (S k) (blG n r S f k) = preS S k
 | 0 => rfl
 | k + 1 => by
  unfold nowS preS
  rw [K0k, if_neg (by omega), if_neg (by omega), blG, K3q]
  rfl
theorem K0i (n : Nat) (r : Nat → List UInt8) (S : Nat → List Val) (f : Nat → Int) : ∀ {k j : Nat}, j < k → (blG n r S f k).getD j zBlk = genB n r S f j
 | k + 1, j, h => by
  rw [blG]
  rcases Nat.lt_or_ge j k with c | c
  ·rw [List.getD_eq_getElem?_getD, List.getElem?_append_left (by rw [K0k]; exact c), ← List.getD_eq_getElem?_getD]
   exact K0i n r S f c
  ·have : j = k := by omega
   subst this
   rw [List.getD_eq_getElem?_getD, List.getElem?_append_right (by rw [K0k]; omega), K0k]
   simp only [Nat.sub_self, List.getElem?_cons_zero, Option.getD_some]
   unfold blkR
   rw [nowG]
   rfl
theorem K0j (n : Nat) {r r' : Nat → List UInt8} {S S' : Nat → List Val} {f f' : Nat → Int} : ∀ k, (∀ j, j < k → r j = r' j ∧ S j = S' j ∧ f j = f' j) → blG n r S f k = blG n r' S' f' k
 | 0, _ => rfl
 | k + 1, h => by
  obtain ⟨a, b, c⟩ := h k (Nat.lt_succ_self k)
  rw [blG, blG, K0j n k (fun j hj => h j (by omega)), a, b, c]
theorem hG_1 (n : Nat) (r : Nat → List UInt8) (S : Nat → List Val) (f : Nat → Int) (j : Nat) : (hG n r S f j).1 = (j : Int) + 1 := by unfold hG; rw [hdR_1, K0k]
theorem hG_t (n : Nat) (r : Nat → List UInt8) (S : Nat → List Val) (f : Nat → Int) (j : Nat) : (hG n r S f j).2.1 = f j := hdR_t _ _ _ _
theorem hG_next (n : Nat) (r : Nat → List UInt8) (S : Nat → List Val) (f : Nat → Int) (j : Nat) : (hG n r S f j).2.2.2.2.1 = setH (S j) := hdR_next _ _ _ _
theorem K2q (n : Nat) {r : Nat → List UInt8} (S : Nat → List Val) (f : Nat → Int) {j : Nat} (hr : (r j).length = 32) : K00 (hG n r S f j) := K2u hr _ _ _
theorem hG_right {n : Nat} {r : Nat → List UInt8} {S : Nat → List Val} {f : Nat → Int} {j : Nat} (hj : j < 16) (h1 : 0 ≤ f j) (h2 : f j ≤ 1073741824) : K6l (hG n r S f j) = true := K2v (by rw [K0k]; exact hj) h1 h2
theorem last_blG (n : Nat) (r : Nat → List UInt8) (S : Nat → List Val) (f : Nat → Int) (k : Nat) : lastB (blG n r S f (k + 1)) = genB n r S f k := by
 unfold lastB
 rw [K0k]
 exact K0i n r S f (by omega)
theorem good_blG (n : Nat) {r : Nat → List UInt8} {S : Nat → List Val} (f : Nat → Int) : ∀ k, (∀ j, j < k → (r j).length = 32 ∧ SetSm (S j)) → Good (blG n r S f k)
 | 0, _ => .inl rfl
 | k + 1, h => K2k (h k (by omega)).1 (h k (by omega)).2 _ _
theorem commitGk {n : Nat} (hn : n ≤ 4) {r : Nat → List UInt8} {S : Nat → List Val} {f : Nat → Int} (k : Nat) (hk : k < 16) (N : List PrR) (hN : q13 N = some (r k)) (R : Rows) (hR : R.length ≤ 100) (hj : ∀ j, j ≤ k → (r j).length = 32 ∧ SetSm (S j)) (h0 : 0 ≤ f k ∧ f k ≤ 1000000000) (h1 : k ≠ 0 → f (k - 1) < f k) :
  qd (f k) N (S k) (blG n r S f k) R () (K8i n) (K75 n) (K4q n) = some ((k : Int) + 1, N, S k, blG n r S f (k + 1), R ++ [N], (), K8i n, K75 n, K4q n) := by
 have hl := K0k n r S f k
 rw [K0z n hn (f k) N (r k) hN (hj k (Nat.le_refl _)).1 (blG n r S f k) R (S k) (by omega) hR h0.1 (by omega) ?_ (good_blG n f k fun j hjk => hj j (by omega)) (hj k (Nat.le_refl _)).2, hl]
 ·rfl
 ·intro hne
  obtain ⟨q, rfl⟩ : ∃ q, k = q + 1 := ⟨k - 1, by omega⟩
  rw [last_blG]
  show (hG n r S f q).2.1 < _
  rw [hG_t]
  exact h1 (by omega)
theorem preR (P : Nat → Nat → Int) (n j : Nat) : preS (fun k => ringN (P k) n) j = ringN (if j = 0 then P 0 else P (j - 1)) n := by
 unfold preS; split <;> rfl
def RiseG (m : Nat) (f : Nat → Int) : Prop := (∀ i, i < m → 0 ≤ f i ∧ f i ≤ 1000000000) ∧ ∀ i, i + 1 < m → f i < f (i + 1)
theorem RiseG.lt {m : Nat} {f : Nat → Int} (h : RiseG m f) {i : Nat} : ∀ {j : Nat}, i < j → j < m → f i < f j
 | j + 1, hij, hj => by
  have := h.2 j hj
  rcases Nat.lt_or_ge i j with c | c
  ·have := h.lt c (by omega); omega
  ·have : i = j := by omega
   subst this; omega
noncomputable def sgB (n : Nat) (r : Nat → List UInt8) (P : Nat → Nat → Int) (f : Nat → Int) (j : Nat) (g : Nat → Bool) : Block := (hG n r (fun k => ringN (P k) n) f j, sgJ (hG n r (fun k => ringN (P k) n) f j) ((List.range n).filter g), preS (fun k => ringN (P k) n) j, ringN (P j) n, ())
theorem sgB_ok {n : Nat} (hn : n ≤ 4) {r : Nat → List UInt8} (P : Nat → Nat → Int) (f : Nat → Int) {j : Nat} (hj : j < 16) (hr : (r j).length = 32) (g : Nat → Bool) : BlkOk (sgB n r P f j g) := by
 have hl : ∀ p, (ringN p n).length = n := fun p => by simp [ringN]
 have h1 := hG_1 n r (fun k => ringN (P k) n) f j
 refine ⟨K2q n _ f hr, sgJ_ok _ (by omega) (by omega) _, ?_, ?_, K6v _ n, ?_, ?_⟩
 ·show (sgJ _ _).length ≤ 1000000
  have := K1k g n
  rw [K8r]; omega
 ·show KeyOk (preS (fun k => ringN (P k) n) j)
  rw [preR]; exact K6v _ n
 ·show (preS (fun k => ringN (P k) n) j).length ≤ 1000000
  rw [preR, hl]; omega
 ·show (ringN (P j) n).length ≤ 1000000
  rw [hl]; omega
theorem new_gen {n : Nat} (h1 : 1 ≤ n) (hn : n ≤ 4) {r : Nat → List UInt8} {P : Nat → Nat → Int} (hP : ∀ j, PwOk (P j)) {m : Nat} (hm : m ≤ 16) {f : Nat → Int} (hf : RiseG m f) {T : Int} (hT : 0 ≤ T ∧ T ≤ 1073741824) {j : Nat} (hj : j < m) :
  q3s (hG n r (fun k => ringN (P k) n) f j) (ringN (P j) n) T = some (.inr (0, ([hG n r (fun k => ringN (P k) n) f j], ringN (P j) n, T, false, ()))) := by
 have hl : (ringN (P j) n).length = n := by simp [ringN]
 have fj := hf.1 j hj
 rw [new_eq _ _ _ (K6v _ n) (by omega)]
 unfold newS
 rw [if_pos ⟨hG_right (by omega) fj.1 (by omega), K6w (hP j) h1 hn, by rw [hG_next]; exact K0e _, hT.1, hT.2⟩]
theorem genB_sg (n : Nat) (r : Nat → List UInt8) (P : Nat → Nat → Int) (f : Nat → Int) (j : Nat) : genB n r (fun k => ringN (P k) n) f j = sgB n r P f j (fun _ => true) := by
 unfold genB sgB
 rw [K1j]
def updP (p : Nat → Int) (j : Nat) (a : Int) : Nat → Int := fun k => if k = j then a else p k
theorem updP_ok {p : Nat → Int} (h : PwOk p) {j : Nat} {a : Int} (h1 : 1 ≤ a) (h2 : a ≤ 1000000) : PwOk (updP p j a) := fun i => by
 unfold updP
 split
 ·omega
 ·exact h i
theorem K70 (p : Nat → Int) {n j : Nat} (hj : j < n) (a : Int) : List.set (ringN p n) j (((ringN p n).getD j zVal).1, a, ((ringN p n).getD j zVal).2.2.1, ()) = ringN (updP p j a) n := by
 have hg : (ringN p n).getD j zVal = K4l p j := K2j _ _ hj
 rw [hg]
 apply List.ext_getElem
 ·simp [ringN]
 ·intro i h1 h2
  rw [List.getElem_set]
  simp only [ringN, List.getElem_map, List.getElem_range]
  unfold K4l updP
  by_cases e : j = i
  ·subst e; rw [if_pos rfl, if_pos rfl]
  ·rw [if_neg e, if_neg (Ne.symm e)]
theorem K18 (x0 : List Val) (x1 : Int) (x2 : Int) (x3 : List (List UInt8 × List UInt8 × Unit)) (x4 : List Val) (x5 : List Block) (x6 : Rows) (x7 : Unit) (x8 : List (List UInt8)) (x9 : List (List (List UInt8))) (x10 : List (List UInt8)) (x11 : Int × List UInt8 × List UInt8 × Int × Int × Unit) : qk_1_step x0 x1 x2 x3 x4 x5 x6 x7 x8 x9 x10 x11 =
  (fork (decide (x2 < x1)) (need (0 ≤ x2 ∧ x2 < (List.length x0 : Int)) (fork (decide ((List.getD x0 (Int.toNat x2) zVal).1 = x11.2.1)) (need (List.length ([] : List Val) + List.length x4 ≤ 2147483648) (need (0 ≤ x2 ∧ x2 < (List.length (([] : List Val) ++ x4) : Int)) (some (.inr (.inl ((0 : Int), x3, x5, x6, x7, x8, x9, x10, (List.set (([] : List Val) ++ x4) (Int.toNat x2) ((List.getD (([] : List Val) ++ x4) (Int.toNat x2) zVal).1, x11.2.2.2.1, (List.getD (([] : List Val) ++ x4) (Int.toNat x2) zVal).2.2.1, ())))))))) (some (.inl (w64 (x2 + (1 : Int))))))) (some (.inr (.inr (x3, x4, x5, x6, x7, x8, x9, x10)))) : Option ((Int) ⊕ ((Int × (List (List UInt8 × List UInt8 × Unit)) × (List Block) × (Rows) × Unit × List (List UInt8) × List (List (List UInt8)) × List (List UInt8) × List Val) ⊕ ((List (List UInt8 × List UInt8 × Unit)) × (List Val) × (List Block) × (Rows) × Unit × List (List UInt8) × List (List (List UInt8)) × List (List UInt8))))) := rfl
theorem K19 (a0 : Int × List UInt8 × List UInt8 × Int × Int × Unit) (a1 : List (List UInt8 × List UInt8 × Unit)) (a2 : List Val) (a3 : List Block) (a4 : Rows) (a5 : Unit) (a6 : List (List UInt8)) (a7 : List (List (List UInt8))) (a8 : List (List UInt8)) : qk a0 a1 a2 a3 a4 a5 a6 a7 a8 =
  (fork (decide (a0.1 = (1 : Int))) (andThen (q12 (a0.2.1, a0.2.2.1, ())) (fun u2 => fork (!u2) (some ((1 : Int), a1, a2, a3, a4, a5, a6, a7, a8)) (andThen (q1b a0.2.1) (fun u5 => fork u5 (some ((1 : Int), a1, a2, a3, a4, a5, a6, a7, a8)) (andThen (q2n a1 (a0.2.1, a0.2.2.1, ())) (fun u8 => fork (decide ((30 : Int) < (List.length u8 : Int))) (some ((7 : Int), a1, a2, a3, a4, a5, a6, a7, a8)) (some ((0 : Int), u8, a2, a3, a4, a5, a6, a7, a8)))))))) (fork (decide (a0.1 = (2 : Int))) (andThen (q1b a0.2.1) (fun u12 => fork u12 (some ((1 : Int), a1, a2, a3, a4, a5, a6, a7, a8)) (andThen (q2l a1 a0.2.1) (fun u15 => some ((0 : Int), u15, a2, a3, a4, a5, a6, a7, a8))))) (fork (decide (a0.1 = (3 : Int))) (andThen (q1l a1 (w64 ((w64 (a0.1 - (3 : Int))) + (1 : Int))) a0.2.1 a0.2.2.2.1 a0.2.2.2.2.1) (fun u18 => some (u18.2, u18.1, a2, a3, a4, a5, a6, a7, a8))) (fork (decide (a0.1 = (4 : Int))) (andThen (q1l a1 (w64 ((w64 (a0.1 - (3 : Int))) + (1 : Int))) a0.2.1 a0.2.2.2.1 a0.2.2.2.2.1) (fun u21 => some (u21.2, u21.1, a2, a3, a4, a5, a6, a7, a8))) (fork (decide (a0.1 = (5 : Int))) (andThen (q1l a1 (w64 ((w64 (a0.1 - (3 : Int))) + (1 : Int))) a0.2.1 a0.2.2.2.1 a0.2.2.2.2.1) (fun u24 => some (u24.2, u24.1, a2, a3, a4, a5, a6, a7, a8))) (fork (decide (a0.1 = (6 : Int))) (fork (decide (a0.2.2.2.1 < (1 : Int))) (some ((1 : Int), a1, a2, a3, a4, a5, a6, a7, a8)) (fork (decide ((1048576 : Int) < a0.2.2.2.1)) (some ((1 : Int), a1, a2, a3, a4, a5, a6, a7, a8)) (andThen (qk_1 a2 (List.length a2 : Int) (0 : Int) a1 a2 a3 a4 a5 a6 a7 a8 a0) (fun o35 => (match o35 with | .inl o37 => some (o37.1, o37.2.1, o37.2.2.2.2.2.2.2.2, o37.2.2.1, o37.2.2.2.1, o37.2.2.2.2.1, o37.2.2.2.2.2.1, o37.2.2.2.2.2.2.1, o37.2.2.2.2.2.2.2.1) | .inr o38 => some ((3 : Int), o38.1, o38.2.1, o38.2.2.1, o38.2.2.2.1, o38.2.2.2.2.1, o38.2.2.2.2.2.1, o38.2.2.2.2.2.2.1, o38.2.2.2.2.2.2.2)))))) (some ((1 : Int), a1, a2, a3, a4, a5, a6, a7, a8))))))) : Option (Int × (List (List UInt8 × List UInt8 × Unit)) × (List Val) × (List Block) × (Rows) × Unit × List (List UInt8) × List (List (List UInt8)) × List (List UInt8))) := rfl
theorem nm_one : ∀ i, i < 4 → ∀ j, j < 4 → nm i = nm j → i = j := by decide
theorem do6_eq (p : Nat → Int) {n : Nat} (hn : n ≤ 4) {j : Nat} (hj : j < 4) (t : Int × List UInt8 × List UInt8 × Int × Int × Unit) (h1 : t.1 = 6) (h2 : t.2.1 = nm j) (N : List PrR) (B : List Block) (R : Rows) (se : List (List UInt8)) (ri : List (List (List UInt8))) (na : List (List UInt8)) :
  qk t N (ringN p n) B R () se ri na = some (if t.2.2.2.1 < 1 ∨ 1048576 < t.2.2.2.1 then (1, N, ringN p n, B, R, (), se, ri, na) else if j < n then (0, N, ringN (updP p j t.2.2.2.1) n, B, R, (), se, ri, na) else (3, N, ringN p n, B, R, (), se, ri, na)) := by
 have hl : (ringN p n).length = n := by simp [ringN]
 rw [K19, h1, K28 (by decide), K28 (by decide), K28 (by decide), K28 (by decide), K28 (by decide), K2e rfl]
 by_cases a1 : t.2.2.2.1 < 1
 ·rw [K2e a1, if_pos (.inl a1)]
 rw [K28 a1]
 by_cases a2 : 1048576 < t.2.2.2.1
 ·rw [K2e a2, if_pos (.inr a2)]
 rw [K28 a2, if_neg (by omega)]
 have m : qk_1 (ringN p n) ((ringN p n).length : Int) 0 N (ringN p n) B R () se ri na t = some (scan (fun i => if i = j then some (.inl (0, N, B, R, (), se, ri, na, ringN (updP p j t.2.2.2.1) n)) else none) (.inr (N, ringN p n, B, R, (), se, ri, na)) 0 n) := by
  rw [hl]
  unfold qk_1
  have hg : ∀ i, i < n → ((ringN p n).getD i zVal).1 = nm i := fun i hi => by rw [show (ringN p n).getD i zVal = K4l p i from K2j _ _ hi]; rfl
  refine K48 (step := fun (s : Int) => qk_1_step (ringN p n) (n : Int) s N (ringN p n) B R () se ri na t) (fun i => (i : Int)) _ _ n (fun i hi h => ?_) (fun i x hi h => ?_) ?_ n 0 (by omega)
  ·rw [K18, K2e (by omega), J4c (by omega), Int.toNat_natCast, hg i hi, h2, J6z (by omega) (by omega)]
   by_cases e : i = j
   ·rw [if_pos e] at h; cases h
   ·rw [K28 (fun q => e (nm_one i (by omega) j hj q))]; rfl
  ·rw [K18, K2e (by omega), J4c (by omega), Int.toNat_natCast, hg i hi, h2]
   by_cases e : i = j
   ·rw [if_pos e] at h; injection h with h; subst h; subst e
    rw [K2e rfl, J4c (by rw [List.length_nil]; omega), J4c (by rw [List.nil_append]; omega), List.nil_append, K70 p hi]
   ·rw [if_neg e] at h; cases h
  ·rw [K18, K28 (by omega)]
 rw [m, K05]
 by_cases c : j < n
 ·rw [K8c (bad := fun i => if i = j then some (Sum.inl (0, N, B, R, (), se, ri, na, ringN (updP p j t.2.2.2.1) n)) else none) n 0 j (Nat.zero_le _) (by omega) (fun j' _ h => if_neg (by omega)) (if_pos rfl), if_pos c]
 ·rw [K8b (bad := fun i => if i = j then some (Sum.inl (0, N, B, R, (), se, ri, na, ringN (updP p j t.2.2.2.1) n)) else none) n 0 (fun j' _ h => if_neg (by omega)), if_neg c]
def Tot {α : Type} (x : Option α) (Q : α → Prop) : Prop := ∃ r, x = some r ∧ Q r
theorem K9q {α : Type} {a : α} {Q : α → Prop} (h : Q a) : Tot (some a) Q := ⟨a, rfl, h⟩
theorem K9o {α : Type} {c : Bool} {a b : Option α} {Q : α → Prop} (h1 : c = true → Tot a Q) (h2 : c = false → Tot b Q) : Tot (fork c a b) Q := by
 cases c
 ·exact h2 rfl
 ·exact h1 rfl
theorem K9p {α : Type} {p : Prop} [Decidable p] {x : Option α} {Q : α → Prop} (hp : p) (h : Tot x Q) : Tot (need p x) Q := by
 rw [J4c hp]; exact h
theorem K9r {α β : Type} {x : Option α} {k : α → Option β} {P : α → Prop} {Q : β → Prop} (h : Tot x P) (h2 : ∀ r, P r → Tot (k r) Q) : Tot (andThen x k) Q := by
 obtain ⟨r, e, hr⟩ := h
 rw [e, K05]; exact h2 r hr
theorem K9i (k : List UInt8) : Tot (q1b k) fun _ => True := by
 unfold q1b
 refine K9o (fun h => ?_) fun _ => K9q trivial
 rw [decide_eq_true_eq] at h
 exact K9p (by omega) (K9q trivial)
theorem K4z (x0 : List UInt8) (x1 : Int) (x2 : Int) : q1a_1_step x0 x1 x2 =
  (fork (decide (x2 < (List.length x0 : Int))) (fork (decide (x2 < (6 : Int))) (need (0 ≤ x2 ∧ x2 < (List.length x0 : Int)) (need (0 ≤ (((UInt64.ofNat (Int.toNat ((w64 ((7 : Int) * x2)) % 18446744073709551616))).toNat : Nat) : Int)) (fork (decide ((List.getD x0 (Int.toNat x2) 0) < (128 : UInt8))) (fork (decide ((0 : Int) < x2)) (fork (decide ((List.getD x0 (Int.toNat x2) 0) = (0 : UInt8))) (some (.inr (.inl ((0 : Int), (0 : Int))))) (fork (decide ((1099511627775 : Int) < (bor x1 (ishl ((UInt8.toNat ((List.getD x0 (Int.toNat x2) 0) &&& (127 : UInt8)) : Nat) : Int) (Int.toNat (((UInt64.ofNat (Int.toNat ((w64 ((7 : Int) * x2)) % 18446744073709551616))).toNat : Nat) : Int)))))) (some (.inr (.inl ((0 : Int), (0 : Int))))) (some (.inr (.inl ((bor x1 (ishl ((UInt8.toNat ((List.getD x0 (Int.toNat x2) 0) &&& (127 : UInt8)) : Nat) : Int) (Int.toNat (((UInt64.ofNat (Int.toNat ((w64 ((7 : Int) * x2)) % 18446744073709551616))).toNat : Nat) : Int)))), (w64 (x2 + (1 : Int))))))))) (fork (decide ((1099511627775 : Int) < (bor x1 (ishl ((UInt8.toNat ((List.getD x0 (Int.toNat x2) 0) &&& (127 : UInt8)) : Nat) : Int) (Int.toNat (((UInt64.ofNat (Int.toNat ((w64 ((7 : Int) * x2)) % 18446744073709551616))).toNat : Nat) : Int)))))) (some (.inr (.inl ((0 : Int), (0 : Int))))) (some (.inr (.inl ((bor x1 (ishl ((UInt8.toNat ((List.getD x0 (Int.toNat x2) 0) &&& (127 : UInt8)) : Nat) : Int) (Int.toNat (((UInt64.ofNat (Int.toNat ((w64 ((7 : Int) * x2)) % 18446744073709551616))).toNat : Nat) : Int)))), (w64 (x2 + (1 : Int))))))))) (some (.inl ((bor x1 (ishl ((UInt8.toNat ((List.getD x0 (Int.toNat x2) 0) &&& (127 : UInt8)) : Nat) : Int) (Int.toNat (((UInt64.ofNat (Int.toNat ((w64 ((7 : Int) * x2)) % 18446744073709551616))).toNat : Nat) : Int)))), (w64 (x2 + (1 : Int))))))))) (some (.inr (.inr ())))) (some (.inr (.inr ()))) : Option ((Int × Int) ⊕ ((Int × Int) ⊕ (Unit)))) := rfl
def numQ (a : List UInt8) (r : (Int × Int) ⊕ Unit) : Prop := match r with
 | .inl r => 0 ≤ r.2 ∧ r.2 ≤ (a.length : Int)
 | .inr _ => True
theorem K50 (a : List UInt8) : Tot (q1a a) fun r => 0 ≤ r.2 ∧ r.2 ≤ (a.length : Int) := by
 have m : ∃ r, q1a_1 a 0 0 = some r ∧ numQ a r := by
  unfold q1a_1
  refine K46 (step := fun (s : Int × Int) => q1a_1_step a s.1 s.2) (fun k s => ∃ i : Nat, s.2 = (i : Int) ∧ i + k = min a.length 6) (numQ a) (fun k s hs => ?_) (min a.length 6) ((0 : Int), (0 : Int)) ⟨0, rfl, by omega⟩
  obtain ⟨i, e, hk⟩ := hs
  obtain ⟨v, x⟩ := s
  dsimp only at e
  subst e
  by_cases c : i < a.length ∧ i < 6
  ·have hw : w64 ((i : Int) + 1) = ((i + 1 : Nat) : Int) := by rw [J6z (by omega) (by omega)]; omega
   have hs : q1a_1_step a v (i : Int) = _ := K4z a v (i : Int)
   rw [K2e (by omega), K2e (by omega), J4c (by omega), J4c (by omega), hw] at hs
   simp only [K2b] at hs
   have out : ∀ r, numQ a r → q1a_1_step a v (i : Int) = some (.inr r) → (∃ r, q1a_1_step a v (i : Int) = some (.inr r) ∧ numQ a r) ∨ ∃ j s', k = j + 1 ∧ q1a_1_step a v (i : Int) = some (.inl s') ∧ ∃ i : Nat, s'.2 = (i : Int) ∧ i + j = min a.length 6 := fun r h1 h2 => .inl ⟨r, h2, h1⟩
   have z : numQ a (.inl ((0 : Int), (0 : Int))) := ⟨Int.le_refl _, by show (0 : Int) ≤ _; omega⟩
   have nx : ∀ v', numQ a (.inl (v', ((i + 1 : Nat) : Int))) := fun v' => ⟨by show (0 : Int) ≤ ((i + 1 : Nat) : Int); omega, by show ((i + 1 : Nat) : Int) ≤ _; omega⟩
   split at hs
   ·split at hs
    ·split at hs
     ·exact out _ z hs
     ·split at hs
      ·exact out _ z hs
      ·exact out _ (nx _) hs
    ·split at hs
     ·exact out _ z hs
     ·exact out _ (nx _) hs
   ·exact .inr ⟨k - 1, _, by omega, hs, i + 1, rfl, by omega⟩
  ·left
   refine ⟨.inr (), ?_, trivial⟩
   show q1a_1_step a v (i : Int) = _
   rw [K4z]
   by_cases c1 : i < a.length
   ·rw [K2e (by omega), K28 (by omega)]
   ·rw [K28 (by omega)]
 obtain ⟨r, e, hr⟩ := m
 unfold q1a
 rw [e, K05]
 match r, hr with
 | .inl r, hr => exact K9q hr
 | .inr _, _ => exact K9q ⟨Int.le_refl _, by show (0 : Int) ≤ _; omega⟩
theorem K6e (a : List UInt8) (ha : a.length ≤ 1000000) : Tot (qw a) fun _ => True := by
 unfold qw
 refine K9r (K50 a) fun r hr => K9o (fun _ => K9q trivial) fun _ => K9p ⟨hr.1, hr.2, Int.le_refl _⟩ (K9r (K50 _) fun s _ => ?_)
 repeat' first
  | exact K9q trivial
  | (refine K9o ?_ ?_ <;> intro _)
theorem K6f (a b : Int) : Tot (q1c a b) fun l => l.length ≤ 14 := by
 have h1 := K52 a
 have h2 := K52 b
 unfold q1c
 rw [K7q, K05, K7q, K05]
 exact K9p (by omega) (K9q (by rw [List.length_append]; omega))
theorem bk_step (x0 : Int) (x1 : List Pr) (x2 : Int) (x3 : Int) : q18_1_step x0 x1 x2 x3 =
  (fork (decide (x3 < x2)) (need (0 ≤ x3 ∧ x3 < (List.length x1 : Int)) (andThen (q1b ((List.getD x1 (Int.toNat x3) zPr).1)) (fun u4 => fork (!u4) (some (.inl (x0, (w64 (x3 + (1 : Int)))))) (andThen (qw ((List.getD x1 (Int.toNat x3) zPr).2.1)) (fun u7 => fork (!u7.2.2) (some (.inr (.inl ((0 : Int), false)))) (some (.inl ((w64 ((w64 (x0 + u7.1)) + u7.2.1)), (w64 (x3 + (1 : Int))))))))))) (some (.inr (.inr x0))) : Option ((Int × Int) ⊕ ((Int × Bool) ⊕ (Int)))) := rfl
theorem K06 (l : List Pr) (h : l.length ≤ 1000 ∧ ∀ p ∈ l, p.2.1.length ≤ 1000000) : Tot (q18 l) fun _ => True := by
 have hl := h.1
 have m : ∃ r, q18_1 0 l (l.length : Int) 0 = some r ∧ True := by
  unfold q18_1
  refine K46 (step := fun (s : Int × Int) => q18_1_step s.1 l (l.length : Int) s.2) (fun k s => ∃ i : Nat, s.2 = (i : Int) ∧ i + k = l.length) (fun _ => True) (fun k s hs => ?_) l.length ((0 : Int), (0 : Int)) ⟨0, rfl, by omega⟩
  obtain ⟨i, e, hk⟩ := hs
  obtain ⟨v, x⟩ := s
  dsimp only at e
  subst e
  have hs : q18_1_step v l (l.length : Int) (i : Int) = _ := bk_step v l (l.length : Int) (i : Int)
  by_cases c : i < l.length
  ·have hw : w64 ((i : Int) + 1) = ((i + 1 : Nat) : Int) := by rw [J6z (by omega) (by omega)]; omega
   obtain ⟨b, eb, _⟩ := K9i (l.getD i zPr).1
   obtain ⟨rr, er, _⟩ := K6e (l.getD i zPr).2.1 (h.2 _ (K2i c))
   rw [K2e (by omega), J4c (by omega), Int.toNat_natCast, eb, K05, er, K05, hw] at hs
   simp only [K2b] at hs
   split at hs
   ·exact .inr ⟨k - 1, _, by omega, hs, i + 1, rfl, by omega⟩
   ·split at hs
    ·exact .inl ⟨_, hs, trivial⟩
    ·exact .inr ⟨k - 1, _, by omega, hs, i + 1, rfl, by omega⟩
  ·rw [K28 (by omega)] at hs
   exact .inl ⟨_, hs, trivial⟩
 obtain ⟨r, e, _⟩ := m
 unfold q18
 rw [e, K05]
 match r with
 | .inl r => exact K9q trivial
 | .inr r =>
  exact K9o (fun _ => K9q trivial) fun _ => K9q trivial
theorem K7n (p : Pr) : q12 p = some (mayP p) := by
 have hne : decide ((1 : Int) ≤ (p.1.length : Int)) = !decide (p.1 = []) := by
  rw [Bool.eq_iff_iff, Bool.not_eq_true', decide_eq_true_eq, decide_eq_false_iff_not, ← List.length_eq_zero_iff]; omega
 unfold q12 mayP
 rw [hne]
 cases decide (p.1 = []) <;> cases decide ((p.1.length : Int) ≤ 16) <;> rfl
theorem mayP1_b {p : Pr} (h : mayP p = true) : p.1.length ≤ 16 ∧ p.2.1.length ≤ 24 := by
 unfold mayP at h
 simp only [Bool.and_eq_true, decide_eq_true_eq] at h
 omega
def SetP (l : List Pr) : Prop := l.length ≤ 31 ∧ (∀ p ∈ l, p.2.1.length ≤ 24) ∧ (l.length ≤ 30 → RowB l)
theorem K8q {l : List Pr} (h : RowB l) (p : Pr) (h1 : p.1.length ≤ 16) (h2 : p.2.1.length ≤ 24) : Tot (q2n l p) SetP := by
 have hl := h.2.1
 have hb : ∀ q ∈ putP l p, q.1.length ≤ 16 ∧ q.2.1.length ≤ 24 := fun q hq => by
  rcases putP_mem hq with rfl | hq
  ·exact ⟨h1, h2⟩
  ·exact h.2.2 q hq
 refine ⟨putP l p, rset1_eq l (by omega) p, by rw [putP_len]; split <;> omega, fun q hq => (hb q hq).2, fun hlen => ⟨K5z h.1 p, hlen, hb⟩⟩
theorem K8p {l : List Pr} (h : SetP l) (h2 : decide ((30 : Int) < (l.length : Int)) = false) : RowB l := h.2.2 (by rw [decide_eq_false_iff_not] at h2; omega)
theorem set_b {l : List Pr} (h : SetP l) : l.length ≤ 1000 ∧ ∀ p ∈ l, p.2.1.length ≤ 1000000 := ⟨by have := h.1; omega, fun p hp => by have := h.2.1 p hp; omega⟩
theorem K1p {l : List Pr} (h : RowB l) (k : List UInt8) : Tot (q1w l k) fun r => r = (K09 l k : Int) := ⟨_, K6g l (by have := h.2.1; omega) k, rfl⟩
theorem row_val {l : List Pr} (h : RowB l) (i : Nat) : (l.getD i zPr).2.1.length ≤ 1000000 := by
 by_cases c : i < l.length
 ·have := h.2.2 _ (K2i (z := zPr) c); omega
 ·rw [List.getD_eq_getElem?_getD, List.getElem?_eq_none (by omega)]; simp [zPr]
theorem K9h (a0 : List Pr) (h0 : RowB a0) (a1 : Int) (a2 : List UInt8) (ha : a2.length ≤ 1000) (a3 a4 : Int) : Tot (q1l a0 a1 a2 a3 a4) fun r => RowB r.1 := by
 unfold q1l
 refine K9p (by simp only [List.length_cons, List.length_nil]; omega) (K9o (fun _ => K9q h0) fun g1 => K9o (fun _ => K9q h0) fun g2 => ?_)
 have hk : (([115, 47] : List UInt8) ++ a2).length ≤ 16 := by rw [decide_eq_false_iff_not] at g2; omega
 generalize ([115, 47] : List UInt8) ++ a2 = key at hk
 clear g1 g2
 repeat' first
  | exact K9q h0
  | exact K9q (K8p (by assumption) (by assumption))
  | (refine K9o ?_ ?_ <;> intro _)
  | (refine K9r (K1p h0 _) fun u hu => ?_)
  | (refine K9r (K6e _ (row_val h0 _)) fun u hu => ?_)
  | (refine K9r (K6f _ _) fun u hu => ?_)
  | (refine K9r (K8q h0 _ hk (Nat.le_trans (by assumption) (by omega))) fun u hu => ?_)
  | (refine K9r (K06 _ (set_b (by assumption))) fun u hu => ?_)
  | (refine K9p (by simp only [decide_eq_false_iff_not, decide_eq_true_eq] at *; omega) ?_)
theorem do_tot (p : Nat → Int) (hp : PwOk p) {n : Nat} (hn : n ≤ 4) (t : Int × List UInt8 × List UInt8 × Int × Int × Unit) (hk : t.2.1.length ≤ 1000) (h6 : t.1 = 6 → ∃ j, j < 4 ∧ t.2.1 = nm j ∧ t.2.2.2.1 ≤ 1000000) (N : List Pr) (hN : RowB N) (B : List Block) (R : List (List Pr)) (se : List (List UInt8)) (ri : List (List (List UInt8))) (na : List (List UInt8)) :
  ∃ e N' p', qk t N (ringN p n) B R () se ri na = some (e, N', ringN p' n, B, R, (), se, ri, na) ∧ RowB N' ∧ PwOk p' ∧ (t.1 ≠ 6 → p' = p) := by
 by_cases c : t.1 = 6
 ·obtain ⟨j, hj, e2, ha⟩ := h6 c
  rw [do6_eq p hn hj t c e2 N B R se ri na]
  by_cases q : t.2.2.2.1 < 1 ∨ 1048576 < t.2.2.2.1
  ·rw [if_pos q]; exact ⟨_, N, p, rfl, hN, hp, fun _ => rfl⟩
  ·rw [if_neg q]
   by_cases q2 : j < n
   ·rw [if_pos q2]; exact ⟨_, N, _, rfl, hN, updP_ok hp (by omega) ha, fun h => absurd c h⟩
   ·rw [if_neg q2]; exact ⟨_, N, p, rfl, hN, hp, fun _ => rfl⟩
 ·have m : Tot (qk t N (ringN p n) B R () se ri na) fun o => ∃ e N', o = (e, N', ringN p n, B, R, (), se, ri, na) ∧ RowB N' := by
   rw [K19, K28 (p := t.1 = (6 : Int)) c]
   have st := fun a => K9h N hN a t.2.1 hk t.2.2.2.1 t.2.2.2.2.1
   refine K9o (fun _ => ?_) fun _ => K9o (fun _ => ?_) fun _ => K9o (fun _ => K9r (st _) fun u hu => K9q ⟨_, _, rfl, hu⟩) fun _ => K9o (fun _ => K9r (st _) fun u hu => K9q ⟨_, _, rfl, hu⟩) fun _ => K9o (fun _ => K9r (st _) fun u hu => K9q ⟨_, _, rfl, hu⟩) fun _ => K9q ⟨_, _, rfl, hN⟩
   ·rw [K7n, K05]
    refine K9o (fun _ => K9q ⟨_, _, rfl, hN⟩) fun hm => K9r (K9i _) fun u _ => K9o (fun _ => K9q ⟨_, _, rfl, hN⟩) fun _ => ?_
    have hb := mayP1_b (p := (t.2.1, t.2.2.1, ())) (by simpa using hm)
    refine K9r (K8q hN (t.2.1, t.2.2.1, ()) hb.1 hb.2) fun l hl => K9o (fun _ => K9q ⟨_, _, rfl, hN⟩) fun h30 => K9q ⟨_, _, rfl, K8p hl h30⟩
   ·refine K9r (K9i _) fun u _ => K9o (fun _ => K9q ⟨_, _, rfl, hN⟩) fun _ => K9r ⟨_, rdel1_eq N hN.1 (by have := hN.2.1; omega) t.2.1, rfl⟩ fun l (hl : cutP N t.2.1 = l) => K9q ⟨_, _, rfl, by rw [← hl]; exact cutP_row hN _⟩
  obtain ⟨_, e, x, N', rfl, hN'⟩ := m
  exact ⟨x, N', p, e, hN', hp, fun _ => rfl⟩
abbrev AskT := Int × Int × Int × Int × List Int × Unit
def zAsk : AskT := (0, 0, 0, 0, [], ())
abbrev TxI := Int × Int × Int × Int × Int × Unit
def zTx : TxI := (0, 0, 0, 0, 0, ())
theorem K4t : q1y = some [[118, 97], [118, 98], [118, 99], [118, 100]] := rfl
abbrev TxV := Int × List UInt8 × List UInt8 × Int × Int × Unit
theorem tx_eq (k : TxI) : ∃ t : TxV, q22 k = some t ∧ t.2.1.length ≤ 1000 ∧ (t.1 = 6 → ∃ j, j < 4 ∧ t.2.1 = nm j ∧ t.2.2.2.1 ≤ 1000000) := by
 obtain ⟨a, ea, a1, a2⟩ := Kab k.1 1 6 (by omega) (by omega) (by omega)
 obtain ⟨b, eb, _, _⟩ := Kab k.2.2.2.1 0 60 (by omega) (by omega) (by omega)
 obtain ⟨c, ec, _, _⟩ := Kab k.2.2.2.2.1 1 60 (by omega) (by omega) (by omega)
 obtain ⟨i, hi, ei⟩ := kkey_eq k.2.1
 obtain ⟨x, ex, _⟩ := ktext_eq k.2.2.1
 have hkl := keys_b _ (K2i (z := []) (show i < K3f.length from hi))
 unfold q22
 rw [ea, K05, eb, K05, ec, K05]
 by_cases c1 : a = 1
 ·rw [K2e c1, ei, K05, ex, K05]
  exact ⟨_, rfl, by show (K3f.getD i []).length ≤ 1000; omega, fun h => by have : a = 6 := h; omega⟩
 rw [K28 c1]
 by_cases c2 : a = 2
 ·rw [K2e c2, ei, K05]
  exact ⟨_, rfl, by show (K3f.getD i []).length ≤ 1000; omega, fun h => by have : a = 6 := h; omega⟩
 rw [K28 c2]
 by_cases c6 : a = 6
 ·obtain ⟨j, ej, j1, j2⟩ := Kab k.2.1 0 3 (by omega) (by omega) (by omega)
  obtain ⟨d, ed, d1, d2⟩ := Kab k.2.2.2.1 0 9 (by omega) (by omega) (by omega)
  have hnm : ([[118, 97], [118, 98], [118, 99], [118, 100]] : List (List UInt8)).getD j.toNat [] = nm j.toNat := rfl
  have hlen : ∀ i, i < 4 → (nm i).length ≤ 1000 := by decide
  rw [K2e c6, K4t, K05, ej, K05, J4c (by simp only [List.length_cons, List.length_nil]; omega), ed, K05, hnm]
  exact ⟨_, rfl, hlen _ (by omega), fun _ => ⟨j.toNat, by omega, rfl, by show d ≤ 1000000; omega⟩⟩
 ·obtain ⟨j, ej, j1, j2⟩ := Kab k.2.1 0 2 (by omega) (by omega) (by omega)
  have hlen : ∀ i, i < 3 → (([([97] : List UInt8), ([98] : List UInt8), ([99] : List UInt8)] : List (List UInt8)).getD i []).length ≤ 1000 := by decide
  rw [K28 c6, ej, K05, J4c (by simp only [List.length_cons, List.length_nil]; omega)]
  exact ⟨_, rfl, hlen _ (by omega), fun h => absurd h c6⟩
theorem K7d (l : List Pr) : (rootL l).length = 32 := K8t _
theorem pick_eq (l : List Int) (i : Nat) (hl : l.length ≤ 140737488355328) : ∃ r, q2b l (i : Int) = some r ∧ 0 ≤ r ∧ r ≤ 1073741824 := by
 unfold q2b
 by_cases c : l.length = 0
 ·rw [K2e (by omega)]; exact ⟨0, rfl, by omega, by omega⟩
 ·have h1 := Int.tmod_lt_of_pos (i : Int) (b := (l.length : Int)) (by omega)
  have h0 : 0 ≤ Int.tmod (i : Int) (l.length : Int) := Int.tmod_nonneg _ (by omega)
  obtain ⟨r, er, r1, r2⟩ := Kab (l.getD (Int.toNat (Int.tmod (i : Int) (l.length : Int))) 0) 0 1073741824 (by omega) (by omega) (by omega)
  rw [K28 (by omega), J4c (by omega), J4c ⟨h0, h1⟩, er, K05]
  exact ⟨r, rfl, r1, r2⟩
theorem K49 {σ ρ τ : Type} {step : σ → Option (σ ⊕ ρ)} (st : Nat → τ → σ) (I : Nat → τ → Prop) (n : Nat) (g : τ → ρ) (h1 : ∀ i t, i < n → I i t → ∃ t', step (st i t) = some (.inl (st (i + 1) t')) ∧ I (i + 1) t')
  (h2 : ∀ t, I n t → step (st n t) = some (.inr (g t))) : ∀ (k i : Nat) (t : τ), i + k = n → I i t → ∃ t', loop step (st i t) = some (g t') ∧ I n t'
 | 0, i, t, e, h => by
  have : i = n := by omega
  subst this
  exact ⟨t, J3y (h2 t h), h⟩
 | k + 1, i, t, e, h => by
  obtain ⟨t', e1, e2⟩ := h1 i t (by omega) h
  obtain ⟨t2, e3, e4⟩ := K49 st I n g h1 h2 k (i + 1) t' (by omega) e2
  exact ⟨t2, by rw [J3x e1]; exact e3, e4⟩
theorem cut6_len (l : List Hdr) (h : l.length ≤ 7) : (cut6 l).length ≤ 6 := by
 unfold cut6; split
 ·rw [List.length_drop]; omega
 ·omega
theorem K26 {h : Hdr} (h1 : 1 ≤ h.1) (h2 : h.1 ≤ 16) (x : List UInt8) (who : List Int) {s : List K01} (hs : SgOk s) : SgOk (K23 h x who s) := by
 intro y hy
 unfold K23 at hy
 obtain ⟨i, _, rfl⟩ := List.mem_map.1 hy
 split
 ·exact sig_ok (seedK i) h.1 h1 h2 x
 ·exact sg_at hs i
theorem K25 (h : Hdr) (x : List UInt8) (who : List Int) (s : List K01) : (K23 h x who s).length = s.length := by simp [K23]
theorem same_hdr (a : List Hdr) (ha : a.length ≤ 1073741824) : qv a a = some true := by
 have main : qv_1 a a 0 = some (.inr ()) := by
  unfold qv_1
  have := K47 (step := fun (s : Int) => qv_1_step a a s) (fun i (_ : Unit) => (i : Int)) (fun _ _ => ()) (fun _ => .inr ()) a.length (fun _ _ => True) (fun i w hi _ => ⟨?_, trivial⟩) (fun w _ => ?_) a.length 0 () (by omega) trivial
  ·exact this
  ·unfold qv_1_step
   rw [K2e (by omega), J4c (by omega), J4c (by omega)]
   show fork (!eqHd _ _) _ _ = _
   rw [K1f, Bool.not_true, K29, J6z (by omega) (by omega)]
   rfl
  ·unfold qv_1_step
   rw [K28 (by omega)]
 unfold qv
 rw [K2d rfl, main]
 rfl
theorem K80 (x0 : Int) (x1 : List Hdr) (x2 : Int) (x3 : Int) (x4 : (List Hdr) × (List Val) × Int × Bool × Unit) (x5 : List UInt8) : qy_1_step x0 x1 x2 x3 x4 x5 =
  (fork (decide (x3 < x2)) (need (0 ≤ x3 ∧ x3 < (List.length x1 : Int)) (fork (decide ((List.getD x1 (Int.toNat x3) zHdr).1 = x0)) (some (.inr (.inl (true, x4, (List.getD x1 (Int.toNat x3) zHdr).2.2.1)))) (some (.inl (w64 (x3 + (1 : Int))))))) (some (.inr (.inr (x4, x5)))) : Option ((Int) ⊕ ((Bool × ((List Hdr) × (List Val) × Int × Bool × Unit) × List UInt8) ⊕ (((List Hdr) × (List Val) × Int × Bool × Unit) × List UInt8)))) := rfl
theorem K4a (x0 : List Int) (x1 : List (Int × Int × Int × Int × Int × Unit)) (x2 : Int) (x3 : List (AskT)) (x4 : Int) (x5 : Int) (x6 : List PrR) (x7 : List Val) (x8 : List Block) (x9 : Rows) (x10 : Unit) (x11 : List (List UInt8)) (x12 : List (List (List UInt8))) (x13 : List (List UInt8)) : qt_1_step x0 x1 x2 x3 x4 x5 x6 x7 x8 x9 x10 x11 x12 x13 =
  (fork (decide (x5 < (6 : Int))) (fork (decide (x5 < (List.length x1 : Int))) (need (0 ≤ x5 ∧ x5 < (List.length x1 : Int)) (andThen (q22 (List.getD x1 (Int.toNat x5) zTx)) (fun u7 => andThen (qk u7 x6 x7 x8 x9 x10 x11 x12 x13) (fun u9 => andThen (q2b x0 x5) (fun u11 => andThen (qd (w64 ((w64 (x4 + (1 : Int))) + (Int.tmod u11 (20 : Int)))) u9.2.1 u9.2.2.1 u9.2.2.2.1 u9.2.2.2.2.1 u9.2.2.2.2.2.1 u9.2.2.2.2.2.2.1 u9.2.2.2.2.2.2.2.1 u9.2.2.2.2.2.2.2.2) (fun u13 => some (.inl ((w64 ((w64 (x4 + (1 : Int))) + (Int.tmod u11 (20 : Int)))), (w64 (x5 + (1 : Int))), u13.2.1, u13.2.2.1, u13.2.2.2.1, u13.2.2.2.2.1, u13.2.2.2.2.2.1, u13.2.2.2.2.2.2.1, u13.2.2.2.2.2.2.2.1, u13.2.2.2.2.2.2.2.2)))))))) (andThen (q2b x0 x5) (fun u15 => andThen (qd (w64 ((w64 (x4 + (1 : Int))) + (Int.tmod u15 (20 : Int)))) x6 x7 x8 x9 x10 x11 x12 x13) (fun u17 => some (.inl ((w64 ((w64 (x4 + (1 : Int))) + (Int.tmod u15 (20 : Int)))), (w64 (x5 + (1 : Int))), u17.2.1, u17.2.2.1, u17.2.2.2.1, u17.2.2.2.2.1, u17.2.2.2.2.2.1, u17.2.2.2.2.2.2.1, u17.2.2.2.2.2.2.2.1, u17.2.2.2.2.2.2.2.2)))))) (some (.inr (x2, x3, x4, x6, x7, x8, x9, x10, x11, x12, x13))) : Option ((Int × Int × (List PrR) × (List Val) × (List Block) × (Rows) × Unit × List (List UInt8) × List (List (List UInt8)) × List (List UInt8)) ⊕ (Int × (List (AskT)) × Int × (List PrR) × (List Val) × (List Block) × (Rows) × Unit × List (List UInt8) × List (List (List UInt8)) × List (List UInt8)))) := rfl
theorem lp2_text (x0 : List (AskT)) (x1 : Int) (x2 : Int) (x3 : Int) (x4 : Bool) (x5 : List PrR) (x6 : List Val) (x7 : List Block) (x8 : Rows) (x9 : Unit) (x10 : List (List UInt8)) (x11 : List (List (List UInt8))) (x12 : List (List UInt8)) (x13 : Cli) (x14 : Cli) (x15 : AskT) (x16 : Block) : qt_2 x0 x1 x2 x3 x4 x5 x6 x7 x8 x9 x10 x11 x12 x13 x14 x15 x16 =
  (fork x4 (andThen (q1m x16 x15.2.2.2.2.1 x15.2.2.1) (fun u42 => andThen (qf x16 u42 x13) (fun u44 => andThen (qa x16 u42 x14) (fun u46 => some (x0, x1, x2, u44.1, u46.1, x5, x6, x7, x8, x9, x10, x11, x12, u44.2, u46.2))))) (andThen (qq x16 x3 x13) (fun u48 => andThen (qb x16 x3 x14) (fun u50 => some (x0, x1, x2, u48.1, u50.1, x5, x6, x7, x8, x9, x10, x11, x12, u48.2, u50.2)))) : Option ((List (AskT)) × Int × Int × Int × Int × (List PrR) × (List Val) × (List Block) × (Rows) × Unit × List (List UInt8) × List (List (List UInt8)) × List (List UInt8) × Cli × Cli)) := rfl
theorem K4b (x0 : List (AskT)) (x1 : Int) (x2 : Int) (x3 : Int) (x4 : List PrR) (x5 : List Val) (x6 : List Block) (x7 : Rows) (x8 : Unit) (x9 : List (List UInt8)) (x10 : List (List (List UInt8))) (x11 : List (List UInt8)) (x12 : Cli) (x13 : Cli) (x14 : List Hdr) : qt_3_step x0 x1 x2 x3 x4 x5 x6 x7 x8 x9 x10 x11 x12 x13 x14 =
  (fork (decide (x3 < (List.length x14 : Int))) (need (0 ≤ (w64 (x3 - (1 : Int))) ∧ (w64 (x3 - (1 : Int))) < (List.length x14 : Int)) (need (0 ≤ x3 ∧ x3 < (List.length x14 : Int)) (fork (decide ((List.getD x14 (Int.toNat x3) zHdr).1 ≤ (List.getD x14 (Int.toNat (w64 (x3 - (1 : Int)))) zHdr).1)) (some (.inr (.inl false))) (fork (decide ((List.getD x14 (Int.toNat x3) zHdr).2.1 ≤ (List.getD x14 (Int.toNat (w64 (x3 - (1 : Int)))) zHdr).2.1)) (some (.inr (.inl false))) (some (.inl (w64 (x3 + (1 : Int))))))))) (some (.inr (.inr (x0, x1, x2, x4, x5, x6, x7, x8, x9, x10, x11, x12, x13)))) : Option ((Int) ⊕ ((Bool) ⊕ ((List (AskT)) × Int × Int × (List PrR) × (List Val) × (List Block) × (Rows) × Unit × List (List UInt8) × List (List (List UInt8)) × List (List UInt8) × Cli × Cli)))) := rfl
theorem K4c (x0 : List (AskT)) (x1 : Int) (x2 : Int) (x3 : Int) (x4 : Bool) (x5 : Bool) (x6 : List Hdr) (x7 : Int) (x8 : Int) (x9 : List PrR) (x10 : List Val) (x11 : List Block) (x12 : Rows) (x13 : Unit) (x14 : List (List UInt8)) (x15 : List (List (List UInt8))) (x16 : List (List UInt8)) (x17 : Cli) (x18 : Cli) (x19 : List UInt8) (x20 : List UInt8) : qt_4_step x0 x1 x2 x3 x4 x5 x6 x7 x8 x9 x10 x11 x12 x13 x14 x15 x16 x17 x18 x19 x20 =
  (fork (decide (x8 < x7)) (need (0 ≤ x8 ∧ x8 < (List.length x6 : Int)) (fork (decide ((List.getD x6 (Int.toNat x8) zHdr).1 = x3)) (some (.inl (true, (w64 (x8 + (1 : Int))), (List.getD x6 (Int.toNat x8) zHdr).2.2.1))) (some (.inl (x5, (w64 (x8 + (1 : Int))), x20))))) (some (.inr (x0, x1, x2, x3, x4, x5, x9, x10, x11, x12, x13, x14, x15, x16, x17, x18, x19, x20))) : Option ((Bool × Int × List UInt8) ⊕ ((List (AskT)) × Int × Int × Int × Bool × Bool × (List PrR) × (List Val) × (List Block) × (Rows) × Unit × List (List UInt8) × List (List (List UInt8)) × List (List UInt8) × Cli × Cli × List UInt8 × List UInt8))) := rfl
theorem K4d (x0 : List (AskT)) (x1 : Int) (x2 : Int) (x3 : Int) (x4 : List PrR) (x5 : List Val) (x6 : List Block) (x7 : Rows) (x8 : Unit) (x9 : List (List UInt8)) (x10 : List (List (List UInt8))) (x11 : List (List UInt8)) (x12 : Cli) (x13 : Cli) : qt_5_step x0 x1 x2 x3 x4 x5 x6 x7 x8 x9 x10 x11 x12 x13 =
  (fork (decide (x3 ≤ (8 : Int))) (andThen (qy x3 x12) (fun u80 => andThen (qt_4 x0 x1 x2 x3 u80.2.1 false x13.1 (List.length x13.1 : Int) (0 : Int) x4 x5 x6 x7 x8 x9 x10 x11 u80.2.2 x13 u80.1 zT) (fun o86 => fork (!(o86.2.2.2.2.1 == o86.2.2.2.2.2.1)) (some (.inr (.inl false))) (fork (!(Ty.beq (.arr 32 (.int .u8)) o86.2.2.2.2.2.2.2.2.2.2.2.2.2.2.2.2.1 o86.2.2.2.2.2.2.2.2.2.2.2.2.2.2.2.2.2)) (some (.inr (.inl false))) (some (.inl (o86.1, o86.2.1, o86.2.2.1, (w64 (o86.2.2.2.1 + (1 : Int))), o86.2.2.2.2.2.2.1, o86.2.2.2.2.2.2.2.1, o86.2.2.2.2.2.2.2.2.1, o86.2.2.2.2.2.2.2.2.2.1, o86.2.2.2.2.2.2.2.2.2.2.1, o86.2.2.2.2.2.2.2.2.2.2.2.1, o86.2.2.2.2.2.2.2.2.2.2.2.2.1, o86.2.2.2.2.2.2.2.2.2.2.2.2.2.1, o86.2.2.2.2.2.2.2.2.2.2.2.2.2.2.1, o86.2.2.2.2.2.2.2.2.2.2.2.2.2.2.2.1))))))) (some (.inr (.inr (x0, x1, x2, x4, x5, x6, x7, x8, x9, x10, x11, x12, x13)))) : Option (((List (AskT)) × Int × Int × Int × (List PrR) × (List Val) × (List Block) × (Rows) × Unit × List (List UInt8) × List (List (List UInt8)) × List (List UInt8) × Cli × Cli) ⊕ ((Bool) ⊕ ((List (AskT)) × Int × Int × (List PrR) × (List Val) × (List Block) × (Rows) × Unit × List (List UInt8) × List (List (List UInt8)) × List (List UInt8) × Cli × Cli)))) := rfl
theorem K4e (x0 : List (AskT)) (x1 : Int) (x2 : Int) (x3 : List PrR) (x4 : List Val) (x5 : List Block) (x6 : Rows) (x7 : Unit) (x8 : List (List UInt8)) (x9 : List (List (List UInt8))) (x10 : List (List UInt8)) (x11 : Cli) (x12 : Cli) : qt_6_step x0 x1 x2 x3 x4 x5 x6 x7 x8 x9 x10 x11 x12 =
  (fork (decide (x2 < (List.length x0 : Int))) (fork (decide (x2 < (8 : Int))) (need (0 ≤ x2 ∧ x2 < (List.length x0 : Int)) (andThen (q1s ((List.getD x0 (Int.toNat x2) zAsk).2.1) (0 : Int) (5 : Int)) (fun u33 => need (0 ≤ u33 ∧ u33 < (List.length x5 : Int)) (andThen (q1f (List.getD x5 (Int.toNat u33) zBlk) ((List.getD x0 (Int.toNat x2) zAsk).2.2.1) ((List.getD x0 (Int.toNat x2) zAsk).2.2.2.2.1)) (fun u36 => andThen (q1s ((List.getD x0 (Int.toNat x2) zAsk).2.2.2.1) (0 : Int) (w64 (x1 + (90 : Int)))) (fun u38 => andThen (qt_2 x0 x1 x2 u38 (decide ((Int.tmod (List.getD x0 (Int.toNat x2) zAsk).1 (6 : Int)) = (5 : Int))) x3 x4 x5 x6 x7 x8 x9 x10 x11 x12 (List.getD x0 (Int.toNat x2) zAsk) u36) (fun o52 => andThen (qu o52.2.2.2.2.2.2.2.2.2.2.2.2.2.1) (fun u54 => fork (!decide (o52.2.2.2.1 = o52.2.2.2.2.1)) (some (.inr (.inl false))) (andThen (qv u54 o52.2.2.2.2.2.2.2.2.2.2.2.2.2.2.1) (fun u57 => fork (!u57) (some (.inr (.inl false))) (andThen (qp o52.2.2.2.2.2.2.2.2.2.2.2.2.2.1) (fun u60 => fork (!(u60 == o52.2.2.2.2.2.2.2.2.2.2.2.2.2.2.2.2.2.1)) (some (.inr (.inl false))) (fork (decide ((List.length u54 : Int) < (1 : Int))) (some (.inr (.inl false))) (andThen (qo o52.2.2.2.2.2.2.2.2.2.2.2.2.2.1) (fun u64 => need (0 ≤ (w64 ((List.length o52.2.2.2.2.2.2.2.2.2.2.2.2.2.2.1 : Int) - (1 : Int))) ∧ (w64 ((List.length o52.2.2.2.2.2.2.2.2.2.2.2.2.2.2.1 : Int) - (1 : Int))) < (List.length o52.2.2.2.2.2.2.2.2.2.2.2.2.2.2.1 : Int)) (fork (!(Ty.beq (.fld (.int .i64) (.fld (.int .i64) (.fld (.arr 32 (.int .u8)) (.fld (.arr 32 (.int .u8)) (.fld (.arr 32 (.int .u8)) (.fld (.arr 32 (.int .u8)) .unit)))))) u64 (List.getD o52.2.2.2.2.2.2.2.2.2.2.2.2.2.2.1 (Int.toNat (w64 ((List.length o52.2.2.2.2.2.2.2.2.2.2.2.2.2.2.1 : Int) - (1 : Int)))) zHdr))) (some (.inr (.inl false))) (andThen (qt_3 o52.1 o52.2.1 o52.2.2.1 (1 : Int) o52.2.2.2.2.2.1 o52.2.2.2.2.2.2.1 o52.2.2.2.2.2.2.2.1 o52.2.2.2.2.2.2.2.2.1 o52.2.2.2.2.2.2.2.2.2.1 o52.2.2.2.2.2.2.2.2.2.2.1 o52.2.2.2.2.2.2.2.2.2.2.2.1 o52.2.2.2.2.2.2.2.2.2.2.2.2.1 o52.2.2.2.2.2.2.2.2.2.2.2.2.2.1 o52.2.2.2.2.2.2.2.2.2.2.2.2.2.2 u54) (fun o74 => (match o74 with | .inl o76 => some (.inr (.inl o76)) | .inr o77 => andThen (qt_5 o77.1 o77.2.1 o77.2.2.1 (0 : Int) o77.2.2.2.1 o77.2.2.2.2.1 o77.2.2.2.2.2.1 o77.2.2.2.2.2.2.1 o77.2.2.2.2.2.2.2.1 o77.2.2.2.2.2.2.2.2.1 o77.2.2.2.2.2.2.2.2.2.1 o77.2.2.2.2.2.2.2.2.2.2.1 o77.2.2.2.2.2.2.2.2.2.2.2.1 o77.2.2.2.2.2.2.2.2.2.2.2.2) (fun o90 => (match o90 with | .inl o92 => some (.inr (.inl o92)) | .inr o93 => some (.inl (o93.1, o93.2.1, (w64 (o93.2.2.1 + (1 : Int))), o93.2.2.2.1, o93.2.2.2.2.1, o93.2.2.2.2.2.1, o93.2.2.2.2.2.2.1, o93.2.2.2.2.2.2.2.1, o93.2.2.2.2.2.2.2.2.1, o93.2.2.2.2.2.2.2.2.2.1, o93.2.2.2.2.2.2.2.2.2.2.1, o93.2.2.2.2.2.2.2.2.2.2.2.1, o93.2.2.2.2.2.2.2.2.2.2.2.2))))))))))))))))))))))) (some (.inr (.inr ())))) (some (.inr (.inr ()))) : Option (((List (AskT)) × Int × Int × (List PrR) × (List Val) × (List Block) × (Rows) × Unit × List (List UInt8) × List (List (List UInt8)) × List (List UInt8) × Cli × Cli) ⊕ ((Bool) ⊕ (Unit)))) := rfl
theorem lp_text (a0 : List Int) (a1 : List Int) (a2 : List (Int × Int × Int × Int × Int × Unit)) (a3 : Int) (a4 : List (AskT)) : qt a0 a1 a2 a3 a4 =
  (andThen (q1v a0) (fun u1 => andThen (qt_1 a1 a2 a3 a4 (0 : Int) (0 : Int) ([] : List PrR) u1.2.2.2.2 ([] : List Block) ([] : Rows) u1.1 u1.2.1 u1.2.2.1 u1.2.2.2.1) (fun o19 => andThen (q1s o19.1 (0 : Int) (80 : Int)) (fun u21 => need (0 ≤ (0 : Int) ∧ (0 : Int) < (List.length o19.2.2.2.2.2.1 : Int)) (andThen (q3s ((List.getD o19.2.2.2.2.2.1 (Int.toNat (0 : Int)) zBlk).1) ((List.getD o19.2.2.2.2.2.1 (Int.toNat (0 : Int)) zBlk).2.2.2.1) u21) (fun u24 => (match u24 with | .inl u26 => none | .inr u27 => fork (!decide (u27.1 = (0 : Int))) (none) (andThen (qt_6 o19.2.1 o19.2.2.1 (0 : Int) o19.2.2.2.1 o19.2.2.2.2.1 o19.2.2.2.2.2.1 o19.2.2.2.2.2.2.1 o19.2.2.2.2.2.2.2.1 o19.2.2.2.2.2.2.2.2.1 o19.2.2.2.2.2.2.2.2.2.1 o19.2.2.2.2.2.2.2.2.2.2 u27.2 (([(List.getD o19.2.2.2.2.2.1 (Int.toNat (0 : Int)) zBlk).1] : List Hdr), (List.getD o19.2.2.2.2.2.1 (Int.toNat (0 : Int)) zBlk).2.2.2.1, u21, false, ())) (fun o94 => (match o94 with | .inl o96 => some o96 | .inr o97 => andThen (qz) (fun u98 => some u98)))))))))) : Option (Bool)) := rfl
def updF {α : Type} (f : Nat → α) (i : Nat) (x : α) : Nat → α := fun j => if j = i then x else f j
theorem K9y {α : Type} (f : Nat → α) (i : Nat) (x : α) : updF f i x i = x := if_pos rfl
theorem K9z {α : Type} (f : Nat → α) {i j : Nat} (x : α) (h : j ≠ i) : updF f i x j = f j := if_neg h
theorem plays_1 (ts : List Int) (hts : ts.length ≤ 140737488355328) (txs : List TxI) (ht : txs.length ≤ 140737488355328) {p : Nat → Int} (hp : PwOk p) {n : Nat} (hn : n ≤ 4) (per : Int) (asks : List AskT) :
  ∃ o, qt_1 ts txs per asks 0 0 [] (ringN p n) [] [] () (K8i n) (K75 n) (K4q n) = some o ∧ ∃ (now : Int) (N : List PrR) (r : Nat → List UInt8) (Q : Nat → Nat → Int) (f : Nat → Int) (q : Nat → Int) (R : Rows), o = (per, asks, now, N, ringN q n, blG n r (fun k => ringN (Q k) n) f 6, R, (), K8i n, K75 n, K4q n) ∧ (0 ≤ now ∧ now ≤ 200) ∧ (∀ j, j < 6 → (r j).length = 32) ∧ (∀ j, PwOk (Q j)) ∧ RiseG 6 f := by
 unfold qt_1
 refine K46 (step := fun (s : Int × Int × (List PrR) × (List Val) × (List Block) × (Rows) × Unit × List (List UInt8) × List (List (List UInt8)) × List (List UInt8)) => qt_1_step ts txs per asks s.1 s.2.1 s.2.2.1 s.2.2.2.1 s.2.2.2.2.1 s.2.2.2.2.2.1 s.2.2.2.2.2.2.1 s.2.2.2.2.2.2.2.1 s.2.2.2.2.2.2.2.2.1 s.2.2.2.2.2.2.2.2.2)
  (fun k s => ∃ (i : Nat) (now : Int) (N : List PrR) (r : Nat → List UInt8) (Q : Nat → Nat → Int) (f : Nat → Int) (q : Nat → Int) (R : Rows), s = (now, (i : Int), N, ringN q n, blG n r (fun k => ringN (Q k) n) f i, R, (), K8i n, K75 n, K4q n) ∧ i + k = 6 ∧ RowB N ∧ R.length ≤ i ∧ PwOk q ∧ (∀ j, PwOk (Q j)) ∧ (∀ j, j < i → (r j).length = 32) ∧ RiseG i f ∧ (0 ≤ now ∧ now ≤ 20 * (i : Int)) ∧ (0 < i → f (i - 1) = now))
  (fun o => ∃ (now : Int) (N : List PrR) (r : Nat → List UInt8) (Q : Nat → Nat → Int) (f : Nat → Int) (q : Nat → Int) (R : Rows), o = (per, asks, now, N, ringN q n, blG n r (fun k => ringN (Q k) n) f 6, R, (), K8i n, K75 n, K4q n) ∧ (0 ≤ now ∧ now ≤ 200) ∧ (∀ j, j < 6 → (r j).length = 32) ∧ (∀ j, PwOk (Q j)) ∧ RiseG 6 f) (fun k s hs => ?_) 6 (0, 0, [], ringN p n, [], [], (), K8i n, K75 n, K4q n)
  ⟨0, 0, [], fun _ => [], fun _ => p, fun _ => 0, p, [], rfl, by omega, rowB_nil, by simp, hp, fun _ => hp, fun j hj => by omega, ⟨fun i hi => by omega, fun i hi => by omega⟩, by omega, fun h => by omega⟩
 obtain ⟨i, now, N, r, Q, f, q, R, rfl, hk, hN, hR, hq, hQ, hr, hf, hnow, hlast⟩ := hs
 by_cases c : i < 6
 ·right
  obtain ⟨x, ex, x1, x2⟩ := pick_eq ts i hts
  have y1 := Int.tmod_lt_of_pos x (b := 20) (by omega)
  have y0 : 0 ≤ Int.tmod x 20 := Int.tmod_nonneg _ (by omega)
  have hw1 : w64 (now + 1) = now + 1 := J6z (by omega) (by omega)
  have hw2 : w64 (now + 1 + Int.tmod x 20) = now + 1 + Int.tmod x 20 := J6z (by omega) (by omega)
  have hw : w64 ((i : Int) + 1) = ((i + 1 : Nat) : Int) := by rw [J6z (by omega) (by omega)]; omega
  obtain ⟨y, hy⟩ : ∃ y, Int.tmod x 20 = y := ⟨_, rfl⟩
  rw [hy] at y0 y1 hw2
  have com : ∀ N' q', RowB N' → PwOk q' → qd (now + 1 + y) N' (ringN q' n) (blG n r (fun k => ringN (Q k) n) f i) R () (K8i n) (K75 n) (K4q n) = some ((i : Int) + 1, N', ringN q' n, blG n (updF r i (rootL N')) (fun k => ringN (updF Q i q' k) n) (updF f i (now + 1 + y)) (i + 1), R ++ [N'], (), K8i n, K75 n, K4q n) := fun N' q' hN' hq' => by
   have hc := commitGk (n := n) hn (r := updF r i (rootL N')) (S := fun k => ringN (updF Q i q' k) n) (f := updF f i (now + 1 + y)) i (by omega) N' (by rw [K9y]; exact K7z N' (rowB_kv hN')) R (by omega) (fun j hj => ⟨by
    by_cases e : j = i
    ·rw [e, K9y]; exact K7d _
    ·rw [K9z _ _ e]; exact hr j (by omega), K6x _ n hn⟩) (by rw [K9y]; omega) (fun h => by
     rw [K9y, K9z _ _ (by omega), hlast (by omega)]; omega)
   rw [K0j (r' := r) (S' := fun k => ringN (Q k) n) (f' := f) n i (fun j hj => ⟨K9z _ _ (by omega), by show ringN (updF Q i q' j) n = _; rw [K9z _ _ (by omega)], K9z _ _ (by omega)⟩), K9y] at hc
   have hS : ringN (updF Q i q' i) n = ringN q' n := by rw [K9y]
   rw [hS] at hc
   exact hc
  have nxt : ∀ N' q', RowB N' → PwOk q' → qt_1_step ts txs per asks now (i : Int) N (ringN q n) (blG n r (fun k => ringN (Q k) n) f i) R () (K8i n) (K75 n) (K4q n) = some (.inl (now + 1 + y, ((i + 1 : Nat) : Int), N', ringN q' n, blG n (updF r i (rootL N')) (fun k => ringN (updF Q i q' k) n) (updF f i (now + 1 + y)) (i + 1), R ++ [N'], (), K8i n, K75 n, K4q n)) →
    ∃ j s', k = j + 1 ∧ qt_1_step ts txs per asks now (i : Int) N (ringN q n) (blG n r (fun k => ringN (Q k) n) f i) R () (K8i n) (K75 n) (K4q n) = some (.inl s') ∧ ∃ (i : Nat) (now : Int) (N : List PrR) (r : Nat → List UInt8) (Q : Nat → Nat → Int) (f : Nat → Int) (q : Nat → Int) (R : Rows), s' = (now, (i : Int), N, ringN q n, blG n r (fun k => ringN (Q k) n) f i, R, (), K8i n, K75 n, K4q n) ∧ i + j = 6 ∧ RowB N ∧ R.length ≤ i ∧ PwOk q ∧ (∀ j, PwOk (Q j)) ∧ (∀ j, j < i → (r j).length = 32) ∧ RiseG i f ∧ (0 ≤ now ∧ now ≤ 20 * (i : Int)) ∧ (0 < i → f (i - 1) = now) := fun N' q' hN' hq' h => by
   refine ⟨k - 1, _, by omega, h, i + 1, now + 1 + y, N', updF r i (rootL N'), updF Q i q', updF f i (now + 1 + y), q', R ++ [N'], rfl, by omega, hN', by rw [List.length_append, List.length_singleton]; omega, hq', fun j => ?_, fun j hj => ?_, ⟨fun j hj => ?_, fun j hj => ?_⟩, by omega, fun _ => by rw [Nat.add_sub_cancel, K9y]⟩
   ·by_cases e : j = i
    ·rw [e, K9y]; exact hq'
    ·rw [K9z _ _ e]; exact hQ j
   ·by_cases e : j = i
    ·rw [e, K9y]; exact K7d _
    ·rw [K9z _ _ e]; exact hr j (by omega)
   ·by_cases e : j = i
    ·rw [e, K9y]; omega
    ·rw [K9z _ _ e]; exact hf.1 j (by omega)
   ·rw [K9z _ _ (show j ≠ i by omega)]
    by_cases e : j + 1 = i
    ·have := hlast (by omega)
     rw [show i - 1 = j by omega] at this
     rw [e, K9y]; omega
    ·rw [K9z _ _ e]; exact hf.2 j (by omega)
  by_cases c2 : i < txs.length
  ·obtain ⟨t, et, t1, t2⟩ := tx_eq (txs.getD i zTx)
   obtain ⟨e, N', q', ed, hN', hq', _⟩ := do_tot q hq hn t t1 t2 N hN (blG n r (fun k => ringN (Q k) n) f i) R (K8i n) (K75 n) (K4q n)
   refine nxt N' q' hN' hq' ?_
   rw [K4a, K2e (by omega), K2e (by omega), J4c (by omega), Int.toNat_natCast, et, K05, ed, K05, ex, K05]
   dsimp only
   rw [hw1, hy, hw2, com N' q' hN' hq', K05, hw]
  ·refine nxt N q hN hq ?_
   rw [K4a, K2e (by omega), K28 (by omega), ex, K05, hw1, hy, hw2, com N q hN hq, K05, hw]
 ·left
  have : i = 6 := by omega
  subst this
  refine ⟨_, ?_, now, N, r, Q, f, q, R, rfl, by omega, hr, hQ, hf⟩
  show qt_1_step ts txs per asks now ((6 : Nat) : Int) N _ _ _ _ _ _ _ = _
  rw [K4a, K28 (by omega)]
theorem K1w {b : Block} (hb : BlkOk b) (h1 : 1 ≤ b.1.1) (h2 : b.1.1 ≤ 16) (who : List Int) (r : Nat) : BlkOk (K1v b who r) := by
 obtain ⟨b1, b2, b3, b4, b5, b6, b7⟩ := hb
 exact ⟨K9t b1 r, K26 (h := turnH b.1 r) h1 h2 _ who b2, by show (K23 _ _ _ _).length ≤ _; rw [K25]; exact b3, b4, b5, b6, b7⟩
theorem K71 (ps : List Int) : KeyOk (ringS ps) ∧ (ringS ps).length ≤ 1000000 ∧ (∀ v ∈ ringS ps, v.1.length ≤ 140737488355328) ∧ SetSm (ringS ps) := by
 have h := K6x (pw ps) (setN ps) (K8l ps).2
 have hl := K72 ps
 have hn := (K8l ps).2
 exact ⟨K6v _ _, by omega, fun v hv => by have := (h.2 v hv).1; omega, h⟩
theorem K9u (b : Block) (hb : BlkOk b) (hm : NmOk b) (h1 : 1 ≤ b.1.1) (h2 : b.1.1 ≤ 15) (how : Int) (who : List Int) (hw : who.length ≤ 1152921504606846976) : ∃ t, q1f b how who = some t ∧ BlkOk t ∧ NmOk t ∧ 1 ≤ t.1.1 ∧ t.1.1 ≤ 16 := by
 have hb0 := hb
 obtain ⟨b1, b2, b3, b4, b5, b6, b7⟩ := hb
 obtain ⟨w, ew, w1, w2⟩ := Kab how 0 13 (by omega) (by omega) (by omega)
 unfold q1f
 rw [ew, K05]
 by_cases c0 : w = 0
 ·rw [K2e c0]; exact ⟨_, rfl, ⟨b1, b2, b3, b4, b5, b6, b7⟩, hm, h1, by show b.1.1 ≤ 16; omega⟩
 rw [K28 c0]
 by_cases c1 : w = 1
 ·obtain ⟨k1, k2, k3, _⟩ := K71 [9, 9]
  rw [K2e c1, K74 _ (by simp), K05]; exact ⟨_, rfl, ⟨b1, b2, b3, k1, b5, k2, b7⟩, ⟨k3, hm.2⟩, h1, by show b.1.1 ≤ 16; omega⟩
 rw [K28 c1]
 by_cases c2 : w = 2
 ·obtain ⟨k1, k2, k3, _⟩ := K71 [2, 2, 7]
  rw [K2e c2, K74 _ (by simp), K05]; exact ⟨_, rfl, ⟨b1, b2, b3, b4, k1, b6, k2⟩, ⟨hm.1, k3⟩, h1, by show b.1.1 ≤ 16; omega⟩
 rw [K28 c2]
 by_cases c3 : w = 3
 ·obtain ⟨v, ev, v1, v2⟩ := Kab (w64 (Int.tdiv how 14)) 0 (b.2.1.length : Int) (by omega) (by omega) (by omega)
  rw [K2e c3, ev, K05, J4c (by omega), K17]
  exact ⟨_, rfl, ⟨b1, fun x hx => b2 x (List.mem_of_mem_take hx), by show (b.2.1.take v.toNat).length ≤ _; rw [List.length_take]; omega, b4, b5, b6, b7⟩, hm, h1, by show b.1.1 ≤ 16; omega⟩
 rw [K28 c3]
 by_cases c4 : w = 4
 ·obtain ⟨r, hr, er⟩ := K27 b who hw (w64 (Int.tdiv how 14)) b1 h1 (by omega) b3
  rw [K2e c4, er, K05]
  exact ⟨_, rfl, K1w hb0 h1 (by omega) who r, hm, h1, by show b.1.1 ≤ 16; omega⟩
 rw [K28 c4]
 by_cases c5 : w = 5
 ·rw [K2e c5]; exact ⟨_, rfl, ⟨b1, b2, b3, (fun v hv => nomatch hv), b5, by simp, b7⟩, ⟨(fun v hv => nomatch hv), hm.2⟩, h1, by show b.1.1 ≤ 16; omega⟩
 rw [K28 c5]
 by_cases c6 : w = 6
 ·rw [K2e c6]
  have hw6 : w64 (b.1.1 + 1) = b.1.1 + 1 := J6z (by omega) (by omega)
  exact ⟨_, rfl, ⟨b1, b2, b3, b4, b5, b6, b7⟩, hm, by show 1 ≤ w64 (b.1.1 + 1); omega, by show w64 (b.1.1 + 1) ≤ 16; omega⟩
 rw [K28 c6]
 by_cases c7 : w = 7
 ·obtain ⟨k1, k2, k3, k4⟩ := K71 [2, 2, 7]
  rw [K2e c7, K74 _ (by simp), K05, K7x _ k4, K05]
  have hb7 : BlkOk ((b.1.1, b.1.2.1, b.1.2.2.1, b.1.2.2.2.1, setH (ringS [2, 2, 7]), b.1.2.2.2.2.2.1, ()), b.2.1, b.2.2.1, ringS [2, 2, 7], ()) := ⟨⟨b1.1, b1.2.1, K8t _, b1.2.2.2⟩, b2, b3, b4, k1, b6, k2⟩
  obtain ⟨r, hr, er⟩ := K27 ((b.1.1, b.1.2.1, b.1.2.2.1, b.1.2.2.2.1, setH (ringS [2, 2, 7]), b.1.2.2.2.2.2.1, ()), b.2.1, b.2.2.1, ringS [2, 2, 7], ()) who hw (w64 (Int.tdiv how 14)) hb7.1 h1 (by show b.1.1 ≤ 16; omega) b3
  rw [er, K05]
  exact ⟨_, rfl, K1w hb7 h1 (by show b.1.1 ≤ 16; omega) who r, ⟨hm.1, k3⟩, h1, by show b.1.1 ≤ 16; omega⟩
 ·rw [K28 c7]; exact ⟨_, rfl, hb0, hm, h1, by omega⟩
def UpL (l : List Hdr) : Prop := ∀ i, i + 1 < l.length → (l.getD i zHdr).1 < (l.getD (i + 1) zHdr).1 ∧ (l.getD i zHdr).2.1 < (l.getD (i + 1) zHdr).2.1
def PlI (c : Cli) : Prop := CliR c ∧ c.1.length ≤ 6 ∧ UpL c.1
theorem upl_snoc {l : List Hdr} (h : UpL l) (x : Hdr) (h1 : l.length ≠ 0 → (l.getD (l.length - 1) zHdr).1 < x.1 ∧ (l.getD (l.length - 1) zHdr).2.1 < x.2.1) : UpL (l ++ [x]) := by
 intro i hi
 rw [List.length_append, List.length_singleton] at hi
 have e1 : (l ++ [x]).getD i zHdr = l.getD i zHdr := by
  rw [List.getD_eq_getElem?_getD, List.getD_eq_getElem?_getD, List.getElem?_append_left (by omega)]
 rw [e1]
 by_cases c : i + 1 < l.length
 ·have e2 : (l ++ [x]).getD (i + 1) zHdr = l.getD (i + 1) zHdr := by
   rw [List.getD_eq_getElem?_getD, List.getD_eq_getElem?_getD, List.getElem?_append_left c]
  rw [e2]; exact h i c
 ·have e2 : (l ++ [x]).getD (i + 1) zHdr = x := by
   rw [List.getD_eq_getElem?_getD, List.getElem?_append_right (by omega), show i + 1 - l.length = 0 by omega]; rfl
  rw [e2]
  have := h1 (by omega)
  rw [show l.length - 1 = i by omega] at this
  exact this
theorem upl_cut {l : List Hdr} (h : UpL l) : UpL (cut6 l) := by
 unfold cut6
 split
 ·intro i hi
  rw [List.length_drop] at hi
  have e : ∀ j, (l.drop 1).getD j zHdr = l.getD (j + 1) zHdr := fun j => by
   rw [List.getD_eq_getElem?_getD, List.getD_eq_getElem?_getD, List.getElem?_drop, Nat.add_comm]
  rw [e, e]
  exact h (i + 1) (by omega)
 ·exact h
theorem upl_ne {l : List Hdr} (h : UpL l) : ∀ {i j : Nat}, i < j → j < l.length → (l.getD i zHdr).1 < (l.getD j zHdr).1
 | i, 0, h1, _ => by omega
 | i, j + 1, h1, h2 => by
  have a := (h j h2).1
  by_cases e : i = j
  ·rw [e]; exact a
  ·have := upl_ne h (i := i) (j := j) (by omega) (by omega)
   omega
theorem upd_more (b : Block) (now : Int) (c : Cli) : (updS b now c).2 = c ∨ ((updS b now c).2 = (cut6 (c.1 ++ [b.1]), b.2.2.2.1, c.2.2.1, c.2.2.2.1, ()) ∧ Ka7 b = true ∧ (lastH c).1 < b.1.1 ∧ (lastH c).2.1 < b.1.2.1) := by
 unfold updS
 split
 ·exact .inl rfl
 split
 ·exact .inl rfl
 rename_i hw
 split
 ·exact .inl rfl
 rename_i g1
 split
 ·exact .inl rfl
 rename_i g2
 split
 ·exact .inl rfl
 split
 ·exact .inl rfl
 split
 ·exact .inl rfl
 split
 ·exact .inl rfl
 split
 ·exact .inl rfl
 ·exact .inr ⟨rfl, by simpa using hw, by omega, by omega⟩
theorem pli_upd {b : Block} (hb : BlkOk b) {c : Cli} (hc : PlI c) (now : Int) : PlI (updS b now c).2 := by
 rcases upd_more b now c with e | ⟨e, hw, g1, g2⟩
 ·rw [e]; exact hc
 ·rw [e]
  obtain ⟨p1, p2, p3, p4⟩ := Kaa hw
  have hr := (K6m b.1).1 p1
  obtain ⟨⟨⟨c1, c2, c3, _, _⟩, c6⟩, c7, c8⟩ := hc
  have hcl := cut6_len (c.1 ++ [b.1]) (by rw [List.length_append]; simp only [List.length_cons, List.length_nil]; omega)
  have hc1 : 1 ≤ (cut6 (c.1 ++ [b.1])).length := by
   unfold cut6; split
   ·rw [List.length_drop]; omega
   ·rw [List.length_append]; simp only [List.length_cons, List.length_nil]; omega
  have hlast := K3r c.1 b.1 (b.2.2.2.1, c.2.2.1, c.2.2.2.1, ()) c1
  refine ⟨⟨⟨hc1, by show (cut6 (c.1 ++ [b.1])).length ≤ 1000000; omega, (K6t p3).1, ?_, ?_⟩, p3⟩, hcl, upl_cut (upl_snoc c8 b.1 fun _ => ⟨g1, g2⟩)⟩
  ·rw [hlast]; omega
  ·rw [hlast]; omega
theorem pli_mis {a b : Block} {c : Cli} (hc : PlI c) : PlI (misS a b c).2 := by
 unfold misS
 repeat' split
 all_goals exact hc
def hitH (l : List Hdr) (h : Int) : Nat → Bool × List UInt8
 | 0 => (false, zT)
 | i + 1 => if (l.getD i zHdr).1 = h then (true, (l.getD i zHdr).2.2.1) else hitH l h i
theorem K30 (l : List Hdr) (h : Int) : ∀ k, (hitH l h k = (false, zT) ∧ ∀ j, j < k → (l.getD j zHdr).1 ≠ h) ∨ ∃ j, j < k ∧ (l.getD j zHdr).1 = h ∧ hitH l h k = (true, (l.getD j zHdr).2.2.1)
 | 0 => .inl ⟨rfl, fun j hj => by omega⟩
 | k + 1 => by
  rw [hitH]
  by_cases c : (l.getD k zHdr).1 = h
  ·rw [if_pos c]; exact .inr ⟨k, by omega, c, rfl⟩
  ·rw [if_neg c]
   rcases K30 l h k with ⟨e, g⟩ | ⟨j, g1, g2, g3⟩
   ·refine .inl ⟨e, fun j hj => ?_⟩
    by_cases q : j = k
    ·rw [q]; exact c
    ·exact g j (by omega)
   ·exact .inr ⟨j, by omega, g2, g3⟩
theorem root_is (c : Cli) (hl : c.1.length ≤ 1000) (hu : UpL c.1) (h : Int) : qy h c = some ((hitH c.1 h c.1.length).2, (hitH c.1 h c.1.length).1, c) := by
 have main : qy_1 h c.1 (c.1.length : Int) 0 c zT = some (scan (fun i => if (c.1.getD i zHdr).1 = h then some (.inl (true, c, (c.1.getD i zHdr).2.2.1)) else none) (.inr (c, zT)) 0 c.1.length) := by
  unfold qy_1
  refine K48 (step := fun (s : Int) => qy_1_step h c.1 (c.1.length : Int) s c zT) (fun i => (i : Int)) _ _ c.1.length (fun i hi hb => ?_) (fun i r hi hb => ?_) ?_ c.1.length 0 (by omega)
  ·rw [K80, K2e (by omega), J4c (by omega), Int.toNat_natCast]
   by_cases e : (c.1.getD i zHdr).1 = h
   ·rw [if_pos e] at hb; cases hb
   ·rw [K28 e, J6z (by omega) (by omega)]; rfl
  ·rw [K80, K2e (by omega), J4c (by omega), Int.toNat_natCast]
   by_cases e : (c.1.getD i zHdr).1 = h
   ·rw [if_pos e] at hb; injection hb with hb; subst hb; rw [K2e e]
   ·rw [if_neg e] at hb; cases hb
  ·rw [K80, K28 (by omega)]
 unfold qy
 rw [main, K05]
 rcases K30 c.1 h c.1.length with ⟨e, g⟩ | ⟨j, g1, g2, g3⟩
 ·rw [K8b _ _ (fun j _ hj => if_neg (g j (by omega))), e]
 ·have hsc : scan (fun i => if (c.1.getD i zHdr).1 = h then some (.inl (true, c, (c.1.getD i zHdr).2.2.1)) else none) (.inr (c, zT)) 0 c.1.length = (.inl (true, c, (c.1.getD j zHdr).2.2.1) : (Bool × Cli × List UInt8) ⊕ (Cli × List UInt8)) :=
   K8c c.1.length 0 j (Nat.zero_le _) (by omega) (fun j' _ hj => if_neg fun e => by
    have := upl_ne hu hj g1; rw [e, g2] at this; exact absurd this (Int.lt_irrefl _)) (if_pos g2)
  rw [hsc, g3]
theorem plays_3 (x0 : List AskT) (x1 x2 : Int) (x4 : List PrR) (x5 : List Val) (x6 : List Block) (x7 : Rows) (x8 : Unit) (x9 : List (List UInt8)) (x10 : List (List (List UInt8))) (x11 : List (List UInt8)) (x12 x13 : Cli) (l : List Hdr) (hl : l.length ≤ 1000) (h1 : 1 ≤ l.length) (hu : UpL l) :
  qt_3 x0 x1 x2 1 x4 x5 x6 x7 x8 x9 x10 x11 x12 x13 l = some (.inr (x0, x1, x2, x4, x5, x6, x7, x8, x9, x10, x11, x12, x13)) := by
 unfold qt_3
 have := K47 (step := fun (s : Int) => qt_3_step x0 x1 x2 s x4 x5 x6 x7 x8 x9 x10 x11 x12 x13 l) (fun i (_ : Unit) => ((i + 1 : Nat) : Int)) (fun _ _ => ()) (fun _ => .inr (x0, x1, x2, x4, x5, x6, x7, x8, x9, x10, x11, x12, x13)) (l.length - 1) (fun _ _ => True) (fun i t hi _ => ⟨?_, trivial⟩) (fun t _ => ?_) (l.length - 1) 0 () (by omega) trivial
 ·exact this
 ·have hg := hu i (by omega)
  have e1 : w64 (((i + 1 : Nat) : Int) - 1) = (i : Int) := by rw [J6z (by omega) (by omega)]; omega
  rw [K4b, K2e (by omega), e1, J4c (by omega), J4c (by omega), Int.toNat_natCast, Int.toNat_natCast, K28 (by omega), K28 (by omega), J6z (by omega) (by omega)]
  rfl
 ·rw [K4b, K28 (by omega)]
theorem plays_4 (x0 : List AskT) (x1 x2 h : Int) (x4 : Bool) (l : List Hdr) (hl : l.length ≤ 1000) (x9 : List PrR) (x10 : List Val) (x11 : List Block) (x12 : Rows) (x13 : Unit) (x14 : List (List UInt8)) (x15 : List (List (List UInt8))) (x16 : List (List UInt8)) (x17 x18 : Cli) (x19 : List UInt8) :
  qt_4 x0 x1 x2 h x4 false l (l.length : Int) 0 x9 x10 x11 x12 x13 x14 x15 x16 x17 x18 x19 zT = some (x0, x1, x2, h, x4, (hitH l h l.length).1, x9, x10, x11, x12, x13, x14, x15, x16, x17, x18, x19, (hitH l h l.length).2) := by
 unfold qt_4
 have := K47 (step := fun (s : Bool × Int × List UInt8) => qt_4_step x0 x1 x2 h x4 s.1 l (l.length : Int) s.2.1 x9 x10 x11 x12 x13 x14 x15 x16 x17 x18 x19 s.2.2) (fun i (_ : Unit) => ((hitH l h i).1, (i : Int), (hitH l h i).2)) (fun _ _ => ()) (fun _ => (x0, x1, x2, h, x4, (hitH l h l.length).1, x9, x10, x11, x12, x13, x14, x15, x16, x17, x18, x19, (hitH l h l.length).2)) l.length (fun _ _ => True) (fun i t hi _ => ⟨?_, trivial⟩) (fun t _ => ?_) l.length 0 () (by omega) trivial
 ·exact this
 ·dsimp only
  rw [K4c, K2e (by omega), J4c (by omega), Int.toNat_natCast, J6z (by omega) (by omega)]
  by_cases c : (l.getD i zHdr).1 = h
  ·have e : hitH l h (i + 1) = (true, (l.getD i zHdr).2.2.1) := if_pos c
   rw [K2e c, e]; rfl
  ·have e : hitH l h (i + 1) = hitH l h i := if_neg c
   rw [K28 c, e]; rfl
 ·dsimp only
  rw [K4c, K28 (by omega)]
theorem plays_5 (x0 : List AskT) (x1 x2 : Int) (x4 : List PrR) (x5 : List Val) (x6 : List Block) (x7 : Rows) (x8 : Unit) (x9 : List (List UInt8)) (x10 : List (List (List UInt8))) (x11 : List (List UInt8)) (c : Cli) (hl : c.1.length ≤ 1000) (hu : UpL c.1) :
  qt_5 x0 x1 x2 0 x4 x5 x6 x7 x8 x9 x10 x11 c c = some (.inr (x0, x1, x2, x4, x5, x6, x7, x8, x9, x10, x11, c, c)) := by
 unfold qt_5
 have := K47 (step := fun (s : (List (AskT)) × Int × Int × Int × (List PrR) × (List Val) × (List Block) × (Rows) × Unit × List (List UInt8) × List (List (List UInt8)) × List (List UInt8) × Cli × Cli) => qt_5_step s.1 s.2.1 s.2.2.1 s.2.2.2.1 s.2.2.2.2.1 s.2.2.2.2.2.1 s.2.2.2.2.2.2.1 s.2.2.2.2.2.2.2.1 s.2.2.2.2.2.2.2.2.1 s.2.2.2.2.2.2.2.2.2.1 s.2.2.2.2.2.2.2.2.2.2.1 s.2.2.2.2.2.2.2.2.2.2.2.1 s.2.2.2.2.2.2.2.2.2.2.2.2.1 s.2.2.2.2.2.2.2.2.2.2.2.2.2) (fun i (_ : Unit) => (x0, x1, x2, (i : Int), x4, x5, x6, x7, x8, x9, x10, x11, c, c)) (fun _ _ => ()) (fun _ => .inr (x0, x1, x2, x4, x5, x6, x7, x8, x9, x10, x11, c, c)) 9 (fun _ _ => True) (fun i t hi _ => ⟨?_, trivial⟩) (fun t _ => ?_) 9 0 () (by omega) trivial
 ·exact this
 ·dsimp only
  rw [K4d, K2e (by omega), root_is c hl hu, K05]
  dsimp only
  rw [plays_4 x0 x1 x2 (i : Int) _ c.1 hl, K05]
  dsimp only
  rw [beq_self_eq_true, Bool.not_true, K29, K0e, Bool.not_true, K29, J6z (by omega) (by omega)]
  rfl
 ·dsimp only
  rw [K4d, K28 (by omega)]
theorem plays_6 (asks : List AskT) (ha : ∀ q ∈ asks, q.2.2.2.2.1.length ≤ 1152921504606846976) (now : Int) (hnow : 0 ≤ now ∧ now ≤ 200) (N : List PrR) (S : List Val) (B : List Block) (hB : B.length = 6 ∧ ∀ j, j < 6 → BlkOk (B.getD j zBlk) ∧ NmOk (B.getD j zBlk) ∧ 1 ≤ (B.getD j zBlk).1.1 ∧ (B.getD j zBlk).1.1 ≤ 15) (R : Rows) (u : Unit) (se : List (List UInt8)) (ri : List (List (List UInt8))) (na : List (List UInt8)) (c : Cli) (hc : PlI c) :
  qt_6 asks now 0 N S B R u se ri na c c = some (.inr ()) := by
 unfold qt_6
 have := K49 (step := fun (s : (List (AskT)) × Int × Int × (List PrR) × (List Val) × (List Block) × (Rows) × Unit × List (List UInt8) × List (List (List UInt8)) × List (List UInt8) × Cli × Cli) => qt_6_step s.1 s.2.1 s.2.2.1 s.2.2.2.1 s.2.2.2.2.1 s.2.2.2.2.2.1 s.2.2.2.2.2.2.1 s.2.2.2.2.2.2.2.1 s.2.2.2.2.2.2.2.2.1 s.2.2.2.2.2.2.2.2.2.1 s.2.2.2.2.2.2.2.2.2.2.1 s.2.2.2.2.2.2.2.2.2.2.2.1 s.2.2.2.2.2.2.2.2.2.2.2.2) (fun i (c : Cli) => (asks, now, (i : Int), N, S, B, R, u, se, ri, na, c, c)) (fun _ c => PlI c) (min asks.length 8) (fun _ => .inr ()) (fun i c hi hc => ?_) (fun c hc => ?_) (min asks.length 8) 0 c (by omega) hc
 ·obtain ⟨_, e, _⟩ := this
  exact e
 ·dsimp only
  have hq := ha _ (K2i (z := zAsk) (show i < asks.length by omega))
  rw [K4e, K2e (by omega), K2e (by omega), J4c (by omega), Int.toNat_natCast]
  generalize asks.getD i zAsk = q at hq
  obtain ⟨v, ev, v1, v2⟩ := Kab q.2.1 0 5 (by omega) (by omega) (by omega)
  obtain ⟨b1, b2, b3, b4⟩ := hB.2 v.toNat (by omega)
  obtain ⟨t, et, t1, t2, t3, t4⟩ := K9u (B.getD v.toNat zBlk) b1 b2 b3 b4 q.2.2.1 q.2.2.2.2.1 hq
  obtain ⟨m, em, m1, m2⟩ := Kab q.2.2.2.1 0 (now + 90) (by omega) (by omega) (by omega)
  rw [ev, K05, J4c (by rw [hB.1]; omega), et, K05, show w64 (now + 90) = now + 90 from J6z (by omega) (by omega), em, K05, lp2_text]
  have done : ∀ (e : Int) (c' : Cli), PlI c' → ∃ c2, ((andThen (some (asks, now, (i : Int), e, e, N, S, B, R, u, se, ri, na, c', c')) (fun o52 => andThen (qu o52.2.2.2.2.2.2.2.2.2.2.2.2.2.1) (fun u54 => fork (!decide (o52.2.2.2.1 = o52.2.2.2.2.1)) (some (.inr (.inl false))) (andThen (qv u54 o52.2.2.2.2.2.2.2.2.2.2.2.2.2.2.1) (fun u57 => fork (!u57) (some (.inr (.inl false))) (andThen (qp o52.2.2.2.2.2.2.2.2.2.2.2.2.2.1) (fun u60 => fork (!(u60 == o52.2.2.2.2.2.2.2.2.2.2.2.2.2.2.2.2.2.1)) (some (.inr (.inl false))) (fork (decide ((List.length u54 : Int) < (1 : Int))) (some (.inr (.inl false))) (andThen (qo o52.2.2.2.2.2.2.2.2.2.2.2.2.2.1) (fun u64 => need (0 ≤ (w64 ((List.length o52.2.2.2.2.2.2.2.2.2.2.2.2.2.2.1 : Int) - (1 : Int))) ∧ (w64 ((List.length o52.2.2.2.2.2.2.2.2.2.2.2.2.2.2.1 : Int) - (1 : Int))) < (List.length o52.2.2.2.2.2.2.2.2.2.2.2.2.2.2.1 : Int)) (fork (!(Ty.beq (.fld (.int .i64) (.fld (.int .i64) (.fld (.arr 32 (.int .u8)) (.fld (.arr 32 (.int .u8)) (.fld (.arr 32 (.int .u8)) (.fld (.arr 32 (.int .u8)) .unit)))))) u64 (List.getD o52.2.2.2.2.2.2.2.2.2.2.2.2.2.2.1 (Int.toNat (w64 ((List.length o52.2.2.2.2.2.2.2.2.2.2.2.2.2.2.1 : Int) - (1 : Int)))) zHdr))) (some (.inr (.inl false))) (andThen (qt_3 o52.1 o52.2.1 o52.2.2.1 (1 : Int) o52.2.2.2.2.2.1 o52.2.2.2.2.2.2.1 o52.2.2.2.2.2.2.2.1 o52.2.2.2.2.2.2.2.2.1 o52.2.2.2.2.2.2.2.2.2.1 o52.2.2.2.2.2.2.2.2.2.2.1 o52.2.2.2.2.2.2.2.2.2.2.2.1 o52.2.2.2.2.2.2.2.2.2.2.2.2.1 o52.2.2.2.2.2.2.2.2.2.2.2.2.2.1 o52.2.2.2.2.2.2.2.2.2.2.2.2.2.2 u54) (fun o74 => (match o74 with | .inl o76 => some (.inr (.inl o76)) | .inr o77 => andThen (qt_5 o77.1 o77.2.1 o77.2.2.1 (0 : Int) o77.2.2.2.1 o77.2.2.2.2.1 o77.2.2.2.2.2.1 o77.2.2.2.2.2.2.1 o77.2.2.2.2.2.2.2.1 o77.2.2.2.2.2.2.2.2.1 o77.2.2.2.2.2.2.2.2.2.1 o77.2.2.2.2.2.2.2.2.2.2.1 o77.2.2.2.2.2.2.2.2.2.2.2.1 o77.2.2.2.2.2.2.2.2.2.2.2.2) (fun o90 => (match o90 with | .inl o92 => some (.inr (.inl o92)) | .inr o93 => some (.inl (o93.1, o93.2.1, (w64 (o93.2.2.1 + (1 : Int))), o93.2.2.2.1, o93.2.2.2.2.1, o93.2.2.2.2.2.1, o93.2.2.2.2.2.2.1, o93.2.2.2.2.2.2.2.1, o93.2.2.2.2.2.2.2.2.1, o93.2.2.2.2.2.2.2.2.2.1, o93.2.2.2.2.2.2.2.2.2.2.1, o93.2.2.2.2.2.2.2.2.2.2.2.1, o93.2.2.2.2.2.2.2.2.2.2.2.2)))))))))))))))))) : Option ((List (AskT) × Int × Int × (List PrR) × (List Val) × (List Block) × (Rows) × Unit × List (List UInt8) × List (List (List UInt8)) × List (List UInt8) × Cli × Cli) ⊕ ((Bool) ⊕ (Unit)))) = some (.inl (asks, now, ((i + 1 : Nat) : Int), N, S, B, R, u, se, ri, na, c2, c2)) ∧ PlI c2 := by
   intro e c' hc'
   obtain ⟨⟨k0, k1⟩, k2, k3⟩ := hc'
   refine ⟨c', ?_, ⟨k0, k1⟩, k2, k3⟩
   rw [K05]
   dsimp only
   rw [show qu c' = some c'.1 from by unfold qu; rw [K0x _ (by omega)]; rfl, K05, K2d rfl, same_hdr _ (by omega), K05, Bool.not_true, K29, show qp c' = some c'.2.2.2.1 from rfl, K05, beq_self_eq_true, Bool.not_true, K29, K28 (by have := k0.1; omega), K3t c' k0.1 (by omega), K05]
   have hl1 := k0.1
   have wi : w64 ((c'.1.length : Int) - 1) = ((c'.1.length - 1 : Nat) : Int) := by rw [J6z (by omega) (by omega)]; omega
   rw [wi, J4c (by omega), Int.toNat_natCast]
   have hself : Ty.beq (.fld (.int .i64) (.fld (.int .i64) (.fld (.arr 32 (.int .u8)) (.fld (.arr 32 (.int .u8)) (.fld (.arr 32 (.int .u8)) (.fld (.arr 32 (.int .u8)) .unit)))))) (lastH c') (List.getD c'.1 (c'.1.length - 1) zHdr) = true := K1f _
   rw [hself, Bool.not_true, K29, plays_3 asks now (i : Int) N S B R u se ri na c' c' c'.1 (by omega) k0.1 k3, K05]
   dsimp only
   rw [plays_5 asks now (i : Int) N S B R u se ri na c' (by omega) k3, K05]
   dsimp only
   rw [J6z (by omega) (by omega)]; rfl
  by_cases ck : Int.tmod q.1 6 = 5
  ·obtain ⟨r, hr, er⟩ := K27 t q.2.2.2.2.1 hq q.2.2.1 t1.1 t3 t4 t1.2.2.1
   have hf := K1w t1 t3 t4 q.2.2.2.2.1 r
   obtain ⟨c2, e1, e2⟩ := done (misS t (K1v t q.2.2.2.2.1 r) c).1 (misS t (K1v t q.2.2.2.2.1 r) c).2 (pli_mis hc)
   rw [K2e ck, er, K05, mis_eq t _ c t1 hf hc.1.1, K05, rmis_eq t _ c t1 t2 hf t2 hc.1, K05]
   exact ⟨c2, e1, e2⟩
  ·obtain ⟨c2, e1, e2⟩ := done (updS t m c).1 (updS t m c).2 (pli_upd t1 hc m)
   rw [K28 ck, Ka0 t m c t1 hc.1.1 (by omega), K05, rupd_eq t m c t1 t2.1 t2.2 hc.1 (by omega), K05]
   exact ⟨c2, e1, e2⟩
 ·dsimp only
  rw [K4e]
  by_cases c1 : asks.length ≤ 8
  ·rw [K28 (by omega)]
  ·rw [K2e (by omega), K28 (by omega)]
theorem law_LightPlays (y0 y1 : List Int) (y2 : List TxI) (y3 : Int) (y4 : List AskT) (w0 : Wf (.slice (.int .i64)) y0) (w1 : Wf (.slice (.int .i64)) y1) (w2 : Wf (.slice (.fld (.int .i64) (.fld (.int .i64) (.fld (.int .i64) (.fld (.int .i64) (.fld (.int .i64) .unit)))))) y2) (w3 : Wf (.int .i64) y3) (w4 : Wf (.slice (.fld (.int .i64) (.fld (.int .i64) (.fld (.int .i64) (.fld (.int .i64) (.fld (.slice (.int .i64)) .unit)))))) y4) : qt y0 y1 y2 y3 y4 = some true := by
 have e8 : J6q (.int .i64) = 8 := rfl
 have hp0 : y0.length ≤ 140737488351232 := by have := w0.1; rw [e8] at this; omega
 have hp1 : y1.length ≤ 140737488355328 := by have := w1.1; rw [e8] at this; omega
 have hp2 : y2.length ≤ 140737488355328 := by
  have := w2.1
  rw [show J6q (.fld (.int .i64) (.fld (.int .i64) (.fld (.int .i64) (.fld (.int .i64) (.fld (.int .i64) .unit))))) = 40 from rfl] at this; omega
 have ha : ∀ q ∈ y4, q.2.2.2.2.1.length ≤ 1152921504606846976 := fun q hq => by
  have h := (w4.2 q hq).2.2.2.2.1.1
  rw [e8] at h
  have : List.length q.2.2.2.2.1 * 8 ≤ 140737488351232 := h
  omega
 have hn : 1 ≤ setN y0 ∧ setN y0 ≤ 4 := by unfold setN; omega
 have hp := pw_ok y0
 have hce := K0t y0 hp0
 have hce : q1v y0 = some ((), K8i (setN y0), K75 (setN y0), K4q (setN y0), ringN (pw y0) (setN y0)) := hce
 generalize pw y0 = p at *
 generalize setN y0 = n at *
 obtain ⟨_, eo1, now, N, r, Q, f, q, R, rfl, hnow, hr, hQ, hf⟩ := plays_1 y1 hp1 y2 hp2 hp hn.2 y3 y4
 obtain ⟨P, eP, P1, P2⟩ := Kab y3 0 80 (by omega) (by omega) (by omega)
 have hbl := K0k n r (fun k => ringN (Q k) n) f 6
 have hat : ∀ j, j < 6 → (blG n r (fun k => ringN (Q k) n) f 6).getD j zBlk = sgB n r Q f j (fun _ => true) := fun j hj => by
  rw [K0i n r (fun k => ringN (Q k) n) f hj, genB_sg]
 have h0 := hat 0 (by omega)
 have hnew := new_gen hn.1 hn.2 (r := r) hQ (show 6 ≤ 16 by omega) hf (T := P) (by omega) (j := 0) (by omega)
 have hnm : ∀ (g : Nat → Int), ∀ v ∈ ringN g n, v.1.length ≤ 140737488355328 := fun g v hv => by have := ((K6x g n hn.2).2 v hv).1; omega
 have hB : (blG n r (fun k => ringN (Q k) n) f 6).length = 6 ∧ ∀ j, j < 6 → BlkOk ((blG n r (fun k => ringN (Q k) n) f 6).getD j zBlk) ∧ NmOk ((blG n r (fun k => ringN (Q k) n) f 6).getD j zBlk) ∧ 1 ≤ ((blG n r (fun k => ringN (Q k) n) f 6).getD j zBlk).1.1 ∧ ((blG n r (fun k => ringN (Q k) n) f 6).getD j zBlk).1.1 ≤ 15 := by
  refine ⟨hbl, fun j hj => ?_⟩
  rw [hat j hj]
  have h1 := hG_1 n r (fun k => ringN (Q k) n) f j
  refine ⟨sgB_ok hn.2 Q f (by omega) (hr j hj) _, ⟨?_, hnm _⟩, by show 1 ≤ (hG n r (fun k => ringN (Q k) n) f j).1; omega, by show (hG n r (fun k => ringN (Q k) n) f j).1 ≤ 15; omega⟩
  show ∀ v ∈ preS (fun k => ringN (Q k) n) j, _
  rw [preR]; exact hnm _
 have f0 := hf.1 0 (by omega)
 have hc : PlI ([hG n r (fun k => ringN (Q k) n) f 0], ringN (Q 0) n, P, false, ()) := by
  have h1 := hG_1 n r (fun k => ringN (Q k) n) f 0
  have ht := hG_t n r (fun k => ringN (Q k) n) f 0
  refine ⟨⟨⟨Nat.le_refl _, by simp, K6z (hQ 0) hn.2, ?_, ?_⟩, K6w (hQ 0) hn.1 hn.2⟩, by simp, fun i hi => by simp at hi⟩
  ·show 0 ≤ (hG n r (fun k => ringN (Q k) n) f 0).1 ∧ (hG n r (fun k => ringN (Q k) n) f 0).1 ≤ 1099511627776; omega
  ·show 0 ≤ (hG n r (fun k => ringN (Q k) n) f 0).2.1 ∧ (hG n r (fun k => ringN (Q k) n) f 0).2.1 ≤ 1099511627776; omega
 rw [lp_text, hce, K05]
 dsimp only
 rw [eo1, K05]
 dsimp only
 rw [eP, K05, J4c (by rw [hbl]; omega), show Int.toNat (0 : Int) = 0 from rfl, h0]
 show andThen (q3s (hG n r (fun k => ringN (Q k) n) f 0) (ringN (Q 0) n) P) _ = _
 rw [hnew, K05]
 dsimp only
 rw [K2d rfl]
 have h6 := plays_6 y4 ha now hnow N (ringN q n) (blG n r (fun k => ringN (Q k) n) f 6) hB R () (K8i n) (K75 n) (K4q n) _ hc
 show andThen (qt_6 y4 now 0 N (ringN q n) (blG n r (fun k => ringN (Q k) n) f 6) R () (K8i n) (K75 n) (K4q n) ([hG n r (fun k => ringN (Q k) n) f 0], ringN (Q 0) n, P, false, ()) ([hG n r (fun k => ringN (Q k) n) f 0], ringN (Q 0) n, P, false, ())) _ = _
 rw [h6, K05]
 dsimp only
 rw [K3v]; rfl
end Go.Ax.V
