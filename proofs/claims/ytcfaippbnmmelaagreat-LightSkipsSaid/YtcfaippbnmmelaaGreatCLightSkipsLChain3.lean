/-
  A chain whose sets, rows and times are any; what a client makes of its blocks.
-/
import Derived.Test.YtcfaippbnmmelaaGreatCLightSkipsLLightB
namespace Go.Ax.V
open Go.Ax
set_option linter.unusedVariables false
set_option linter.unusedSimpArgs false
abbrev PrR := List UInt8 × List UInt8 × Unit
noncomputable def hdR (r : List UInt8) (S : List Val) (B : List Block) (t : Int) : Hdr :=
 if B.length = 0 then (1, t, r, setH S, setH S, List.replicate 32 0, ())
 else ((B.length : Int) + 1, t, r, setH (lastB B).2.2.2.1, setH S, sha (72 :: bodyS (lastB B).1), ())
theorem hdR_hashes {r : List UInt8} (hr32 : r.length = 32) (S : List Val) (B : List Block) (t : Int) : Hashes (hdR r S B t) := by
 unfold hdR
 split
 ·exact ⟨hr32, setH_len _, setH_len _, by simp⟩
 ·exact ⟨hr32, setH_len _, setH_len _, sha_len _⟩
theorem hdR_1 (r : List UInt8) (S : List Val) (B : List Block) (t : Int) : (hdR r S B t).1 = (B.length : Int) + 1 := by
 unfold hdR; split
 ·show (1 : Int) = _; omega
 ·rfl
theorem hdR_t (r : List UInt8) (S : List Val) (B : List Block) (t : Int) : (hdR r S B t).2.1 = t := by unfold hdR; split <;> rfl
theorem hdR_next (r : List UInt8) (S : List Val) (B : List Block) (t : Int) : (hdR r S B t).2.2.2.2.1 = setH S := by unfold hdR; split <;> rfl
theorem hdR_vals (r : List UInt8) (S : List Val) (B : List Block) (t : Int) : (hdR r S B t).2.2.2.1 = setH (nowS S B) := by unfold hdR nowS; split <;> rfl
theorem hdR_right {r : List UInt8} {S : List Val} {B : List Block} {t : Int} (hb : B.length < 16) (h1 : 0 ≤ t) (h2 : t ≤ 1073741824) : rightHS (hdR r S B t) = true := by
 rw [rightHS_iff, hdR_1, hdR_t]; omega
noncomputable def blkR (n : Nat) (r : List UInt8) (S : List Val) (B : List Block) (t : Int) : Block := (hdR r S B t, sgJ (hdR r S B t) (List.range n), nowS S B, S, ())
theorem cg1 (n : Nat) (hn : n ≤ 4) (k : Int) (N : List PrR) (B : List Block) (R : Rows) (S : List Val) (h : Hdr) (ps nx : List Val) (hk : w64 (k + 1) = h.1) (h1 : 1 ≤ h.1) (h2 : h.1 ≤ 16) :
  qa_1 k (n : Int) 0 N S B R () (seedsN n) (ringsN n) (namesN n) h ps () [] nx (textS h) = some (k, N, S, B, R, (), seedsN n, ringsN n, namesN n, h, ps, (), sgJ h (List.range n), nx) := by
 have e1 : (seedsN n).length = n := rng_len _ _
 have e2 : (ringsN n).length = n := rng_len _ _
 have e3 : (namesN n).length = n := rng_len _ _
 unfold qa_1
 have := loop_for (step := fun (t : Int × List Signed) => qa_1_step k (n : Int) t.1 N S B R () (seedsN n) (ringsN n) (namesN n) h ps () t.2 nx (textS h)) (fun i (_ : Unit) => ((i : Int), sgJ h (List.range i))) (fun _ _ => ()) (fun _ => (k, N, S, B, R, (), seedsN n, ringsN n, namesN n, h, ps, (), sgJ h (List.range n), nx)) n (fun _ _ => True) (fun i w hi _ => ⟨?_, trivial⟩) (fun w _ => ?_) n 0 () (by omega) trivial
 ·exact this
 ·show qa_1_step k (n : Int) (i : Int) N S B R () (seedsN n) (ringsN n) (namesN n) h ps () (sgJ h (List.range i)) nx (textS h) = _
  unfold qa_1_step
  have g1 : (seedsN n).getD i (List.replicate 32 (0 : UInt8)) = seedK i := getD_rng _ _ hi
  have g2 : (ringsN n).getD i [] = keysS (seedK i) := getD_rng _ _ hi
  have g3 : (namesN n).getD i [] = nm i := getD_rng _ _ hi
  rw [fork_t (by omega), need_true (by omega), need_true (by omega), need_true (by omega), Int.toNat_natCast, g1, g2, g3, hk, rBy_eq _ (by rw [keysS_len]; omega) (keysS_small _) _ _ (seedK_len i) _ h1 h2 (by rw [textS_len]; omega), andThen_mk, need_true (by rw [sgJ_len, List.length_range]; simp only [List.length_cons, List.length_nil]; omega), w64_eq (n := (i : Int) + 1) (by omega) (by omega), sgJ_next]
  rfl
 ·show qa_1_step k (n : Int) (n : Int) N S B R () (seedsN n) (ringsN n) (namesN n) h ps () (sgJ h (List.range n)) nx (textS h) = _
  unfold qa_1_step
  rw [fork_f (by omega)]
theorem cg2 (n : Nat) (hn : n ≤ 4) (k : Int) (N : List PrR) (B : List Block) (R : Rows) (S : List Val) (h : Hdr) (nx : List Val) (hk : w64 (k + 1) = h.1) (h1 : 1 ≤ h.1) (h2 : h.1 ≤ 16) :
  qa_2 k (n : Int) 0 N S B R () (seedsN n) (ringsN n) (namesN n) h () [] nx (textS h) = some (k, N, S, B, R, (), seedsN n, ringsN n, namesN n, h, (), sgJ h (List.range n), nx) := by
 have e1 : (seedsN n).length = n := rng_len _ _
 have e2 : (ringsN n).length = n := rng_len _ _
 have e3 : (namesN n).length = n := rng_len _ _
 unfold qa_2
 have := loop_for (step := fun (t : Int × List Signed) => qa_2_step k (n : Int) t.1 N S B R () (seedsN n) (ringsN n) (namesN n) h () t.2 nx (textS h)) (fun i (_ : Unit) => ((i : Int), sgJ h (List.range i))) (fun _ _ => ()) (fun _ => (k, N, S, B, R, (), seedsN n, ringsN n, namesN n, h, (), sgJ h (List.range n), nx)) n (fun _ _ => True) (fun i w hi _ => ⟨?_, trivial⟩) (fun w _ => ?_) n 0 () (by omega) trivial
 ·exact this
 ·show qa_2_step k (n : Int) (i : Int) N S B R () (seedsN n) (ringsN n) (namesN n) h () (sgJ h (List.range i)) nx (textS h) = _
  unfold qa_2_step
  have g1 : (seedsN n).getD i (List.replicate 32 (0 : UInt8)) = seedK i := getD_rng _ _ hi
  have g2 : (ringsN n).getD i [] = keysS (seedK i) := getD_rng _ _ hi
  have g3 : (namesN n).getD i [] = nm i := getD_rng _ _ hi
  rw [fork_t (by omega), need_true (by omega), need_true (by omega), need_true (by omega), Int.toNat_natCast, g1, g2, g3, hk, rBy_eq _ (by rw [keysS_len]; omega) (keysS_small _) _ _ (seedK_len i) _ h1 h2 (by rw [textS_len]; omega), andThen_mk, need_true (by rw [sgJ_len, List.length_range]; simp only [List.length_cons, List.length_nil]; omega), w64_eq (n := (i : Int) + 1) (by omega) (by omega), sgJ_next]
  rfl
 ·show qa_2_step k (n : Int) (n : Int) N S B R () (seedsN n) (ringsN n) (namesN n) h () (sgJ h (List.range n)) nx (textS h) = _
  unfold qa_2_step
  rw [fork_f (by omega)]
theorem commitG_text (a0 : Int) (a1 : List (List UInt8 × List UInt8 × Unit)) (a2 : List Val) (a3 : List Block) (a4 : Rows) (a5 : Unit) (a6 : List (List UInt8)) (a7 : List (List (List UInt8))) (a8 : List (List UInt8)) : qa a0 a1 a2 a3 a4 a5 a6 a7 a8 =
  (fork (decide ((16 : Int) ≤ (List.length a3 : Int))) (some ((0 : Int), a1, a2, a3, a4, a5, a6, a7, a8)) (fork (decide (a0 < (0 : Int))) (some ((0 : Int), a1, a2, a3, a4, a5, a6, a7, a8)) (fork (decide ((1073741824 : Int) < a0)) (some ((0 : Int), a1, a2, a3, a4, a5, a6, a7, a8)) (fork (decide ((0 : Int) < (List.length a3 : Int))) (need (0 ≤ (w64 ((List.length a3 : Int) - (1 : Int))) ∧ (w64 ((List.length a3 : Int) - (1 : Int))) < (List.length a3 : Int)) (fork (decide (a0 ≤ (List.getD a3 (Int.toNat (w64 ((List.length a3 : Int) - (1 : Int)))) zBlk).1.2.1)) (some ((0 : Int), a1, a2, a3, a4, a5, a6, a7, a8)) (need (List.length ([] : List Val) + List.length a2 ≤ 2147483648) (andThen (qv a1) (fun u8 => andThen (qt ((List.getD a3 (Int.toNat (w64 ((List.length a3 : Int) - (1 : Int)))) zBlk).1)) (fun u10 => andThen (q12 ((List.getD a3 (Int.toNat (w64 ((List.length a3 : Int) - (1 : Int)))) zBlk).2.2.2.1)) (fun u12 => andThen (q12 (([] : List Val) ++ a2)) (fun u14 => andThen (qt ((w64 ((List.length a3 : Int) + (1 : Int))), a0, u8, u12, u14, u10, ())) (fun u16 => andThen (qa_1 (List.length a3 : Int) (List.length a6 : Int) (0 : Int) a1 a2 a3 a4 a5 a6 a7 a8 ((w64 ((List.length a3 : Int) + (1 : Int))), a0, u8, u12, u14, u10, ()) (List.getD a3 (Int.toNat (w64 ((List.length a3 : Int) - (1 : Int)))) zBlk).2.2.2.1 (()) ([] : List Signed) (([] : List Val) ++ a2) u16) (fun o26 => need (List.length ([] : List Block) + List.length o26.2.2.2.1 ≤ 2147483648) (need (List.length (([] : List Block) ++ o26.2.2.2.1) + List.length ([(o26.2.2.2.2.2.2.2.2.2.1, o26.2.2.2.2.2.2.2.2.2.2.2.2.1, o26.2.2.2.2.2.2.2.2.2.2.1, o26.2.2.2.2.2.2.2.2.2.2.2.2.2, ())] : List Block) ≤ 2147483648) (need (List.length ([] : Rows) + List.length o26.2.2.2.2.1 ≤ 2147483648) (need (List.length (([] : Rows) ++ o26.2.2.2.2.1) + List.length ([o26.2.1] : Rows) ≤ 2147483648) (some ((w64 (o26.1 + (1 : Int))), o26.2.1, o26.2.2.1, ((([] : List Block) ++ o26.2.2.2.1) ++ ([(o26.2.2.2.2.2.2.2.2.2.1, o26.2.2.2.2.2.2.2.2.2.2.2.2.1, o26.2.2.2.2.2.2.2.2.2.2.1, o26.2.2.2.2.2.2.2.2.2.2.2.2.2, ())] : List Block)), ((([] : Rows) ++ o26.2.2.2.2.1) ++ ([o26.2.1] : Rows)), o26.2.2.2.2.2.1, o26.2.2.2.2.2.2.1, o26.2.2.2.2.2.2.2.1, o26.2.2.2.2.2.2.2.2.1))))))))))))))) (need (List.length ([] : List Val) + List.length a2 ≤ 2147483648) (andThen (qv a1) (fun u33 => andThen (q12 (([] : List Val) ++ a2)) (fun u35 => andThen (q12 (([] : List Val) ++ a2)) (fun u37 => andThen (qt ((w64 ((List.length a3 : Int) + (1 : Int))), a0, u33, u35, u37, (List.replicate 32 (0 : UInt8)), ())) (fun u39 => andThen (qa_2 (List.length a3 : Int) (List.length a6 : Int) (0 : Int) a1 a2 a3 a4 a5 a6 a7 a8 ((w64 ((List.length a3 : Int) + (1 : Int))), a0, u33, u35, u37, (List.replicate 32 (0 : UInt8)), ()) (()) ([] : List Signed) (([] : List Val) ++ a2) u39) (fun o49 => need (List.length ([] : List Block) + List.length o49.2.2.2.1 ≤ 2147483648) (need (List.length (([] : List Block) ++ o49.2.2.2.1) + List.length ([(o49.2.2.2.2.2.2.2.2.2.1, o49.2.2.2.2.2.2.2.2.2.2.2.1, o49.2.2.2.2.2.2.2.2.2.2.2.2, o49.2.2.2.2.2.2.2.2.2.2.2.2, ())] : List Block) ≤ 2147483648) (need (List.length ([] : Rows) + List.length o49.2.2.2.2.1 ≤ 2147483648) (need (List.length (([] : Rows) ++ o49.2.2.2.2.1) + List.length ([o49.2.1] : Rows) ≤ 2147483648) (some ((w64 (o49.1 + (1 : Int))), o49.2.1, o49.2.2.1, ((([] : List Block) ++ o49.2.2.2.1) ++ ([(o49.2.2.2.2.2.2.2.2.2.1, o49.2.2.2.2.2.2.2.2.2.2.2.1, o49.2.2.2.2.2.2.2.2.2.2.2.2, o49.2.2.2.2.2.2.2.2.2.2.2.2, ())] : List Block)), ((([] : Rows) ++ o49.2.2.2.2.1) ++ ([o49.2.1] : Rows)), o49.2.2.2.2.2.1, o49.2.2.2.2.2.2.1, o49.2.2.2.2.2.2.2.1, o49.2.2.2.2.2.2.2.2.1))))))))))))))) : Option (Int × (List (List UInt8 × List UInt8 × Unit)) × (List Val) × (List Block) × (Rows) × Unit × List (List UInt8) × List (List (List UInt8)) × List (List UInt8))) := rfl
theorem commitG_eq (n : Nat) (hn : n ≤ 4) (t : Int) (N : List PrR) (r : List UInt8) (hN : qv N = some r) (hr32 : r.length = 32) (B : List Block) (R : Rows) (S : List Val) (hb : B.length < 16) (hR : R.length ≤ 100) (h1 : 0 ≤ t) (h2 : t ≤ 1073741824) (h3 : B.length ≠ 0 → (lastB B).1.2.1 < t) (hB : Good B) (hS : SetSm S) :
  qa t N S B R () (seedsN n) (ringsN n) (namesN n) = some ((B.length : Int) + 1, N, S, B ++ [blkR n r S B t], R ++ [N], (), seedsN n, ringsN n, namesN n) := by
 have e1 : (seedsN n).length = n := rng_len _ _
 have hSl := hS.1
 have hnil : ([] : List Val) ++ S = S := rfl
 have hr := hdR_right (r := r) (S := S) hb h1 h2
 have hh := hdR_hashes hr32 S B t
 have hd1 := hdR_1 r S B t
 have w1 : w64 ((B.length : Int) + 1) = (B.length : Int) + 1 := w64_eq (by omega) (by omega)
 rw [commitG_text, fork_f (by omega), fork_f (by omega), fork_f (by omega)]
 by_cases c : B.length = 0
 ·rw [fork_f (by omega), need_true (by simp only [List.length_nil]; omega), hN, andThen_mk, hnil, rsetHash_eq S hS, andThen_mk, andThen_mk, w1]
  have hh0 : ((B.length : Int) + 1, t, r, setH S, setH S, List.replicate 32 (0 : UInt8), ()) = hdR r S B t := by
   unfold hdR; rw [if_pos c, c]; rfl
  rw [hh0, rheadHash_eq _ hh, andThen_mk, ← text_body hr, e1, cg2 n hn _ N B R S _ S (by rw [w1, hd1]) (by omega) (by omega), andThen_mk]
  simp only
  have hB0 : B = [] := List.eq_nil_of_length_eq_zero c
  rw [need_true (by simp only [List.length_nil]; omega), need_true (by simp only [List.nil_append, List.length_cons, List.length_nil]; omega), need_true (by simp only [List.length_nil]; omega), need_true (by simp only [List.nil_append, List.length_cons, List.length_nil]; omega), w1]
  have hnow : nowS S B = S := by unfold nowS; rw [if_pos c]
  unfold blkR
  rw [hnow]
  rfl
 ·obtain ⟨g1, g2⟩ := hB.resolve_left c
  have hix : Int.toNat (w64 ((B.length : Int) - 1)) = B.length - 1 := by rw [w64_eq (by omega) (by omega)]; omega
  have hw : w64 ((B.length : Int) - 1) = (B.length : Int) - 1 := w64_eq (by omega) (by omega)
  have hl : B.getD (B.length - 1) zBlk = lastB B := rfl
  have h3 := h3 c
  rw [fork_t (by omega), need_true (by omega), hix, hl, fork_f (by omega), need_true (by simp only [List.length_nil]; omega), hN, andThen_mk, rheadHash_eq _ g2, andThen_mk, rsetHash_eq _ g1, andThen_mk, hnil, rsetHash_eq S hS, andThen_mk, w1]
  have hh0 : ((B.length : Int) + 1, t, r, setH (lastB B).2.2.2.1, setH S, sha (72 :: bodyS (lastB B).1), ()) = hdR r S B t := by
   unfold hdR; rw [if_neg c]
  rw [hh0, rheadHash_eq _ hh, andThen_mk, ← text_body hr, e1, cg1 n hn _ N B R S _ _ S (by rw [w1, hd1]) (by omega) (by omega), andThen_mk]
  simp only
  rw [need_true (by simp only [List.length_nil]; omega), need_true (by simp only [List.nil_append, List.length_cons, List.length_nil]; omega), need_true (by simp only [List.length_nil]; omega), need_true (by simp only [List.nil_append, List.length_cons, List.length_nil]; omega), w1]
  have hnow : nowS S B = (lastB B).2.2.2.1 := by unfold nowS; rw [if_neg c]
  unfold blkR
  rw [hnow]
  rfl
theorem goodR_snoc {n : Nat} {r : List UInt8} (hr : r.length = 32) {S : List Val} (hS : SetSm S) (B : List Block) (t : Int) : Good (B ++ [blkR n r S B t]) := by
 right
 rw [lastB_snoc]
 exact ⟨hS, hdR_hashes hr S B t⟩
noncomputable def blG (n : Nat) (r : Nat → List UInt8) (S : Nat → List Val) (f : Nat → Int) : Nat → List Block
 | 0 => []
 | k + 1 => blG n r S f k ++ [blkR n (r k) (S k) (blG n r S f k) (f k)]
noncomputable def hG (n : Nat) (r : Nat → List UInt8) (S : Nat → List Val) (f : Nat → Int) (j : Nat) : Hdr := hdR (r j) (S j) (blG n r S f j) (f j)
def preS (S : Nat → List Val) (j : Nat) : List Val := if j = 0 then S 0 else S (j - 1)
noncomputable def genB (n : Nat) (r : Nat → List UInt8) (S : Nat → List Val) (f : Nat → Int) (j : Nat) : Block := (hG n r S f j, sgJ (hG n r S f j) (List.range n), preS S j, S j, ())
theorem blG_len (n : Nat) (r : Nat → List UInt8) (S : Nat → List Val) (f : Nat → Int) : ∀ k, (blG n r S f k).length = k
 | 0 => rfl
 | k + 1 => by rw [blG, List.length_append, blG_len n r S f k]; rfl
theorem nowG (n : Nat) (r : Nat → List UInt8) (S : Nat → List Val) (f : Nat → Int) : ∀ k, nowS (S k) (blG n r S f k) = preS S k
 | 0 => rfl
 | k + 1 => by
  unfold nowS preS
  rw [blG_len, if_neg (by omega), if_neg (by omega), blG, lastB_snoc]
  rfl
theorem blG_at (n : Nat) (r : Nat → List UInt8) (S : Nat → List Val) (f : Nat → Int) : ∀ {k j : Nat}, j < k → (blG n r S f k).getD j zBlk = genB n r S f j
 | k + 1, j, h => by
  rw [blG]
  rcases Nat.lt_or_ge j k with c | c
  ·rw [List.getD_eq_getElem?_getD, List.getElem?_append_left (by rw [blG_len]; exact c), ← List.getD_eq_getElem?_getD]
   exact blG_at n r S f c
  ·have : j = k := by omega
   subst this
   rw [List.getD_eq_getElem?_getD, List.getElem?_append_right (by rw [blG_len]; omega), blG_len]
   simp only [Nat.sub_self, List.getElem?_cons_zero, Option.getD_some]
   unfold blkR
   rw [nowG]
   rfl
theorem hG_1 (n : Nat) (r : Nat → List UInt8) (S : Nat → List Val) (f : Nat → Int) (j : Nat) : (hG n r S f j).1 = (j : Int) + 1 := by unfold hG; rw [hdR_1, blG_len]
theorem hG_t (n : Nat) (r : Nat → List UInt8) (S : Nat → List Val) (f : Nat → Int) (j : Nat) : (hG n r S f j).2.1 = f j := hdR_t _ _ _ _
theorem hG_next (n : Nat) (r : Nat → List UInt8) (S : Nat → List Val) (f : Nat → Int) (j : Nat) : (hG n r S f j).2.2.2.2.1 = setH (S j) := hdR_next _ _ _ _
theorem hG_vals (n : Nat) (r : Nat → List UInt8) (S : Nat → List Val) (f : Nat → Int) (j : Nat) : (hG n r S f j).2.2.2.1 = setH (preS S j) := by unfold hG; rw [hdR_vals, nowG]
theorem hG_hashes (n : Nat) {r : Nat → List UInt8} (S : Nat → List Val) (f : Nat → Int) {j : Nat} (hr : (r j).length = 32) : Hashes (hG n r S f j) := hdR_hashes hr _ _ _
theorem hG_right {n : Nat} {r : Nat → List UInt8} {S : Nat → List Val} {f : Nat → Int} {j : Nat} (hj : j < 16) (h1 : 0 ≤ f j) (h2 : f j ≤ 1073741824) : rightHS (hG n r S f j) = true := hdR_right (by rw [blG_len]; exact hj) h1 h2
theorem last_blG (n : Nat) (r : Nat → List UInt8) (S : Nat → List Val) (f : Nat → Int) (k : Nat) : lastB (blG n r S f (k + 1)) = genB n r S f k := by
 unfold lastB
 rw [blG_len]
 exact blG_at n r S f (by omega)
theorem good_blG (n : Nat) {r : Nat → List UInt8} {S : Nat → List Val} (f : Nat → Int) : ∀ k, (∀ j, j < k → (r j).length = 32 ∧ SetSm (S j)) → Good (blG n r S f k)
 | 0, _ => .inl rfl
 | k + 1, h => goodR_snoc (h k (by omega)).1 (h k (by omega)).2 _ _
theorem commitGk {n : Nat} (hn : n ≤ 4) {r : Nat → List UInt8} {S : Nat → List Val} {f : Nat → Int} (k : Nat) (hk : k < 16) (N : List PrR) (hN : qv N = some (r k)) (R : Rows) (hR : R.length ≤ 100) (hj : ∀ j, j ≤ k → (r j).length = 32 ∧ SetSm (S j)) (h0 : 0 ≤ f k ∧ f k ≤ 1000000000) (h1 : k ≠ 0 → f (k - 1) < f k) :
  qa (f k) N (S k) (blG n r S f k) R () (seedsN n) (ringsN n) (namesN n) = some ((k : Int) + 1, N, S k, blG n r S f (k + 1), R ++ [N], (), seedsN n, ringsN n, namesN n) := by
 have hl := blG_len n r S f k
 rw [commitG_eq n hn (f k) N (r k) hN (hj k (Nat.le_refl _)).1 (blG n r S f k) R (S k) (by omega) hR h0.1 (by omega) ?_ (good_blG n f k fun j hjk => hj j (by omega)) (hj k (Nat.le_refl _)).2, hl]
 ·rfl
 ·intro hne
  obtain ⟨q, rfl⟩ : ∃ q, k = q + 1 := ⟨k - 1, by omega⟩
  rw [last_blG]
  show (hG n r S f q).2.1 < _
  rw [hG_t]
  exact h1 (by omega)
theorem preR (P : Nat → Nat → Int) (n j : Nat) : preS (fun k => ringN (P k) n) j = ringN (if j = 0 then P 0 else P (j - 1)) n := by
 unfold preS; split <;> rfl
def RiseG (m : Nat) (f : Nat → Int) : Prop := (∀ i, i < m → 0 ≤ f i ∧ f i ≤ 1000000000) ∧ ∀ i, i + 1 < m → f i < f (i + 1)
theorem RiseG.lt {m : Nat} {f : Nat → Int} (h : RiseG m f) {i : Nat} : ∀ {j : Nat}, i < j → j < m → f i < f j
 | j + 1, hij, hj => by
  have := h.2 j hj
  rcases Nat.lt_or_ge i j with c | c
  ·have := h.lt c (by omega); omega
  ·have : i = j := by omega
   subst this; omega
noncomputable def sgB (n : Nat) (r : Nat → List UInt8) (P : Nat → Nat → Int) (f : Nat → Int) (j : Nat) (g : Nat → Bool) : Block := (hG n r (fun k => ringN (P k) n) f j, sgJ (hG n r (fun k => ringN (P k) n) f j) ((List.range n).filter g), preS (fun k => ringN (P k) n) j, ringN (P j) n, ())
def pB (P : Nat → Nat → Int) (j : Nat) : Nat → Int := if j = 0 then P 0 else P (j - 1)
theorem pB_ok {P : Nat → Nat → Int} (hP : ∀ j, PwOk (P j)) (j : Nat) : PwOk (pB P j) := by
 unfold pB; split <;> exact hP _
theorem sgB_ok {n : Nat} (hn : n ≤ 4) {r : Nat → List UInt8} (P : Nat → Nat → Int) (f : Nat → Int) {j : Nat} (hj : j < 16) (hr : (r j).length = 32) (g : Nat → Bool) : BlkOk (sgB n r P f j g) := by
 have hl : ∀ p, (ringN p n).length = n := fun p => by simp [ringN]
 have h1 := hG_1 n r (fun k => ringN (P k) n) f j
 refine ⟨hG_hashes n _ f hr, sgJ_ok _ (by omega) (by omega) _, ?_, ?_, ringN_key _ n, ?_, ?_⟩
 ·show (sgJ _ _).length ≤ 1000000
  have := filt_len g n
  rw [sgJ_len]; omega
 ·show KeyOk (preS (fun k => ringN (P k) n) j)
  rw [preR]; exact ringN_key _ n
 ·show (preS (fun k => ringN (P k) n) j).length ≤ 1000000
  rw [preR, hl]; omega
 ·show (ringN (P j) n).length ≤ 1000000
  rw [hl]; omega
theorem whole_sgB {n : Nat} (h1 : 1 ≤ n) (hn : n ≤ 4) {r : Nat → List UInt8} {P : Nat → Nat → Int} (hP : ∀ j, PwOk (P j)) {f : Nat → Int} {j : Nat} (hj : j < 16) (q1 : 0 ≤ f j) (q2 : f j ≤ 1073741824) (g : Nat → Bool) : wholeS (sgB n r P f j g) = true := by
 have hfl := filt_len g n
 unfold wholeS sgB
 dsimp only
 rw [hG_right hj q1 q2, preR, ringN_right (show PwOk (if j = 0 then P 0 else P (j - 1)) from pB_ok hP j) h1 hn, ringN_right (hP j) h1 hn, hG_vals, preR, hG_next]
 show (true && (true && (true && (decide ((sgJ _ _).length ≤ 5) && (eqH (setH _) (setH _) && eqH (setH _) (setH _)))))) = true
 rw [decide_eq_true (by rw [sgJ_len]; omega), show ∀ s, eqH (setH s) (setH s) = true from fun s => beq_hash _, show ∀ s, eqH (setH s) (setH s) = true from fun s => beq_hash _]
 rfl
theorem upd_sgB {n : Nat} (h1 : 1 ≤ n) (hn : n ≤ 4) {r : Nat → List UInt8} {P : Nat → Nat → Int} (hP : ∀ j, PwOk (P j)) {m : Nat} (hm : m ≤ 16) {f : Nat → Int} (hf : RiseG m f) {i j : Nat} (hij : i < j) (hj : j < m) {T : Int} {c : Cli}
  (hc : Knows (ringN (P i) n) T (hG n r (fun k => ringN (P k) n) f i) c) (now : Int) (g : Nat → Bool) (q2 : ¬ T < now - f i) (q3 : ¬ now < f j) :
  updS (sgB n r P f j g) now c = if ¬ pwJ (pB P j) (List.range n) * 2 < pwJ (pB P j) ((List.range n).filter g) * 3 then (9, c) else if j ≠ i + 1 ∧ ¬ pwJ (P i) (List.range n) * 1 < pwJ (P i) ((List.range n).filter g) * 3 then (9, c) else (0, (cut6 (c.1 ++ [hG n r (fun k => ringN (P k) n) f j]), ringN (P j) n, T, false, ())) := by
 obtain ⟨c1, c2, c3, c4, c5, c6⟩ := hc
 have fj := hf.1 j hj
 have fi := hf.1 i (by omega)
 have hlt := hf.lt hij hj
 have e1 := hG_1 n r (fun k => ringN (P k) n) f j
 have e2 := hG_1 n r (fun k => ringN (P k) n) f i
 have ea : ∀ p, enS (ringN p n) (hG n r (fun k => ringN (P k) n) f j) (sgJ (hG n r (fun k => ringN (P k) n) f j) ((List.range n).filter g)) = decide (pwJ p (List.range n) * 2 < pwJ p ((List.range n).filter g) * 3) := fun p => by
  unfold enS
  rw [part_ring p hn _ (by omega) (by omega), all_ringN]
 have es : ∀ p, soS (ringN p n) (hG n r (fun k => ringN (P k) n) f j) (sgJ (hG n r (fun k => ringN (P k) n) f j) ((List.range n).filter g)) = decide (pwJ p (List.range n) * 1 < pwJ p ((List.range n).filter g) * 3) := fun p => by
  unfold soS
  rw [part_ring p hn _ (by omega) (by omega), all_ringN]
 unfold updS
 rw [if_neg (by rw [c6]; simp), whole_sgB h1 hn hP (by omega) fj.1 (by omega) g, if_neg (by simp), c3, e2, hG_t, hG_next]
 show (if (hG n r (fun k => ringN (P k) n) f j).1 ≤ _ then _ else if (hG n r (fun k => ringN (P k) n) f j).2.1 ≤ _ then _ else _) = _
 rw [e1, hG_t, if_neg (by omega), if_neg (by omega), c5, if_neg q2]
 show (if now < (hG n r (fun k => ringN (P k) n) f j).2.1 then _ else if (hG n r (fun k => ringN (P k) n) f j).1 = _ ∧ eqH (hG n r (fun k => ringN (P k) n) f j).2.2.2.1 _ = false then _ else if enS (preS (fun k => ringN (P k) n) j) (hG n r (fun k => ringN (P k) n) f j) (sgJ (hG n r (fun k => ringN (P k) n) f j) ((List.range n).filter g)) = false then _ else if (hG n r (fun k => ringN (P k) n) f j).1 ≠ _ ∧ soS c.2.1 (hG n r (fun k => ringN (P k) n) f j) (sgJ (hG n r (fun k => ringN (P k) n) f j) ((List.range n).filter g)) = false then _ else (0, (cut6 (c.1 ++ [hG n r (fun k => ringN (P k) n) f j]), ringN (P j) n, T, c.2.2.2.1, ()))) = _
 rw [hG_t, if_neg q3, hG_vals, e1, preR, ea, c4, es, c6]
 have hv : ¬ ((j : Int) + 1 = (i : Int) + 1 + 1 ∧ eqH (setH (ringN (if j = 0 then P 0 else P (j - 1)) n)) (setH (ringN (P i) n)) = false) := by
  rintro ⟨a, b⟩
  rw [if_neg (by omega), show j - 1 = i from by omega, show eqH (setH (ringN (P i) n)) (setH (ringN (P i) n)) = true from beq_hash _] at b
  cases b
 rw [if_neg hv]
 show (if decide (pwJ (pB P j) (List.range n) * 2 < pwJ (pB P j) ((List.range n).filter g) * 3) = false then _ else _) = _
 by_cases k1 : pwJ (pB P j) (List.range n) * 2 < pwJ (pB P j) ((List.range n).filter g) * 3
 ·have n1 : ¬ ¬ pwJ (pB P j) (List.range n) * 2 < pwJ (pB P j) ((List.range n).filter g) * 3 := fun q => q k1
  rw [decide_eq_true k1, if_neg (show ¬ (true = false) by simp), if_neg n1]
  by_cases k2 : j ≠ i + 1 ∧ ¬ pwJ (P i) (List.range n) * 1 < pwJ (P i) ((List.range n).filter g) * 3
  ·have m2 : (j : Int) + 1 ≠ (i : Int) + 1 + 1 ∧ decide (pwJ (P i) (List.range n) * 1 < pwJ (P i) ((List.range n).filter g) * 3) = false := ⟨by omega, decide_eq_false k2.2⟩
   rw [if_pos k2, if_pos m2]
  ·have m2 : ¬ ((j : Int) + 1 ≠ (i : Int) + 1 + 1 ∧ decide (pwJ (P i) (List.range n) * 1 < pwJ (P i) ((List.range n).filter g) * 3) = false) := by
    rintro ⟨a, b⟩
    exact k2 ⟨by omega, of_decide_eq_false b⟩
   rw [if_neg k2, if_neg m2]
 ·rw [decide_eq_false k1, if_pos (show (false = false) from rfl), if_pos k1]
theorem cli_ok {n : Nat} (hn : n ≤ 4) {r : Nat → List UInt8} {P : Nat → Nat → Int} (hP : ∀ j, PwOk (P j)) {m : Nat} (hm : m ≤ 16) {f : Nat → Int} (hf : RiseG m f) {i : Nat} (hi : i < m) {T : Int} {c : Cli} (hc : Knows (ringN (P i) n) T (hG n r (fun k => ringN (P k) n) f i) c) : CliOk c := by
 obtain ⟨c1, c2, c3, c4, _, _⟩ := hc
 have := hf.1 i hi
 refine ⟨c1, by omega, by rw [c4]; exact ringN_smallV (hP i) hn, ?_, ?_⟩
 ·rw [c3, hG_1]; omega
 ·rw [c3, hG_t]; omega
theorem new_gen {n : Nat} (h1 : 1 ≤ n) (hn : n ≤ 4) {r : Nat → List UInt8} {P : Nat → Nat → Int} (hP : ∀ j, PwOk (P j)) {m : Nat} (hm : m ≤ 16) {f : Nat → Int} (hf : RiseG m f) {T : Int} (hT : 0 ≤ T ∧ T ≤ 1073741824) {j : Nat} (hj : j < m) :
  q2v (hG n r (fun k => ringN (P k) n) f j) (ringN (P j) n) T = some (.inr (0, ([hG n r (fun k => ringN (P k) n) f j], ringN (P j) n, T, false, ()))) := by
 have hl : (ringN (P j) n).length = n := by simp [ringN]
 have fj := hf.1 j hj
 rw [new_eq _ _ _ (ringN_key _ n) (by omega)]
 unfold newS
 rw [if_pos ⟨hG_right (by omega) fj.1 (by omega), ringN_right (hP j) h1 hn, by rw [hG_next]; exact beq_hash _, hT.1, hT.2⟩]
def updP (p : Nat → Int) (j : Nat) (a : Int) : Nat → Int := fun k => if k = j then a else p k
theorem updP_ok {p : Nat → Int} (h : PwOk p) {j : Nat} {a : Int} (h1 : 1 ≤ a) (h2 : a ≤ 1000000) : PwOk (updP p j a) := fun i => by
 unfold updP
 split
 ·omega
 ·exact h i
theorem ringN_upd (p : Nat → Int) {n j : Nat} (hj : j < n) (a : Int) : List.set (ringN p n) j (((ringN p n).getD j zVal).1, a, ((ringN p n).getD j zVal).2.2.1, ()) = ringN (updP p j a) n := by
 have hg : (ringN p n).getD j zVal = mkRing p j := getD_rng _ _ hj
 rw [hg]
 apply List.ext_getElem
 ·simp [ringN]
 ·intro i h1 h2
  rw [List.getElem_set]
  simp only [ringN, List.getElem_map, List.getElem_range]
  unfold mkRing updP
  by_cases e : j = i
  ·subst e; rw [if_pos rfl, if_pos rfl]
  ·rw [if_neg e, if_neg (Ne.symm e)]
theorem ringN_out (p : Nat → Int) {n j : Nat} (hj : n ≤ j) (a : Int) : ringN (updP p j a) n = ringN p n := by
 apply List.ext_getElem
 ·simp [ringN]
 ·intro i h1 h2
  have hi : i < n := by simpa [ringN] using h2
  simp only [ringN, List.getElem_map, List.getElem_range]
  unfold mkRing updP
  rw [if_neg (by omega)]
theorem do_step (x0 : List Val) (x1 : Int) (x2 : Int) (x3 : List (List UInt8 × List UInt8 × Unit)) (x4 : List Val) (x5 : List Block) (x6 : Rows) (x7 : Unit) (x8 : List (List UInt8)) (x9 : List (List (List UInt8))) (x10 : List (List UInt8)) (x11 : Int × List UInt8 × List UInt8 × Int × Int × Unit) : qi_1_step x0 x1 x2 x3 x4 x5 x6 x7 x8 x9 x10 x11 =
  (fork (decide (x2 < x1)) (need (0 ≤ x2 ∧ x2 < (List.length x0 : Int)) (fork (decide ((List.getD x0 (Int.toNat x2) zVal).1 = x11.2.1)) (need (List.length ([] : List Val) + List.length x4 ≤ 2147483648) (need (0 ≤ x2 ∧ x2 < (List.length (([] : List Val) ++ x4) : Int)) (some (.inr (.inl ((0 : Int), x3, x5, x6, x7, x8, x9, x10, (List.set (([] : List Val) ++ x4) (Int.toNat x2) ((List.getD (([] : List Val) ++ x4) (Int.toNat x2) zVal).1, x11.2.2.2.1, (List.getD (([] : List Val) ++ x4) (Int.toNat x2) zVal).2.2.1, ())))))))) (some (.inl (w64 (x2 + (1 : Int))))))) (some (.inr (.inr (x3, x4, x5, x6, x7, x8, x9, x10)))) : Option ((Int) ⊕ ((Int × (List (List UInt8 × List UInt8 × Unit)) × (List Block) × (Rows) × Unit × List (List UInt8) × List (List (List UInt8)) × List (List UInt8) × List Val) ⊕ ((List (List UInt8 × List UInt8 × Unit)) × (List Val) × (List Block) × (Rows) × Unit × List (List UInt8) × List (List (List UInt8)) × List (List UInt8))))) := rfl
theorem do_text (a0 : Int × List UInt8 × List UInt8 × Int × Int × Unit) (a1 : List (List UInt8 × List UInt8 × Unit)) (a2 : List Val) (a3 : List Block) (a4 : Rows) (a5 : Unit) (a6 : List (List UInt8)) (a7 : List (List (List UInt8))) (a8 : List (List UInt8)) : qi a0 a1 a2 a3 a4 a5 a6 a7 a8 =
  (fork (decide (a0.1 = (1 : Int))) (andThen (qw (a0.2.1, a0.2.2.1, ())) (fun u2 => fork (!u2) (some ((1 : Int), a1, a2, a3, a4, a5, a6, a7, a8)) (andThen (q13 a0.2.1) (fun u5 => fork u5 (some ((1 : Int), a1, a2, a3, a4, a5, a6, a7, a8)) (andThen (q24 a1 (a0.2.1, a0.2.2.1, ())) (fun u8 => fork (decide ((30 : Int) < (List.length u8 : Int))) (some ((7 : Int), a1, a2, a3, a4, a5, a6, a7, a8)) (some ((0 : Int), u8, a2, a3, a4, a5, a6, a7, a8)))))))) (fork (decide (a0.1 = (2 : Int))) (andThen (q13 a0.2.1) (fun u12 => fork u12 (some ((1 : Int), a1, a2, a3, a4, a5, a6, a7, a8)) (andThen (q25 a1 a0.2.1) (fun u15 => some ((0 : Int), u15, a2, a3, a4, a5, a6, a7, a8))))) (fork (decide (a0.1 = (3 : Int))) (andThen (q1b a1 (w64 ((w64 (a0.1 - (3 : Int))) + (1 : Int))) a0.2.1 a0.2.2.2.1 a0.2.2.2.2.1) (fun u18 => some (u18.2, u18.1, a2, a3, a4, a5, a6, a7, a8))) (fork (decide (a0.1 = (4 : Int))) (andThen (q1b a1 (w64 ((w64 (a0.1 - (3 : Int))) + (1 : Int))) a0.2.1 a0.2.2.2.1 a0.2.2.2.2.1) (fun u21 => some (u21.2, u21.1, a2, a3, a4, a5, a6, a7, a8))) (fork (decide (a0.1 = (5 : Int))) (andThen (q1b a1 (w64 ((w64 (a0.1 - (3 : Int))) + (1 : Int))) a0.2.1 a0.2.2.2.1 a0.2.2.2.2.1) (fun u24 => some (u24.2, u24.1, a2, a3, a4, a5, a6, a7, a8))) (fork (decide (a0.1 = (6 : Int))) (fork (decide (a0.2.2.2.1 < (1 : Int))) (some ((1 : Int), a1, a2, a3, a4, a5, a6, a7, a8)) (fork (decide ((1048576 : Int) < a0.2.2.2.1)) (some ((1 : Int), a1, a2, a3, a4, a5, a6, a7, a8)) (andThen (qi_1 a2 (List.length a2 : Int) (0 : Int) a1 a2 a3 a4 a5 a6 a7 a8 a0) (fun o35 => (match o35 with | .inl o37 => some (o37.1, o37.2.1, o37.2.2.2.2.2.2.2.2, o37.2.2.1, o37.2.2.2.1, o37.2.2.2.2.1, o37.2.2.2.2.2.1, o37.2.2.2.2.2.2.1, o37.2.2.2.2.2.2.2.1) | .inr o38 => some ((3 : Int), o38.1, o38.2.1, o38.2.2.1, o38.2.2.2.1, o38.2.2.2.2.1, o38.2.2.2.2.2.1, o38.2.2.2.2.2.2.1, o38.2.2.2.2.2.2.2)))))) (some ((1 : Int), a1, a2, a3, a4, a5, a6, a7, a8))))))) : Option (Int × (List (List UInt8 × List UInt8 × Unit)) × (List Val) × (List Block) × (Rows) × Unit × List (List UInt8) × List (List (List UInt8)) × List (List UInt8))) := rfl
theorem nm_one : ∀ i, i < 4 → ∀ j, j < 4 → nm i = nm j → i = j := by decide
theorem do6_eq (p : Nat → Int) {n : Nat} (hn : n ≤ 4) {j : Nat} (hj : j < 4) (t : Int × List UInt8 × List UInt8 × Int × Int × Unit) (h1 : t.1 = 6) (h2 : t.2.1 = nm j) (N : List PrR) (B : List Block) (R : Rows) (se : List (List UInt8)) (ri : List (List (List UInt8))) (na : List (List UInt8)) :
  qi t N (ringN p n) B R () se ri na = some (if t.2.2.2.1 < 1 ∨ 1048576 < t.2.2.2.1 then (1, N, ringN p n, B, R, (), se, ri, na) else if j < n then (0, N, ringN (updP p j t.2.2.2.1) n, B, R, (), se, ri, na) else (3, N, ringN p n, B, R, (), se, ri, na)) := by
 have hl : (ringN p n).length = n := by simp [ringN]
 rw [do_text, h1, fork_f (by decide), fork_f (by decide), fork_f (by decide), fork_f (by decide), fork_f (by decide), fork_t rfl]
 by_cases a1 : t.2.2.2.1 < 1
 ·rw [fork_t a1, if_pos (.inl a1)]
 rw [fork_f a1]
 by_cases a2 : 1048576 < t.2.2.2.1
 ·rw [fork_t a2, if_pos (.inr a2)]
 rw [fork_f a2, if_neg (by omega)]
 have m : qi_1 (ringN p n) ((ringN p n).length : Int) 0 N (ringN p n) B R () se ri na t = some (scan (fun i => if i = j then some (.inl (0, N, B, R, (), se, ri, na, ringN (updP p j t.2.2.2.1) n)) else none) (.inr (N, ringN p n, B, R, (), se, ri, na)) 0 n) := by
  rw [hl]
  unfold qi_1
  have hg : ∀ i, i < n → ((ringN p n).getD i zVal).1 = nm i := fun i hi => by rw [show (ringN p n).getD i zVal = mkRing p i from getD_rng _ _ hi]; rfl
  refine loop_scan (step := fun (s : Int) => qi_1_step (ringN p n) (n : Int) s N (ringN p n) B R () se ri na t) (fun i => (i : Int)) _ _ n (fun i hi h => ?_) (fun i x hi h => ?_) ?_ n 0 (by omega)
  ·rw [do_step, fork_t (by omega), need_true (by omega), Int.toNat_natCast, hg i hi, h2, w64_eq (by omega) (by omega)]
   by_cases e : i = j
   ·rw [if_pos e] at h; cases h
   ·rw [fork_f (fun q => e (nm_one i (by omega) j hj q))]; rfl
  ·rw [do_step, fork_t (by omega), need_true (by omega), Int.toNat_natCast, hg i hi, h2]
   by_cases e : i = j
   ·rw [if_pos e] at h; injection h with h; subst h; subst e
    rw [fork_t rfl, need_true (by rw [List.length_nil]; omega), need_true (by rw [List.nil_append]; omega), List.nil_append, ringN_upd p hi]
   ·rw [if_neg e] at h; cases h
  ·rw [do_step, fork_f (by omega)]
 rw [m, andThen_mk]
 by_cases c : j < n
 ·rw [scan_some (bad := fun i => if i = j then some (Sum.inl (0, N, B, R, (), se, ri, na, ringN (updP p j t.2.2.2.1) n)) else none) n 0 j (Nat.zero_le _) (by omega) (fun j' _ h => if_neg (by omega)) (if_pos rfl), if_pos c]
 ·rw [scan_none (bad := fun i => if i = j then some (Sum.inl (0, N, B, R, (), se, ri, na, ringN (updP p j t.2.2.2.1) n)) else none) n 0 (fun j' _ h => if_neg (by omega)), if_neg c]
end Go.Ax.V
