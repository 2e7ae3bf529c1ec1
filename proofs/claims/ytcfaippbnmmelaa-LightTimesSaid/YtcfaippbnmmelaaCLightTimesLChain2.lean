/-
  The chain's first and second block, as they are made before the chain's lists are told by value.
-/
import Derived.Test.YtcfaippbnmmelaaCLightTimesLChain
namespace Go.Ax.V
open Go.Ax
set_option linter.unusedVariables false
set_option linter.unusedSimpArgs false
theorem cmA (n : Nat) (hn : n ≤ 4) (k : Int)  (S : List Val) (h : Hdr) (nx : List Val) (hk : w64 (k + 1) = h.1) (h1 : 1 ≤ h.1) (h2 : h.1 ≤ 16) :
  affiantref10_Chain_Commit_3133_1 k (n : Int) 0 () (seedsN n) (ringsN n) (namesN n) S h () [] nx (textS h) = some (k, (), seedsN n, ringsN n, namesN n, S, h, (), sgJ h (List.range n), nx) := by
 have e1 : (seedsN n).length = n := rng_len _ _
 have e2 : (ringsN n).length = n := rng_len _ _
 have e3 : (namesN n).length = n := rng_len _ _
 unfold affiantref10_Chain_Commit_3133_1
 have := loop_for (step := fun (t : Int × List Signed) => affiantref10_Chain_Commit_3133_1_step k (n : Int) t.1 () (seedsN n) (ringsN n) (namesN n) S h () t.2 nx (textS h)) (fun i (_ : Unit) => ((i : Int), sgJ h (List.range i))) (fun _ _ => ()) (fun _ => (k, (), seedsN n, ringsN n, namesN n, S, h, (), sgJ h (List.range n), nx)) n (fun _ _ => True) (fun i w hi _ => ⟨?_, trivial⟩) (fun w _ => ?_) n 0 () (by omega) trivial
 ·exact this
 ·show affiantref10_Chain_Commit_3133_1_step k (n : Int) (i : Int) () (seedsN n) (ringsN n) (namesN n) S h () (sgJ h (List.range i)) nx (textS h) = _
  unfold affiantref10_Chain_Commit_3133_1_step
  have g1 : (seedsN n).getD i (List.replicate 32 (0 : UInt8)) = seedK i := getD_rng _ _ hi
  have g2 : (ringsN n).getD i [] = keysS (seedK i) := getD_rng _ _ hi
  have g3 : (namesN n).getD i [] = nm i := getD_rng _ _ hi
  rw [fork_t (by omega), need_true (by omega), need_true (by omega), need_true (by omega), Int.toNat_natCast, g1, g2, g3, hk, rBy_eq _ (by rw [keysS_len]; omega) (keysS_small _) _ _ (seedK_len i) _ h1 h2 (by rw [textS_len]; omega), andThen_mk, need_true (by rw [sgJ_len, List.length_range]; simp only [List.length_cons, List.length_nil]; omega), w64_eq (n := (i : Int) + 1) (by omega) (by omega), sgJ_next]
  rfl
 ·show affiantref10_Chain_Commit_3133_1_step k (n : Int) (n : Int) () (seedsN n) (ringsN n) (namesN n) S h () (sgJ h (List.range n)) nx (textS h) = _
  unfold affiantref10_Chain_Commit_3133_1_step
  rw [fork_f (by omega)]
theorem cmB (n : Nat) (hn : n ≤ 4) (k : Int) (B : List Block) (R : Rows) (ps : List Val) (S : List Val) (h : Hdr) (nx : List Val) (hk : w64 (k + 1) = h.1) (h1 : 1 ≤ h.1) (h2 : h.1 ≤ 16) :
  affiantref10_Chain_Commit_7324_1 k (n : Int) 0 () (seedsN n) (ringsN n) (namesN n) S B R h ps () [] nx (textS h) = some (k, (), seedsN n, ringsN n, namesN n, S, B, R, h, ps, (), sgJ h (List.range n), nx) := by
 have e1 : (seedsN n).length = n := rng_len _ _
 have e2 : (ringsN n).length = n := rng_len _ _
 have e3 : (namesN n).length = n := rng_len _ _
 unfold affiantref10_Chain_Commit_7324_1
 have := loop_for (step := fun (t : Int × List Signed) => affiantref10_Chain_Commit_7324_1_step k (n : Int) t.1 () (seedsN n) (ringsN n) (namesN n) S B R h ps () t.2 nx (textS h)) (fun i (_ : Unit) => ((i : Int), sgJ h (List.range i))) (fun _ _ => ()) (fun _ => (k, (), seedsN n, ringsN n, namesN n, S, B, R, h, ps, (), sgJ h (List.range n), nx)) n (fun _ _ => True) (fun i w hi _ => ⟨?_, trivial⟩) (fun w _ => ?_) n 0 () (by omega) trivial
 ·exact this
 ·show affiantref10_Chain_Commit_7324_1_step k (n : Int) (i : Int) () (seedsN n) (ringsN n) (namesN n) S B R h ps () (sgJ h (List.range i)) nx (textS h) = _
  unfold affiantref10_Chain_Commit_7324_1_step
  have g1 : (seedsN n).getD i (List.replicate 32 (0 : UInt8)) = seedK i := getD_rng _ _ hi
  have g2 : (ringsN n).getD i [] = keysS (seedK i) := getD_rng _ _ hi
  have g3 : (namesN n).getD i [] = nm i := getD_rng _ _ hi
  rw [fork_t (by omega), need_true (by omega), need_true (by omega), need_true (by omega), Int.toNat_natCast, g1, g2, g3, hk, rBy_eq _ (by rw [keysS_len]; omega) (keysS_small _) _ _ (seedK_len i) _ h1 h2 (by rw [textS_len]; omega), andThen_mk, need_true (by rw [sgJ_len, List.length_range]; simp only [List.length_cons, List.length_nil]; omega), w64_eq (n := (i : Int) + 1) (by omega) (by omega), sgJ_next]
  rfl
 ·show affiantref10_Chain_Commit_7324_1_step k (n : Int) (n : Int) () (seedsN n) (ringsN n) (namesN n) S B R h ps () (sgJ h (List.range n)) nx (textS h) = _
  unfold affiantref10_Chain_Commit_7324_1_step
  rw [fork_f (by omega)]
theorem commitA_text (a0 : Int) (a1 : Unit) (a2 : List (List UInt8)) (a3 : List (List (List UInt8))) (a4 : List (List UInt8)) (a5 : List Val) : affiantref10_Chain_Commit_3133 a0 a1 a2 a3 a4 a5 =
  (fork (decide (a0 < (0 : Int))) (some ((0 : Int), a1, a2, a3, a4, a5, ([] : List Block), ([] : Rows))) (fork (decide ((1073741824 : Int) < a0)) (some ((0 : Int), a1, a2, a3, a4, a5, ([] : List Block), ([] : Rows))) (need (List.length ([] : List Val) + List.length a5 ≤ 2147483648) (andThen (affiantref1_StoreRoot ([] : List (List UInt8 × List UInt8 × Unit))) (fun u4 => andThen (affiantref10_SetHash (([] : List Val) ++ a5)) (fun u6 => andThen (affiantref10_SetHash (([] : List Val) ++ a5)) (fun u8 => andThen (affiantref10_HeaderHash ((1 : Int), a0, u4, u6, u8, (List.replicate 32 (0 : UInt8)), ())) (fun u10 => andThen (affiantref10_Chain_Commit_3133_1 (0 : Int) (List.length a2 : Int) (0 : Int) a1 a2 a3 a4 a5 ((1 : Int), a0, u4, u6, u8, (List.replicate 32 (0 : UInt8)), ()) (()) ([] : List Signed) (([] : List Val) ++ a5) u10) (fun o20 => need (List.length ([] : List Block) + List.length ([] : List Block) ≤ 2147483648) (need (List.length (([] : List Block) ++ ([] : List Block)) + List.length ([(o20.2.2.2.2.2.2.1, o20.2.2.2.2.2.2.2.2.1, o20.2.2.2.2.2.2.2.2.2, o20.2.2.2.2.2.2.2.2.2, ())] : List Block) ≤ 2147483648) (need (List.length ([] : Rows) + List.length ([] : Rows) ≤ 2147483648) (need (List.length (([] : Rows) ++ ([] : Rows)) + List.length ([([] : List (List UInt8 × List UInt8 × Unit))] : Rows) ≤ 2147483648) (some ((w64 (o20.1 + (1 : Int))), o20.2.1, o20.2.2.1, o20.2.2.2.1, o20.2.2.2.2.1, o20.2.2.2.2.2.1, ((([] : List Block) ++ ([] : List Block)) ++ ([(o20.2.2.2.2.2.2.1, o20.2.2.2.2.2.2.2.2.1, o20.2.2.2.2.2.2.2.2.2, o20.2.2.2.2.2.2.2.2.2, ())] : List Block)), ((([] : Rows) ++ ([] : Rows)) ++ ([([] : List (List UInt8 × List UInt8 × Unit))] : Rows))))))))))))))) : Option (Int × Unit × List (List UInt8) × List (List (List UInt8)) × List (List UInt8) × (List Val) × (List Block) × Rows)) := rfl
theorem commitB_text (a0 : Int) (a1 : Unit) (a2 : List (List UInt8)) (a3 : List (List (List UInt8))) (a4 : List (List UInt8)) (a5 : List Val) (a6 : List Block) (a7 : Rows) : affiantref10_Chain_Commit_7324 a0 a1 a2 a3 a4 a5 a6 a7 =
  (fork (decide ((16 : Int) ≤ (List.length a6 : Int))) (some ((0 : Int), a6, a7, a1, a2, a3, a4, a5, a6, a7)) (fork (decide (a0 < (0 : Int))) (some ((0 : Int), a6, a7, a1, a2, a3, a4, a5, a6, a7)) (fork (decide ((1073741824 : Int) < a0)) (some ((0 : Int), a6, a7, a1, a2, a3, a4, a5, a6, a7)) (fork (decide ((0 : Int) < (List.length a6 : Int))) (need (0 ≤ (w64 ((List.length a6 : Int) - (1 : Int))) ∧ (w64 ((List.length a6 : Int) - (1 : Int))) < (List.length a6 : Int)) (fork (decide (a0 ≤ (List.getD a6 (Int.toNat (w64 ((List.length a6 : Int) - (1 : Int)))) zBlk).1.2.1)) (some ((0 : Int), a6, a7, a1, a2, a3, a4, a5, a6, a7)) (need (List.length ([] : List Val) + List.length a5 ≤ 2147483648) (andThen (affiantref1_StoreRoot ([] : List (List UInt8 × List UInt8 × Unit))) (fun u8 => andThen (affiantref10_HeaderHash ((List.getD a6 (Int.toNat (w64 ((List.length a6 : Int) - (1 : Int)))) zBlk).1)) (fun u10 => andThen (affiantref10_SetHash ((List.getD a6 (Int.toNat (w64 ((List.length a6 : Int) - (1 : Int)))) zBlk).2.2.2.1)) (fun u12 => andThen (affiantref10_SetHash (([] : List Val) ++ a5)) (fun u14 => andThen (affiantref10_HeaderHash ((w64 ((List.length a6 : Int) + (1 : Int))), a0, u8, u12, u14, u10, ())) (fun u16 => andThen (affiantref10_Chain_Commit_7324_1 (List.length a6 : Int) (List.length a2 : Int) (0 : Int) a1 a2 a3 a4 a5 a6 a7 ((w64 ((List.length a6 : Int) + (1 : Int))), a0, u8, u12, u14, u10, ()) (List.getD a6 (Int.toNat (w64 ((List.length a6 : Int) - (1 : Int)))) zBlk).2.2.2.1 (()) ([] : List Signed) (([] : List Val) ++ a5) u16) (fun o26 => need (List.length ([] : List Block) + List.length o26.2.2.2.2.2.2.1 ≤ 2147483648) (need (List.length (([] : List Block) ++ o26.2.2.2.2.2.2.1) + List.length ([(o26.2.2.2.2.2.2.2.2.1, o26.2.2.2.2.2.2.2.2.2.2.2.1, o26.2.2.2.2.2.2.2.2.2.1, o26.2.2.2.2.2.2.2.2.2.2.2.2, ())] : List Block) ≤ 2147483648) (need (List.length ([] : Rows) + List.length o26.2.2.2.2.2.2.2.1 ≤ 2147483648) (need (List.length (([] : Rows) ++ o26.2.2.2.2.2.2.2.1) + List.length ([([] : List (List UInt8 × List UInt8 × Unit))] : Rows) ≤ 2147483648) (some ((w64 (o26.1 + (1 : Int))), ((([] : List Block) ++ o26.2.2.2.2.2.2.1) ++ ([(o26.2.2.2.2.2.2.2.2.1, o26.2.2.2.2.2.2.2.2.2.2.2.1, o26.2.2.2.2.2.2.2.2.2.1, o26.2.2.2.2.2.2.2.2.2.2.2.2, ())] : List Block)), ((([] : Rows) ++ o26.2.2.2.2.2.2.2.1) ++ ([([] : List (List UInt8 × List UInt8 × Unit))] : Rows)), o26.2.1, o26.2.2.1, o26.2.2.2.1, o26.2.2.2.2.1, o26.2.2.2.2.2.1, o26.2.2.2.2.2.2.1, o26.2.2.2.2.2.2.2.1))))))))))))))) (need (List.length ([] : List Val) + List.length a5 ≤ 2147483648) (andThen (affiantref1_StoreRoot ([] : List (List UInt8 × List UInt8 × Unit))) (fun u33 => andThen (affiantref10_SetHash (([] : List Val) ++ a5)) (fun u35 => andThen (affiantref10_SetHash (([] : List Val) ++ a5)) (fun u37 => andThen (affiantref10_HeaderHash ((w64 ((List.length a6 : Int) + (1 : Int))), a0, u33, u35, u37, (List.replicate 32 (0 : UInt8)), ())) (fun u39 => andThen (affiantref10_Chain_Commit_7324_2 (List.length a6 : Int) (List.length a2 : Int) (0 : Int) a1 a2 a3 a4 a5 a6 a7 ((w64 ((List.length a6 : Int) + (1 : Int))), a0, u33, u35, u37, (List.replicate 32 (0 : UInt8)), ()) (()) ([] : List Signed) (([] : List Val) ++ a5) u39) (fun o49 => need (List.length ([] : List Block) + List.length o49.2.2.2.2.2.2.1 ≤ 2147483648) (need (List.length (([] : List Block) ++ o49.2.2.2.2.2.2.1) + List.length ([(o49.2.2.2.2.2.2.2.2.1, o49.2.2.2.2.2.2.2.2.2.2.1, o49.2.2.2.2.2.2.2.2.2.2.2, o49.2.2.2.2.2.2.2.2.2.2.2, ())] : List Block) ≤ 2147483648) (need (List.length ([] : Rows) + List.length o49.2.2.2.2.2.2.2.1 ≤ 2147483648) (need (List.length (([] : Rows) ++ o49.2.2.2.2.2.2.2.1) + List.length ([([] : List (List UInt8 × List UInt8 × Unit))] : Rows) ≤ 2147483648) (some ((w64 (o49.1 + (1 : Int))), ((([] : List Block) ++ o49.2.2.2.2.2.2.1) ++ ([(o49.2.2.2.2.2.2.2.2.1, o49.2.2.2.2.2.2.2.2.2.2.1, o49.2.2.2.2.2.2.2.2.2.2.2, o49.2.2.2.2.2.2.2.2.2.2.2, ())] : List Block)), ((([] : Rows) ++ o49.2.2.2.2.2.2.2.1) ++ ([([] : List (List UInt8 × List UInt8 × Unit))] : Rows)), o49.2.1, o49.2.2.1, o49.2.2.2.1, o49.2.2.2.2.1, o49.2.2.2.2.2.1, o49.2.2.2.2.2.2.1, o49.2.2.2.2.2.2.2.1))))))))))))))) : Option (Int × (List Block) × (Rows) × Unit × List (List UInt8) × List (List (List UInt8)) × List (List UInt8) × (List Val) × (List Block) × Rows)) := rfl
theorem commitA_eq (n : Nat) (hn : n ≤ 4) (t : Int) (S : List Val) (h1 : 0 ≤ t) (h2 : t ≤ 1073741824) (hS : SetSm S) :
  affiantref10_Chain_Commit_3133 t () (seedsN n) (ringsN n) (namesN n) S = some (1, (), seedsN n, ringsN n, namesN n, S, [blkS n S [] t], [[]]) := by
 have e1 : (seedsN n).length = n := rng_len _ _
 have hSl := hS.1
 have hnil : ([] : List Val) ++ S = S := rfl
 have hr := hdS_right (S := S) (B := []) (by simp) h1 h2
 have hh := hdS_hashes S [] t
 have hd1 := hdS_1 S [] t
 have hd1 : (hdS S [] t).1 = 1 := hd1
 rw [commitA_text, fork_f (by omega), fork_f (by omega), need_true (by simp only [List.length_nil]; omega), storeRoot_nil, andThen_mk, hnil, rsetHash_eq S hS, andThen_mk, andThen_mk]
 have hh0 : ((1 : Int), t, root0, setH S, setH S, List.replicate 32 (0 : UInt8), ()) = hdS S [] t := by
  unfold hdS; rw [if_pos (show ([] : List Block).length = 0 from rfl)]
 rw [hh0, rheadHash_eq _ hh, andThen_mk, ← text_body hr, e1, cmA n hn 0 S _ S (by rw [w64_eq (by omega) (by omega), hd1]; rfl) (by omega) (by omega), andThen_mk]
 simp only
 rw [need_true (by simp only [List.length_nil]; omega), need_true (by simp only [List.nil_append, List.length_cons, List.length_nil]; omega), need_true (by simp only [List.length_nil]; omega), need_true (by simp only [List.nil_append, List.length_cons, List.length_nil]; omega), w64_eq (by omega) (by omega)]
 rfl
theorem commitB_eq (n : Nat) (hn : n ≤ 4) (t : Int) (B : List Block) (R : Rows) (S : List Val) (hb0 : B.length ≠ 0) (hb : B.length < 16) (hR : R.length ≤ 100) (h1 : 0 ≤ t) (h2 : t ≤ 1073741824) (h3 : (lastB B).1.2.1 < t) (hB : Good B) (hS : SetSm S) :
  affiantref10_Chain_Commit_7324 t () (seedsN n) (ringsN n) (namesN n) S B R = some ((B.length : Int) + 1, B ++ [blkS n S B t], R ++ [[]], (), seedsN n, ringsN n, namesN n, S, B, R) := by
 have e1 : (seedsN n).length = n := rng_len _ _
 have hSl := hS.1
 have hnil : ([] : List Val) ++ S = S := rfl
 have hr := hdS_right (S := S) hb h1 h2
 have hh := hdS_hashes S B t
 have hd1 := hdS_1 S B t
 have w1 : w64 ((B.length : Int) + 1) = (B.length : Int) + 1 := w64_eq (by omega) (by omega)
 obtain ⟨g1, g2⟩ := hB.resolve_left hb0
 have hix : Int.toNat (w64 ((B.length : Int) - 1)) = B.length - 1 := by rw [w64_eq (by omega) (by omega)]; omega
 have hw : w64 ((B.length : Int) - 1) = (B.length : Int) - 1 := w64_eq (by omega) (by omega)
 have hl : B.getD (B.length - 1) zBlk = lastB B := rfl
 rw [commitB_text, fork_f (by omega), fork_f (by omega), fork_f (by omega), fork_t (by omega), need_true (by omega), hix, hl, fork_f (by omega), need_true (by simp only [List.length_nil]; omega), storeRoot_nil, andThen_mk, rheadHash_eq _ g2, andThen_mk, rsetHash_eq _ g1, andThen_mk, hnil, rsetHash_eq S hS, andThen_mk, w1]
 have hh0 : ((B.length : Int) + 1, t, root0, setH (lastB B).2.2.2.1, setH S, sha (72 :: bodyS (lastB B).1), ()) = hdS S B t := by
  unfold hdS; rw [if_neg hb0]
 rw [hh0, rheadHash_eq _ hh, andThen_mk, ← text_body hr, e1, cmB n hn _ B R _ S _ S (by rw [w1, hd1]) (by omega) (by omega), andThen_mk]
 simp only
 rw [need_true (by simp only [List.length_nil]; omega), need_true (by simp only [List.nil_append, List.length_cons, List.length_nil]; omega), need_true (by simp only [List.length_nil]; omega), need_true (by simp only [List.nil_append, List.length_cons, List.length_nil]; omega), w1]
 have hnow : nowS S B = (lastB B).2.2.2.1 := by unfold nowS; rw [if_neg hb0]
 unfold blkS
 rw [hnow]
 rfl
end Go.Ax.V
