/-
  The chain's first and second block, as they are made before the chain's lists are told by value.
-/
import Derived.Test.YtcfaippbnmmelaaGreatCLightSkipsLChain
namespace Go.Ax.V
open Go.Ax
set_option linter.unusedVariables false
set_option linter.unusedSimpArgs false
theorem cmA (n : Nat) (hn : n ≤ 4) (k : Int)  (S : List Val) (h : Hdr) (nx : List Val) (hk : w64 (k + 1) = h.1) (h1 : 1 ≤ h.1) (h2 : h.1 ≤ 16) :
  qc_1 k (n : Int) 0 () (seedsN n) (ringsN n) (namesN n) S h () [] nx (textS h) = some (k, (), seedsN n, ringsN n, namesN n, S, h, (), sgJ h (List.range n), nx) := by
 have e1 : (seedsN n).length = n := rng_len _ _
 have e2 : (ringsN n).length = n := rng_len _ _
 have e3 : (namesN n).length = n := rng_len _ _
 unfold qc_1
 have := loop_for (step := fun (t : Int × List Signed) => qc_1_step k (n : Int) t.1 () (seedsN n) (ringsN n) (namesN n) S h () t.2 nx (textS h)) (fun i (_ : Unit) => ((i : Int), sgJ h (List.range i))) (fun _ _ => ()) (fun _ => (k, (), seedsN n, ringsN n, namesN n, S, h, (), sgJ h (List.range n), nx)) n (fun _ _ => True) (fun i w hi _ => ⟨?_, trivial⟩) (fun w _ => ?_) n 0 () (by omega) trivial
 ·exact this
 ·show qc_1_step k (n : Int) (i : Int) () (seedsN n) (ringsN n) (namesN n) S h () (sgJ h (List.range i)) nx (textS h) = _
  unfold qc_1_step
  have g1 : (seedsN n).getD i (List.replicate 32 (0 : UInt8)) = seedK i := getD_rng _ _ hi
  have g2 : (ringsN n).getD i [] = keysS (seedK i) := getD_rng _ _ hi
  have g3 : (namesN n).getD i [] = nm i := getD_rng _ _ hi
  rw [fork_t (by omega), need_true (by omega), need_true (by omega), need_true (by omega), Int.toNat_natCast, g1, g2, g3, hk, rBy_eq _ (by rw [keysS_len]; omega) (keysS_small _) _ _ (seedK_len i) _ h1 h2 (by rw [textS_len]; omega), andThen_mk, need_true (by rw [sgJ_len, List.length_range]; simp only [List.length_cons, List.length_nil]; omega), w64_eq (n := (i : Int) + 1) (by omega) (by omega), sgJ_next]
  rfl
 ·show qc_1_step k (n : Int) (n : Int) () (seedsN n) (ringsN n) (namesN n) S h () (sgJ h (List.range n)) nx (textS h) = _
  unfold qc_1_step
  rw [fork_f (by omega)]
theorem commitA_text (a0 : Int) (a1 : Unit) (a2 : List (List UInt8)) (a3 : List (List (List UInt8))) (a4 : List (List UInt8)) (a5 : List Val) : qc a0 a1 a2 a3 a4 a5 =
  (fork (decide (a0 < (0 : Int))) (some ((0 : Int), a1, a2, a3, a4, a5, ([] : List Block), ([] : Rows))) (fork (decide ((1073741824 : Int) < a0)) (some ((0 : Int), a1, a2, a3, a4, a5, ([] : List Block), ([] : Rows))) (need (List.length ([] : List Val) + List.length a5 ≤ 2147483648) (andThen (qv ([] : List (List UInt8 × List UInt8 × Unit))) (fun u4 => andThen (q12 (([] : List Val) ++ a5)) (fun u6 => andThen (q12 (([] : List Val) ++ a5)) (fun u8 => andThen (qt ((1 : Int), a0, u4, u6, u8, (List.replicate 32 (0 : UInt8)), ())) (fun u10 => andThen (qc_1 (0 : Int) (List.length a2 : Int) (0 : Int) a1 a2 a3 a4 a5 ((1 : Int), a0, u4, u6, u8, (List.replicate 32 (0 : UInt8)), ()) (()) ([] : List Signed) (([] : List Val) ++ a5) u10) (fun o20 => need (List.length ([] : List Block) + List.length ([] : List Block) ≤ 2147483648) (need (List.length (([] : List Block) ++ ([] : List Block)) + List.length ([(o20.2.2.2.2.2.2.1, o20.2.2.2.2.2.2.2.2.1, o20.2.2.2.2.2.2.2.2.2, o20.2.2.2.2.2.2.2.2.2, ())] : List Block) ≤ 2147483648) (need (List.length ([] : Rows) + List.length ([] : Rows) ≤ 2147483648) (need (List.length (([] : Rows) ++ ([] : Rows)) + List.length ([([] : List (List UInt8 × List UInt8 × Unit))] : Rows) ≤ 2147483648) (some ((w64 (o20.1 + (1 : Int))), o20.2.1, o20.2.2.1, o20.2.2.2.1, o20.2.2.2.2.1, o20.2.2.2.2.2.1, ((([] : List Block) ++ ([] : List Block)) ++ ([(o20.2.2.2.2.2.2.1, o20.2.2.2.2.2.2.2.2.1, o20.2.2.2.2.2.2.2.2.2, o20.2.2.2.2.2.2.2.2.2, ())] : List Block)), ((([] : Rows) ++ ([] : Rows)) ++ ([([] : List (List UInt8 × List UInt8 × Unit))] : Rows))))))))))))))) : Option (Int × Unit × List (List UInt8) × List (List (List UInt8)) × List (List UInt8) × (List Val) × (List Block) × Rows)) := rfl
theorem commitA_eq (n : Nat) (hn : n ≤ 4) (t : Int) (S : List Val) (h1 : 0 ≤ t) (h2 : t ≤ 1073741824) (hS : SetSm S) :
  qc t () (seedsN n) (ringsN n) (namesN n) S = some (1, (), seedsN n, ringsN n, namesN n, S, [blkS n S [] t], [[]]) := by
 have e1 : (seedsN n).length = n := rng_len _ _
 have hSl := hS.1
 have hnil : ([] : List Val) ++ S = S := rfl
 have hr := hdS_right (S := S) (B := []) (by simp) h1 h2
 have hh := hdS_hashes S [] t
 have hd1 := hdS_1 S [] t
 have hd1 : (hdS S [] t).1 = 1 := hd1
 rw [commitA_text, fork_f (by omega), fork_f (by omega), need_true (by simp only [List.length_nil]; omega), storeRoot_nil, andThen_mk, hnil, rsetHash_eq S hS, andThen_mk, andThen_mk]
 have hh0 : ((1 : Int), t, root0, setH S, setH S, List.replicate 32 (0 : UInt8), ()) = hdS S [] t := by
  unfold hdS; rw [if_pos (show ([] : List Block).length = 0 from rfl)]
 rw [hh0, rheadHash_eq _ hh, andThen_mk, ← text_body hr, e1, cmA n hn 0 S _ S (by rw [w64_eq (by omega) (by omega), hd1]; rfl) (by omega) (by omega), andThen_mk]
 simp only
 rw [need_true (by simp only [List.length_nil]; omega), need_true (by simp only [List.nil_append, List.length_cons, List.length_nil]; omega), need_true (by simp only [List.length_nil]; omega), need_true (by simp only [List.nil_append, List.length_cons, List.length_nil]; omega), w64_eq (by omega) (by omega)]
 rfl
end Go.Ax.V
