/-
  The document's chain: its validators, its blocks, one behind the other.
-/
import Derived.Test.YtcfaippbnmmelaaGreatCLightSkipsLSealMore
import Derived.Test.YtcfaippbnmmelaaGreatCLightSkipsLVHash
namespace Go.Ax.V
open Go.Ax
set_option linter.unusedVariables false
set_option linter.unusedSimpArgs false
abbrev Block := Hdr × List Signed × List Val × List Val × Unit
def zBlk : Block := (zHdr, ([] : List Signed), ([] : List Val), ([] : List Val), ())
def seedsN (n : Nat) : List (List UInt8) := (List.range n).map seedK
def ringsN (n : Nat) : List (List (List UInt8)) := (List.range n).map fun i => keysS (seedK i)
def namesN (n : Nat) : List (List UInt8) := (List.range n).map nm
theorem getD_rng {α : Type} (f : Nat → α) (z : α) {n i : Nat} (h : i < n) : ((List.range n).map f).getD i z = f i := by
 rw [List.getD_eq_getElem?_getD, List.getElem?_map, List.getElem?_range h]; rfl
theorem map_next {α : Type} (f : Nat → α) (i : Nat) : (List.range (i + 1)).map f = (List.range i).map f ++ [f i] := by
 rw [List.range_succ, List.map_append]; rfl
theorem rng_len {α : Type} (f : Nat → α) (n : Nat) : ((List.range n).map f).length = n := by simp
def setV (p : Nat → Int) (n : Nat) : List Val := (List.range n).map (mkVal p)
theorem setS_v (ps : List Int) : setS ps = setV (pw ps) (setN ps) := rfl
theorem chain1 (n : Nat) (hn : n ≤ 4) (set : List Val) : q1n_1 (n : Int) 0 set [] = some (set, seedsN n) := by
 unfold q1n_1
 have := loop_for (step := fun (t : Int × List (List UInt8)) => q1n_1_step (n : Int) t.1 set t.2) (fun i (_ : Unit) => ((i : Int), seedsN i)) (fun _ _ => ()) (fun _ => (set, seedsN n)) n (fun _ _ => True) (fun i w hi _ => ⟨?_, trivial⟩) (fun w _ => ?_) n 0 () (by omega) trivial
 ·exact this
 ·show q1n_1_step (n : Int) (i : Int) set (seedsN i) = _
  unfold q1n_1_step
  have hl : (seedsN i).length = i := rng_len _ _
  rw [fork_t (by omega), keepSeed_eq, andThen_mk, need_true (by rw [hl]; simp only [List.length_cons, List.length_nil]; omega), w64_eq (by omega) (by omega)]
  unfold seedsN
  rw [map_next]
  rfl
 ·show q1n_1_step (n : Int) (n : Int) set (seedsN n) = _
  unfold q1n_1_step
  rw [fork_f (by omega)]
theorem nc_step (n i : Int) (set : List Val) (seeds : List (List UInt8)) (u : Unit) (r : List (List (List UInt8))) (ns : List (List UInt8)) : qj_1_step n i set seeds u r ns =
  (fork (decide (i < n)) (need (0 ≤ i ∧ i < (List.length set : Int)) (need (List.length ns + List.length ([(set.getD (Int.toNat i) zVal).1] : List (List UInt8)) ≤ 2147483648) (need (0 ≤ i ∧ i < (List.length seeds : Int)) (andThen (q1o (List.getD seeds (Int.toNat i) (List.replicate 32 (0 : UInt8)))) (fun u6 => need (List.length r + List.length ([u6] : List (List (List UInt8))) ≤ 2147483648) (some (.inl ((w64 (i + (1 : Int))), (r ++ ([u6] : List (List (List UInt8)))), (ns ++ ([(set.getD (Int.toNat i) zVal).1] : List (List UInt8))))))))))) (some (.inr (set, seeds, u, r, ns))) : Option ((Int × List (List (List UInt8)) × List (List UInt8)) ⊕ ((List Val) × List (List UInt8) × Unit × List (List (List UInt8)) × List (List UInt8)))) := rfl
theorem newChain_eq (p : Nat → Int) (n : Nat) (hn : n ≤ 4) : qj (setV p n) (seedsN n) = some (setV p n, seedsN n, (), ringsN n, namesN n) := by
 have hl : (setV p n).length = n := rng_len _ _
 have hs : (seedsN n).length = n := rng_len _ _
 have main : qj_1 (n : Int) 0 (setV p n) (seedsN n) () [] [] = some (setV p n, seedsN n, (), ringsN n, namesN n) := by
  unfold qj_1
  have := loop_for (step := fun (t : Int × List (List (List UInt8)) × List (List UInt8)) => qj_1_step (n : Int) t.1 (setV p n) (seedsN n) () t.2.1 t.2.2) (fun i (_ : Unit) => ((i : Int), ringsN i, namesN i)) (fun _ _ => ()) (fun _ => (setV p n, seedsN n, (), ringsN n, namesN n)) n (fun _ _ => True) (fun i w hi _ => ⟨?_, trivial⟩) (fun w _ => ?_) n 0 () (by omega) trivial
  ·exact this
  ·show qj_1_step (n : Int) (i : Int) (setV p n) (seedsN n) () (ringsN i) (namesN i) = _
   have h1 : (ringsN i).length = i := rng_len _ _
   have h2 : (namesN i).length = i := rng_len _ _
   have g1 : (setV p n).getD i zVal = mkVal p i := getD_rng _ _ hi
   have g2 : (seedsN n).getD i (List.replicate 32 (0 : UInt8)) = seedK i := getD_rng _ _ hi
   rw [nc_step, fork_t (by omega), need_true (by omega), Int.toNat_natCast, g1, g2, need_true (by rw [h2]; simp only [List.length_cons, List.length_nil]; omega), need_true (by omega), rKeys_eq _ (seedK_len i), andThen_mk, need_true (by rw [h1]; simp only [List.length_cons, List.length_nil]; omega), w64_eq (by omega) (by omega)]
   unfold ringsN namesN
   rw [map_next, map_next]
   rfl
  ·show qj_1_step (n : Int) (n : Int) (setV p n) (seedsN n) () (ringsN n) (namesN n) = _
   rw [nc_step, fork_f (by omega)]
 unfold qj
 rw [hl, main]
 rfl
theorem ch2_step (n i : Int) (set : List Val) (u : Unit) (seeds : List (List UInt8)) (r : List (List (List UInt8))) (ns : List (List UInt8)) : q1n_2_step n i set u seeds r ns =
  (fork (decide (i < n)) (need (0 ≤ i ∧ i < (List.length r : Int)) (andThen (q1p (List.getD r (Int.toNat i) ([] : List (List UInt8)))) (fun u15 => need (0 ≤ i ∧ i < (List.length set : Int)) (some (.inl ((w64 (i + (1 : Int))), (List.set set (Int.toNat i) ((set.getD (Int.toNat i) zVal).1, (set.getD (Int.toNat i) zVal).2.1, u15, ())))))))) (some (.inr (u, seeds, r, ns, set))) : Option ((Int × List Val) ⊕ (Unit × List (List UInt8) × List (List (List UInt8)) × List (List UInt8) × List Val))) := rfl
theorem chain2 (p : Nat → Int) (n : Nat) (hn : n ≤ 4) : q1n_2 (n : Int) 0 (setV p n) () (seedsN n) (ringsN n) (namesN n) = some ((), seedsN n, ringsN n, namesN n, ringN p n) := by
 have hr : (ringsN n).length = n := rng_len _ _
 unfold q1n_2
 have := loop_for (step := fun (t : Int × List Val) => q1n_2_step (n : Int) t.1 t.2 () (seedsN n) (ringsN n) (namesN n)) (fun i (_ : Unit) => ((i : Int), midS p n i)) (fun _ _ => ()) (fun _ => ((), seedsN n, ringsN n, namesN n, ringN p n)) n (fun _ _ => True) (fun i w hi _ => ⟨?_, trivial⟩) (fun w _ => ?_) n 0 () (by omega) trivial
 ·rw [show setV p n = midS p n 0 from by unfold setV midS; congr 1]
  exact this
 ·show q1n_2_step (n : Int) (i : Int) (midS p n i) () (seedsN n) (ringsN n) (namesN n) = _
  have hm : (midS p n i).length = n := by simp [midS]
  have g1 : (ringsN n).getD i [] = keysS (seedK i) := getD_rng _ _ hi
  rw [ch2_step, fork_t (by omega), need_true (by omega), Int.toNat_natCast, g1, rroot_eq _ (by rw [keysS_len]; omega) (keysS_small _), andThen_mk, need_true (by omega), w64_eq (by omega) (by omega)]
  show some (Sum.inl (_, List.set (midS p n i) i (((midS p n i).getD i zVal).1, ((midS p n i).getD i zVal).2.1, identS (seedK i), ()))) = _
  rw [mid_step _ _ _ hi]
  rfl
 ·show q1n_2_step (n : Int) (n : Int) (midS p n n) () (seedsN n) (ringsN n) (namesN n) = _
  rw [ch2_step, fork_f (by omega)]
  unfold midS ringN
  congr 6
  apply List.map_congr_left
  intro j hj
  rw [if_pos (List.mem_range.1 hj)]
theorem chain_eq (ps : List Int) (hp : ps.length ≤ 140737488351232) : q1n ps = some ((), seedsN (setN ps), ringsN (setN ps), namesN (setN ps), ringS ps) := by
 have hn := setN_b ps
 have hl : (setV (pw ps) (setN ps)).length = setN ps := rng_len _ _
 unfold q1n
 rw [set_eq ps hp, andThen_mk, setS_v, hl, chain1 _ hn.2, andThen_mk]
 simp only
 rw [newChain_eq _ _ hn.2, andThen_mk]
 simp only
 rw [hl, chain2 _ _ hn.2]
 rfl
noncomputable def root0 : List UInt8 := sha (83 :: (oneS 0 ++ rootS []))
theorem root0_len : root0.length = 32 := sha_len _
theorem storeRoot_nil : qv [] = some root0 := by
 have h1 : q19 [] = some [] := by
  unfold q19 q19_1
  rw [loop_out (r := []) rfl]; rfl
 have h2 := rroot_eq [] (by simp) (fun x hx => nomatch hx)
 have h3 : [oneS 0, rootS []].flatten = oneS 0 ++ rootS [] := by simp
 have h4 : (rootS []).length ≤ 1000000 := by rw [rootS_len]; omega
 have h5 := oneS_len 0
 unfold qv
 rw [h1, andThen_mk, h2, andThen_mk]
 unfold q1l
 rw [show ((([] : List (List UInt8 × List UInt8 × Unit)).length : Int)) = 0 from rfl, rput_eq, andThen_mk, rtagged_eq _ _ (by rw [h3, List.length_append]; omega) (by simp), h3]
 rfl
def lastB (B : List Block) : Block := B.getD (B.length - 1) zBlk
noncomputable def hdS (S : List Val) (B : List Block) (t : Int) : Hdr :=
 if B.length = 0 then (1, t, root0, setH S, setH S, List.replicate 32 0, ())
 else ((B.length : Int) + 1, t, root0, setH (lastB B).2.2.2.1, setH S, sha (72 :: bodyS (lastB B).1), ())
theorem hdS_hashes (S : List Val) (B : List Block) (t : Int) : Hashes (hdS S B t) := by
 unfold hdS
 split
 ·exact ⟨root0_len, setH_len _, setH_len _, by simp⟩
 ·exact ⟨root0_len, setH_len _, setH_len _, sha_len _⟩
theorem hdS_1 (S : List Val) (B : List Block) (t : Int) : (hdS S B t).1 = (B.length : Int) + 1 := by
 unfold hdS; split
 ·show (1 : Int) = _; omega
 ·rfl
theorem hdS_t (S : List Val) (B : List Block) (t : Int) : (hdS S B t).2.1 = t := by unfold hdS; split <;> rfl
theorem hdS_next (S : List Val) (B : List Block) (t : Int) : (hdS S B t).2.2.2.2.1 = setH S := by unfold hdS; split <;> rfl
def nowS (S : List Val) (B : List Block) : List Val := if B.length = 0 then S else (lastB B).2.2.2.1
theorem hdS_vals (S : List Val) (B : List Block) (t : Int) : (hdS S B t).2.2.2.1 = setH (nowS S B) := by unfold hdS nowS; split <;> rfl
theorem hdS_right {S : List Val} {B : List Block} {t : Int} (hb : B.length < 16) (h1 : 0 ≤ t) (h2 : t ≤ 1073741824) : rightHS (hdS S B t) = true := by
 rw [rightHS_iff, hdS_1, hdS_t]; omega
noncomputable def blkS (n : Nat) (S : List Val) (B : List Block) (t : Int) : Block := (hdS S B t, sgJ (hdS S B t) (List.range n), nowS S B, S, ())
def Good (B : List Block) : Prop := B.length = 0 ∨ (SetSm (lastB B).2.2.2.1 ∧ Hashes (lastB B).1)
theorem text_body {h : Hdr} (hr : rightHS h = true) : textS h = sha (72 :: bodyS h) := by
 unfold textS bytesS; rw [if_pos hr]
abbrev Rows := List (List (List UInt8 × List UInt8 × Unit))
theorem cm1 (n : Nat) (hn : n ≤ 4) (k : Int) (B : List Block) (R : Rows) (S : List Val) (h : Hdr) (ps nx : List Val) (hk : w64 (k + 1) = h.1) (h1 : 1 ≤ h.1) (h2 : h.1 ≤ 16) :
  qd_1 k (n : Int) 0 B R () (seedsN n) (ringsN n) (namesN n) S h ps () [] nx (textS h) = some (k, B, R, (), seedsN n, ringsN n, namesN n, S, h, ps, (), sgJ h (List.range n), nx) := by
 have e1 : (seedsN n).length = n := rng_len _ _
 have e2 : (ringsN n).length = n := rng_len _ _
 have e3 : (namesN n).length = n := rng_len _ _
 unfold qd_1
 have := loop_for (step := fun (t : Int × List Signed) => qd_1_step k (n : Int) t.1 B R () (seedsN n) (ringsN n) (namesN n) S h ps () t.2 nx (textS h)) (fun i (_ : Unit) => ((i : Int), sgJ h (List.range i))) (fun _ _ => ()) (fun _ => (k, B, R, (), seedsN n, ringsN n, namesN n, S, h, ps, (), sgJ h (List.range n), nx)) n (fun _ _ => True) (fun i w hi _ => ⟨?_, trivial⟩) (fun w _ => ?_) n 0 () (by omega) trivial
 ·exact this
 ·show qd_1_step k (n : Int) (i : Int) B R () (seedsN n) (ringsN n) (namesN n) S h ps () (sgJ h (List.range i)) nx (textS h) = _
  unfold qd_1_step
  have g1 : (seedsN n).getD i (List.replicate 32 (0 : UInt8)) = seedK i := getD_rng _ _ hi
  have g2 : (ringsN n).getD i [] = keysS (seedK i) := getD_rng _ _ hi
  have g3 : (namesN n).getD i [] = nm i := getD_rng _ _ hi
  rw [fork_t (by omega), need_true (by omega), need_true (by omega), need_true (by omega), Int.toNat_natCast, g1, g2, g3, hk, rBy_eq _ (by rw [keysS_len]; omega) (keysS_small _) _ _ (seedK_len i) _ h1 h2 (by rw [textS_len]; omega), andThen_mk, need_true (by rw [sgJ_len, List.length_range]; simp only [List.length_cons, List.length_nil]; omega), w64_eq (n := (i : Int) + 1) (by omega) (by omega), sgJ_next]
  rfl
 ·show qd_1_step k (n : Int) (n : Int) B R () (seedsN n) (ringsN n) (namesN n) S h ps () (sgJ h (List.range n)) nx (textS h) = _
  unfold qd_1_step
  rw [fork_f (by omega)]
theorem cm2 (n : Nat) (hn : n ≤ 4) (k : Int) (B : List Block) (R : Rows) (S : List Val) (h : Hdr) (nx : List Val) (hk : w64 (k + 1) = h.1) (h1 : 1 ≤ h.1) (h2 : h.1 ≤ 16) :
  qd_2 k (n : Int) 0 B R () (seedsN n) (ringsN n) (namesN n) S h () [] nx (textS h) = some (k, B, R, (), seedsN n, ringsN n, namesN n, S, h, (), sgJ h (List.range n), nx) := by
 have e1 : (seedsN n).length = n := rng_len _ _
 have e2 : (ringsN n).length = n := rng_len _ _
 have e3 : (namesN n).length = n := rng_len _ _
 unfold qd_2
 have := loop_for (step := fun (t : Int × List Signed) => qd_2_step k (n : Int) t.1 B R () (seedsN n) (ringsN n) (namesN n) S h () t.2 nx (textS h)) (fun i (_ : Unit) => ((i : Int), sgJ h (List.range i))) (fun _ _ => ()) (fun _ => (k, B, R, (), seedsN n, ringsN n, namesN n, S, h, (), sgJ h (List.range n), nx)) n (fun _ _ => True) (fun i w hi _ => ⟨?_, trivial⟩) (fun w _ => ?_) n 0 () (by omega) trivial
 ·exact this
 ·show qd_2_step k (n : Int) (i : Int) B R () (seedsN n) (ringsN n) (namesN n) S h () (sgJ h (List.range i)) nx (textS h) = _
  unfold qd_2_step
  have g1 : (seedsN n).getD i (List.replicate 32 (0 : UInt8)) = seedK i := getD_rng _ _ hi
  have g2 : (ringsN n).getD i [] = keysS (seedK i) := getD_rng _ _ hi
  have g3 : (namesN n).getD i [] = nm i := getD_rng _ _ hi
  rw [fork_t (by omega), need_true (by omega), need_true (by omega), need_true (by omega), Int.toNat_natCast, g1, g2, g3, hk, rBy_eq _ (by rw [keysS_len]; omega) (keysS_small _) _ _ (seedK_len i) _ h1 h2 (by rw [textS_len]; omega), andThen_mk, need_true (by rw [sgJ_len, List.length_range]; simp only [List.length_cons, List.length_nil]; omega), w64_eq (n := (i : Int) + 1) (by omega) (by omega), sgJ_next]
  rfl
 ·show qd_2_step k (n : Int) (n : Int) B R () (seedsN n) (ringsN n) (namesN n) S h () (sgJ h (List.range n)) nx (textS h) = _
  unfold qd_2_step
  rw [fork_f (by omega)]
theorem commit_text (a0 : Int) (a1 : List Block) (a2 : Rows) (a3 : Unit) (a4 : List (List UInt8)) (a5 : List (List (List UInt8))) (a6 : List (List UInt8)) (a7 : List Val) : qd a0 a1 a2 a3 a4 a5 a6 a7 =
  (fork (decide ((16 : Int) ≤ (List.length a1 : Int))) (some ((0 : Int), a1, a2, a3, a4, a5, a6, a7)) (fork (decide (a0 < (0 : Int))) (some ((0 : Int), a1, a2, a3, a4, a5, a6, a7)) (fork (decide ((1073741824 : Int) < a0)) (some ((0 : Int), a1, a2, a3, a4, a5, a6, a7)) (fork (decide ((0 : Int) < (List.length a1 : Int))) (need (0 ≤ (w64 ((List.length a1 : Int) - (1 : Int))) ∧ (w64 ((List.length a1 : Int) - (1 : Int))) < (List.length a1 : Int)) (fork (decide (a0 ≤ (List.getD a1 (Int.toNat (w64 ((List.length a1 : Int) - (1 : Int)))) zBlk).1.2.1)) (some ((0 : Int), a1, a2, a3, a4, a5, a6, a7)) (need (List.length ([] : List Val) + List.length a7 ≤ 2147483648) (andThen (qv ([] : List (List UInt8 × List UInt8 × Unit))) (fun u8 => andThen (qt ((List.getD a1 (Int.toNat (w64 ((List.length a1 : Int) - (1 : Int)))) zBlk).1)) (fun u10 => andThen (q12 ((List.getD a1 (Int.toNat (w64 ((List.length a1 : Int) - (1 : Int)))) zBlk).2.2.2.1)) (fun u12 => andThen (q12 (([] : List Val) ++ a7)) (fun u14 => andThen (qt ((w64 ((List.length a1 : Int) + (1 : Int))), a0, u8, u12, u14, u10, ())) (fun u16 => andThen (qd_1 (List.length a1 : Int) (List.length a4 : Int) (0 : Int) a1 a2 a3 a4 a5 a6 a7 ((w64 ((List.length a1 : Int) + (1 : Int))), a0, u8, u12, u14, u10, ()) (List.getD a1 (Int.toNat (w64 ((List.length a1 : Int) - (1 : Int)))) zBlk).2.2.2.1 (()) ([] : List Signed) (([] : List Val) ++ a7) u16) (fun o26 => need (List.length ([] : List Block) + List.length o26.2.1 ≤ 2147483648) (need (List.length (([] : List Block) ++ o26.2.1) + List.length ([(o26.2.2.2.2.2.2.2.2.1, o26.2.2.2.2.2.2.2.2.2.2.2.1, o26.2.2.2.2.2.2.2.2.2.1, o26.2.2.2.2.2.2.2.2.2.2.2.2, ())] : List Block) ≤ 2147483648) (need (List.length ([] : Rows) + List.length o26.2.2.1 ≤ 2147483648) (need (List.length (([] : Rows) ++ o26.2.2.1) + List.length ([([] : List (List UInt8 × List UInt8 × Unit))] : Rows) ≤ 2147483648) (some ((w64 (o26.1 + (1 : Int))), ((([] : List Block) ++ o26.2.1) ++ ([(o26.2.2.2.2.2.2.2.2.1, o26.2.2.2.2.2.2.2.2.2.2.2.1, o26.2.2.2.2.2.2.2.2.2.1, o26.2.2.2.2.2.2.2.2.2.2.2.2, ())] : List Block)), ((([] : Rows) ++ o26.2.2.1) ++ ([([] : List (List UInt8 × List UInt8 × Unit))] : Rows)), o26.2.2.2.1, o26.2.2.2.2.1, o26.2.2.2.2.2.1, o26.2.2.2.2.2.2.1, o26.2.2.2.2.2.2.2.1))))))))))))))) (need (List.length ([] : List Val) + List.length a7 ≤ 2147483648) (andThen (qv ([] : List (List UInt8 × List UInt8 × Unit))) (fun u33 => andThen (q12 (([] : List Val) ++ a7)) (fun u35 => andThen (q12 (([] : List Val) ++ a7)) (fun u37 => andThen (qt ((w64 ((List.length a1 : Int) + (1 : Int))), a0, u33, u35, u37, (List.replicate 32 (0 : UInt8)), ())) (fun u39 => andThen (qd_2 (List.length a1 : Int) (List.length a4 : Int) (0 : Int) a1 a2 a3 a4 a5 a6 a7 ((w64 ((List.length a1 : Int) + (1 : Int))), a0, u33, u35, u37, (List.replicate 32 (0 : UInt8)), ()) (()) ([] : List Signed) (([] : List Val) ++ a7) u39) (fun o49 => need (List.length ([] : List Block) + List.length o49.2.1 ≤ 2147483648) (need (List.length (([] : List Block) ++ o49.2.1) + List.length ([(o49.2.2.2.2.2.2.2.2.1, o49.2.2.2.2.2.2.2.2.2.2.1, o49.2.2.2.2.2.2.2.2.2.2.2, o49.2.2.2.2.2.2.2.2.2.2.2, ())] : List Block) ≤ 2147483648) (need (List.length ([] : Rows) + List.length o49.2.2.1 ≤ 2147483648) (need (List.length (([] : Rows) ++ o49.2.2.1) + List.length ([([] : List (List UInt8 × List UInt8 × Unit))] : Rows) ≤ 2147483648) (some ((w64 (o49.1 + (1 : Int))), ((([] : List Block) ++ o49.2.1) ++ ([(o49.2.2.2.2.2.2.2.2.1, o49.2.2.2.2.2.2.2.2.2.2.1, o49.2.2.2.2.2.2.2.2.2.2.2, o49.2.2.2.2.2.2.2.2.2.2.2, ())] : List Block)), ((([] : Rows) ++ o49.2.2.1) ++ ([([] : List (List UInt8 × List UInt8 × Unit))] : Rows)), o49.2.2.2.1, o49.2.2.2.2.1, o49.2.2.2.2.2.1, o49.2.2.2.2.2.2.1, o49.2.2.2.2.2.2.2.1))))))))))))))) : Option (Int × (List Block) × (Rows) × Unit × List (List UInt8) × List (List (List UInt8)) × List (List UInt8) × List Val)) := rfl
theorem commit_eq (n : Nat) (hn : n ≤ 4) (t : Int) (B : List Block) (R : Rows) (S : List Val) (hb : B.length < 16) (hR : R.length ≤ 100) (h1 : 0 ≤ t) (h2 : t ≤ 1073741824) (h3 : B.length ≠ 0 → (lastB B).1.2.1 < t) (hB : Good B) (hS : SetSm S) :
  qd t B R () (seedsN n) (ringsN n) (namesN n) S = some ((B.length : Int) + 1, B ++ [blkS n S B t], R ++ [[]], (), seedsN n, ringsN n, namesN n, S) := by
 have e1 : (seedsN n).length = n := rng_len _ _
 have hSl := hS.1
 have hnil : ([] : List Val) ++ S = S := rfl
 have hr := hdS_right (S := S) hb h1 h2
 have hh := hdS_hashes S B t
 have hd1 := hdS_1 S B t
 have w1 : w64 ((B.length : Int) + 1) = (B.length : Int) + 1 := w64_eq (by omega) (by omega)
 rw [commit_text, fork_f (by omega), fork_f (by omega), fork_f (by omega)]
 by_cases c : B.length = 0
 ·rw [fork_f (by omega), need_true (by simp only [List.length_nil]; omega), storeRoot_nil, andThen_mk, hnil, rsetHash_eq S hS, andThen_mk, andThen_mk, w1]
  have hh0 : ((B.length : Int) + 1, t, root0, setH S, setH S, List.replicate 32 (0 : UInt8), ()) = hdS S B t := by
   unfold hdS; rw [if_pos c, c]; rfl
  rw [hh0, rheadHash_eq _ hh, andThen_mk, ← text_body hr, e1, cm2 n hn _ B R S _ S (by rw [w1, hd1]) (by omega) (by omega), andThen_mk]
  simp only
  have hB0 : B = [] := List.eq_nil_of_length_eq_zero c
  rw [need_true (by simp only [List.length_nil]; omega), need_true (by simp only [List.nil_append, List.length_cons, List.length_nil]; omega), need_true (by simp only [List.length_nil]; omega), need_true (by simp only [List.nil_append, List.length_cons, List.length_nil]; omega), w1]
  have hnow : nowS S B = S := by unfold nowS; rw [if_pos c]
  unfold blkS
  rw [hnow]
  rfl
 ·obtain ⟨g1, g2⟩ := hB.resolve_left c
  have hix : Int.toNat (w64 ((B.length : Int) - 1)) = B.length - 1 := by rw [w64_eq (by omega) (by omega)]; omega
  have hw : w64 ((B.length : Int) - 1) = (B.length : Int) - 1 := w64_eq (by omega) (by omega)
  have hl : B.getD (B.length - 1) zBlk = lastB B := rfl
  have h3 := h3 c
  rw [fork_t (by omega), need_true (by omega), hix, hl, fork_f (by omega), need_true (by simp only [List.length_nil]; omega), storeRoot_nil, andThen_mk, rheadHash_eq _ g2, andThen_mk, rsetHash_eq _ g1, andThen_mk, hnil, rsetHash_eq S hS, andThen_mk, w1]
  have hh0 : ((B.length : Int) + 1, t, root0, setH (lastB B).2.2.2.1, setH S, sha (72 :: bodyS (lastB B).1), ()) = hdS S B t := by
   unfold hdS; rw [if_neg c]
  rw [hh0, rheadHash_eq _ hh, andThen_mk, ← text_body hr, e1, cm1 n hn _ B R S _ _ S (by rw [w1, hd1]) (by omega) (by omega), andThen_mk]
  simp only
  rw [need_true (by simp only [List.length_nil]; omega), need_true (by simp only [List.nil_append, List.length_cons, List.length_nil]; omega), need_true (by simp only [List.length_nil]; omega), need_true (by simp only [List.nil_append, List.length_cons, List.length_nil]; omega), w1]
  have hnow : nowS S B = (lastB B).2.2.2.1 := by unfold nowS; rw [if_neg c]
  unfold blkS
  rw [hnow]
  rfl
theorem lastB_snoc (B : List Block) (b : Block) : lastB (B ++ [b]) = b := by
 unfold lastB
 rw [List.length_append, List.getD_eq_getElem?_getD, List.getElem?_append_right (by simp)]
 simp
theorem good_snoc {n : Nat} {S : List Val} (hS : SetSm S) (B : List Block) (t : Int) : Good (B ++ [blkS n S B t]) := by
 right
 rw [lastB_snoc]
 exact ⟨hS, hdS_hashes S B t⟩
theorem ringN_sm (p : Nat → Int) (n : Nat) (h : n ≤ 4) : SetSm (ringN p n) := by
 refine ⟨by simp [ringN]; omega, fun v hv => ?_⟩
 obtain ⟨i, hi, rfl⟩ := List.mem_map.1 hv
 have hi := List.mem_range.1 hi
 have : ∀ i, i < 4 → (nm i).length ≤ 100000 := by decide
 exact ⟨this i (by omega), rootS_len _⟩
end Go.Ax.V
