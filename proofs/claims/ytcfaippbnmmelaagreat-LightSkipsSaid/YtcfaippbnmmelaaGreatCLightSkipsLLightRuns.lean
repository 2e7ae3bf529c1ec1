/-
  Chapter 13's runs.
-/
import Derived.Test.YtcfaippbnmmelaaGreatCLightSkipsLMisb
namespace Go.Ax.V
open Go.Ax
set_option linter.unusedVariables false
set_option linter.unusedSimpArgs false
def f10 (i : Nat) : Int := 10 * ((i : Int) + 1)
theorem lightRuns_1 (n : Nat) (hn : n ≤ 4) (S : List Val) (hS : SetSm S) : qu_1 0 [] [] () (seedsN n) (ringsN n) (namesN n) S = some (blF n S f10 3, List.replicate 3 [], (), seedsN n, ringsN n, namesN n, S) := by
 unfold qu_1
 have := loop_for (step := fun (t : Int × List Block × Rows × Unit × List (List UInt8) × List (List (List UInt8)) × List (List UInt8) × List Val) => qu_1_step t.1 t.2.1 t.2.2.1 t.2.2.2.1 t.2.2.2.2.1 t.2.2.2.2.2.1 t.2.2.2.2.2.2.1 t.2.2.2.2.2.2.2) (fun i (_ : Unit) => ((i : Int), blF n S f10 i, List.replicate i [], (), seedsN n, ringsN n, namesN n, S)) (fun _ _ => ()) (fun _ => (blF n S f10 3, List.replicate 3 [], (), seedsN n, ringsN n, namesN n, S)) 3 (fun _ _ => True) (fun i w hi _ => ⟨?_, trivial⟩) (fun w _ => ?_) 3 0 () (by omega) trivial
 ·exact this
 ·show qu_1_step (i : Int) (blF n S f10 i) (List.replicate i []) () (seedsN n) (ringsN n) (namesN n) S = _
  unfold qu_1_step
  have e : w64 (10 * w64 ((i : Int) + 1)) = f10 i := by rw [w64_eq (n := (i : Int) + 1) (by omega) (by omega), w64_eq (by omega) (by omega)]; rfl
  rw [fork_t (by omega), e, commitF hn hS i (by omega) (by unfold f10; omega) (fun h => by unfold f10; omega), andThen_mk, w64_eq (by omega) (by omega)]
  rfl
 ·show qu_1_step 3 (blF n S f10 3) (List.replicate 3 []) () (seedsN n) (ringsN n) (namesN n) S = _
  unfold qu_1_step
  rw [fork_f (by omega)]
theorem f10_rise : Rise f10 := ⟨fun i hi => by unfold f10; omega, fun i hi => by unfold f10; omega⟩
theorem forge_all {n : Nat} {who : List Int} (hw : ∀ i, i < n → hitW who i = true) (h h' : Hdr) : forgeS h' (textS h') who (sgJ h (List.range n)) = sgJ h' (List.range n) := by
 unfold forgeS
 rw [sgJ_len, List.length_range]
 unfold sgJ
 apply List.map_congr_left
 intro i hi
 have hi := List.mem_range.1 hi
 rw [if_pos (hw i hi), getD_rng _ _ hi]
 rfl
theorem law_LightRuns : qu = some true := by
 have hp := pw_ok [1]
 have hn : setN [1] = 1 := rfl
 have hS := ringN_sm (pw [1]) 1 (by omega)
 have hce := chain_eq [1] (by simp)
 rw [hn] at hce
 have hce : q1n [1] = some ((), seedsN 1, ringsN 1, namesN 1, ringN (pw [1]) 1) := hce
 generalize pw [1] = p at *
 have hl := blF_len 1 (ringN p 1) f10 3
 have g0 : (blF 1 (ringN p 1) f10 3).getD 0 zBlk = honB 1 (ringN p 1) (hF 1 (ringN p 1) f10 0) := blF_at _ _ _ (by omega)
 have g1 : (blF 1 (ringN p 1) f10 3).getD 1 zBlk = honB 1 (ringN p 1) (hF 1 (ringN p 1) f10 1) := blF_at _ _ _ (by omega)
 have g2 : (blF 1 (ringN p 1) f10 3).getD 2 zBlk = honB 1 (ringN p 1) (hF 1 (ringN p 1) f10 2) := blF_at _ _ _ (by omega)
 have hnew := new_hon hp (Nat.le_refl 1) (show 1 ≤ 4 by omega) f10_rise (P := 100) (by omega) (j := 0) (by omega)
 have k0 := knows_new (ringN p 1) 100 (hF 1 (ringN p 1) f10 0)
 have u1 := upd_hon hp (Nat.le_refl 1) (show 1 ≤ 4 by omega) f10_rise (i := 0) (j := 1) (by omega) (by omega) k0 25
 rw [if_neg (by omega), if_neg (by unfold f10; omega)] at u1
 have k1 := knows_next (h := hF 1 (ringN p 1) f10 1) k0 (by simp)
 have u2 := upd_hon hp (Nat.le_refl 1) (show 1 ≤ 4 by omega) f10_rise (i := 1) (j := 1) (by omega) (by omega) k1 25
 rw [if_pos (by omega)] at u2
 have o1 := hF_hashes 1 (ringN p 1) f10 1
 have o2 := hF_hashes 1 (ringN p 1) f10 2
 have e1 := hF_1 1 (ringN p 1) f10 1
 have e2 := hF_1 1 (ringN p 1) f10 2
 have r2 : rightHS (hF 1 (ringN p 1) f10 2) = true := hF_right (by omega) (by unfold f10; omega) (by unfold f10; omega)
 have v2 := hF_vals 1 (ringN p 1) f10 2
 have x2 := hF_next 1 (ringN p 1) f10 2
 have c0 := knows_ok hp (show 1 ≤ 4 by omega) f10_rise (by omega) k0
 have c1 := knows_ok hp (show 1 ≤ 4 by omega) f10_rise (by omega) k1
 have b1 := hon_ok (show 1 ≤ 4 by omega) p o1 (by omega) (by omega)
 have b2 := hon_ok (show 1 ≤ 4 by omega) p o2 (by omega) (by omega)
 obtain ⟨r, hr, ef⟩ := forged_eq (honB 1 (ringN p 1) (hF 1 (ringN p 1) f10 2)) [0] (by simp) 5 o2 (by show 1 ≤ (hF 1 (ringN p 1) f10 2).1; omega) (by show (hF 1 (ringN p 1) f10 2).1 ≤ 16; omega) b2.2.2.1
 have hodd : forgeB (honB 1 (ringN p 1) (hF 1 (ringN p 1) f10 2)) [0] r = honB 1 (ringN p 1) (turnH (hF 1 (ringN p 1) f10 2) r) := by
  unfold forgeB honB
  simp only
  have hrt : rightHS (turnH (hF 1 (ringN p 1) f10 2) r) = true := r2
  rw [← text_body hrt, forge_all]
  intro i hi
  have : i = 0 := by omega
  subst this
  unfold hitW
  rw [List.any_cons, List.any_nil, Bool.or_false, decide_eq_true_eq]
  obtain ⟨w, _, _⟩ := wi_eq 0
  have hw : q17 0 0 4 = some 0 := by
   unfold q17
   rfl
  rw [hw] at w
  injection w with w
 rw [hodd] at ef
 have ot := turnH_hashes o2 r
 have bt := hon_ok (show 1 ≤ 4 by omega) p ot (by show 1 ≤ (hF 1 (ringN p 1) f10 2).1; omega) (by show (hF 1 (ringN p 1) f10 2).1 ≤ 16; omega)
 have wb2 := whole_hon hp (Nat.le_refl 1) (show 1 ≤ 4 by omega) r2 v2 x2
 have wbt := whole_hon hp (Nat.le_refl 1) (show 1 ≤ 4 by omega) (h := turnH (hF 1 (ringN p 1) f10 2) r) r2 v2 x2
 have hm : misS (honB 1 (ringN p 1) (hF 1 (ringN p 1) f10 2)) (honB 1 (ringN p 1) (turnH (hF 1 (ringN p 1) f10 2) r)) (cut6 ([hF 1 (ringN p 1) f10 0] ++ [hF 1 (ringN p 1) f10 1]), ringN p 1, 100, false, ()) = (0, (cut6 ([hF 1 (ringN p 1) f10 0] ++ [hF 1 (ringN p 1) f10 1]), ringN p 1, 100, true, ())) := by
  unfold misS
  rw [if_neg (by simp), wb2, if_neg (by simp), wbt, if_neg (by simp), if_neg (by intro h; exact h rfl)]
  show (if eqHd (hF 1 (ringN p 1) f10 2) (turnH (hF 1 (ringN p 1) f10 2) r) = true then _ else if enS (ringN p 1) (hF 1 (ringN p 1) f10 2) (sgJ (hF 1 (ringN p 1) f10 2) (List.range 1)) = false ∨ soS (ringN p 1) (hF 1 (ringN p 1) f10 2) (sgJ (hF 1 (ringN p 1) f10 2) (List.range 1)) = false then _ else if enS (ringN p 1) (turnH (hF 1 (ringN p 1) f10 2) r) (sgJ (turnH (hF 1 (ringN p 1) f10 2) r) (List.range 1)) = false ∨ soS (ringN p 1) (turnH (hF 1 (ringN p 1) f10 2) r) (sgJ (turnH (hF 1 (ringN p 1) f10 2) r) (List.range 1)) = false then _ else _) = _
  have t1 : 1 ≤ (turnH (hF 1 (ringN p 1) f10 2) r).1 := by show 1 ≤ (hF 1 (ringN p 1) f10 2).1; omega
  have t2 : (turnH (hF 1 (ringN p 1) f10 2) r).1 ≤ 16 := by show (hF 1 (ringN p 1) f10 2).1 ≤ 16; omega
  rw [eqHd_ne (Ne.symm (turnH_ne o2 hr)), if_neg (by simp), en_all hp (Nat.le_refl 1) (by omega) _ (by omega) (by omega), so_all hp (Nat.le_refl 1) (by omega) _ (by omega) (by omega), if_neg (by simp), en_all hp (Nat.le_refl 1) (by omega) _ t1 t2, so_all hp (Nat.le_refl 1) (by omega) _ t1 t2, if_neg (by simp)]
 unfold qu
 rw [hce, andThen_mk, lightRuns_1 1 (by omega) _ hS, andThen_mk]
 simp only
 show need _ (andThen (q2v ((blF 1 (ringN p 1) f10 3).getD (Int.toNat 0) zBlk).1 ((blF 1 (ringN p 1) f10 3).getD (Int.toNat 0) zBlk).2.2.2.1 100) (fun u10 => match u10 with | .inl u12 => none | .inr u13 => fork (!decide (u13.1 = (0 : Int))) none (need (0 ≤ (1 : Int) ∧ (1 : Int) < ((blF 1 (ringN p 1) f10 3).length : Int)) (andThen (qn ((blF 1 (ringN p 1) f10 3).getD (Int.toNat 1) zBlk) 25 u13.2) (fun u16 => andThen (qn ((blF 1 (ringN p 1) f10 3).getD (Int.toNat 1) zBlk) 25 u16.2) (fun u18 => need (0 ≤ (2 : Int) ∧ (2 : Int) < ((blF 1 (ringN p 1) f10 3).length : Int)) (andThen (q1a ((blF 1 (ringN p 1) f10 3).getD (Int.toNat 2) zBlk) [0] 5) (fun u21 => andThen (qh ((blF 1 (ringN p 1) f10 3).getD (Int.toNat 2) zBlk) u21 u18.2) (fun u23 => fork (decide (u16.1 = (0 : Int))) (fork (decide (u18.1 = (8 : Int))) (fork (decide (u23.1 = (0 : Int))) (andThen (qq u23.2) (fun u28 => fork u28 (andThen (qn ((blF 1 (ringN p 1) f10 3).getD (Int.toNat 2) zBlk) 35 u23.2) (fun u31 => some (decide (u31.1 = (5 : Int))))) none)) none) none) none))))))))) = _
 rw [need_true (by omega), show Int.toNat 0 = 0 from rfl, show Int.toNat 1 = 1 from rfl, show Int.toNat 2 = 2 from rfl, g0, g1, g2]
 show andThen (q2v (hF 1 (ringN p 1) f10 0) (ringN p 1) 100) _ = _
 rw [hnew, andThen_mk]
 simp only
 rw [fork_nt trivial, need_true (by omega), upd_eq _ _ _ b1 c0 (by omega), andThen_mk, u1]
 simp only
 rw [upd_eq _ _ _ b1 c1 (by omega), andThen_mk, u2, need_true (by omega), ef, andThen_mk]
 simp only
 rw [mis_eq _ _ _ b2 bt c1, andThen_mk, hm]
 simp only
 rw [fork_t trivial, fork_t trivial, fork_t trivial]
 unfold qq
 rw [andThen_mk, fork_tt]
 have hz : CliOk (cut6 ([hF 1 (ringN p 1) f10 0] ++ [hF 1 (ringN p 1) f10 1]), ringN p 1, 100, true, ()) := c1
 rw [upd_eq _ _ _ b2 hz (by omega), andThen_mk]
 unfold updS
 rw [if_pos rfl]
 rfl
end Go.Ax.V
