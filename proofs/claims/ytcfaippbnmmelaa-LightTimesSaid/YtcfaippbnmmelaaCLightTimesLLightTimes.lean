/-
  Chapter 13: within the trusting period a block is taken, beyond it none; one from the future isn't, till it is its time.
-/
import Derived.Test.YtcfaippbnmmelaaCLightTimesLLightRuns
import Derived.Test.YtcfaippbnmmelaaCLightTimesLChain2
namespace Go.Ax.V
open Go.Ax
set_option linter.unusedVariables false
set_option linter.unusedSimpArgs false
def fT (t : Int) (i : Nat) : Int := if i = 0 then 10 else t + (i : Int)
theorem fT_rise {t : Int} (h : 10 ≤ t ∧ t ≤ 1000) : Rise (fT t) := by
 refine ⟨fun i hi => ?_, fun i hi => ?_⟩
 ·unfold fT; split <;> omega
 ·unfold fT
  rw [if_neg (show ¬ i + 1 = 0 by omega)]
  split <;> omega
theorem law_LightTimes (y0 y1 y2 : Int) (w0 : Wf (.int .i64) y0) (w1 : Wf (.int .i64) y1) (w2 : Wf (.int .i64) y2) : affiantlaw13_LightTimes y0 y1 y2 = some true := by
 have hp := pw_ok [1]
 have hn : setN [1] = 1 := rfl
 have hS := ringN_sm (pw [1]) 1 (by omega)
 have hce := chain_eq [1] (by simp)
 rw [hn] at hce
 have hce : affiantkeep_Chain [1] = some ((), seedsN 1, ringsN 1, namesN 1, ringN (pw [1]) 1) := hce
 generalize pw [1] = p at *
 obtain ⟨t, et, t1, t2⟩ := within_eq y2 11 60 (by omega) (by omega) (by omega)
 obtain ⟨P, eP, P1, P2⟩ := within_eq y0 0 60 (by omega) (by omega) (by omega)
 obtain ⟨w, ew, w1, w2⟩ := within_eq y1 0 90 (by omega) (by omega) (by omega)
 have hf := fT_rise (t := t - 1) (by omega)
 have f0 : fT (t - 1) 0 = 10 := rfl
 have f1 : fT (t - 1) 1 = t := by unfold fT; rw [if_neg (by omega)]; omega
 have cA := commitA_eq 1 (by omega) 10 (ringN p 1) (by omega) (by omega) hS
 have hB1 : blF 1 (ringN p 1) (fT (t - 1)) 1 = [blkS 1 (ringN p 1) [] 10] := rfl
 have hl1 := last_blF 1 (ringN p 1) (fT (t - 1)) 0
 have hg1 := good_blF (n := 1) hS (fT (t - 1)) 1
 have cB := commitB_eq 1 (by omega) t (blF 1 (ringN p 1) (fT (t - 1)) 1) [[]] (ringN p 1) (by rw [blF_len]; omega) (by rw [blF_len]; omega) (by simp) (by omega) (by omega) (by
  rw [show (0 + 1) = 1 from rfl] at hl1
  rw [hl1]
  show (hF 1 (ringN p 1) (fT (t - 1)) 0).2.1 < t
  rw [hF_t, f0]; omega) hg1 hS
 have hB2 : blF 1 (ringN p 1) (fT (t - 1)) 1 ++ [blkS 1 (ringN p 1) (blF 1 (ringN p 1) (fT (t - 1)) 1) t] = blF 1 (ringN p 1) (fT (t - 1)) 2 := by
  rw [show blF 1 (ringN p 1) (fT (t - 1)) 2 = blF 1 (ringN p 1) (fT (t - 1)) 1 ++ [blkS 1 (ringN p 1) (blF 1 (ringN p 1) (fT (t - 1)) 1) (fT (t - 1) 1)] from rfl, f1]
 rw [hB2] at cB
 have hl := blF_len 1 (ringN p 1) (fT (t - 1)) 2
 have g0 : (blF 1 (ringN p 1) (fT (t - 1)) 2).getD 0 zBlk = honB 1 (ringN p 1) (hF 1 (ringN p 1) (fT (t - 1)) 0) := blF_at _ _ _ (by omega)
 have g1 : (blF 1 (ringN p 1) (fT (t - 1)) 2).getD 1 zBlk = honB 1 (ringN p 1) (hF 1 (ringN p 1) (fT (t - 1)) 1) := blF_at _ _ _ (by omega)
 have hnew := new_hon hp (Nat.le_refl 1) (show 1 ≤ 4 by omega) hf (P := P) (by omega) (j := 0) (by omega)
 have k0 := knows_new (ringN p 1) P (hF 1 (ringN p 1) (fT (t - 1)) 0)
 have c0 := knows_ok hp (show 1 ≤ 4 by omega) hf (by omega) k0
 have u1 := upd_hon hp (Nat.le_refl 1) (show 1 ≤ 4 by omega) hf (i := 0) (j := 1) (by omega) (by omega) k0 w
 rw [if_neg (by omega), f0, f1] at u1
 have ok := hon_ok (show 1 ≤ 4 by omega) p (hF_hashes 1 (ringN p 1) (fT (t - 1)) 1) (by rw [hF_1]; omega) (by rw [hF_1]; omega)
 have hbad : light_New (hF 1 (ringN p 1) (fT (t - 1)) 0) [] P = some (.inl 1) := by
  rw [new_eq _ _ _ (by intro v hv; cases hv) (by simp)]
  unfold newS
  rw [if_neg]
  rintro ⟨_, h, _⟩
  exact absurd h (by decide)
 have hodd : light_New (hF 1 (ringN p 1) (fT (t - 1)) 0) (ringN p 1) (-1) = some (.inl 1) := by
  rw [new_eq _ _ _ (ringN_key p 1) (by simp [ringN])]
  unfold newS
  rw [if_neg (by omega)]
 have hexp := expired_eq w _ c0 (by omega)
 have k1 := knows_next (h := hF 1 (ringN p 1) (fT (t - 1)) 1) k0 (by simp)
 have c1 := knows_ok hp (show 1 ≤ 4 by omega) hf (by omega) k1
 have w10 : w64 (w - 10) = w - 10 := w64_eq (by omega) (by omega)
 have hupd := upd_eq _ w _ ok c0 (by omega)
 have hlat0 : light_Client_Latest_265a ([hF 1 (ringN p 1) (fT (t - 1)) 0], ringN p 1, P, false, ()) = some (hF 1 (ringN p 1) (fT (t - 1)) 0) := latest_eq _ c0.1 c0.2.1
 have hlat1 := latest_eq _ c1.1 c1.2.1
 rw [k1.2.2.1] at hlat1
 have e0 := hF_1 1 (ringN p 1) (fT (t - 1)) 0
 have e1 := hF_1 1 (ringN p 1) (fT (t - 1)) 1
 have hexp : light_Client_Expired_890f w ([hF 1 (ringN p 1) (fT (t - 1)) 0], ringN p 1, P, false, ()) = some (decide (P < w - 10)) := by
  rw [hexp]
  show some (decide (P < w - (hF 1 (ringN p 1) (fT (t - 1)) 0).2.1)) = _
  rw [hF_t, f0]
 generalize hh0 : hF 1 (ringN p 1) (fT (t - 1)) 0 = h0 at *
 generalize hh1 : hF 1 (ringN p 1) (fT (t - 1)) 1 = h1 at *
 generalize hBB : blF 1 (ringN p 1) (fT (t - 1)) 2 = BB at *
 unfold affiantlaw13_LightTimes
 rw [hce, andThen_mk, cA, andThen_mk, et, andThen_mk]
 simp only
 rw [← hB1, cB, andThen_mk, eP, andThen_mk]
 simp only
 have z0 : BB.getD (Int.toNat 0) (((0 : Int), (0 : Int), (List.replicate 32 (0 : UInt8)), (List.replicate 32 (0 : UInt8)), (List.replicate 32 (0 : UInt8)), (List.replicate 32 (0 : UInt8)), ()), ([] : List Signed), ([] : List Val), ([] : List Val), ()) = honB 1 (ringN p 1) h0 := g0
 have z1 : BB.getD (Int.toNat 1) (((0 : Int), (0 : Int), (List.replicate 32 (0 : UInt8)), (List.replicate 32 (0 : UInt8)), (List.replicate 32 (0 : UInt8)), (List.replicate 32 (0 : UInt8)), ()), ([] : List Signed), ([] : List Val), ([] : List Val), ()) = honB 1 (ringN p 1) h1 := g1
 have zh : (honB 1 (ringN p 1) h0).1 = h0 := rfl
 have zn : (honB 1 (ringN p 1) h0).2.2.2.1 = ringN p 1 := rfl
 rw [need_true (by omega), z0, zh, zn, hnew, andThen_mk]
 simp only
 rw [fork_nt trivial, ew, andThen_mk, w10]
 by_cases q1 : P < w - 10
 ·rw [fork_t q1, hbad, andThen_mk]
  simp only
  rw [hodd, andThen_mk]
  simp only
  rw [hexp, andThen_mk, beq_self_eq_true, fork_tt, need_true (by omega), z1, hupd, andThen_mk, u1, if_pos (.inl q1)]
  simp only
  rw [fork_t trivial, hlat0, andThen_mk, decide_eq_false (by omega), beq_self_eq_true, fork_tt, fork_t trivial, fork_t trivial, law_LightRuns]
  rfl
 ·rw [fork_f q1]
  by_cases q2 : w < t
  ·rw [fork_t q2, hbad, andThen_mk]
   simp only
   rw [hodd, andThen_mk]
   simp only
   rw [hexp, andThen_mk, beq_self_eq_true, fork_tt, need_true (by omega), z1, hupd, andThen_mk, u1, if_pos (.inr q2)]
   simp only
   rw [fork_t trivial, hlat0, andThen_mk, decide_eq_false (by omega), beq_self_eq_true, fork_tt, fork_t trivial, fork_t trivial, law_LightRuns]
   rfl
  ·rw [fork_f q2, hbad, andThen_mk]
   simp only
   rw [hodd, andThen_mk]
   simp only
   rw [hexp, andThen_mk, beq_self_eq_true, fork_tt, need_true (by omega), z1, hupd, andThen_mk, u1, if_neg (by omega)]
   simp only
   rw [fork_t trivial]
   show andThen (light_Client_Latest_265a (cut6 ([h0] ++ [h1]), ringN p 1, P, false, ())) _ = _
   rw [hlat1, andThen_mk, decide_eq_true (by omega), beq_self_eq_true, fork_tt, fork_t trivial, fork_t trivial, law_LightRuns]
   rfl
end Go.Ax.V
