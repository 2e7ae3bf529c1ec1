/-
  Chapter 13: blocks told in any order: those above the last trusted one are taken, others are old.
-/
import Derived.Test.YtcfaippbnmmelaaCLightOrderLLightRuns
namespace Go.Ax.V
open Go.Ax
set_option linter.unusedVariables false
set_option linter.unusedSimpArgs false
def fO (i : Nat) : Int := (i : Int) + 1
theorem fO_rise : Rise fO := ⟨fun i hi => by unfold fO; omega, fun i hi => by unfold fO; omega⟩
theorem lightOrder_1 (x0 : List Int) (n : Nat) (hn : n ≤ 4) (S : List Val) (hS : SetSm S) : affiantlaw13_LightOrder_1 x0 0 [] [] () (seedsN n) (ringsN n) (namesN n) S = some (x0, blF n S fO 9, List.replicate 9 [], (), seedsN n, ringsN n, namesN n, S) := by
 unfold affiantlaw13_LightOrder_1
 have := loop_for (step := fun (t : Int × List Block × Rows × Unit × List (List UInt8) × List (List (List UInt8)) × List (List UInt8) × List Val) => affiantlaw13_LightOrder_1_step x0 t.1 t.2.1 t.2.2.1 t.2.2.2.1 t.2.2.2.2.1 t.2.2.2.2.2.1 t.2.2.2.2.2.2.1 t.2.2.2.2.2.2.2) (fun i (_ : Unit) => ((i : Int), blF n S fO i, List.replicate i [], (), seedsN n, ringsN n, namesN n, S)) (fun _ _ => ()) (fun _ => (x0, blF n S fO 9, List.replicate 9 [], (), seedsN n, ringsN n, namesN n, S)) 9 (fun _ _ => True) (fun i w hi _ => ⟨?_, trivial⟩) (fun w _ => ?_) 9 0 () (by omega) trivial
 ·exact this
 ·show affiantlaw13_LightOrder_1_step x0 (i : Int) (blF n S fO i) (List.replicate i []) () (seedsN n) (ringsN n) (namesN n) S = _
  unfold affiantlaw13_LightOrder_1_step
  have e : w64 ((i : Int) + 1) = fO i := by rw [w64_eq (n := (i : Int) + 1) (by omega) (by omega)]; rfl
  rw [fork_t (by omega), e, commitF hn hS i (by omega) (by unfold fO; omega) (fun h => by unfold fO; omega), andThen_mk]
  rfl
 ·show affiantlaw13_LightOrder_1_step x0 9 (blF n S fO 9) (List.replicate 9 []) () (seedsN n) (ringsN n) (namesN n) S = _
  unfold affiantlaw13_LightOrder_1_step
  rw [fork_f (by omega)]
def lastN (l : List Hdr) : List Hdr := l.drop (l.length - 6)
theorem lastN_next (l : List Hdr) (h : Hdr) : cut6 (lastN l ++ [h]) = lastN (l ++ [h]) := by
 unfold cut6 lastN
 rw [List.length_append, List.length_drop, List.length_append]
 simp only [List.length_cons, List.length_nil]
 by_cases c : 6 ≤ l.length
 ·rw [if_pos (by omega), List.drop_append_of_le_length (by rw [List.length_drop]; omega), List.drop_drop, List.drop_append_of_le_length (by omega)]
  congr 2
  omega
 ·rw [if_neg (by omega), show l.length - 6 = 0 by omega, show l.length + (0 + 1) - 6 = 0 by omega, List.drop_zero, List.drop_zero]
def OrdI (S : List Val) (hf : Nat → Hdr) (t : Nat) (s : Cli × List Hdr) : Prop := ∃ i, i < 9 ∧ Knows S 500 (hf i) s.1 ∧ s.1.1 = lastN s.2 ∧ 1 ≤ s.2.length ∧ s.2.length ≤ t + 1 ∧ s.2.getD (s.2.length - 1) zHdr = hf i
theorem same_hdr (a : List Hdr) (ha : a.length ≤ 1073741824) : affiantbook_Same_Header a a = some true := by
 have main : affiantbook_Same_Header_1 a a 0 = some (.inr ()) := by
  unfold affiantbook_Same_Header_1
  have := loop_for (step := fun (s : Int) => affiantbook_Same_Header_1_step a a s) (fun i (_ : Unit) => (i : Int)) (fun _ _ => ()) (fun _ => .inr ()) a.length (fun _ _ => True) (fun i w hi _ => ⟨?_, trivial⟩) (fun w _ => ?_) a.length 0 () (by omega) trivial
  ·exact this
  ·unfold affiantbook_Same_Header_1_step
   rw [fork_t (by omega), need_true (by omega), need_true (by omega)]
   show fork (!eqHd _ _) _ _ = _
   rw [eqHd_self, Bool.not_true, fork_ff, w64_eq (by omega) (by omega)]
   rfl
  ·unfold affiantbook_Same_Header_1_step
   rw [fork_f (by omega)]
 unfold affiantbook_Same_Header
 rw [fork_nt rfl, main]
 rfl
theorem lo2_step (x0 : List Int) (i : Int) (B : List Block) (R : Rows) (u : Unit) (seeds : List (List UInt8)) (rings : List (List (List UInt8))) (names : List (List UInt8)) (S : List Val) (c : Cli) (w : List Hdr) : affiantlaw13_LightOrder_2_step x0 i B R u seeds rings names S c w =
  (fork (decide (i < (List.length x0 : Int))) (fork (decide (i < (12 : Int))) (need (0 ≤ i ∧ i < (List.length x0 : Int)) (andThen (affiantbook_Within (List.getD x0 (Int.toNat i) (0 : Int)) (0 : Int) (8 : Int)) (fun u19 => need (0 ≤ u19 ∧ u19 < (List.length B : Int)) (andThen (light_Client_Update_b86e (List.getD B (Int.toNat u19) zBlk) (20 : Int) c) (fun u22 => need (0 ≤ (w64 ((List.length w : Int) - (1 : Int))) ∧ (w64 ((List.length w : Int) - (1 : Int))) < (List.length w : Int)) (fork (decide ((List.getD w (Int.toNat (w64 ((List.length w : Int) - (1 : Int)))) zHdr).1 < (List.getD B (Int.toNat u19) zBlk).1.1)) (fork (!decide (u22.1 = (0 : Int))) (some (.inr (.inl false))) (need (List.length w + List.length ([(List.getD B (Int.toNat u19) zBlk).1] : List Hdr) ≤ 2147483648) (some (.inl ((w64 (i + (1 : Int))), u22.2, (w ++ ([(List.getD B (Int.toNat u19) zBlk).1] : List Hdr))))))) (fork (!decide (u22.1 = (8 : Int))) (some (.inr (.inl false))) (some (.inl ((w64 (i + (1 : Int))), u22.2, w)))))))))) (some (.inr (.inr (c, w))))) (some (.inr (.inr (c, w)))) : Option ((Int × Cli × List Hdr) ⊕ (Bool ⊕ (Cli × List Hdr)))) := rfl
theorem lightOrder_2 (x0 : List Int) {p : Nat → Int} (hp : PwOk p) {n : Nat} (h1 : 1 ≤ n) (hn : n ≤ 4) (R : Rows) (seeds : List (List UInt8)) (rings : List (List (List UInt8))) (names : List (List UInt8)) (c : Cli) (w : List Hdr) (hI : OrdI (ringN p n) (hF n (ringN p n) fO) 0 (c, w)) :
  ∃ s : Cli × List Hdr, affiantlaw13_LightOrder_2 x0 0 (blF n (ringN p n) fO 9) R () seeds rings names (ringN p n) c w = some (.inr s) ∧ OrdI (ringN p n) (hF n (ringN p n) fO) 12 s := by
 unfold affiantlaw13_LightOrder_2
 have hl := blF_len n (ringN p n) fO 9
 have := loop_inv (step := fun (t : Int × Cli × List Hdr) => affiantlaw13_LightOrder_2_step x0 t.1 (blF n (ringN p n) fO 9) R () seeds rings names (ringN p n) t.2.1 t.2.2) (fun i t => OrdI (ringN p n) (hF n (ringN p n) fO) i t) (min x0.length 12) (fun t => (.inr t : Bool ⊕ (Cli × List Hdr))) (fun m t hm ht => ?_) (fun t ht => ?_) (min x0.length 12) 0 (c, w) (by omega) hI
 ·obtain ⟨s, e1, e2⟩ := this
  refine ⟨s, e1, ?_⟩
  obtain ⟨i, a1, a2, a3, a4, a5, a6⟩ := e2
  exact ⟨i, a1, a2, a3, a4, by omega, a6⟩
 ·obtain ⟨c, w⟩ := t
  obtain ⟨i, a1, a2, a3, a4, a5, a6⟩ := ht
  show ∃ t', affiantlaw13_LightOrder_2_step x0 (m : Int) (blF n (ringN p n) fO 9) R () seeds rings names (ringN p n) c w = _ ∧ _
  obtain ⟨r, er, r1, r2⟩ := within_eq (x0.getD m 0) 0 8 (by omega) (by omega) (by omega)
  simp only at a3 a4 a5 a6
  have hj : r.toNat < 9 := by omega
  have hb := blF_at n (ringN p n) fO hj
  have u := upd_hon hp h1 hn fO_rise (i := i) (j := r.toNat) (by omega) (by omega) a2 20
  have ok := hon_ok hn p (hF_hashes n (ringN p n) fO r.toNat) (by rw [hF_1]; omega) (by rw [hF_1]; omega)
  have hc := knows_ok hp hn fO_rise (by omega) a2
  have hw : w64 ((w.length : Int) - 1) = (w.length : Int) - 1 := w64_eq (by omega) (by omega)
  have hh : (honB n (ringN p n) (hF n (ringN p n) fO r.toNat)).1 = hF n (ringN p n) fO r.toNat := rfl
  rw [lo2_step, fork_t (by omega), fork_t (by omega), need_true (by omega), Int.toNat_natCast, er, andThen_mk, need_true (by omega), hb, upd_eq _ _ _ ok hc (by omega), andThen_mk, hw, need_true (by omega), show Int.toNat ((w.length : Int) - 1) = w.length - 1 by omega, a6, hF_1, hh, hF_1, u, w64_eq (n := (m : Int) + 1) (by omega) (by omega)]
  by_cases q : r.toNat ≤ i
  ·rw [fork_f (by omega), if_pos q, fork_nt rfl]
   exact ⟨_, rfl, i, a1, a2, a3, a4, Nat.le_succ_of_le a5, a6⟩
  ·rw [fork_t (by omega), if_neg q, if_neg (by unfold fO; omega), fork_nt rfl, need_true (by simp only [List.length_cons, List.length_nil]; omega)]
   refine ⟨_, rfl, r.toNat, hj, knows_next a2 ?_, ?_, ?_, ?_, ?_⟩
   ·rw [a3]; unfold lastN; rw [List.length_drop]; omega
   ·show cut6 (c.1 ++ [_]) = lastN (w ++ [_])
    rw [a3, lastN_next]
   ·simp
   ·show (w ++ [_]).length ≤ _
    rw [List.length_append]; simp only [List.length_cons, List.length_nil]; omega
   ·show (w ++ [_]).getD ((w ++ [_]).length - 1) zHdr = _
    rw [List.length_append, List.getD_eq_getElem?_getD, List.getElem?_append_right (by simp)]
    simp
 ·obtain ⟨c, w⟩ := t
  show affiantlaw13_LightOrder_2_step x0 ((min x0.length 12 : Nat) : Int) (blF n (ringN p n) fO 9) R () seeds rings names (ringN p n) c w = _
  rw [lo2_step]
  by_cases q : x0.length ≤ 12
  ·rw [fork_f (by omega)]
  ·rw [fork_t (by omega), fork_f (by omega)]
theorem law_LightOrder (y0 y1 : List Int) (w0 : Wf (.slice (.int .i64)) y0) (w1 : Wf (.slice (.int .i64)) y1) : affiantlaw13_LightOrder y0 y1 = some true := by
 have e8 : tyBytes (.int .i64) = 8 := rfl
 have hp0 : y0.length ≤ 140737488351232 := by have := w0.1; rw [e8] at this; omega
 have hp := pw_ok y0
 obtain ⟨h1, hn⟩ := setN_b y0
 have hS := ringN_sm (pw y0) (setN y0) hn
 have hce := chain_eq y0 hp0
 have hce : affiantkeep_Chain y0 = some ((), seedsN (setN y0), ringsN (setN y0), namesN (setN y0), ringN (pw y0) (setN y0)) := hce
 generalize pw y0 = p at *
 generalize setN y0 = n at *
 have hl := blF_len n (ringN p n) fO 9
 have g0 : (blF n (ringN p n) fO 9).getD 0 zBlk = honB n (ringN p n) (hF n (ringN p n) fO 0) := blF_at _ _ _ (by omega)
 have hnew := new_hon hp h1 hn fO_rise (P := 500) (by omega) (j := 0) (by omega)
 have k0 := knows_new (ringN p n) 500 (hF n (ringN p n) fO 0)
 obtain ⟨s, e2, i, a1, a2, a3, a4, a5, a6⟩ := lightOrder_2 y1 hp h1 hn (List.replicate 9 []) (seedsN n) (ringsN n) (namesN n) _ [hF n (ringN p n) fO 0] ⟨0, by omega, k0, rfl, Nat.le_refl _, Nat.le_refl _, rfl⟩
 unfold affiantlaw13_LightOrder
 rw [hce, andThen_mk, lightOrder_1 y1 n hn _ hS, andThen_mk]
 simp only
 rw [need_true (by omega), show Int.toNat 0 = 0 from rfl]
 show andThen (light_New ((blF n (ringN p n) fO 9).getD 0 zBlk).1 ((blF n (ringN p n) fO 9).getD 0 zBlk).2.2.2.1 500) (fun u10 => match u10 with | .inl u12 => none | .inr u13 => fork (!decide (u13.1 = (0 : Int))) none (andThen (affiantlaw13_LightOrder_2 y1 0 (blF n (ringN p n) fO 9) (List.replicate 9 []) () (seedsN n) (ringsN n) (namesN n) (ringN p n) u13.2 [((blF n (ringN p n) fO 9).getD 0 zBlk).1]) (fun o29 => match o29 with | .inl o31 => some o31 | .inr o32 => andThen (light_Client_Heads_265a o32.1) (fun u33 => need (0 ≤ (max (w64 ((List.length o32.2 : Int) - (6 : Int))) (0 : Int)) ∧ (max (w64 ((List.length o32.2 : Int) - (6 : Int))) (0 : Int)) ≤ (List.length o32.2 : Int) ∧ (List.length o32.2 : Int) ≤ (List.length o32.2 : Int)) (andThen (affiantbook_Same_Header u33 (cutL o32.2 (max (w64 ((List.length o32.2 : Int) - (6 : Int))) (0 : Int)) (List.length o32.2 : Int))) (fun u36 => fork u36 (andThen affiantlaw13_LightRuns (fun u39 => some u39)) none)))))) = _
 rw [g0]
 show andThen (light_New (hF n (ringN p n) fO 0) (ringN p n) 500) _ = _
 rw [hnew, andThen_mk]
 simp only
 rw [fork_nt trivial]
 show andThen (affiantlaw13_LightOrder_2 y1 0 (blF n (ringN p n) fO 9) (List.replicate 9 []) () (seedsN n) (ringsN n) (namesN n) (ringN p n) _ [hF n (ringN p n) fO 0]) _ = _
 rw [e2, andThen_mk]
 simp only
 have hw : max (w64 ((s.2.length : Int) - 6)) 0 = ((s.2.length - 6 : Nat) : Int) := by rw [w64_eq (by omega) (by omega)]; omega
 unfold light_Client_Heads_265a
 have hlen : s.1.1.length ≤ 100 := by rw [a3]; unfold lastN; rw [List.length_drop]; omega
 rw [cloneH_eq _ (by omega), andThen_mk, andThen_mk, hw, need_true (by omega), cut_from, Int.toNat_natCast]
 show andThen (affiantbook_Same_Header s.1.1 (lastN s.2)) _ = _
 rw [← a3, same_hdr _ (by omega), andThen_mk, fork_tt, law_LightRuns]
 rfl
end Go.Ax.V
