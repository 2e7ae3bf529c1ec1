/-
  Chapter 12: a signature more never has less power; in a smaller set those count who are left; of another header they count just if the reckoning says so.
-/
import Derived.Test.YtcfaippbnmmelaaCLightOrderLSealJ
namespace Go.Ax.V
open Go.Ax
set_option linter.unusedVariables false
set_option linter.unusedSimpArgs false
theorem range_inc (n : Nat) : (List.range n).Pairwise (· < ·) := List.pairwise_lt_range
theorem partJ (ps : List Int) (h : Hdr) (h1 : 1 ≤ h.1) (h2 : h.1 ≤ 16) {i : Nat} (hi : i ≤ setN ps) : partS (ringS ps) h (sgJ h (List.range i)) = pwJ (pw ps) (List.range i) := by
 have hn := setN_b ps
 unfold partS
 rw [names_sgJ ps h h1 h2 (range_inc i) (fun j hj => by have := List.mem_range.1 hj; omega) (by simp; omega)]
 have e := pow_ring (pw ps) (fun v => ((List.range i).map nm).contains v.1) (fun j => decide (j < i)) (setN ps) (fun j hj => by
  show ((List.range i).map nm).contains (nm j) = _
  rw [contains_nm (fun j hj => by have := List.mem_range.1 hj; omega) (by omega), Bool.eq_iff_iff]
  simp)
 show pow _ (ringN (pw ps) (setN ps)) = _
 rw [e]
 congr 1
 obtain ⟨k, hk⟩ : ∃ k, setN ps = i + k := ⟨setN ps - i, by omega⟩
 rw [hk, List.range_add, List.filter_append, List.filter_eq_self.2 (fun j hj => by simpa using hj), List.filter_eq_nil_iff.2 (fun j hj => by
  obtain ⟨q, _, rfl⟩ := List.mem_map.1 hj
  simp), List.append_nil]
theorem sgJ_next (h : Hdr) (i : Nat) : sgJ h (List.range (i + 1)) = sgJ h (List.range i) ++ [sgS h (nm i) (seedK i)] := by
 unfold sgJ; rw [List.range_succ, List.map_append]; rfl
theorem sgJ_len (h : Hdr) (js : List Nat) : (sgJ h js).length = js.length := by simp [sgJ]
abbrev SM := Int × List Val × Hdr × Hdr × List Signed
theorem sm_step (x0 acc n i : Int) (set : List Val) (h g : Hdr) (s : List Signed) : affiantlaw12_SealMore_1_step x0 acc n i set h g s =
  (fork (decide (i < n)) (need (0 ≤ i ∧ i < (List.length set : Int)) (andThen (affiantkeep_Seed i) (fun u10 => andThen (seal_Sign h ((set.getD (Int.toNat i) zVal).1) u10) (fun u12 => need (List.length s + List.length ([u12] : List Signed) ≤ 2147483648) (andThen (seal_Tally set h (s ++ ([u12] : List Signed))) (fun u15 => need (Int.natAbs (set.getD (Int.toNat i) zVal).2.1 < 9007199254740992) (need (Int.natAbs (acc + (set.getD (Int.toNat i) zVal).2.1) < 9007199254740992) (fork (!decide (u15.1 = (acc + (set.getD (Int.toNat i) zVal).2.1))) (some (.inr (.inl false))) (some (.inl (u15.1, (w64 (i + (1 : Int))), (s ++ ([u12] : List Signed))))))))))))) (some (.inr (.inr (x0, set, h, g, s)))) : Option ((Int × Int × List Signed) ⊕ (Bool ⊕ SM))) := rfl
theorem sealMore_1 (x0 : Int) (ps : List Int) (h g : Hdr) (hh : Hashes h) (h1 : 1 ≤ h.1) (h2 : h.1 ≤ 16) : affiantlaw12_SealMore_1 x0 0 (setN ps : Int) 0 (ringS ps) h g [] = some (.inr (x0, ringS ps, h, g, sgJ h (List.range (setN ps)))) := by
 have hn := setN_b ps
 unfold affiantlaw12_SealMore_1
 have := loop_for (step := fun (t : Int × Int × List Signed) => affiantlaw12_SealMore_1_step x0 t.1 (setN ps : Int) t.2.1 (ringS ps) h g t.2.2) (fun i (_ : Unit) => (pwJ (pw ps) (List.range i), (i : Int), sgJ h (List.range i))) (fun _ _ => ()) (fun _ => (.inr (x0, ringS ps, h, g, sgJ h (List.range (setN ps))) : Bool ⊕ SM)) (setN ps) (fun _ _ => True) (fun i w hi _ => ⟨?_, trivial⟩) (fun w _ => ?_) (setN ps) 0 () (by omega) trivial
 ·exact this
 ·show affiantlaw12_SealMore_1_step x0 (pwJ (pw ps) (List.range i)) (setN ps : Int) (i : Int) (ringS ps) h g (sgJ h (List.range i)) = _
  have hb := pwJ_b (pw ps) (pw_s ps) (List.range i)
  have hp := pw_s ps i
  have hg := ringS_at ps hi
  have hl : (List.range i).length = i := List.length_range
  rw [sm_step, fork_t (by omega), need_true (by rw [ringS_len]; omega), Int.toNat_natCast, hg, keepSeed_eq, andThen_mk]
  show andThen (seal_Sign h (nm i) (seedK i)) _ = _
  rw [sealSign_eq h hh h1 h2 _ _ (seedK_len i), andThen_mk, need_true (by rw [sgJ_len, hl]; simp only [List.length_cons, List.length_nil]; omega), ← sgJ_next, sealTally_eq _ (ringS_small ps) h hh _ (by rw [sgJ_len, List.length_range]; omega) (sgJ_ok h h1 h2 _), andThen_mk]
  show need (Int.natAbs (pw ps i) < _) (need (Int.natAbs (pwJ (pw ps) (List.range i) + pw ps i) < _) (fork (!decide (partS (ringS ps) h (sgJ h (List.range (i + 1))) = pwJ (pw ps) (List.range i) + pw ps i)) _ _)) = _
  have e : pwJ (pw ps) (List.range (i + 1)) = pwJ (pw ps) (List.range i) + pw ps i := by
   rw [List.range_succ, pwJ_snoc]; simp [pwJ]
  rw [need_true (by omega), need_true (by omega), partJ ps h h1 h2 (by omega), e, fork_nt rfl, w64_eq (by omega) (by omega)]
  rfl
 ·show affiantlaw12_SealMore_1_step x0 (pwJ (pw ps) (List.range (setN ps))) (setN ps : Int) (setN ps : Int) (ringS ps) h g (sgJ h (List.range (setN ps))) = _
  rw [sm_step, fork_f (by omega)]
theorem ringN_take (p : Nat → Int) {n c : Nat} (h : c ≤ n) : (ringN p n).take c = ringN p c := by
 unfold ringN
 rw [← List.map_take, List.take_range, Nat.min_eq_left h]
theorem names_few (ps : List Int) (h : Hdr) (h1 : 1 ≤ h.1) (h2 : h.1 ≤ 16) {c : Nat} (hc : c ≤ setN ps) : (namesS (ringN (pw ps) c) h (sgJ h (List.range (setN ps)))).length = c := by
 have hn := setN_b ps
 unfold namesS namesF
 rw [if_pos (right_sgJ h (range_inc _) (fun j hj => by have := List.mem_range.1 hj; omega) (by simp; omega)), List.length_map]
 obtain ⟨k, hk⟩ : ∃ k, setN ps = c + k := ⟨setN ps - c, by omega⟩
 unfold sgJ
 rw [hk, List.range_add, List.map_append, List.filter_append, List.filter_eq_self.2, List.filter_eq_nil_iff.2, List.append_nil, List.length_map, List.length_range]
 ·intro x hx
  obtain ⟨j, hj, rfl⟩ := List.mem_map.1 hx
  obtain ⟨q, hq, rfl⟩ := List.mem_map.1 hj
  have hq := List.mem_range.1 hq
  unfold goodS sgS
  simp only
  rw [find_out (fun v hv => ?_)]
  ·simp
  ·obtain ⟨j, hj, rfl⟩ := List.mem_map.1 hv
   have hj := List.mem_range.1 hj
   intro e
   have := nm_inj j (by omega) (c + q) (by omega) e
   omega
 ·intro x hx
  obtain ⟨j, hj, rfl⟩ := List.mem_map.1 hx
  exact good_own _ (ringN_dist (pw ps) c (by omega)) h h1 h2 (mkRing (pw ps) j) (List.mem_map_of_mem hj) (seedK j) rfl
theorem all_ring (ps : List Int) : allS (ringS ps) = pwJ (pw ps) (List.range (setN ps)) := by
 unfold allS
 show pow _ (ringN (pw ps) (setN ps)) = _
 rw [pow_ring (pw ps) (fun _ => true) (fun _ => true) (setN ps) (fun _ _ => rfl), List.filter_eq_self.2 (fun _ _ => rfl)]
theorem pwJ_pos (ps : List Int) : ∀ js : List Nat, js ≠ [] → 1 ≤ pwJ (pw ps) js
 | [], h => absurd rfl h
 | j :: js, _ => by
  have := pw_b ps j
  have := pwJ_b (pw ps) (pw_s ps) js
  unfold pwJ at *
  rw [List.map_cons, List.sum_cons]; omega
theorem law_SealMore (y0 y1 : Int × Int × Int × Int × Int × Int × Unit) (y2 : List Int) (y3 : Int) (w0 : Wf (.fld (.int .i64) (.fld (.int .i64) (.fld (.int .i64) (.fld (.int .i64) (.fld (.int .i64) (.fld (.int .i64) .unit)))))) y0) (w1 : Wf (.fld (.int .i64) (.fld (.int .i64) (.fld (.int .i64) (.fld (.int .i64) (.fld (.int .i64) (.fld (.int .i64) .unit)))))) y1) (w2 : Wf (.slice (.int .i64)) y2) (w3 : Wf (.int .i64) y3) : affiantlaw12_SealMore y0 y1 y2 y3 = some true := by
 unfold affiantlaw12_SealMore
 obtain ⟨h, e0, hh, hr, _⟩ := header_eq y0
 obtain ⟨g, e1, gh, gr, _⟩ := header_eq y1
 have hr2 := (rightHS_iff h).1 hr
 have gr2 := (rightHS_iff g).1 gr
 have h1 : 1 ≤ h.1 := by omega
 have h2 : h.1 ≤ 16 := by omega
 have hp : y2.length ≤ 140737488351232 := by have := w2.1; have e : tyBytes (.int .i64) = 8 := rfl; rw [e] at this; omega
 have hset := ringS_small y2
 have hd := ringS_dist y2
 have hn := setN_b y2
 rw [ringed_eq y2 hp, andThen_mk, e0, andThen_mk, e1, andThen_mk, ringS_len, sealMore_1 y3 y2 h g hh h1 h2, andThen_mk]
 simp only
 obtain ⟨c, ec, c1, c2⟩ := within_eq y3 1 (setN y2) (by omega) (by omega) (by omega)
 have hok := sgJ_ok h h1 h2 (List.range (setN y2))
 have hsl : (sgJ h (List.range (setN y2))).length = setN y2 := by rw [sgJ_len, List.length_range]
 have hfew := names_few y2 h h1 h2 (c := c.toNat) (by omega)
 have hpos := pwJ_pos y2 (List.range (setN y2)) (by intro e; have := congrArg List.length e; simp at this; omega)
 have hpart := partJ y2 h h1 h2 (Nat.le_refl (setN y2))
 have hall := all_ring y2
 have hcut : cutL (ringS y2) 0 c = ringN (pw y2) c.toNat := by
  show List.drop (Int.toNat 0) (List.take c.toNat (ringN (pw y2) (setN y2))) = _
  rw [ringN_take _ (by omega)]; rfl
 have hfl : (ringN (pw y2) c.toNat).length = c.toNat := by simp [ringN]
 generalize sgJ h (List.range (setN y2)) = s at *
 rw [ringS_len, ec, andThen_mk, need_true (by omega), enough_eq _ hset h hh s (by omega) hok, andThen_mk, hall, hpart, fork_t (by omega), some_eq _ hset h hh s (by omega) hok, andThen_mk, hall, hpart, fork_t (by omega), hcut,
  names_eq _ (by omega) h hh s (by omega) hok, andThen_mk, fork_t (by omega), sealTally_eq _ hset g gh s (by omega) hok, andThen_mk, signers_part _ hset hd g gh gr s (by omega) hok, andThen_mk]
 have pb := part_b _ hset g s
 rw [need_true (by omega), fork_t rfl, names_eq _ (by rw [ringS_len]; omega) h hh [] (by simp) (fun x hx => nomatch hx), andThen_mk]
 have := namesS_len (ringS y2) h []
 simp only [List.length_nil] at this
 rw [fork_t (by omega), law_SealRuns]
 rfl
end Go.Ax.V
