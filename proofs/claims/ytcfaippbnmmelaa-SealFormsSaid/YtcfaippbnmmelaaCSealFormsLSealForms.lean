/-
  Chapter 12: names out of order, too many signatures: not right, and none counts; who isn't of the set doesn't count.
-/
import Derived.Test.YtcfaippbnmmelaaCSealFormsLSealMore
namespace Go.Ax.V
open Go.Ax
set_option linter.unusedVariables false
set_option linter.unusedSimpArgs false

abbrev SF := Int × List Val × Hdr × List Signed
theorem sf_step (x0 n i : Int) (set : List Val) (h : Hdr) (s : List Signed) : affiantlaw12_SealForms_1_step x0 n i set h s =
    (fork (decide (i < n)) (need (0 ≤ i ∧ i < (List.length set : Int)) (andThen (affiantkeep_Seed i) (fun u8 => andThen (seal_Sign h ((set.getD (Int.toNat i) zVal).1) u8) (fun u10 => need (List.length s + List.length ([u10] : List Signed) ≤ 2147483648) (some (.inl ((w64 (i + (1 : Int))), (s ++ ([u10] : List Signed))))))))) (some (.inr (x0, set, h, s))) : Option ((Int × List Signed) ⊕ SF)) := rfl
theorem sealForms_1 (x0 : Int) (ps : List Int) (h : Hdr) (hh : Hashes h) (h1 : 1 ≤ h.1) (h2 : h.1 ≤ 16) : affiantlaw12_SealForms_1 x0 (setN ps : Int) 0 (ringS ps) h [] = some (x0, ringS ps, h, sgJ h (List.range (setN ps))) := by
  have hn := setN_b ps
  unfold affiantlaw12_SealForms_1
  have := loop_for (step := fun (t : Int × List Signed) => affiantlaw12_SealForms_1_step x0 (setN ps : Int) t.1 (ringS ps) h t.2) (fun i (_ : Unit) => ((i : Int), sgJ h (List.range i))) (fun _ _ => ()) (fun _ => ((x0, ringS ps, h, sgJ h (List.range (setN ps))) : SF)) (setN ps) (fun _ _ => True) (fun i w hi _ => ⟨?_, trivial⟩) (fun w _ => ?_) (setN ps) 0 () (by omega) trivial
  · exact this
  · show affiantlaw12_SealForms_1_step x0 (setN ps : Int) (i : Int) (ringS ps) h (sgJ h (List.range i)) = _
    have hg := ringS_at ps hi
    rw [sf_step, fork_t (by omega), need_true (by rw [ringS_len]; omega), Int.toNat_natCast, hg, keepSeed_eq, andThen_mk]
    show andThen (seal_Sign h (nm i) (seedK i)) _ = _
    rw [sealSign_eq h hh h1 h2 _ _ (seedK_len i), andThen_mk, need_true (by rw [sgJ_len, List.length_range]; simp only [List.length_cons, List.length_nil]; omega), ← sgJ_next, w64_eq (by omega) (by omega)]
    rfl
  · show affiantlaw12_SealForms_1_step x0 (setN ps : Int) (setN ps : Int) (ringS ps) h (sgJ h (List.range (setN ps))) = _
    rw [sf_step, fork_f (by omega)]
theorem sealForms_2 (set : List Val) (h : Hdr) (s x : List Signed) (hs : 1 ≤ s.length) (hok : SgOk s) : ∃ t, affiantlaw12_SealForms_2 0 set h s x [] = some (set, h, s, x, t) ∧ t.length = 6 ∧ SgOk t := by
  unfold affiantlaw12_SealForms_2
  have := loop_inv (step := fun (u : Int × List Signed) => affiantlaw12_SealForms_2_step u.1 set h s x u.2) (fun i t => t.length = i ∧ SgOk t) 6 (fun t => (set, h, s, x, t)) (fun i t hi ⟨ht, ho⟩ => ?_) (fun t ⟨ht, ho⟩ => ?_) 6 0 [] (by omega) ⟨rfl, fun x hx => nomatch hx⟩
  · obtain ⟨t, e1, e2, e3⟩ := this
    exact ⟨t, e1, e2, e3⟩
  · show ∃ t', affiantlaw12_SealForms_2_step (i : Int) set h s x t = _ ∧ _
    unfold affiantlaw12_SealForms_2_step
    rw [fork_t (by omega), need_true (by omega), need_true (by simp; omega), w64_eq (n := (i : Int) + 1) (by omega) (by omega)]
    exact ⟨_, rfl, by simp [ht], sg_snoc ho (sg_at hok 0)⟩
  · show affiantlaw12_SealForms_2_step 6 set h s x t = _
    unfold affiantlaw12_SealForms_2_step
    rw [fork_f (by omega)]
theorem names_wrong {set : List Val} {h : Hdr} {s : List Signed} (hw : rightSg s = false) : namesS set h s = [] := by
  unfold namesS; rw [if_neg (by rw [hw]; simp)]
theorem part_wrong {set : List Val} {h : Hdr} {s : List Signed} (hw : rightSg s = false) : partS set h s = 0 := by
  unfold partS; rw [names_wrong hw]; exact pow_none fun v _ => rfl
theorem names_stranger (ps : List Int) (h : Hdr) (h1 : 1 ≤ h.1) (h2 : h.1 ≤ 16) : (namesS (ringS ps) h (sgJ h (List.range (setN ps)) ++ [sgS h [122, 122] (seedK 0)])).length = setN ps := by
  have hn := setN_b ps
  have hr : rightSg (sgJ h (List.range (setN ps)) ++ [sgS h [122, 122] (seedK 0)]) = true := by
    unfold rightSg incS
    have hi : incN (nmsS (sgJ h (List.range (setN ps)) ++ [sgS h [122, 122] (seedK 0)])) = true := by
      refine incN_of _ ?_
      unfold nmsS
      rw [List.map_append, List.pairwise_append]
      refine ⟨incN_pair _ (by have := inc_names (range_inc (setN ps)) (fun j hj => by have := List.mem_range.1 hj; omega); rw [← nms_sgJ h] at this; exact this), List.pairwise_singleton _ _, ?_⟩
      intro a ha b hb
      simp only [List.map_cons, List.map_nil, List.mem_singleton] at hb
      subst hb
      have ha : a ∈ nmsS (sgJ h (List.range (setN ps))) := ha
      rw [nms_sgJ] at ha
      obtain ⟨j, hj, rfl⟩ := List.mem_map.1 ha
      have hj := List.mem_range.1 hj
      show sless (nm j) [122, 122] = true
      have : ∀ j, j < 4 → sless (nm j) [122, 122] = true := by decide
      exact this j (by omega)
    rw [hi, Bool.true_and, decide_eq_true_eq, List.length_append, sgJ_len, List.length_range]
    simp only [List.length_cons, List.length_nil]; omega
  unfold namesS namesF
  rw [if_pos hr, List.filter_append, List.filter_eq_self.2, List.filter_cons_of_neg, List.filter_nil, List.append_nil, List.length_map, sgJ_len, List.length_range]
  · unfold goodS sgS
    simp only
    rw [find_out (fun v hv => ?_)]
    · simp
    · obtain ⟨j, hj, rfl⟩ := List.mem_map.1 hv
      have hj := List.mem_range.1 hj
      have : ∀ j, j < 4 → nm j ≠ [122, 122] := by decide
      exact this j (by omega)
  · intro x hx
    obtain ⟨j, hj, rfl⟩ := List.mem_map.1 hx
    exact good_own _ (ringS_dist ps) h h1 h2 (mkRing (pw ps) j) (ringS_mem (List.mem_range.1 hj)) (seedK j) rfl
theorem law_SealForms (y0 : Int × Int × Int × Int × Int × Int × Unit) (y1 : List Int) (y2 : Int) (w0 : Wf (.fld (.int .i64) (.fld (.int .i64) (.fld (.int .i64) (.fld (.int .i64) (.fld (.int .i64) (.fld (.int .i64) .unit)))))) y0) (w1 : Wf (.slice (.int .i64)) y1) (w2 : Wf (.int .i64) y2) : affiantlaw12_SealForms y0 y1 y2 = some true := by
  unfold affiantlaw12_SealForms
  obtain ⟨h, e0, hh, hr, _⟩ := header_eq y0
  have hr2 := (rightHS_iff h).1 hr
  have h1 : 1 ≤ h.1 := by omega
  have h2 : h.1 ≤ 16 := by omega
  have hp : y1.length ≤ 140737488351232 := by have := w1.1; have e : tyBytes (.int .i64) = 8 := rfl; rw [e] at this; omega
  have hset := ringS_small y1
  have hd := ringS_dist y1
  have hn := setN_b y1
  have k0 := keepSeed_eq 0
  have k2 := keepSeed_eq 2
  rw [show ((0 : Nat) : Int) = 0 from rfl] at k0
  rw [show ((2 : Nat) : Int) = 2 from rfl] at k2
  rw [ringed_eq y1 hp, andThen_mk, e0, andThen_mk, ringS_len, sealForms_1 y2 y1 h hh h1 h2, andThen_mk]
  simp only
  have hok := sgJ_ok h h1 h2 (List.range (setN y1))
  have hsl : (sgJ h (List.range (setN y1))).length = setN y1 := by rw [sgJ_len, List.length_range]
  have hrt := right_sgJ h (range_inc (setN y1)) (fun j hj => by have := List.mem_range.1 hj; omega) (by simp; omega)
  have hst := names_stranger y1 h h1 h2
  have hz := sgS_ok h h1 h2 [122, 122] (seedK 0)
  have hq1 : (sgS h [113] (seedK 2)).1 = [113] := rfl
  have hq2 : (sgS h [113] (seedK 2)).2.1.1 = h.1 := rfl
  have hbad : rightSg (sgJ h (List.range (setN y1)) ++ [(sgJ h (List.range (setN y1))).getD 0 zSg]) = false := by
    unfold rightSg
    have : incS (sgJ h (List.range (setN y1)) ++ [(sgJ h (List.range (setN y1))).getD 0 zSg]) = false := by
      rw [← Bool.not_eq_true]
      intro hi
      have hnd := incN_nodup hi
      unfold nmsS at hnd
      rw [List.map_append] at hnd
      have hdj := (List.nodup_append.1 hnd).2.2
      have hm : (sgJ h (List.range (setN y1))).getD 0 zSg ∈ sgJ h (List.range (setN y1)) := getD_mem (by omega)
      exact absurd rfl (hdj _ (List.mem_map_of_mem hm) _ (List.mem_map_of_mem List.mem_cons_self))
    rw [this]; rfl
  have hb2 : SgOk (sgJ h (List.range (setN y1)) ++ [(sgJ h (List.range (setN y1))).getD 0 zSg]) := sg_snoc hok (sg_at hok 0)
  have hs2 : SgOk (sgJ h (List.range (setN y1)) ++ [sgS h [122, 122] (seedK 0)]) := sg_snoc hok hz
  have ab := all_b _ hset
  rw [need_true (by simp only [List.length_nil]; omega), k0, andThen_mk, sealSign_eq h hh h1 h2 _ _ (seedK_len 0), andThen_mk]
  generalize sgS h [122, 122] (seedK 0) = z at *
  generalize sgJ h (List.range (setN y1)) = s at *
  simp only [List.nil_append]
  have hlz : ∀ q : Signed, ([q] : List Signed).length = 1 := fun _ => rfl
  rw [need_true (by rw [hlz]; omega), need_true (by omega), need_true (by rw [hlz]; omega)]
  have hl1 : (s ++ [s.getD 0 zSg]).length = setN y1 + 1 := by rw [List.length_append, hlz]; omega
  have hl2 : (s ++ [z]).length = setN y1 + 1 := by rw [List.length_append, hlz]; omega
  by_cases c : band y2 1 = 1
  · rw [fork_t c]
    obtain ⟨t, e1, e2, e3⟩ := sealForms_2 (ringS y1) h s (s ++ [z]) (by omega) hok
    have hw : rightSg t = false := by unfold rightSg; rw [Bool.and_eq_false_iff]; right; rw [decide_eq_false_iff_not]; omega
    rw [e1, andThen_mk]
    simp only
    rw [k2, andThen_mk, sealSign_eq h hh h1 h2 _ _ (seedK_len 2), andThen_mk, sealRight_eq s (by omega), andThen_mk, hrt, fork_tt, sealRight_eq t (by omega), andThen_mk, hw, Bool.not_false, fork_tt,
      names_eq _ (by rw [ringS_len]; omega) h hh t (by omega) e3, andThen_mk, names_wrong hw, fork_t (show ((([] : List (List UInt8)).length : Int) = 0) from rfl), enough_eq _ hset h hh t (by omega) e3, andThen_mk, part_wrong hw,
      decide_eq_false (by omega), Bool.not_false, fork_tt, names_eq _ (by rw [ringS_len]; omega) h hh _ (by omega) hs2, andThen_mk, hst, ringS_len, fork_t rfl, fork_t hq1, fork_t hq2, law_SealRuns]
    rfl
  · rw [fork_f c, k2, andThen_mk, sealSign_eq h hh h1 h2 _ _ (seedK_len 2), andThen_mk, sealRight_eq s (by omega), andThen_mk, hrt, fork_tt]
    show andThen (seal_Right (s ++ [s.getD 0 zSg])) _ = _
    rw [sealRight_eq _ (by omega), andThen_mk, hbad, Bool.not_false, fork_tt]
    show andThen (seal_Names (ringS y1) h (s ++ [s.getD 0 zSg])) _ = _
    rw [names_eq _ (by rw [ringS_len]; omega) h hh _ (by omega) hb2, andThen_mk, names_wrong hbad, fork_t (show ((([] : List (List UInt8)).length : Int) = 0) from rfl)]
    show andThen (seal_Enough (ringS y1) h (s ++ [s.getD 0 zSg])) _ = _
    rw [enough_eq _ hset h hh _ (by omega) hb2, andThen_mk, part_wrong hbad,
      decide_eq_false (by omega), Bool.not_false, fork_tt, names_eq _ (by rw [ringS_len]; omega) h hh _ (by omega) hs2, andThen_mk, hst, ringS_len, fork_t rfl, fork_t hq1, fork_t hq2, law_SealRuns]
    rfl
end Go.Ax.V
