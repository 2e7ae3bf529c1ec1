/-
  Chapter 12: those who sign count, each once; those who don't sign don't.
-/
import Derived.Test.YtgjebofbjdfdhaaCSealHonestLSealRuns
import Derived.Test.YtgjebofbjdfdhaaCSealHonestLSameS
namespace Go.Ax.V
open Go.Ax
set_option linter.unusedVariables false
set_option linter.unusedSimpArgs false

def inW (who : List Bool) (i : Nat) : Bool := decide (i < who.length) && who.getD i false
def insJ (who : List Bool) (i : Nat) : List Nat := (List.range i).filter (inW who)
theorem insJ_next (who : List Bool) (i : Nat) : insJ who (i + 1) = insJ who i ++ (if inW who i then [i] else []) := by
  unfold insJ
  rw [List.range_succ, List.filter_append]
  congr 1
  by_cases h : inW who i
  · rw [if_pos h, List.filter_cons_of_pos h, List.filter_nil]
  · rw [if_neg h, List.filter_cons_of_neg h, List.filter_nil]
theorem insJ_lt {who : List Bool} {i j : Nat} (h : j ∈ insJ who i) : j < i := List.mem_range.1 (List.mem_filter.1 h).1
theorem insJ_len (who : List Bool) (i : Nat) : (insJ who i).length ≤ i := by
  have := List.length_filter_le (inW who) (List.range i)
  rw [List.length_range] at this
  exact this
theorem insJ_inc (who : List Bool) (i : Nat) : (insJ who i).Pairwise (· < ·) := List.Pairwise.filter _ List.pairwise_lt_range
noncomputable def sgJ (h : Hdr) (js : List Nat) : List Signed := js.map fun j => sgS h (nm j) (seedK j)
def pwJ (p : Nat → Int) (js : List Nat) : Int := (js.map p).sum
theorem pwJ_b (p : Nat → Int) (hp : ∀ i, 0 ≤ p i ∧ p i ≤ 2097152) : ∀ js, 0 ≤ pwJ p js ∧ pwJ p js ≤ 2097152 * js.length
  | [] => ⟨Int.le_refl _, Int.le_refl _⟩
  | j :: js => by
    have := pwJ_b p hp js
    have := hp j
    unfold pwJ at *
    rw [List.map_cons, List.sum_cons, List.length_cons]
    omega
theorem pwJ_snoc (p : Nat → Int) (js ks : List Nat) : pwJ p (js ++ ks) = pwJ p js + pwJ p ks := by
  unfold pwJ; rw [List.map_append, List.sum_append]
abbrev SH := Int × List Val × Hdr × List Signed × List (List UInt8)
theorem sh_step (who : List Bool) (acc n i : Int) (set : List Val) (h : Hdr) (s : List Signed) (ns : List (List UInt8)) : affiantlaw12_SealHonest_1_step who acc n i set h s ns =
    (fork (decide (i < n)) (need (0 ≤ i ∧ i < (List.length set : Int)) (fork (decide (i < (List.length who : Int))) (need (0 ≤ i ∧ i < (List.length who : Int)) (fork (List.getD who (Int.toNat i) false) (andThen (affiantkeep_Seed i) (fun u11 => andThen (seal_Sign h ((set.getD (Int.toNat i) zVal).1) u11) (fun u13 => need (List.length s + List.length ([u13] : List Signed) ≤ 2147483648) (need (List.length ns + List.length ([(set.getD (Int.toNat i) zVal).1] : List (List UInt8)) ≤ 2147483648) (some (.inl ((w64 (acc + (set.getD (Int.toNat i) zVal).2.1)), (w64 (i + (1 : Int))), (s ++ ([u13] : List Signed)), (ns ++ ([(set.getD (Int.toNat i) zVal).1] : List (List UInt8)))))))))) (some (.inl (acc, (w64 (i + (1 : Int))), s, ns))))) (some (.inl (acc, (w64 (i + (1 : Int))), s, ns))))) (some (.inr (acc, set, h, s, ns))) : Option ((Int × Int × List Signed × List (List UInt8)) ⊕ SH)) := rfl
theorem sealHonest_1 (ps : List Int) (who : List Bool) (h : Hdr) (hh : Hashes h) (h1 : 1 ≤ h.1) (h2 : h.1 ≤ 16) : affiantlaw12_SealHonest_1 who 0 (setN ps : Int) 0 (ringS ps) h [] [] =
    some (pwJ (pw ps) (insJ who (setN ps)), ringS ps, h, sgJ h (insJ who (setN ps)), (insJ who (setN ps)).map nm) := by
  have hn := setN_b ps
  unfold affiantlaw12_SealHonest_1
  have := loop_for (step := fun (t : Int × Int × List Signed × List (List UInt8)) => affiantlaw12_SealHonest_1_step who t.1 (setN ps : Int) t.2.1 (ringS ps) h t.2.2.1 t.2.2.2) (fun i (_ : Unit) => (pwJ (pw ps) (insJ who i), (i : Int), sgJ h (insJ who i), (insJ who i).map nm)) (fun _ _ => ()) (fun _ => ((pwJ (pw ps) (insJ who (setN ps)), ringS ps, h, sgJ h (insJ who (setN ps)), (insJ who (setN ps)).map nm) : SH)) (setN ps) (fun _ _ => True) (fun i w hi _ => ⟨?_, trivial⟩) (fun w _ => ?_) (setN ps) 0 () (by omega) trivial
  · exact this
  · show affiantlaw12_SealHonest_1_step who (pwJ (pw ps) (insJ who i)) (setN ps : Int) (i : Int) (ringS ps) h (sgJ h (insJ who i)) ((insJ who i).map nm) = _
    have hl := insJ_len who i
    have hb := pwJ_b (pw ps) (pw_s ps) (insJ who i)
    have hp := pw_s ps i
    have hg := ringS_at ps hi
    have hsl : (sgJ h (insJ who i)).length = (insJ who i).length := by simp [sgJ]
    rw [sh_step, fork_t (by omega), need_true (by rw [ringS_len]; omega), Int.toNat_natCast, hg]
    have nxt : w64 ((i : Int) + 1) = ((i + 1 : Nat) : Int) := w64_eq (by omega) (by omega)
    rw [nxt]
    by_cases c1 : i < who.length
    · rw [fork_t (by omega), need_true (by omega)]
      by_cases c2 : who.getD i false = true
      · have c : inW who i = true := by unfold inW; rw [decide_eq_true c1, c2]; rfl
        rw [c2, fork_tt, keepSeed_eq, andThen_mk]
        show andThen (seal_Sign h (nm i) (seedK i)) _ = _
        rw [sealSign_eq h hh h1 h2 _ _ (seedK_len i), andThen_mk, need_true (by rw [hsl]; simp only [List.length_cons, List.length_nil]; omega), need_true (by simp only [List.length_cons, List.length_nil, List.length_map]; omega)]
        show some (Sum.inl (w64 (pwJ (pw ps) (insJ who i) + pw ps i), _)) = _
        rw [w64_eq (by omega) (by omega), insJ_next, if_pos c, pwJ_snoc]
        unfold sgJ
        rw [List.map_append, List.map_append]
        simp [pwJ, mkRing]
      · have c : ¬ inW who i = true := by unfold inW; rw [Bool.and_eq_true]; exact fun e => c2 e.2
        have c2 : who.getD i false = false := by simpa using c2
        rw [c2, fork_ff, insJ_next, if_neg c, List.append_nil]
    · have c : ¬ inW who i = true := by unfold inW; rw [Bool.and_eq_true, decide_eq_true_eq]; exact fun e => c1 e.1
      rw [fork_f (by omega), insJ_next, if_neg c, List.append_nil]
  · show affiantlaw12_SealHonest_1_step who (pwJ (pw ps) (insJ who (setN ps))) (setN ps : Int) (setN ps : Int) (ringS ps) h (sgJ h (insJ who (setN ps))) ((insJ who (setN ps)).map nm) = _
    rw [sh_step, fork_f (by omega)]
theorem nms_sgJ (h : Hdr) (js : List Nat) : nmsS (sgJ h js) = js.map nm := by
  unfold nmsS sgJ
  rw [List.map_map]
  rfl
theorem inc_names {js : List Nat} (h1 : js.Pairwise (· < ·)) (h2 : ∀ j ∈ js, j < 4) : incN (js.map nm) = true := by
  refine incN_of _ ?_
  rw [List.pairwise_map]
  exact List.Pairwise.imp_of_mem (fun {a b} ha hb hab => nm_inc a (h2 a ha) b (h2 b hb) hab) h1
theorem sgJ_ok (h : Hdr) (h1 : 1 ≤ h.1) (h2 : h.1 ≤ 16) (js : List Nat) : SgOk (sgJ h js) := by
  intro x hx
  obtain ⟨j, _, rfl⟩ := List.mem_map.1 hx
  exact sgS_ok h h1 h2 _ _
theorem right_sgJ (h : Hdr) {js : List Nat} (h1 : js.Pairwise (· < ·)) (h2 : ∀ j ∈ js, j < 4) (h3 : js.length ≤ 4) : rightSg (sgJ h js) = true := by
  unfold rightSg incS
  rw [nms_sgJ, inc_names h1 h2, Bool.true_and, decide_eq_true_eq]
  simp [sgJ]; omega
theorem names_sgJ (ps : List Int) (h : Hdr) (h1 : 1 ≤ h.1) (h2 : h.1 ≤ 16) {js : List Nat} (q1 : js.Pairwise (· < ·)) (q2 : ∀ j ∈ js, j < setN ps) (q3 : js.length ≤ 4) : namesS (ringS ps) h (sgJ h js) = js.map nm := by
  have hn := setN_b ps
  unfold namesS namesF
  rw [if_pos (right_sgJ h q1 (fun j hj => by have := q2 j hj; omega) q3), List.filter_eq_self.2, ← nms_sgJ h js]
  · rfl
  · intro x hx
    obtain ⟨j, hj, rfl⟩ := List.mem_map.1 hx
    exact good_own _ (ringS_dist ps) h h1 h2 (mkRing (pw ps) j) (ringS_mem (q2 j hj)) (seedK j) rfl
theorem pow_append (q : Val → Bool) (a b : List Val) : pow q (a ++ b) = pow q a + pow q b := by
  unfold pow
  rw [List.filter_append, List.map_append, List.sum_append]
theorem pow_ring (p : Nat → Int) (q : Val → Bool) (f : Nat → Bool) : ∀ n, (∀ i, i < n → q (mkRing p i) = f i) → pow q (ringN p n) = pwJ p ((List.range n).filter f)
  | 0, _ => rfl
  | n + 1, h => by
    have e : ringN p (n + 1) = ringN p n ++ [mkRing p n] := by unfold ringN; rw [List.range_succ, List.map_append]; rfl
    rw [e, pow_append, pow_ring p q f n fun i hi => h i (by omega), List.range_succ, List.filter_append, pwJ_snoc, pow_cons, pow_nil, h n (by omega)]
    congr 1
    by_cases c : f n
    · rw [if_pos c, List.filter_cons_of_pos c, List.filter_nil]; simp [pwJ, mkRing]
    · rw [if_neg c, List.filter_cons_of_neg c, List.filter_nil]; rfl
theorem contains_nm {js : List Nat} {i : Nat} (h : ∀ j ∈ js, j < 4) (hi : i < 4) : (js.map nm).contains (nm i) = js.contains i := by
  rw [Bool.eq_iff_iff]
  simp only [List.contains_iff_mem]
  constructor
  · intro hm
    obtain ⟨j, hj, e⟩ := List.mem_map.1 hm
    rw [← nm_inj j (h j hj) i hi e]
    exact hj
  · exact fun hm => List.mem_map_of_mem hm
theorem law_SealHonest (y0 : Int × Int × Int × Int × Int × Int × Unit) (y1 : List Int) (y2 : List Bool) (w0 : Wf (.fld (.int .i64) (.fld (.int .i64) (.fld (.int .i64) (.fld (.int .i64) (.fld (.int .i64) (.fld (.int .i64) .unit)))))) y0) (w1 : Wf (.slice (.int .i64)) y1) (w2 : Wf (.slice .bool) y2) : affiantlaw12_SealHonest y0 y1 y2 = some true := by
  unfold affiantlaw12_SealHonest
  obtain ⟨h, e0, hh, hr, _⟩ := header_eq y0
  have hr2 := (rightHS_iff h).1 hr
  have h1 : 1 ≤ h.1 := by omega
  have h2 : h.1 ≤ 16 := by omega
  have hp : y1.length ≤ 140737488351232 := by have := w1.1; have e : tyBytes (.int .i64) = 8 := rfl; rw [e] at this; omega
  have hset := ringS_small y1
  have hd := ringS_dist y1
  have hn := setN_b y1
  rw [ringed_eq y1 hp, andThen_mk, e0, andThen_mk, ringS_len, sealHonest_1 y1 y2 h hh h1 h2, andThen_mk]
  simp only
  have j1 := insJ_inc y2 (setN y1)
  have j2 : ∀ j ∈ insJ y2 (setN y1), j < setN y1 := fun j hj => insJ_lt hj
  have j3 := insJ_len y2 (setN y1)
  have j4 : ∀ j ∈ insJ y2 (setN y1), j < 4 := fun j hj => by have := j2 j hj; omega
  have hpart : partS (ringS y1) h (sgJ h (insJ y2 (setN y1))) = pwJ (pw y1) (insJ y2 (setN y1)) := by
    unfold partS
    rw [names_sgJ y1 h h1 h2 j1 j2 (by omega)]
    refine pow_ring (pw y1) _ (inW y2) (setN y1) fun i hi => ?_
    show ((insJ y2 (setN y1)).map nm).contains (nm i) = inW y2 i
    rw [contains_nm j4 (by omega), Bool.eq_iff_iff]
    simp only [List.contains_iff_mem, insJ, List.mem_filter, List.mem_range]
    exact ⟨fun x => x.2, fun x => ⟨hi, x⟩⟩
  have hok := sgJ_ok h h1 h2 (insJ y2 (setN y1))
  have hsl : (sgJ h (insJ y2 (setN y1))).length = (insJ y2 (setN y1)).length := by simp [sgJ]
  have hnm := names_sgJ y1 h h1 h2 j1 j2 (by omega)
  have hrt := right_sgJ h j1 j4 (by omega)
  have hwl : ((insJ y2 (setN y1)).map nm).length = (insJ y2 (setN y1)).length := List.length_map ..
  have hpb := pwJ_b (pw y1) (pw_s y1) (insJ y2 (setN y1))
  have hnd : incS (sgJ h (insJ y2 (setN y1)) ++ sgJ h (insJ y2 (setN y1))) = decide ((insJ y2 (setN y1)).length = 0) := by
    rw [Bool.eq_iff_iff, decide_eq_true_eq]
    constructor
    · intro hi
      have := incN_nodup hi
      unfold nmsS at this
      rw [List.map_append] at this
      have hdj := (List.nodup_append.1 this).2.2
      cases hJ : insJ y2 (setN y1) with
      | nil => rfl
      | cons j js =>
        rw [hJ] at hdj
        exact absurd rfl (hdj _ (List.mem_map_of_mem List.mem_cons_self) _ (List.mem_map_of_mem List.mem_cons_self))
    · intro hz
      rw [List.eq_nil_of_length_eq_zero hz]
      rfl
  have hset2 : ∀ (v : Val), ((List.set ([] ++ ringS y1) (Int.toNat 0) v).length = setN y1) := fun v => by rw [List.length_set, List.nil_append, ringS_len]
  generalize hs : sgJ h (insJ y2 (setN y1)) = s at *
  generalize hw : (insJ y2 (setN y1)).map nm = want at *
  generalize insJ y2 (setN y1) = js at *
  rw [sealTally_eq _ hset h hh s (by omega) hok, andThen_mk, need_true (by rw [ringS_len]; simp only [List.length_nil]; omega), need_true (by rw [List.nil_append, ringS_len]; omega)]
  rw [names_eq _ (by rw [hset2]; omega) h hh s (by omega) hok, andThen_mk, need_true (by simp only [List.length_nil]; omega), need_true (by simp only [List.nil_append]; omega), names_eq _ (by rw [ringS_len]; omega) h hh s (by omega) hok, andThen_mk, hnm]
  rw [sameS_refl want (by omega), andThen_mk, fork_tt, need_true (by omega), hpart, fork_t rfl]
  have few := namesS_len (List.set ([] ++ ringS y1) (Int.toNat 0) ((List.getD ([] ++ ringS y1) (Int.toNat 0) (([] : List UInt8), (0 : Int), (List.replicate 32 (0 : UInt8)), ())).1, (List.getD ([] ++ ringS y1) (Int.toNat 0) (([] : List UInt8), (0 : Int), (List.replicate 32 (0 : UInt8)), ())).2.1, (List.set (List.replicate 32 (0 : UInt8)) 0 (99 : UInt8)), ())) h s
  rw [fork_t (by omega), sealRight_eq s (by omega), andThen_mk, hrt, fork_tt, List.nil_append, sealRight_eq _ (by rw [List.length_append]; omega), andThen_mk]
  have hr3 : rightSg (s ++ s) = decide ((s.length : Int) = 0) := by
    unfold rightSg
    rw [hnd, Bool.eq_iff_iff]
    simp only [Bool.and_eq_true, decide_eq_true_eq, List.length_append]
    omega
  rw [hr3, beq_self_eq_true, fork_tt]
  by_cases c : (s.length : Int) = 0
  · rw [fork_t c, law_SealRuns]; rfl
  · rw [fork_f c, names_eq _ (by rw [ringS_len]; omega) h hh _ (by rw [List.length_append]; omega) (by
      intro x hx
      rcases List.mem_append.1 hx with hx | hx <;> exact hok x hx), andThen_mk]
    have : namesS (ringS y1) h (s ++ s) = [] := by unfold namesS; rw [hr3, if_neg (by simpa using c)]
    rw [this, fork_t (show ((([] : List (List UInt8)).length : Int) = 0) from rfl), law_SealRuns]
    rfl
end Go.Ax.V
