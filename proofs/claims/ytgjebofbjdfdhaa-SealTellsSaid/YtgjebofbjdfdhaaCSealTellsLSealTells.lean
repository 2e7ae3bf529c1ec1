/-
  Chapter 12: any header, any signatures under it, of others, turned, twice: whose count, how much they have.
-/
import Derived.Test.YtgjebofbjdfdhaaCSealTellsLSealRuns
namespace Go.Ax.V
open Go.Ax
set_option linter.unusedVariables false
set_option linter.unusedSimpArgs false

/-- A counted loop that is told by what stays so. -/
theorem loop_inv {τ ρ : Type} {step : (Int × τ) → Option ((Int × τ) ⊕ ρ)} (I : Nat → τ → Prop) (n : Nat) (g : τ → ρ) (h1 : ∀ i t, i < n → I i t → ∃ t', step ((i : Int), t) = some (.inl (((i + 1 : Nat) : Int), t')) ∧ I (i + 1) t')
    (h2 : ∀ t, I n t → step ((n : Int), t) = some (.inr (g t))) : ∀ (k i : Nat) (t : τ), i + k = n → I i t → ∃ t', loop step ((i : Int), t) = some (g t') ∧ I n t'
  | 0, i, t, e, h => by
    have : i = n := by omega
    subst this
    exact ⟨t, loop_out (h2 t h), h⟩
  | k + 1, i, t, e, h => by
    obtain ⟨t', e1, e2⟩ := h1 i t (by omega) h
    obtain ⟨t2, e3, e4⟩ := loop_inv I n g h1 h2 k (i + 1) t' (by omega) e2
    exact ⟨t2, by rw [loop_next e1]; exact e3, e4⟩
theorem sg_snoc {t : List Signed} (ht : SgOk t) {x : Signed} (hx : SigOk x.2.1) : SgOk (t ++ [x]) := by
  intro y hy
  rcases List.mem_append.1 hy with h | h
  · exact ht y h
  · simp only [List.mem_singleton] at h; rw [h]; exact hx
def HdOk (h : Hdr) : Prop := Hashes h ∧ rightHS h = true ∧ 1 ≤ h.1 ∧ h.1 ≤ 16
theorem hd_ok (k : Int × Int × Int × Int × Int × Int × Unit) : ∃ h : Hdr, affiantkeep_Head_Header k = some h ∧ HdOk h := by
  obtain ⟨h, e, a, b, _⟩ := header_eq k
  have := (rightHS_iff h).1 b
  exact ⟨h, e, a, b, by omega, by omega⟩
theorem tells_core {R : Type} (h g : Hdr) (hh : HdOk h) (hg : HdOk g) (i : Nat) (hi : i < 1000) (n : List UInt8) (c : Int) (t : List Signed) (ht : t.length ≤ 1000) (hs : SgOk t) : ∃ t',
    (andThen (affiantkeep_Seed (i : Int)) (fun u14 => andThen (seal_Sign h n u14) (fun u16 => andThen (affiantbook_Within c (0 : Int) (6 : Int)) (fun u18 => fork (decide (u18 = (0 : Int))) (some (.inl ((w64 ((i : Int) + (1 : Int))), t))) (fork (decide (u18 = (1 : Int))) (andThen (affiantkeep_Seed (i : Int)) (fun u22 => andThen (seal_Sign g n u22) (fun u24 => need (List.length t + List.length ([u24] : List Signed) ≤ 2147483648) (some (.inl ((w64 ((i : Int) + (1 : Int))), (t ++ ([u24] : List Signed)))))))) (fork (decide (u18 = (2 : Int))) (andThen (affiantkeep_Seed (w64 ((i : Int) + (1 : Int)))) (fun u28 => andThen (seal_Sign h n u28) (fun u30 => need (List.length t + List.length ([u30] : List Signed) ≤ 2147483648) (some (.inl ((w64 ((i : Int) + (1 : Int))), (t ++ ([u30] : List Signed)))))))) (fork (decide (u18 = (3 : Int))) (need (List.length t + List.length ([(u16.1, ((w64 (u16.2.1.1 + (1 : Int))), u16.2.1.2.1, u16.2.1.2.2.1, ()), ())] : List Signed) ≤ 2147483648) (some (.inl ((w64 ((i : Int) + (1 : Int))), (t ++ ([(u16.1, ((w64 (u16.2.1.1 + (1 : Int))), u16.2.1.2.1, u16.2.1.2.2.1, ()), ())] : List Signed)))))) (need (List.length t + List.length ([u16] : List Signed) ≤ 2147483648) (some (.inl ((w64 ((i : Int) + (1 : Int))), (t ++ ([u16] : List Signed)))))))))))) : Option ((Int × List Signed) ⊕ R))
      = some (.inl (((i + 1 : Nat) : Int), t')) ∧ t'.length ≤ t.length + 1 ∧ SgOk t' := by
  obtain ⟨hh1, _, hh2, hh3⟩ := hh
  obtain ⟨hg1, _, hg2, hg3⟩ := hg
  obtain ⟨w, e, w1, w2⟩ := within_eq c 0 6 (by omega) (by omega) (by omega)
  have o := sgS_ok h hh2 hh3 n (seedK i)
  have ks : affiantkeep_Seed ((i : Int) + 1) = some (seedK (i + 1)) := keepSeed_eq (i + 1)
  rw [keepSeed_eq, andThen_mk, sealSign_eq h hh1 hh2 hh3 n _ (seedK_len i), andThen_mk, e, andThen_mk, w64_eq (n := (i : Int) + 1) (by omega) (by omega), ks]
  by_cases c0 : w = 0
  · rw [fork_t c0]; exact ⟨t, rfl, by omega, hs⟩
  · rw [fork_f c0]
    by_cases c1 : w = 1
    · rw [fork_t c1, andThen_mk, sealSign_eq g hg1 hg2 hg3 n _ (seedK_len i), andThen_mk, need_true (by simp; omega)]
      exact ⟨_, rfl, by simp, sg_snoc hs (sgS_ok g hg2 hg3 n (seedK i))⟩
    · rw [fork_f c1]
      by_cases c2 : w = 2
      · rw [fork_t c2, andThen_mk, sealSign_eq h hh1 hh2 hh3 n _ (seedK_len (i + 1)), andThen_mk, need_true (by simp; omega)]
        exact ⟨_, rfl, by simp, sg_snoc hs (sgS_ok h hh2 hh3 n (seedK (i + 1)))⟩
      · rw [fork_f c2]
        by_cases c3 : w = 3
        · rw [fork_t c3, need_true (by simp; omega)]
          exact ⟨_, rfl, by simp, sg_snoc hs (x := ((sgS h n (seedK i)).1, (w64 ((sgS h n (seedK i)).2.1.1 + 1), (sgS h n (seedK i)).2.1.2.1, (sgS h n (seedK i)).2.1.2.2.1, ()), ())) o⟩
        · rw [fork_f c3, need_true (by simp; omega)]
          exact ⟨_, rfl, by simp, sg_snoc hs o⟩
theorem sealTells_1 (how : List Int) (turn : Int) (set : List Val) (h g : Hdr) (hh : HdOk h) (hg : HdOk g) (ns : List (List UInt8)) (hn : ns.length = 4) :
    ∃ s, affiantlaw12_SealTells_1 how turn 4 0 set h g [] ns = some (turn, set, h, s) ∧ s.length ≤ 4 ∧ SgOk s := by
  unfold affiantlaw12_SealTells_1
  have := loop_inv (step := fun (s : Int × List Signed) => affiantlaw12_SealTells_1_step how turn 4 s.1 set h g s.2 ns) (fun i t => t.length ≤ i ∧ SgOk t) 4 (fun t => (turn, set, h, t)) (fun i t hi ⟨ht, hs⟩ => ?_) (fun t ⟨ht, hs⟩ => ?_) 4 0 [] (by omega) ⟨by simp, fun x hx => nomatch hx⟩
  · obtain ⟨t, e1, e2, e3⟩ := this
    exact ⟨t, e1, e2, e3⟩
  · show ∃ t', affiantlaw12_SealTells_1_step how turn 4 (i : Int) set h g t ns = _ ∧ _
    unfold affiantlaw12_SealTells_1_step
    rw [fork_t (by omega), need_true (by omega)]
    by_cases hc : (i : Int) < (how.length : Int)
    · rw [fork_t hc, need_true (by omega)]
      obtain ⟨t', e1, e2, e3⟩ := tells_core (R := Int × List Val × Hdr × List Signed) h g hh hg i (by omega) (ns.getD (Int.toNat (i : Int)) []) (how.getD (Int.toNat (i : Int)) 0) t (by omega) hs
      exact ⟨t', e1, by omega, e3⟩
    · rw [fork_f hc]
      obtain ⟨t', e1, e2, e3⟩ := tells_core (R := Int × List Val × Hdr × List Signed) h g hh hg i (by omega) (ns.getD (Int.toNat (i : Int)) []) 0 t (by omega) hs
      exact ⟨t', e1, by omega, e3⟩
  · show affiantlaw12_SealTells_1_step how turn 4 4 set h g t ns = _
    unfold affiantlaw12_SealTells_1_step
    rw [fork_f (by omega)]
abbrev S3 := Int × Int × (Int × Int) × Int × Int × Int × List Val × Hdr × List Signed × List (List UInt8)
theorem st2_step (x0 x1 : Int) (x2 : Int × Int) (acc : Int) (n : List UInt8) (x5 x6 x7 i : Int) (set : List Val) (h : Hdr) (s : List Signed) (ns : List (List UInt8)) : affiantlaw12_SealTells_2_step x0 x1 x2 acc n x5 x6 x7 i set h s ns =
    (fork (decide (i < x7)) (need (0 ≤ i ∧ i < (set.length : Int)) (fork (decide ((set.getD (Int.toNat i) zVal).1 = n)) (some (.inl ((w64 (acc + (set.getD (Int.toNat i) zVal).2.1)), (w64 (i + (1 : Int)))))) (some (.inl (acc, (w64 (i + (1 : Int)))))))) (some (.inr (x0, x1, x2, acc, x5, x6, set, h, s, ns))) : Option ((Int × Int) ⊕ S3)) := rfl
theorem sealTells_2 (x0 x1 : Int) (x2 : Int × Int) (acc : Int) (ha : 0 ≤ acc ∧ acc ≤ 1000000000000000) (n : List UInt8) (x5 x6 : Int) (set : List Val) (hset : SmallV set) (h : Hdr) (s : List Signed) (ns : List (List UInt8)) :
    affiantlaw12_SealTells_2 x0 x1 x2 acc n x5 x6 (set.length : Int) 0 set h s ns = some (x0, x1, x2, acc + pow (fun v => decide (v.1 = n)) set, x5, x6, set, h, s, ns) := by
  have hl := hset.1
  unfold affiantlaw12_SealTells_2
  have := loop_for (step := fun (t : Int × Int) => affiantlaw12_SealTells_2_step x0 x1 x2 t.1 n x5 x6 (set.length : Int) t.2 set h s ns) (fun i (_ : Unit) => (acc + pow (fun v => decide (v.1 = n)) (set.take i), (i : Int))) (fun _ _ => ()) (fun _ => (x0, x1, x2, acc + pow (fun v => decide (v.1 = n)) set, x5, x6, set, h, s, ns)) set.length (fun _ _ => True) (fun i w hi _ => ⟨?_, trivial⟩) (fun w _ => ?_) set.length 0 () (by omega) trivial
  · rw [show ((acc, (0 : Int)) : Int × Int) = (acc + pow (fun v => decide (v.1 = n)) (set.take 0), ((0 : Nat) : Int)) from by rw [List.take_zero]; simp [pow_nil]]
    exact this
  · show affiantlaw12_SealTells_2_step x0 x1 x2 (acc + pow (fun v => decide (v.1 = n)) (set.take i)) n x5 x6 (set.length : Int) (i : Int) set h s ns = _
    have b := pow_bound (fun v => decide (v.1 = n)) (set.take i) fun v hv => hset.2 v (List.mem_of_mem_take hv)
    have hm := hset.2 _ (getD_mem (z := zVal) hi)
    have t := pow_take (fun v => decide (v.1 = n)) set hi
    rw [List.length_take] at b
    rw [st2_step, fork_t (by omega), need_true (by omega), Int.toNat_natCast, w64_eq (n := (i : Int) + 1) (by omega) (by omega), t]
    by_cases e : (set.getD i zVal).1 = n
    · rw [fork_t e, if_pos (by simpa using e), w64_eq (by omega) (by omega), Int.add_assoc]; rfl
    · rw [fork_f e, if_neg (by simpa using e), Int.add_zero]; rfl
  · show affiantlaw12_SealTells_2_step x0 x1 x2 (acc + pow (fun v => decide (v.1 = n)) (set.take set.length)) n x5 x6 (set.length : Int) (set.length : Int) set h s ns = _
    rw [st2_step, fork_f (by omega), List.take_of_length_le (Nat.le_refl _)]
abbrev S4 := Int × Int × (Int × Int) × Int × List Val × Hdr × List Signed
theorem sealTells_3 (x0 x1 : Int) (x2 : Int × Int) (set : List Val) (hset : SmallV set) (h : Hdr) (s : List Signed) (ns : List (List UInt8)) (hn : ns.length ≤ 1000) (hd : ns.Nodup) :
    affiantlaw12_SealTells_3 x0 x1 x2 0 (ns.length : Int) 0 set h s ns = some (x0, x1, x2, pow (fun v => ns.contains v.1) set, set, h, s) := by
  have hl := hset.1
  rw [pow_names set ns hd]
  have hb := sum_b (fun n => pow (fun v => decide (v.1 = n)) set) 2097152000 (fun n => by have := pow_bound (fun v => decide (v.1 = n)) set hset.2; show 0 ≤ pow (fun v => decide (v.1 = n)) set ∧ pow (fun v => decide (v.1 = n)) set ≤ 2097152000; omega)
  unfold affiantlaw12_SealTells_3
  have := loop_for (step := fun (t : S3) => affiantlaw12_SealTells_3_step t.1 t.2.1 t.2.2.1 t.2.2.2.1 t.2.2.2.2.1 t.2.2.2.2.2.1 t.2.2.2.2.2.2.1 t.2.2.2.2.2.2.2.1 t.2.2.2.2.2.2.2.2.1 t.2.2.2.2.2.2.2.2.2) (fun i (_ : Unit) => (x0, x1, x2, ((ns.take i).map fun n => pow (fun v => decide (v.1 = n)) set).sum, (ns.length : Int), (i : Int), set, h, s, ns)) (fun _ _ => ()) (fun _ => ((x0, x1, x2, (ns.map fun n => pow (fun v => decide (v.1 = n)) set).sum, set, h, s) : S4)) ns.length (fun _ _ => True) (fun i w hi _ => ⟨?_, trivial⟩) (fun w _ => ?_) ns.length 0 () (by omega) trivial
  · exact this
  · show affiantlaw12_SealTells_3_step x0 x1 x2 ((ns.take i).map fun n => pow (fun v => decide (v.1 = n)) set).sum (ns.length : Int) (i : Int) set h s ns = _
    have b := hb (ns.take i)
    rw [List.length_take] at b
    unfold affiantlaw12_SealTells_3_step
    rw [fork_t (by omega), need_true (by omega), Int.toNat_natCast, sealTells_2 x0 x1 x2 _ (by omega) _ _ _ set hset, andThen_mk]
    simp only
    rw [w64_eq (by omega) (by omega), sum_take _ ns [] hi]
    rfl
  · show affiantlaw12_SealTells_3_step x0 x1 x2 ((ns.take ns.length).map fun n => pow (fun v => decide (v.1 = n)) set).sum (ns.length : Int) (ns.length : Int) set h s ns = _
    unfold affiantlaw12_SealTells_3_step
    rw [fork_f (by omega), List.take_of_length_le (Nat.le_refl _)]
theorem same_5 : @affiantlaw12_SealTells_5 = @affiantlaw12_SealTells_3 := rfl
theorem same_7 : @affiantlaw12_SealTells_7 = @affiantlaw12_SealTells_3 := rfl
theorem tells_tail (set : List Val) (hset : SmallV set) (hd : Dist set) (h : Hdr) (hh : HdOk h) (s : List Signed) (hl : s.length ≤ 4) (hs : SgOk s) :
    andThen (affiantref10_Signers set h s) (fun u103 => andThen (affiantref10_Total set) (fun u105 => andThen (seal_Names set h s) (fun u107 => andThen (seal_Tally set h s) (fun u109 => andThen (affiantlaw12_SealTells_3 u103 u105 u109 (0 : Int) (List.length u107 : Int) (0 : Int) set h s u107) (fun o120 => need (Int.natAbs o120.1 < 9007199254740992) (need (Int.natAbs o120.2.1 < 9007199254740992) (fork (decide (o120.2.2.1 = (o120.1, o120.2.1))) (fork (decide (o120.2.2.2.1 = o120.1)) (andThen (seal_Enough o120.2.2.2.2.1 o120.2.2.2.2.2.1 o120.2.2.2.2.2.2) (fun u126 => andThen (affiantref10_Over o120.1 o120.2.1 (2 : Int) (3 : Int)) (fun u128 => fork (u126 == u128) (andThen (seal_Some o120.2.2.2.2.1 o120.2.2.2.2.2.1 o120.2.2.2.2.2.2) (fun u131 => andThen (affiantref10_Over o120.1 o120.2.1 (1 : Int) (3 : Int)) (fun u133 => fork (u131 == u133) (andThen (seal_Cost o120.2.2.2.2.2.2) (fun u136 => fork (decide (u136 = (List.length o120.2.2.2.2.2.2 : Int))) (andThen (affiantlaw12_SealRuns) (fun u139 => some u139)) (none))) (none)))) (none)))) (none)) (none)))))))) = some true := by
  obtain ⟨h1, h2, h3, h4⟩ := hh
  have pb := part_b set hset h s
  have ab := all_b set hset
  have nl := namesS_len set h s
  rw [signers_part set hset hd h h1 h2 s (by omega) hs, andThen_mk, rtotal_eq set hset, andThen_mk, names_eq set (by have := hset.1; omega) h h1 s (by omega) hs, andThen_mk, sealTally_eq set hset h h1 s (by omega) hs, andThen_mk, sealTells_3 _ _ _ set hset h s _ (by omega) (namesS_nodup set h s), andThen_mk]
  simp only
  rw [need_true (by omega), need_true (by omega), fork_t trivial, fork_t (show pow (fun v => (namesS set h s).contains v.1) set = partS set h s from rfl), enough_eq set hset h h1 s (by omega) hs, andThen_mk, rover_eq _ _ 2 3 pb ab (by omega) (by omega), andThen_mk, beq_self_eq_true, fork_tt, some_eq set hset h h1 s (by omega) hs, andThen_mk, rover_eq _ _ 1 3 pb ab (by omega) (by omega), andThen_mk, beq_self_eq_true, fork_tt]
  unfold seal_Cost
  rw [andThen_mk, fork_t rfl, law_SealRuns]
  rfl
theorem law_SealTells (y0 y1 : Int × Int × Int × Int × Int × Int × Unit) (y2 y3 : List Int) (y4 : Int) (w0 : Wf (.fld (.int .i64) (.fld (.int .i64) (.fld (.int .i64) (.fld (.int .i64) (.fld (.int .i64) (.fld (.int .i64) .unit)))))) y0) (w1 : Wf (.fld (.int .i64) (.fld (.int .i64) (.fld (.int .i64) (.fld (.int .i64) (.fld (.int .i64) (.fld (.int .i64) .unit)))))) y1) (w2 : Wf (.slice (.int .i64)) y2) (w3 : Wf (.slice (.int .i64)) y3) (w4 : Wf (.int .i64) y4) : affiantlaw12_SealTells y0 y1 y2 y3 y4 = some true := by
  unfold affiantlaw12_SealTells
  obtain ⟨h, e0, hh⟩ := hd_ok y0
  obtain ⟨g, e1, hg⟩ := hd_ok y1
  have hp : y2.length ≤ 140737488351232 := by have := w2.1; have e : tyBytes (.int .i64) = 8 := rfl; rw [e] at this; omega
  have hset := ringS_small y2
  have hd := ringS_dist y2
  rw [ringed_eq y2 hp, andThen_mk, e0, andThen_mk, e1, andThen_mk]
  unfold affiantkeep_Names
  rw [andThen_mk]
  obtain ⟨s, e2, s1, s2⟩ := sealTells_1 y3 y4 (ringS y2) h g hh hg [[118, 97], [118, 98], [118, 99], [118, 100]] rfl
  show andThen (affiantlaw12_SealTells_1 y3 y4 4 0 (ringS y2) h g [] [[118, 97], [118, 98], [118, 99], [118, 100]]) _ = _
  rw [e2, andThen_mk]
  simp only [same_5, same_7]
  by_cases c : Int.tmod y4 5 = 4
  · rw [fork_t c]
    by_cases c1 : (1 : Int) < (s.length : Int)
    · rw [fork_t c1, need_true (by omega), need_true (by omega), need_true (by rw [List.length_set]; omega)]
      refine tells_tail (ringS y2) hset hd h hh _ (by rw [List.length_set, List.length_set]; exact s1) ?_
      intro x hx
      rcases List.mem_or_eq_of_mem_set hx with hx | rfl
      · rcases List.mem_or_eq_of_mem_set hx with hx | rfl
        · exact s2 x hx
        · exact sg_at s2 1
      · exact sg_at s2 0
    · rw [fork_f c1]
      exact tells_tail (ringS y2) hset hd h hh s s1 s2
  · rw [fork_f c]
    exact tells_tail (ringS y2) hset hd h hh s s1 s2
end Go.Ax.V
