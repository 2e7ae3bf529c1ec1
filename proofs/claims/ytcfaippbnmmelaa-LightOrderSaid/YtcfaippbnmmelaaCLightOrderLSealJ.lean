/-
  Signatures of some of a set, in its order.
-/
import Derived.Test.YtcfaippbnmmelaaCLightOrderLSealRuns
namespace Go.Ax.V
open Go.Ax
set_option linter.unusedVariables false
set_option linter.unusedSimpArgs false
theorem loop_inv {τ ρ : Type} {step : (Int × τ) → Option ((Int × τ) ⊕ ρ)} (I : Nat → τ → Prop) (n : Nat) (g : τ → ρ) (h1 : ∀ i t, i < n → I i t → ∃ t', step ((i : Int), t) = some (.inl (((i + 1 : Nat) : Int), t')) ∧ I (i + 1) t')
  (h2 : ∀ t, I n t → step ((n : Int), t) = some (.inr (g t))) : ∀ (k i : Nat) (t : τ), i + k = n → I i t → ∃ t', loop step ((i : Int), t) = some (g t') ∧ I n t'
 | 0, i, t, e, h => by
  have : i = n := by omega
  subst this
  exact ⟨t, loop_out (h2 t h), h⟩
 | k + 1, i, t, e, h => by
  obtain ⟨t', e1, e2⟩ := h1 i t (by omega) h
  obtain ⟨t2, e3, e4⟩ := loop_inv I n g h1 h2 k (i + 1) t' (by omega) e2
  exact ⟨t2, by rw [loop_next e1]; exact e3, e4⟩
theorem sg_snoc {t : List Signed} (ht : SgOk t) {x : Signed} (hx : SigOk x.2.1) : SgOk (t ++ [x]) := by
 intro y hy
 rcases List.mem_append.1 hy with h | h
 ·exact ht y h
 ·simp only [List.mem_singleton] at h; rw [h]; exact hx
def inW (who : List Bool) (i : Nat) : Bool := decide (i < who.length) && who.getD i false
def insJ (who : List Bool) (i : Nat) : List Nat := (List.range i).filter (inW who)
theorem insJ_next (who : List Bool) (i : Nat) : insJ who (i + 1) = insJ who i ++ (if inW who i then [i] else []) := by
 unfold insJ
 rw [List.range_succ, List.filter_append]
 congr 1
 by_cases h : inW who i
 ·rw [if_pos h, List.filter_cons_of_pos h, List.filter_nil]
 ·rw [if_neg h, List.filter_cons_of_neg h, List.filter_nil]
theorem insJ_lt {who : List Bool} {i j : Nat} (h : j ∈ insJ who i) : j < i := List.mem_range.1 (List.mem_filter.1 h).1
theorem insJ_len (who : List Bool) (i : Nat) : (insJ who i).length ≤ i := by
 have := List.length_filter_le (inW who) (List.range i)
 rw [List.length_range] at this
 exact this
theorem insJ_inc (who : List Bool) (i : Nat) : (insJ who i).Pairwise (· < ·) := List.Pairwise.filter _ List.pairwise_lt_range
noncomputable def sgJ (h : Hdr) (js : List Nat) : List Signed := js.map fun j => sgS h (nm j) (seedK j)
def pwJ (p : Nat → Int) (js : List Nat) : Int := (js.map p).sum
theorem pwJ_b (p : Nat → Int) (hp : ∀ i, 0 ≤ p i ∧ p i ≤ 2097152) : ∀ js, 0 ≤ pwJ p js ∧ pwJ p js ≤ 2097152 * js.length
 | [] => ⟨Int.le_refl _, Int.le_refl _⟩
 | j :: js => by
  have := pwJ_b p hp js
  have := hp j
  unfold pwJ at *
  rw [List.map_cons, List.sum_cons, List.length_cons]
  omega
theorem pwJ_snoc (p : Nat → Int) (js ks : List Nat) : pwJ p (js ++ ks) = pwJ p js + pwJ p ks := by
 unfold pwJ; rw [List.map_append, List.sum_append]
theorem nms_sgJ (h : Hdr) (js : List Nat) : nmsS (sgJ h js) = js.map nm := by
 unfold nmsS sgJ
 rw [List.map_map]
 rfl
theorem inc_names {js : List Nat} (h1 : js.Pairwise (· < ·)) (h2 : ∀ j ∈ js, j < 4) : incN (js.map nm) = true := by
 refine incN_of _ ?_
 rw [List.pairwise_map]
 exact List.Pairwise.imp_of_mem (fun {a b} ha hb hab => nm_inc a (h2 a ha) b (h2 b hb) hab) h1
theorem sgJ_ok (h : Hdr) (h1 : 1 ≤ h.1) (h2 : h.1 ≤ 16) (js : List Nat) : SgOk (sgJ h js) := by
 intro x hx
 obtain ⟨j, _, rfl⟩ := List.mem_map.1 hx
 exact sgS_ok h h1 h2 _ _
theorem right_sgJ (h : Hdr) {js : List Nat} (h1 : js.Pairwise (· < ·)) (h2 : ∀ j ∈ js, j < 4) (h3 : js.length ≤ 4) : rightSg (sgJ h js) = true := by
 unfold rightSg incS
 rw [nms_sgJ, inc_names h1 h2, Bool.true_and, decide_eq_true_eq]
 simp [sgJ]; omega
theorem names_sgJ (ps : List Int) (h : Hdr) (h1 : 1 ≤ h.1) (h2 : h.1 ≤ 16) {js : List Nat} (q1 : js.Pairwise (· < ·)) (q2 : ∀ j ∈ js, j < setN ps) (q3 : js.length ≤ 4) : namesS (ringS ps) h (sgJ h js) = js.map nm := by
 have hn := setN_b ps
 unfold namesS namesF
 rw [if_pos (right_sgJ h q1 (fun j hj => by have := q2 j hj; omega) q3), List.filter_eq_self.2, ← nms_sgJ h js]
 ·rfl
 ·intro x hx
  obtain ⟨j, hj, rfl⟩ := List.mem_map.1 hx
  exact good_own _ (ringS_dist ps) h h1 h2 (mkRing (pw ps) j) (ringS_mem (q2 j hj)) (seedK j) rfl
theorem pow_append (q : Val → Bool) (a b : List Val) : pow q (a ++ b) = pow q a + pow q b := by
 unfold pow
 rw [List.filter_append, List.map_append, List.sum_append]
theorem pow_ring (p : Nat → Int) (q : Val → Bool) (f : Nat → Bool) : ∀ n, (∀ i, i < n → q (mkRing p i) = f i) → pow q (ringN p n) = pwJ p ((List.range n).filter f)
 | 0, _ => rfl
 | n + 1, h => by
  have e : ringN p (n + 1) = ringN p n ++ [mkRing p n] := by unfold ringN; rw [List.range_succ, List.map_append]; rfl
  rw [e, pow_append, pow_ring p q f n fun i hi => h i (by omega), List.range_succ, List.filter_append, pwJ_snoc, pow_cons, pow_nil, h n (by omega)]
  congr 1
  by_cases c : f n
  ·rw [if_pos c, List.filter_cons_of_pos c, List.filter_nil]; simp [pwJ, mkRing]
  ·rw [if_neg c, List.filter_cons_of_neg c, List.filter_nil]; rfl
theorem contains_nm {js : List Nat} {i : Nat} (h : ∀ j ∈ js, j < 4) (hi : i < 4) : (js.map nm).contains (nm i) = js.contains i := by
 rw [Bool.eq_iff_iff]
 simp only [List.contains_iff_mem]
 constructor
 ·intro hm
  obtain ⟨j, hj, e⟩ := List.mem_map.1 hm
  rw [← nm_inj j (h j hj) i hi e]
  exact hj
 ·exact fun hm => List.mem_map_of_mem hm
end Go.Ax.V
