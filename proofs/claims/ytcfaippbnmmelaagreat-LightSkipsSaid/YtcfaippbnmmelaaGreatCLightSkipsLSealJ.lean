/-
  Signatures of some of a set, in its order.
-/
import Derived.Test.YtcfaippbnmmelaaGreatCLightSkipsLSealRuns
namespace Go.Ax.V
open Go.Ax
set_option linter.unusedVariables false
set_option linter.unusedSimpArgs false
noncomputable def sgJ (h : Hdr) (js : List Nat) : List Signed := js.map fun j => sgS h (nm j) (seedK j)
def pwJ (p : Nat → Int) (js : List Nat) : Int := (js.map p).sum
theorem pwJ_b (p : Nat → Int) (hp : ∀ i, 0 ≤ p i ∧ p i ≤ 2097152) : ∀ js, 0 ≤ pwJ p js ∧ pwJ p js ≤ 2097152 * js.length
 | [] => ⟨Int.le_refl _, Int.le_refl _⟩
 | j :: js => by
  have := pwJ_b p hp js
  have := hp j
  unfold pwJ at *
  rw [List.map_cons, List.sum_cons, List.length_cons]
  omega
theorem pwJ_snoc (p : Nat → Int) (js ks : List Nat) : pwJ p (js ++ ks) = pwJ p js + pwJ p ks := by
 unfold pwJ; rw [List.map_append, List.sum_append]
theorem nms_sgJ (h : Hdr) (js : List Nat) : nmsS (sgJ h js) = js.map nm := by
 unfold nmsS sgJ
 rw [List.map_map]
 rfl
theorem inc_names {js : List Nat} (h1 : js.Pairwise (· < ·)) (h2 : ∀ j ∈ js, j < 4) : incN (js.map nm) = true := by
 refine incN_of _ ?_
 rw [List.pairwise_map]
 exact List.Pairwise.imp_of_mem (fun {a b} ha hb hab => nm_inc a (h2 a ha) b (h2 b hb) hab) h1
theorem sgJ_ok (h : Hdr) (h1 : 1 ≤ h.1) (h2 : h.1 ≤ 16) (js : List Nat) : SgOk (sgJ h js) := by
 intro x hx
 obtain ⟨j, _, rfl⟩ := List.mem_map.1 hx
 exact sgS_ok h h1 h2 _ _
theorem right_sgJ (h : Hdr) {js : List Nat} (h1 : js.Pairwise (· < ·)) (h2 : ∀ j ∈ js, j < 4) (h3 : js.length ≤ 4) : rightSg (sgJ h js) = true := by
 unfold rightSg incS
 rw [nms_sgJ, inc_names h1 h2, Bool.true_and, decide_eq_true_eq]
 simp [sgJ]; omega
theorem pow_append (q : Val → Bool) (a b : List Val) : pow q (a ++ b) = pow q a + pow q b := by
 unfold pow
 rw [List.filter_append, List.map_append, List.sum_append]
theorem pow_ring (p : Nat → Int) (q : Val → Bool) (f : Nat → Bool) : ∀ n, (∀ i, i < n → q (mkRing p i) = f i) → pow q (ringN p n) = pwJ p ((List.range n).filter f)
 | 0, _ => rfl
 | n + 1, h => by
  have e : ringN p (n + 1) = ringN p n ++ [mkRing p n] := by unfold ringN; rw [List.range_succ, List.map_append]; rfl
  rw [e, pow_append, pow_ring p q f n fun i hi => h i (by omega), List.range_succ, List.filter_append, pwJ_snoc, pow_cons, pow_nil, h n (by omega)]
  congr 1
  by_cases c : f n
  ·rw [if_pos c, List.filter_cons_of_pos c, List.filter_nil]; simp [pwJ, mkRing]
  ·rw [if_neg c, List.filter_cons_of_neg c, List.filter_nil]; rfl
theorem contains_nm {js : List Nat} {i : Nat} (h : ∀ j ∈ js, j < 4) (hi : i < 4) : (js.map nm).contains (nm i) = js.contains i := by
 rw [Bool.eq_iff_iff]
 simp only [List.contains_iff_mem]
 constructor
 ·intro hm
  obtain ⟨j, hj, e⟩ := List.mem_map.1 hm
  rw [← nm_inj j (h j hj) i hi e]
  exact hj
 ·exact fun hm => List.mem_map_of_mem hm
end Go.Ax.V
