/-
  Chapter 4: any leaves: the root, a path, what a path leads up to.
-/
import Derived.Test.YtcdpooojocbakaaCTreeTellsLTreeRuns
import Derived.Test.YtcdpooojocbakaaCTreeTellsLRTree
import Derived.Test.YtcdpooojocbakaaCTreeTellsLRows4
import Derived.Test.YtcdpooojocbakaaCTreeTellsLSameH
import Derived.Test.YtcdpooojocbakaaCTreeTellsLWithin
namespace Go.Ax.V
open Go.Ax
set_option linter.unusedVariables false
set_option linter.unusedSimpArgs false

theorem upS_false {leaf : List UInt8} {i n : Int} {p : List (List UInt8)} (h : (upS leaf i n p).2 = false) : (upS leaf i n p).1 = zT := by
  unfold upS at h ⊢
  split
  · rename_i c; rw [if_pos c] at h; cases h
  · rfl
theorem pathS_len (l : List (List UInt8)) (i : Int) : (pathS l i).length ≤ l.length := by
  unfold pathS; split
  · exact pathF_len _ _ _
  · simp
theorem law_TreeTells (y0 : List (List UInt8)) (y1 : Int) (y2 : List (List UInt8)) (y3 y4 : Int) (w0 : Wf (.slice .str) y0) (w1 : Wf (.int .i64) y1) (w2 : Wf (.slice (.arr 32 (.int .u8))) y2) (w3 : Wf (.int .i64) y3) (w4 : Wf (.int .i64) y4) : affiantlaw4_TreeTells y0 y1 y2 y3 y4 = some true := by
  unfold affiantlaw4_TreeTells
  obtain ⟨l, e0, hl, hs⟩ := rows_eq y0 20 (by omega)
  obtain ⟨k, e1, k1, k2⟩ := within_eq y1 (-1) (l.length : Int) (by omega) (by omega) (by omega)
  obtain ⟨a, e2, a1, a2⟩ := within_eq y3 (-1) 9 (by omega) (by omega) (by omega)
  obtain ⟨b, e3, b1, b2⟩ := within_eq y4 (-1) 9 (by omega) (by omega) (by omega)
  have hq : ∀ x ∈ y2, x.length = 32 := fun x hx => (w2.2 x hx).1
  have hc := cut_len y2 0 (min (y2.length : Int) 6) (by omega) (by omega) (by omega)
  have hcm : ∀ x ∈ cutL y2 0 (min (y2.length : Int) 6), x.length = 32 := fun x hx => hq x (List.mem_of_mem_take (List.mem_of_mem_drop hx))
  have e0' : affiantlaw4_rows y0 20 = some l := e0
  rw [e0', andThen_mk, e1, andThen_mk, path_eq l k (by omega) hs, andThen_mk, rpath_eq l k (by omega) hs, andThen_mk, e2, andThen_mk, e3, andThen_mk, need_true (by omega)]
  simp only [List.nil_append]
  generalize cutL y2 0 (min (y2.length : Int) 6) = q at hc hcm ⊢
  have hpl := pathS_len l k
  obtain ⟨x, x1, x2, x3⟩ := rup_eq [108, 101, 97, 102] (by simp) a b (by omega) q hcm (by omega)
  rw [need_true (by simp; omega), up_eq [108, 101, 97, 102] (by simp) a b (by omega) q hcm (by omega), andThen_mk, x1, andThen_mk, root_eq l (by omega) hs, rroot_eq l (by omega) hs, sameH_refl _ (by omega), cost_eq _ (by omega) (by omega), depth_eq k _ (by omega), law_TreeRuns]
  have hmax : (max 1 (2 * (l.length : Int) - 1)) = max (2 * (l.length : Int) - 1) 1 := by omega
  have hw : w64 (w64 (2 * (l.length : Int)) - 1) = 2 * (l.length : Int) - 1 := by rw [w64_eq (n := 2 * (l.length : Int)) (by omega) (by omega), w64_eq (by omega) (by omega)]
  simp only [andThen_mk, beq_hash, fork_tt, hw, hmax, beq_self_eq_true]
  have hin : 0 ≤ k → k < (l.length : Int) → (if isS k (l.length : Int) = true then ((sidesF (l.length : Int).toNat k.toNat (l.length : Int).toNat).length : Int) else -1) = ((pathS l k).length : Int) := by
    intro h1 h2
    rw [if_pos ((isS_iff _ _).2 (by omega)), Int.toNat_natCast]
    unfold pathS
    rw [if_pos ⟨h1, h2⟩, path_sides _ _ _ (by omega)]
  have hout : ¬ (0 ≤ k ∧ k < (l.length : Int)) → (if isS k (l.length : Int) = true then ((sidesF (l.length : Int).toNat k.toNat (l.length : Int).toNat).length : Int) else -1) = -1 := by
    intro h
    rw [if_neg (fun hh => h (by have := (isS_iff _ _).1 hh; omega))]
  cases hb : (upS [108, 101, 97, 102] a b q).2 with
  | false =>
    rw [show (!false) = true from rfl, fork_tt, upS_false hb]
    simp only [beq_hash, fork_tt]
    by_cases c1 : 0 ≤ k
    · rw [fork_t c1]
      by_cases c2 : k < (l.length : Int)
      · rw [fork_t c2, hin c1 c2, fork_t rfl, fork_t trivial]
      · rw [fork_f c2, hout (by omega), fork_t rfl, fork_t trivial]
    · rw [fork_f c1, hout (by omega), fork_t rfl, fork_t trivial]
  | true =>
    rw [show (!true) = false from rfl, fork_ff, x2 hb]
    simp only [beq_hash, fork_tt]
    by_cases c1 : 0 ≤ k
    · rw [fork_t c1]
      by_cases c2 : k < (l.length : Int)
      · rw [fork_t c2, hin c1 c2, fork_t rfl, fork_t trivial]
      · rw [fork_f c2, hout (by omega), fork_t rfl, fork_t trivial]
    · rw [fork_f c1, hout (by omega), fork_t rfl, fork_t trivial]
end Go.Ax.V
