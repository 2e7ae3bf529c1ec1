/-
  Rows of texts, drawn.
-/
import Derived.Test.YtcdpooojocbakaaCTreeUpP
import Derived.Test.YtcdpooojocbakaaCTreeUpLLp
namespace Go.Ax.V
open Go.Ax
set_option linter.unusedVariables false
set_option linter.unusedSimpArgs false

def rowS (ss : List (List UInt8)) (i : Nat) : List UInt8 := cutL (ss.getD i []) 0 (min ((ss.getD i []).length : Int) 20)
theorem rowS_len (ss : List (List UInt8)) (i : Nat) : (rowS ss i).length ≤ 20 := by
  have := cut_len (ss.getD i []) 0 (min ((ss.getD i []).length : Int) 20) (by omega) (by omega) (by omega)
  unfold rowS; omega
theorem rows_eq (ss : List (List UInt8)) (most : Nat) (hm : most ≤ 1000) : ∃ l, affiantlaw4_rows ss (most : Int) = some l ∧ l.length ≤ most ∧ ∀ x ∈ l, x.length ≤ 1000000 := by
  refine ⟨runFor (fun i o => o ++ [rowS ss i]) 0 (min ss.length most) [], ?_, ?_⟩
  · have main := loop_for (step := fun (s : Int × List (List UInt8)) => affiantlaw4_rows_1_step ss (most : Int) s.1 s.2) (fun i (o : List (List UInt8)) => ((i : Int), o)) (fun i o => o ++ [rowS ss i]) (fun o => o) (min ss.length most) (fun i o => o.length = i) (fun i o hi ho => ⟨?_, by simp [ho]⟩) (fun o ho => ?_) (min ss.length most) 0 [] (by omega) rfl
    · unfold affiantlaw4_rows affiantlaw4_rows_1
      have main' : loop (fun (s : Int × List (List UInt8)) => affiantlaw4_rows_1_step ss (most : Int) s.1 s.2) ((0 : Int), []) = _ := main
      rw [main', andThen_mk]
    · show affiantlaw4_rows_1_step ss (most : Int) (i : Int) o = _
      unfold affiantlaw4_rows_1_step
      have hg : ((ss.getD i []).length : Int) ≥ 0 := by omega
      simp only [Int.toNat_natCast]
      simp only [show cutL (ss.getD i []) 0 (min ((ss.getD i []).length : Int) 20) = rowS ss i from rfl]
      rw [fork_t (by omega), fork_t (by omega), need_true (by omega), need_true (by omega), need_true (by simp; omega), w64_eq (by omega) (by omega)]
      rfl
    · show affiantlaw4_rows_1_step ss (most : Int) ((min ss.length most : Nat) : Int) o = _
      unfold affiantlaw4_rows_1_step
      by_cases h : ss.length ≤ most
      · rw [fork_f (by omega)]
      · rw [fork_t (by omega), fork_f (by omega)]
  · have inv := runFor_inv (f := fun i (o : List (List UInt8)) => o ++ [rowS ss i]) (I := fun i o => o.length = i ∧ ∀ x ∈ o, x.length ≤ 1000000) (n := min ss.length most) (fun i o hi ho => ⟨by simp [ho.1], fun x hx => by
      rcases List.mem_append.1 hx with h | h
      · exact ho.2 x h
      · simp at h; rw [h]; have := rowS_len ss i; omega⟩) (k := min ss.length most) (i := 0) (t := []) (by omega) ⟨rfl, fun x hx => by simp at hx⟩
    exact ⟨by omega, inv.2⟩
end Go.Ax.V
