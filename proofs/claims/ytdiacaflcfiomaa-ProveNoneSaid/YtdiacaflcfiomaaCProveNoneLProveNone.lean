/-
  Chapter 8: of no pairs, of a key below all, above all: the neighbours that there are.
-/
import Derived.Test.YtdiacaflcfiomaaCProveNoneLProveParts
namespace Go.Ax.V
open Go.Ax
set_option linter.unusedVariables false
set_option linter.unusedSimpArgs false
theorem low_key : ∀ k ∈ keys12, sless k [65] = false := by decide
theorem high_key : ∀ k ∈ keys12, sless k [122, 122, 122] = true := by decide
theorem law_ProveNone (y0 : List Int) (y1 : Int) (y2 : List UInt8) (w0 : Wf (.slice (.int .i64)) y0) (w1 : Wf (.int .i64) y1) (w2 : Wf .str y2) : affiantlaw8_ProveNone y0 y1 y2 = some true := by
 have e8 : tyBytes (.int .i64) = 8 := rfl
 have hp0 : y0.length ≤ 140737488355328 := by have := w0.1; rw [e8] at this; omega
 obtain ⟨l, el, hrow⟩ := pairs_eq y0 hp0
 have h := row_kv hrow
 have hr := hrow.1
 have hl : l.length ≤ 12 := hrow.2.1
 obtain ⟨a, _, ea⟩ := key_eq y1
 generalize keys12.getD a [] = x at ea
 have hmem : ∀ i, i < l.length → (l.getD i zPr).1 ∈ keys12 := fun i hi => hrow.2.2.1 _ (getD_mem hi)
 have lowN : belowN l [65] = 0 := below_uniq l _ 0 (by omega) (fun i hi => by omega) fun hi => low_key _ (hmem 0 hi)
 have highN : belowN l [122, 122, 122] = l.length := below_uniq l _ l.length (by omega) (fun i hi => high_key _ (hmem i hi)) fun hi => by omega
 have ex := exist_eq l h hr x
 have ab := absent_eq l h hr x
 have lo := absent_eq l h hr [65]
 have hi := absent_eq l h hr [122, 122, 122]
 have nlo : isAt l [65] = false := by
  cases c : isAt l [65] with
  | false => rfl
  | true =>
   obtain ⟨p, hp, e⟩ := (isAt_iff hr _).1 c
   have := hrow.2.2.1 p hp
   rw [e] at this; revert this; decide
 have nhi : isAt l [122, 122, 122] = false := by
  unfold isAt
  rw [highN]; simp
 rw [nlo, if_neg (by simp), lowN] at lo
 rw [nhi, if_neg (by simp), highN] at hi
 have h0 : KvOk ([] : List Pr) := ⟨by simp, by simp⟩
 have r0 : Rise ([] : List Pr) := List.Pairwise.nil
 have no : ∀ k, prove_Exist ([] : List Pr) k = some ((0, 0, [], [], ()), false) := fun k => exist_eq [] h0 r0 k
 have ni : ∀ k, prove_Absent ([] : List Pr) k = some ((0, 0, [], [], ()), true) := fun k => by
  rw [absent_eq [] h0 r0 k]; rfl
 have hb := below_le l x
 unfold affiantlaw8_ProveNone
 rw [el, andThen_mk, ea, andThen_mk, ex, andThen_mk, ab, andThen_mk, lo, andThen_mk, hi, andThen_mk, need_true (by omega), no, andThen_mk, ni, andThen_mk]
 dsimp only
 have hne : ((if isAt l x = true then (someN l (belowN l x) (belowN l x + 1), true) else (((0, 0, [], [], ()) : Prf), false)).2 == (if isAt l x = true then (((0, 0, [], [], ()) : Prf), false) else (someN l (belowN l x - 1) (min (belowN l x + 1) l.length), true)).2) = false := by
  cases isAt l x <;> rfl
 rw [hne, fork_ff, fork_ff, Bool.not_true, fork_ff, fork_nt (by rfl), fork_nt (by rfl), fork_nt (by rfl), fork_ff, fork_ff]
 by_cases c : l.length = 0
 ·have e0 : l = [] := List.length_eq_zero_iff.1 c
  subst e0
  rw [fork_t (by rfl), fork_t (by rfl), fork_t (by rfl), law_ProveRuns]
  rfl
 ·have s1 : someN l (0 - 1) (min (0 + 1) l.length) = ((l.length : Int), 0, [l.getD 0 zPr], [pathS (leavesB l) 0], ()) := by
   rw [show (0 : Nat) - 1 = 0 from rfl, show min (0 + 1) l.length = 0 + 1 from by omega, some_one l (by omega)]; rfl
  have s2 : someN l (l.length - 1) (min (l.length + 1) l.length) = ((l.length : Int), ((l.length - 1 : Nat) : Int), [l.getD (l.length - 1) zPr], [pathS (leavesB l) ((l.length - 1 : Nat) : Int)], ()) := by
   have := some_one l (k := l.length - 1) (by omega)
   rw [show l.length - 1 + 1 = l.length from by omega] at this
   rw [show min (l.length + 1) l.length = l.length from by omega, this]
  rw [fork_f (by omega), s1, s2]
  dsimp only
  rw [fork_t (by rfl), need_true (by simp), need_true (by omega), show Int.toNat 0 = 0 from rfl, List.getD_cons_zero, pbeq, fork_t (by rfl), fork_t (by rfl), fork_t (by rfl), need_true (by simp), w64_eq (by omega) (by omega), need_true (by omega), show Int.toNat ((l.length : Int) - 1) = l.length - 1 from by omega, List.getD_cons_zero, pbeq, fork_t (by rfl), fork_t (by omega)]
  cases cc : isAt l x with
  | true =>
   have q := cc
   unfold isAt at q
   rw [decide_eq_true_eq] at q
   rw [if_pos rfl, if_pos rfl, some_one l q.1]
   show fork true (fork (decide ((([l.getD (belowN l x) zPr] : List Pr).length : Int) = 1)) _ _) _ = _
   rw [fork_tt, fork_t (by rfl), law_ProveRuns]
   rfl
  | false =>
   rw [if_neg (by simp), if_neg (by simp)]
   have e1 : 1 ≤ (someN l (belowN l x - 1) (min (belowN l x + 1) l.length)).2.2.1.length ∧ (someN l (belowN l x - 1) (min (belowN l x + 1) l.length)).2.2.1.length ≤ 2 := by
    unfold someN
    rw [if_neg (by omega)]
    show 1 ≤ ((l.drop _).take _).length ∧ ((l.drop _).take _).length ≤ 2
    rw [List.length_take, List.length_drop]; omega
   dsimp only
   rw [fork_ff, fork_tt, fork_t (by omega), fork_t (by omega), law_ProveRuns]
   rfl
end Go.Ax.V
