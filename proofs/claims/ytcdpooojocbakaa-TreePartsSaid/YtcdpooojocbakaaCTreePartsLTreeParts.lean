/-
  Chapter 4: a tree of two parts, the left one a power of two, is Tagged 1 of both; a leaf's path is its part's path, and the other part.
-/
import Derived.Test.YtcdpooojocbakaaCTreePartsLTreeDepths
import Derived.Test.YtcdpooojocbakaaCTreePartsLRTree
import Derived.Test.YtcdpooojocbakaaCTreePartsLRows4
import Derived.Test.YtcdpooojocbakaaCTreePartsLSameH
namespace Go.Ax.V
open Go.Ax
set_option linter.unusedVariables false
set_option linter.unusedSimpArgs false

theorem pathS_len (l : List (List UInt8)) (i : Int) : (pathS l i).length ≤ l.length := by
  unfold pathS; split
  · exact pathF_len _ _ _
  · simp
theorem law_TreeParts (y0 : List (List UInt8)) (y1 y2 : Int) (w0 : Wf (.slice .str) y0) (w1 : Wf (.int .i64) y1) (w2 : Wf (.int .i64) y2) : affiantlaw4_TreeParts y0 y1 y2 = some true := by
  unfold affiantlaw4_TreeParts
  obtain ⟨k', e1, k1, k2⟩ := within_eq y1 0 3 (by omega) (by omega) (by omega)
  obtain ⟨k, rfl⟩ := Int.eq_ofNat_of_zero_le k1
  obtain ⟨l, e0, hl, hs⟩ := rows_eq y0 16 (by omega)
  have e0' : affiantlaw4_rows y0 16 = some l := e0
  have u1 : (UInt64.ofNat (Int.toNat ((k : Int) % 18446744073709551616))).toNat = k := by
    rw [show Int.toNat ((k : Int) % 18446744073709551616) = k from by omega, UInt64.toNat_ofNat']; omega
  have hp : 2 ^ k ≤ 2 ^ 3 := Nat.pow_le_pow_right (by omega) (by omega)
  have hp1 : 1 ≤ 2 ^ k := Nat.one_le_two_pow
  have u2 : ishl (1 : Int) k = ((2 ^ k : Nat) : Int) := by
    have := ishl_nat 1 k (by omega) (by omega)
    rw [Nat.one_mul] at this
    exact this
  rw [e1, andThen_mk]
  simp only [u1, Int.toNat_natCast, u2]
  rw [need_true (by omega), e0', andThen_mk, law_TreeRuns]
  by_cases c1 : (l.length : Int) ≤ ((2 ^ k : Nat) : Int)
  · rw [fork_t c1]; rfl
  · rw [fork_f c1, w64_eq (n := 2 * ((2 ^ k : Nat) : Int)) (by omega) (by omega)]
    by_cases c2 : 2 * ((2 ^ k : Nat) : Int) < (l.length : Int)
    · rw [fork_t c2]; rfl
    · rw [fork_f c2]
      have hn : leftS l.length = 2 ^ k := leftS_pow k l.length (by omega) (by rw [Nat.pow_succ]; omega) (by omega)
      obtain ⟨i', e2, i1, i2⟩ := within_eq y2 0 ((l.length : Int) - 1) (by omega) (by omega) (by omega)
      obtain ⟨i, rfl⟩ := Int.eq_ofNat_of_zero_le i1
      generalize hN : 2 ^ k = n at *
      have lt : (l.take n).length = n := by rw [List.length_take]; omega
      have ld : (l.drop n).length = l.length - n := by rw [List.length_drop]
      have ht := small_take hs n
      have hd := small_drop hs n
      have r0 := root_eq (l.take n) (by omega) ht
      have r1 := root_eq (l.drop n) (by omega) hd
      have rr := root_eq l (by omega) hs
      have r2 : rootS l = innerS (rootS (l.take n)) (rootS (l.drop n)) := by rw [rootS_two l (by omega) (by omega), hn]
      have p0 := path_eq l (i : Int) (by omega) hs
      have p1 := path_eq (l.take n) (i : Int) (by omega) ht
      have q1 := pathS_len (l.take n) (i : Int)
      have w1 := w64_eq (n := (l.length : Int) - 1) (by omega) (by omega)
      obtain ⟨m, hm⟩ : ∃ m, l.length = m + 1 := ⟨l.length - 1, by omega⟩
      have pS : pathS l (i : Int) = if i < n then pathF m (l.take n) i ++ [rootS (l.drop n)] else pathF m (l.drop n) (i - n) ++ [rootS (l.take n)] := by
        unfold pathS
        rw [if_pos (by omega), Int.toNat_natCast]
        conv => lhs; rw [hm]
        rw [pathF, if_neg (by omega), hn]
      have g0 : (l.getD 0 []).length ≤ 1000000 := hs _ (by rw [List.getD_eq_getElem?_getD, List.getElem?_eq_getElem (by omega)]; exact List.getElem_mem _)
      have rl : tree_Root [l.getD 0 []] = some (leafS (l.getD 0 [])) := by
        rw [root_eq _ (by simp) (by intro x hx; simp only [List.mem_singleton] at hx; rw [hx]; exact g0), rootS_one]
      have rn : tree_Root [] = some (sha [2]) := by rw [root_eq _ (by simp) (by intro x hx; simp at hx), rootS_none]
      have tn : affiantref1_Tagged 2 [] = some (sha [2]) := rtagged_eq 2 [] (by simp) (by simp)
      have z0 : Int.toNat (0 : Int) = 0 := rfl
      rw [need_true (by omega), cut_to, cut_from, Int.toNat_natCast, r0, andThen_mk, need_true (by omega), r1, andThen_mk, w1, e2, andThen_mk, p0, andThen_mk, p1, andThen_mk]
      simp only [List.nil_append, z0]
      rw [need_true (by simp; omega), need_true (by simp; omega)]
      by_cases c3 : i < n
      · rw [fork_f (by omega), rr, andThen_mk, rinner_eq _ _ (rootS_len _) (rootS_len _), andThen_mk, r2, beq_hash, fork_tt]
        have e : pathS l (i : Int) = pathS (l.take n) (i : Int) ++ [rootS (l.drop n)] := by
          rw [pS, if_pos c3]
          unfold pathS
          rw [if_pos (by omega), Int.toNat_natCast, pathF_fuel (l.take n).length m _ _ (by omega) (by omega) (by omega)]
        rw [e, sameH_refl _ (by simp; omega), andThen_mk, fork_tt, need_true (by omega), rl, andThen_mk, rleaf_eq _ g0, andThen_mk, beq_hash, fork_tt, rn, andThen_mk, tn, andThen_mk, beq_hash, fork_tt]
        rfl
      · have p2 := path_eq (l.drop n) ((i - n : Nat) : Int) (by omega) hd
        have q2 := pathS_len (l.drop n) ((i - n : Nat) : Int)
        rw [fork_t (by omega), w64_eq (by omega) (by omega), show (i : Int) - (n : Int) = ((i - n : Nat) : Int) from by omega, p2, andThen_mk, need_true (by simp; omega), need_true (by simp; omega), rr, andThen_mk, rinner_eq _ _ (rootS_len _) (rootS_len _), andThen_mk, r2, beq_hash, fork_tt]
        have e : pathS l (i : Int) = pathS (l.drop n) ((i - n : Nat) : Int) ++ [rootS (l.take n)] := by
          rw [pS, if_neg c3]
          unfold pathS
          rw [if_pos (by omega), Int.toNat_natCast, pathF_fuel (l.drop n).length m _ _ (by omega) (by omega) (by omega)]
        rw [e, sameH_refl _ (by simp; omega), andThen_mk, fork_tt, need_true (by omega), rl, andThen_mk, rleaf_eq _ g0, andThen_mk, beq_hash, fork_tt, rn, andThen_mk, tn, andThen_mk, beq_hash, fork_tt]
        rfl
end Go.Ax.V
