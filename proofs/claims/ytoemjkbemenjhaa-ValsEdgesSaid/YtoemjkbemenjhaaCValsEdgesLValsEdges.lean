/-
  Chapter 10: none, six, powers of nought, names out of order aren't sets; just two thirds isn't more.
-/
import Derived.Test.YtoemjkbemenjhaaCValsEdgesLValsRuns
import Derived.Test.YtoemjkbemenjhaaCValsEdgesLWithin
namespace Go.Ax.V
open Go.Ax
set_option linter.unusedVariables false
set_option linter.unusedSimpArgs false

def genVals (n : Nat) : List Val := runFor (fun i l => l ++ [([UInt8.ofNat (Int.toNat ((w64 ((97 : Int) + i)) % 256))], (1 : Int), List.replicate 32 (0 : UInt8), ())]) 0 n []
theorem gen_1 (q : Int) (s : List UInt8) (n : Nat) (h : n ≤ 7) : affiantlaw10_ValsEdges_1 q s (n : Int) (n : Int) 0 [] = some (q, s, (n : Int), genVals n) := by
  unfold affiantlaw10_ValsEdges_1 genVals
  refine loop_for (step := fun (t : Int × List Val) => affiantlaw10_ValsEdges_1_step q s (n : Int) (n : Int) t.1 t.2) (fun i l => ((i : Int), l)) _ (fun l => (q, s, (n : Int), l)) n (fun i l => l.length = i) (fun i l hi hl => ⟨?_, by simp [hl]⟩) (fun l hl => ?_) n 0 [] (by omega) rfl
  · unfold affiantlaw10_ValsEdges_1_step
    rw [fork_t (by omega), need_true (by simp; omega), w64_eq (by show (-9223372036854775808 : Int) ≤ (i : Int) + 1; omega) (by show (i : Int) + 1 ≤ 9223372036854775807; omega)]
    rfl
  · unfold affiantlaw10_ValsEdges_1_step
    rw [fork_f (by omega)]
theorem one_eq (s : List UInt8) (p : Int) : affiantlaw10_ValsEdgesF1 s p = some (mayS (s, p, List.replicate 32 0, ())) := by
  unfold affiantlaw10_ValsEdgesF1
  rw [right_eq _ (by simp), andThen_mk]
  congr 1
  generalize hv : ((s, p, List.replicate 32 (0 : UInt8), ()) : Val) = v
  have e : rightS [v] = (((mayS v && true) && true) && true) := rfl
  rw [e, Bool.and_true, Bool.and_true, Bool.and_true]
theorem gen_right : ∀ n, n ≤ 7 → rightS (genVals n) = (decide (1 ≤ n) && decide (n ≤ 5)) := by decide
theorem may_x (p : Int) : mayS ([120], p, List.replicate 32 0, ()) = (decide (1 ≤ p) && decide (p ≤ 1048576)) := rfl
theorem may_1 (s : List UInt8) : mayS (s, 1, List.replicate 32 0, ()) = (decide ((1 : Int) ≤ (s.length : Int)) && decide ((s.length : Int) ≤ 16)) := by
  show (!decide (s = []) && (decide ((s.length : Int) ≤ 16) && true)) = _
  rw [Bool.and_true]
  congr 1
  cases s with
  | nil => rfl
  | cons a l =>
    rw [decide_eq_true (show (1 : Int) ≤ ((a :: l).length : Int) by rw [List.length_cons]; omega)]
    simp
theorem law_ValsEdges (y0 y1 : Int) (y2 : List UInt8) (w0 : Wf (.int .i64) y0) (w1 : Wf (.int .i64) y1) (w2 : Wf .str y2) : affiantlaw10_ValsEdges y0 y1 y2 = some true := by
  unfold affiantlaw10_ValsEdges
  obtain ⟨k, hk, k1, k2⟩ := within_eq y0 0 7 (by omega) (by omega) (by omega)
  obtain ⟨n, rfl⟩ := Int.eq_ofNat_of_zero_le k1
  obtain ⟨q, hq, q1, q2⟩ := within_eq y1 (-2) 1048578 (by omega) (by omega) (by omega)
  have hs : Small [(([97] : List UInt8), (2 : Int), (List.replicate 32 (0 : UInt8)), ()), (([98] : List UInt8), (1 : Int), (List.replicate 32 (0 : UInt8)), ())] := by
    refine ⟨by decide, ?_⟩
    intro v hv
    simp only [List.mem_cons, List.not_mem_nil, or_false] at hv
    rcases hv with rfl | rfl <;> decide
  have hc := cut_len y2 0 (min (y2.length : Int) 20) (by omega) (by omega) (by omega)
  have hlen : (genVals n).length ≤ 1073741824 := by
    have := runFor_inv (f := fun i (l : List Val) => l ++ [([UInt8.ofNat (Int.toNat ((w64 ((97 : Int) + i)) % 256))], (1 : Int), List.replicate 32 (0 : UInt8), ())]) (I := fun i l => l.length = i) (n := n) (fun i t hi ht => by simp [ht]) (k := n) (i := 0) (t := []) (by omega) rfl
    have e : (genVals n).length = n := this
    omega
  have g := gen_right n (by omega)
  rw [hk, andThen_mk, gen_1 _ _ _ (by omega), andThen_mk]
  simp only []
  rw [right_eq _ hlen, andThen_mk, g]
  have t : vals_Tally [(([97] : List UInt8), (2 : Int), (List.replicate 32 (0 : UInt8)), ()), (([98] : List UInt8), (1 : Int), (List.replicate 32 (0 : UInt8)), ())] [[97]] = some (2, 3) := (tally_eq _ hs _ (by decide)).trans (by decide)
  have o1 : vals_Over (2, 3) 2 3 = some false := by decide
  have o2 : vals_Over (2, 3) 1 3 = some true := by decide
  have o3 : vals_Over (2, 3) 65 100 = some true := by decide
  have r1 : vals_Right [(([98] : List UInt8), (1 : Int), (List.replicate 32 (0 : UInt8)), ()), (([97] : List UInt8), (2 : Int), (List.replicate 32 (0 : UInt8)), ())] = some false := (right_eq _ (by decide)).trans (by decide)
  have g0 : List.getD [(([97] : List UInt8), (2 : Int), (List.replicate 32 (0 : UInt8)), ()), (([98] : List UInt8), (1 : Int), (List.replicate 32 (0 : UInt8)), ())] (Int.toNat (0 : Int)) (([] : List UInt8), (0 : Int), (List.replicate 32 (0 : UInt8)), ()) = ([97], 2, List.replicate 32 0, ()) := rfl
  have g1 : List.getD [(([97] : List UInt8), (2 : Int), (List.replicate 32 (0 : UInt8)), ()), (([98] : List UInt8), (1 : Int), (List.replicate 32 (0 : UInt8)), ())] (Int.toNat (1 : Int)) (([] : List UInt8), (0 : Int), (List.replicate 32 (0 : UInt8)), ()) = ([98], 1, List.replicate 32 0, ()) := rfl
  have l2 : List.length [(([97] : List UInt8), (2 : Int), (List.replicate 32 (0 : UInt8)), ()), (([98] : List UInt8), (1 : Int), (List.replicate 32 (0 : UInt8)), ())] = 2 := rfl
  generalize cutL y2 0 (min (y2.length : Int) 20) = s at hc ⊢
  simp (disch := omega) only [hq, andThen_mk, l2, need_true, t, one_eq, may_x, may_1, o1, o2, o3, g0, g1, r1, law_ValsRuns, Bool.not_false, fork_tt]
  simp only [fork_ite]
  have e : (decide (1 ≤ (n : Int))) = decide (1 ≤ n) := decide_eq_decide.2 (by omega)
  have e5 : (decide ((n : Int) ≤ 5)) = decide (n ≤ 5) := decide_eq_decide.2 (by omega)
  rw [e, e5]
  generalize decide (1 ≤ n) = b1
  generalize decide (n ≤ 5) = b2
  generalize decide (1 ≤ q) = b3
  generalize decide (q ≤ 1048576) = b4
  generalize decide (1 ≤ (s.length : Int)) = b5
  generalize decide ((s.length : Int) ≤ 16) = b6
  revert b1 b2 b3 b4 b5 b6
  decide
end Go.Ax.V
