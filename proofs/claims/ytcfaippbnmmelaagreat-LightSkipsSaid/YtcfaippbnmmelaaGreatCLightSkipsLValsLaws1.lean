/-
  Sets of one to four validators, and some of their names.
-/
import Derived.Test.YtcfaippbnmmelaaGreatCLightSkipsLValsRuns
import Derived.Test.YtcfaippbnmmelaaGreatCLightSkipsLWithin
namespace Go.Ax.V
open Go.Ax
set_option linter.unusedVariables false
set_option linter.unusedSimpArgs false
def nm (i : Nat) : List UInt8 := ([[118, 97], [118, 98], [118, 99], [118, 100]] : List (List UInt8)).getD i []
def ky (i : Nat) : List UInt8 := List.set (List.replicate 32 (0 : UInt8)) 0 (UInt8.ofNat (Int.toNat (((i : Int) + 1) % 256)))
def wv (a : Int) : Int := (q17 a 1 9).getD 1
theorem wv_eq (a : Int) : q17 a 1 9 = some (wv a) ∧ 1 ≤ wv a ∧ wv a ≤ 9 := by
 obtain ⟨r, h, h1, h2⟩ := within_eq a 1 9 (by omega) (by omega) (by omega)
 unfold wv; rw [h]; exact ⟨rfl, h1, h2⟩
def pw (ps : List Int) (i : Nat) : Int := if i < ps.length then wv (ps.getD i 0) else 1
theorem pw_b (ps : List Int) (i : Nat) : 1 ≤ pw ps i ∧ pw ps i ≤ 9 := by
 unfold pw; split
 ·exact (wv_eq _).2
 ·omega
def setN (ps : List Int) : Nat := max 1 (min 4 ps.length)
def mkVal (p : Nat → Int) (i : Nat) : Val := (nm i, p i, ky i, ())
def setS (ps : List Int) : List Val := (List.range (setN ps)).map (mkVal (pw ps))
def setStep (ps : List Int) (i : Nat) (l : List Val) : List Val := if i = 0 ∨ i < ps.length then l ++ [mkVal (pw ps) i] else l
theorem set_run (ps : List Int) : runFor (setStep ps) 0 4 [] = setS ps := by
 unfold setS setN
 simp only [runFor, setStep]
 by_cases h3 : 3 < ps.length
 ·rw [show max 1 (min 4 ps.length) = 4 from by omega]; simp [h3, show 1 < ps.length from by omega, show 2 < ps.length from by omega, List.range_succ]
 ·by_cases h2 : 2 < ps.length
  ·rw [show max 1 (min 4 ps.length) = 3 from by omega]; simp [h3, h2, show 1 < ps.length from by omega, List.range_succ]
  ·by_cases h1 : 1 < ps.length
   ·rw [show max 1 (min 4 ps.length) = 2 from by omega]; simp [h3, h2, h1, List.range_succ]
   ·rw [show max 1 (min 4 ps.length) = 1 from by omega]; simp [h3, h2, h1, List.range_succ]
theorem set_eq (ps : List Int) (hp : ps.length ≤ 140737488351232) : q22 ps = some (setS ps) := by
 unfold q22 q1j
 rw [andThen_mk]
 have main : q22_1 ps 4 0 [] [[118, 97], [118, 98], [118, 99], [118, 100]] = some (runFor (setStep ps) 0 4 []) := by
  unfold q22_1
  refine loop_for (step := fun (s : Int × List Val) => q22_1_step ps 4 s.1 s.2 [[118, 97], [118, 98], [118, 99], [118, 100]]) (fun i l => ((i : Int), l)) (setStep ps) (fun l => l) 4 (fun i l => l.length ≤ i) (fun i l hi hl => ⟨?_, ?_⟩) (fun l hl => ?_) 4 0 [] (by omega) (by simp)
  ·show q22_1_step ps 4 (i : Int) l [[118, 97], [118, 98], [118, 99], [118, 100]] = _
   unfold q22_1_step
   have hlen : List.length [([118, 97] : List UInt8), [118, 98], [118, 99], [118, 100]] = 4 := rfl
   have hw := (wv_eq (ps.getD i 0)).1
   have ho : ∀ x : Val, List.length [x] = 1 := fun _ => rfl
   simp (disch := omega) only [hlen, fork_t, need_true, Int.toNat_natCast, w64_eq, hw, andThen_mk, ho]
   unfold setStep mkVal pw
   by_cases h0 : i = 0
   ·rw [fork_t (by omega), if_pos (Or.inl h0)]
    by_cases hc : i < ps.length
    ·rw [fork_t (by omega), need_true (by omega), if_pos hc]; rfl
    ·rw [fork_f (by omega), if_neg hc]; rfl
   ·rw [fork_f (by omega)]
    by_cases hc : i < ps.length
    ·rw [fork_t (by omega), need_true (by omega), if_pos (Or.inr hc), if_pos hc]; rfl
    ·rw [fork_f (by omega), if_neg (by omega)]; rfl
  ·unfold setStep
   split
   ·simp; omega
   ·omega
  ·show q22_1_step ps 4 4 l _ = _
   unfold q22_1_step
   rfl
 show andThen (q22_1 ps 4 0 [] [[118, 97], [118, 98], [118, 99], [118, 100]]) _ = _
 rw [main, andThen_mk, set_run]
end Go.Ax.V
