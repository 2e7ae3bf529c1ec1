/-
  Pairs of numbers, the document's own proofs, and when two are the same.
-/
import Derived.Test.YtanhbdkimbljeaaCStoreOldLProve
import Derived.Test.YtanhbdkimbljeaaCStoreOldLValsLaws1
namespace Go.Ax.V
open Go.Ax
set_option linter.unusedVariables false
set_option linter.unusedSimpArgs false
theorem sp_step (x0 : List Pr) (x1 : List Pr) (x2 : Int) : affiantbook_Same_Pair_1_step x0 x1 x2 =
  (fork (decide (x2 < (List.length x0 : Int))) (need (0 ≤ x2 ∧ x2 < (List.length x0 : Int)) (need (0 ≤ x2 ∧ x2 < (List.length x1 : Int)) (fork (!(Ty.beq (.fld .str (.fld .str .unit)) (List.getD x0 (Int.toNat x2) zPr) (List.getD x1 (Int.toNat x2) zPr))) (some (.inr (.inl false))) (some (.inl (w64 (x2 + (1 : Int)))))))) (some (.inr (.inr ()))) : Option ((Int) ⊕ ((Bool) ⊕ (Unit)))) := rfl
theorem samePair_refl (a : List (Pr)) (ha : a.length ≤ 1073741824) : affiantbook_Same_Pair a a = some true := by
 have h : affiantbook_Same_Pair_1 a a 0 = some (.inr ()) := by
  unfold affiantbook_Same_Pair_1
  have := loop_for (step := fun (s : Int) => affiantbook_Same_Pair_1_step a a s) (fun i (_ : Unit) => (i : Int)) (fun _ _ => ()) (fun _ => .inr ()) a.length (fun _ _ => True) (fun i w hi _ => ⟨?_, trivial⟩) (fun w _ => ?_) a.length 0 () (by omega) trivial
  ·exact this
  ·show affiantbook_Same_Pair_1_step a a (i : Int) = _
   rw [sp_step, fork_t (by omega), need_true (by omega), need_true (by omega), pbeq, fork_nt rfl, w64_eq (by omega) (by omega)]
   rfl
  ·show affiantbook_Same_Pair_1_step a a (a.length : Int) = _
   rw [sp_step, fork_f (by omega)]
 unfold affiantbook_Same_Pair
 rw [fork_nt (by omega), h, andThen_mk]
def keys12 : List (List UInt8) := [[97], [97, 98], [97, 98, 99], [98], [98, 97], [115, 47, 97], [115, 47, 98], [115, 47, 99], [116], [117], [122], [122, 122]]
theorem keys_eq : affiantkeep_keys = some keys12 := rfl
theorem key_eq (n : Int) : ∃ i, i < 12 ∧ affiantkeep_Key n = some (keys12.getD i []) := by
 obtain ⟨r, er, r1, r2⟩ := within_eq n 0 11 (by omega) (by omega) (by omega)
 refine ⟨r.toNat, by omega, ?_⟩
 have hk : keys12.length = 12 := rfl
 unfold affiantkeep_Key
 rw [keys_eq, andThen_mk, andThen_mk, hk, show w64 (((12 : Nat) : Int) - 1) = 11 from rfl, er, andThen_mk, need_true (by omega)]
theorem text_eq (n : Int) : ∃ x, affiantkeep_Text n = some x ∧ x.length ≤ 8 := by
 obtain ⟨r, er, r1, r2⟩ := within_eq n 0 4 (by omega) (by omega) (by omega)
 unfold affiantkeep_Text
 rw [er, andThen_mk, need_true (by show 0 ≤ r ∧ r < ((5 : Nat) : Int); omega)]
 refine ⟨_, rfl, ?_⟩
 have : ∀ i, i < 5 → (([([] : List UInt8), ([49] : List UInt8), ([120] : List UInt8), ([118, 97, 108, 117, 101] : List UInt8), ([49, 50, 51, 52, 53, 54, 55, 56] : List UInt8)] : List (List UInt8)).getD i []).length ≤ 8 := by decide
 exact this r.toNat (by omega)
end Go.Ax.V
