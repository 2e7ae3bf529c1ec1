/-
  A set's bytes and hash, of the program and of the document.
-/
import Derived.Test.YtmgmncfhldelfaaCAdmitTellsLRHead
import Derived.Test.YtmgmncfhldelfaaCAdmitTellsLVals
namespace Go.Ax.V
open Go.Ax
set_option linter.unusedVariables false
set_option linter.unusedSimpArgs false
def txtS (x : List UInt8) : List UInt8 := oneS x.length ++ x
theorem txt_len (x : List UInt8) : (txtS x).length ≤ x.length + 7 := by
 have := oneS_len (x.length : Int)
 unfold txtS; rw [List.length_append]; omega
theorem vtext_eq (l : List (List UInt8)) (hl : l.length ≤ 1000) (h : ∀ x ∈ l, x.length ≤ 100000) : vint_Text l = some (l.flatMap txtS) := by
 have hlen : ∀ i, ((l.take i).flatMap txtS).length ≤ 100007 * i := by
  intro i
  have : ∀ (m : List (List UInt8)), (∀ x ∈ m, x.length ≤ 100000) → (m.flatMap txtS).length ≤ 100007 * m.length := by
   intro m
   induction m with
   | nil => intro _; simp
   | cons a m ih => intro hm; have h1 := ih (fun x hx => hm x (List.mem_cons_of_mem _ hx)); have h2 := hm a List.mem_cons_self; have h3 := txt_len a; rw [List.flatMap_cons, List.length_append, List.length_cons]; omega
  have := this (l.take i) fun x hx => h x (List.mem_of_mem_take hx)
  rw [List.length_take] at this; omega
 have main : vint_Text_1 l (l.length : Int) 0 [] = some (l.flatMap txtS) := by
  unfold vint_Text_1
  have := loop_for (step := fun (s : Int × List UInt8) => vint_Text_1_step l (l.length : Int) s.1 s.2) (fun i (_ : Unit) => ((i : Int), (l.take i).flatMap txtS)) (fun _ _ => ()) (fun _ => l.flatMap txtS) l.length (fun _ _ => True) (fun i w hi _ => ⟨?_, trivial⟩) (fun w _ => ?_) l.length 0 () (by omega) trivial
  ·exact this
  ·show vint_Text_1_step l (l.length : Int) (i : Int) ((l.take i).flatMap txtS) = _
   unfold vint_Text_1_step
   have b := hlen i
   have hm : (l.getD i []).length ≤ 100000 := h _ (getD_mem hi)
   have b2 := oneS_len ((l.getD i []).length : Int)
   rw [fork_t (by omega), need_true (by omega), Int.toNat_natCast, one_eq', andThen_mk, need_true (by omega), need_true (by rw [List.length_append]; omega), w64_eq (by omega) (by omega), List.append_assoc, flat_take txtS l [] hi]
   rfl
  ·show vint_Text_1_step l (l.length : Int) (l.length : Int) ((l.take l.length).flatMap txtS) = _
   unfold vint_Text_1_step
   rw [fork_f (by omega), List.take_of_length_le (Nat.le_refl _)]
 unfold vint_Text
 rw [main, andThen_mk]
theorem rtext_eq (x : List UInt8) (hx : x.length ≤ 100000) : affiantref1_Text x = some (txtS x) := by
 have := oneS_len (x.length : Int)
 unfold affiantref1_Text
 rw [rput_eq, andThen_mk, need_true (by omega)]
 rfl
end Go.Ax.V
