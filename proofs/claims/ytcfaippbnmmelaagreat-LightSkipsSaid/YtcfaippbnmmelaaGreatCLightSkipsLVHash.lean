/-
  A set's bytes and hash, of the program and of the document.
-/
import Derived.Test.YtcfaippbnmmelaaGreatCLightSkipsLRHead
import Derived.Test.YtcfaippbnmmelaaGreatCLightSkipsLVals
namespace Go.Ax.V
open Go.Ax
set_option linter.unusedVariables false
set_option linter.unusedSimpArgs false
def txtS (x : List UInt8) : List UInt8 := oneS x.length ++ x
theorem txt_len (x : List UInt8) : (txtS x).length ≤ x.length + 7 := by
 have := oneS_len (x.length : Int)
 unfold txtS; rw [List.length_append]; omega
theorem vtext_eq (l : List (List UInt8)) (hl : l.length ≤ 1000) (h : ∀ x ∈ l, x.length ≤ 100000) : q2t l = some (l.flatMap txtS) := by
 have hlen : ∀ i, ((l.take i).flatMap txtS).length ≤ 100007 * i := by
  intro i
  have : ∀ (m : List (List UInt8)), (∀ x ∈ m, x.length ≤ 100000) → (m.flatMap txtS).length ≤ 100007 * m.length := by
   intro m
   induction m with
   | nil => intro _; simp
   | cons a m ih => intro hm; have h1 := ih (fun x hx => hm x (List.mem_cons_of_mem _ hx)); have h2 := hm a List.mem_cons_self; have h3 := txt_len a; rw [List.flatMap_cons, List.length_append, List.length_cons]; omega
  have := this (l.take i) fun x hx => h x (List.mem_of_mem_take hx)
  rw [List.length_take] at this; omega
 have main : q2t_1 l (l.length : Int) 0 [] = some (l.flatMap txtS) := by
  unfold q2t_1
  have := loop_for (step := fun (s : Int × List UInt8) => q2t_1_step l (l.length : Int) s.1 s.2) (fun i (_ : Unit) => ((i : Int), (l.take i).flatMap txtS)) (fun _ _ => ()) (fun _ => l.flatMap txtS) l.length (fun _ _ => True) (fun i w hi _ => ⟨?_, trivial⟩) (fun w _ => ?_) l.length 0 () (by omega) trivial
  ·exact this
  ·show q2t_1_step l (l.length : Int) (i : Int) ((l.take i).flatMap txtS) = _
   unfold q2t_1_step
   have b := hlen i
   have hm : (l.getD i []).length ≤ 100000 := h _ (getD_mem hi)
   have b2 := oneS_len ((l.getD i []).length : Int)
   rw [fork_t (by omega), need_true (by omega), Int.toNat_natCast, one_eq', andThen_mk, need_true (by omega), need_true (by rw [List.length_append]; omega), w64_eq (by omega) (by omega), List.append_assoc, flat_take txtS l [] hi]
   rfl
  ·show q2t_1_step l (l.length : Int) (l.length : Int) ((l.take l.length).flatMap txtS) = _
   unfold q2t_1_step
   rw [fork_f (by omega), List.take_of_length_le (Nat.le_refl _)]
 unfold q2t
 rw [main, andThen_mk]
theorem grow_eq (n : Nat) (h : n ≤ 1000000000) : qg (n : Int) = some [] := by
 unfold qg
 rw [fork_f (by omega), Int.sub_zero, w64_eq (by omega) (by omega)]
 by_cases c : (0 : Int) < (n : Int)
 ·rw [fork_t c, need_true ⟨rfl, rfl⟩, need_true (by rw [List.length_replicate]; omega), need_true (by omega), need_true (by rw [List.length_replicate]; omega)]
  rfl
 ·rw [fork_f c]
theorem concat_eq (l : List (List UInt8)) (h : l.flatten.length ≤ 1000000000) (hl : l.length ≤ 1000000) : qo l = some l.flatten := by
 have ht : ∀ i, ((l.take i).flatten).length ≤ 1000000000 := fun i => Nat.le_trans (take_flat_le l i) h
 have m1 : qo_1 l 0 l (l.length : Int) 0 = some (l, (l.flatten.length : Int)) := by
  unfold qo_1
  have := loop_for (step := fun (s : Int × Int) => qo_1_step l s.1 l (l.length : Int) s.2) (fun i (_ : Unit) => ((((l.take i).flatten).length : Int), (i : Int))) (fun _ _ => ()) (fun _ => (l, (l.flatten.length : Int))) l.length (fun _ _ => True) (fun i w hi _ => ⟨?_, trivial⟩) (fun w _ => ?_) l.length 0 () (by omega) trivial
  ·exact this
  ·show qo_1_step l (((l.take i).flatten).length : Int) l (l.length : Int) (i : Int) = _
   unfold qo_1_step
   have e := congrArg List.length (getD_take l hi)
   rw [List.length_append] at e
   have b := ht (i + 1)
   rw [fork_t (by omega), need_true (by omega), Int.toNat_natCast, w64_eq (n := (((l.take i).flatten).length : Int) + ((l.getD i []).length : Int)) (by omega) (by omega), fork_f (by omega), w64_eq (by omega) (by omega)]
   congr 3
   omega
  ·show qo_1_step l (((l.take l.length).flatten).length : Int) l (l.length : Int) (l.length : Int) = _
   unfold qo_1_step
   rw [fork_f (by omega), List.take_of_length_le (Nat.le_refl _)]
 have m2 : qo_2 l (l.length : Int) 0 [] = some l.flatten := by
  unfold qo_2
  have := loop_for (step := fun (s : Int × List UInt8) => qo_2_step l (l.length : Int) s.1 s.2) (fun i (_ : Unit) => ((i : Int), (l.take i).flatten)) (fun _ _ => ()) (fun _ => l.flatten) l.length (fun _ _ => True) (fun i w hi _ => ⟨?_, trivial⟩) (fun w _ => ?_) l.length 0 () (by omega) trivial
  ·exact this
  ·show qo_2_step l (l.length : Int) (i : Int) ((l.take i).flatten) = _
   unfold qo_2_step
   have e := congrArg List.length (getD_take l hi)
   rw [List.length_append] at e
   have b := ht (i + 1)
   rw [fork_t (by omega), need_true (by omega), Int.toNat_natCast, need_true (by omega), w64_eq (by omega) (by omega), getD_take l hi]
   rfl
  ·show qo_2_step l (l.length : Int) (l.length : Int) ((l.take l.length).flatten) = _
   unfold qo_2_step
   rw [fork_f (by omega), List.take_of_length_le (Nat.le_refl _)]
 unfold qo
 rw [m1, andThen_mk]
 simp only
 rw [grow_eq _ h, andThen_mk, m2, andThen_mk]
def valB (v : Val) : List UInt8 := txtS v.1 ++ oneS v.2.1 ++ v.2.2.1
def setB (l : List Val) : List UInt8 := oneS l.length ++ l.flatMap valB
def setH (l : List Val) : List UInt8 := sha (86 :: setB l)
def SetSm (l : List Val) : Prop := l.length ≤ 1000 ∧ ∀ v ∈ l, v.1.length ≤ 100000 ∧ v.2.2.1.length = 32
theorem setH_len (l : List Val) : (setH l).length = 32 := sha_len _
theorem valB_len {v : Val} (h : v.1.length ≤ 100000 ∧ v.2.2.1.length = 32) : (valB v).length ≤ 100100 := by
 have h1 := txt_len v.1
 have h2 := oneS_len v.2.1
 unfold valB
 rw [List.length_append, List.length_append]; omega
theorem vals_len : ∀ (m : List Val), (∀ v ∈ m, v.1.length ≤ 100000 ∧ v.2.2.1.length = 32) → (m.flatMap valB).length ≤ 100100 * m.length
 | [], _ => by simp
 | a :: m, hm => by
  have h1 := vals_len m fun x hx => hm x (List.mem_cons_of_mem _ hx)
  have h2 := valB_len (hm a List.mem_cons_self)
  rw [List.flatMap_cons, List.length_append, List.length_cons]; omega
theorem setB_take {l : List Val} (h : SetSm l) (i : Nat) : (oneS l.length ++ (l.take i).flatMap valB).length ≤ 100100 * 1000 + 7 := by
 have h1 := oneS_len (l.length : Int)
 have h2 := vals_len (l.take i) fun v hv => h.2 v (List.mem_of_mem_take hv)
 have h3 := h.1
 rw [List.length_take] at h2
 rw [List.length_append]
 have : min i l.length ≤ 1000 := by omega
 have : 100100 * min i l.length ≤ 100100 * 1000 := Nat.mul_le_mul_left _ this
 omega
theorem vals_Hash_1_step_z (x0 : List Val) (x1 : Int) (x2 : Int) (x3 : List UInt8) (x4 : List UInt8) : q33_1_step x0 x1 x2 x3 x4 = (fork (decide (x2 < x1)) (need (0 ≤ x2 ∧ x2 < (List.length x0 : Int)) (andThen (q2t ([(List.getD x0 (Int.toNat x2) zVal).1] : List (List UInt8))) (fun u6 => andThen (q38 ([(List.getD x0 (Int.toNat x2) zVal).2.1] : List (Int))) (fun u8 => andThen (q2u ([(List.getD x0 (Int.toNat x2) zVal).2.2.1] : List (List UInt8))) (fun u10 => andThen (qo ([x4, u6, u8, u10] : List (List UInt8))) (fun u12 => some (.inl ((w64 (x2 + (1 : Int))), u12)))))))) (some (.inr (x3, x4))) : Option ((Int × List UInt8) ⊕ (List UInt8 × List UInt8))) := rfl
theorem valsHash_eq (l : List Val) (h : SetSm l) : q33 l = some (setH l) := by
 have hl := h.1
 have main : q33_1 l (l.length : Int) 0 (List.replicate 32 0) (oneS l.length) = some (List.replicate 32 0, setB l) := by
  unfold q33_1
  have := loop_for (step := fun (s : Int × List UInt8) => q33_1_step l (l.length : Int) s.1 (List.replicate 32 0) s.2) (fun i (_ : Unit) => ((i : Int), oneS l.length ++ (l.take i).flatMap valB)) (fun _ _ => ()) (fun _ => (List.replicate 32 0, setB l)) l.length (fun _ _ => True) (fun i w hi _ => ⟨?_, trivial⟩) (fun w _ => ?_) l.length 0 () (by omega) trivial
  ·rw [show ((0 : Int), oneS (l.length : Int)) = (((0 : Nat) : Int), oneS (l.length : Int) ++ (l.take 0).flatMap valB) from by simp]
   exact this
  ·show q33_1_step l (l.length : Int) (i : Int) (List.replicate 32 0) (oneS l.length ++ (l.take i).flatMap valB) = _
   have hv := h.2 _ (getD_mem (z := zVal) hi)
   have b := setB_take h i
   have b2 := valB_len hv
   rw [vals_Hash_1_step_z, fork_t (by omega), need_true (by omega), Int.toNat_natCast, vtext_eq _ (by simp) (by simp; exact hv.1), andThen_mk, put_eq _ (by simp), andThen_mk, hash_eq _ (by simp) (by simp; exact hv.2), andThen_mk]
   have e : [oneS (l.length : Int) ++ (l.take i).flatMap valB, [(l.getD i zVal).1].flatMap txtS, putS [(l.getD i zVal).2.1], [(l.getD i zVal).2.2.1].flatten].flatten = oneS (l.length : Int) ++ (l.take (i + 1)).flatMap valB := by
    rw [flat_take valB l zVal hi]
    simp [valB, putS, List.append_assoc]
   have b3 := setB_take h (i + 1)
   rw [concat_eq _ (by rw [e]; omega) (by simp), andThen_mk, e, w64_eq (by omega) (by omega)]
   rfl
  ·show q33_1_step l (l.length : Int) (l.length : Int) (List.replicate 32 0) (oneS l.length ++ (l.take l.length).flatMap valB) = _
   unfold q33_1_step
   rw [fork_f (by omega), List.take_of_length_le (Nat.le_refl _)]
   rfl
 have b := setB_take h l.length
 rw [List.take_of_length_le (Nat.le_refl _)] at b
 have b : (setB l).length ≤ 100100 * 1000 + 7 := b
 have hp : putS [(l.length : Int)] = oneS l.length := by simp [putS]
 have hf : [setB l].flatten = setB l := by simp
 unfold q33
 rw [put_eq _ (by simp), andThen_mk, hp, main, andThen_mk]
 simp only
 rw [tagged_eq _ _ (by rw [hf]; omega) (by simp), hf]
 rfl
theorem rtext_eq (x : List UInt8) (hx : x.length ≤ 100000) : q1t x = some (txtS x) := by
 have := oneS_len (x.length : Int)
 unfold q1t
 rw [rput_eq, andThen_mk, need_true (by omega)]
 rfl
theorem affiantref10_SetHash_1_step_z (x0 : List Val) (x1 : Int) (x2 : Int) (x3 : List UInt8) (x4 : List UInt8) : q12_1_step x0 x1 x2 x3 x4 = (fork (decide (x2 < x1)) (need (0 ≤ x2 ∧ x2 < (List.length x0 : Int)) (andThen (q1t ((List.getD x0 (Int.toNat x2) zVal).1)) (fun u6 => need (List.length x4 + List.length u6 ≤ 2147483648) (andThen (q1y ((List.getD x0 (Int.toNat x2) zVal).2.1)) (fun u9 => need (List.length (x4 ++ u6) + List.length u9 ≤ 2147483648) (need (List.length ((x4 ++ u6) ++ u9) + List.length (List.getD x0 (Int.toNat x2) zVal).2.2.1 ≤ 2147483648) (some (.inl ((w64 (x2 + (1 : Int))), (((x4 ++ u6) ++ u9) ++ (List.getD x0 (Int.toNat x2) zVal).2.2.1)))))))))) (some (.inr (x3, x4))) : Option ((Int × List UInt8) ⊕ (List UInt8 × List UInt8))) := rfl
theorem rsetHash_eq (l : List Val) (h : SetSm l) : q12 l = some (setH l) := by
 have hl := h.1
 have main : q12_1 l (l.length : Int) 0 (List.replicate 32 0) (oneS l.length) = some (List.replicate 32 0, setB l) := by
  unfold q12_1
  have := loop_for (step := fun (s : Int × List UInt8) => q12_1_step l (l.length : Int) s.1 (List.replicate 32 0) s.2) (fun i (_ : Unit) => ((i : Int), oneS l.length ++ (l.take i).flatMap valB)) (fun _ _ => ()) (fun _ => (List.replicate 32 0, setB l)) l.length (fun _ _ => True) (fun i w hi _ => ⟨?_, trivial⟩) (fun w _ => ?_) l.length 0 () (by omega) trivial
  ·rw [show ((0 : Int), oneS (l.length : Int)) = (((0 : Nat) : Int), oneS (l.length : Int) ++ (l.take 0).flatMap valB) from by simp]
   exact this
  ·show q12_1_step l (l.length : Int) (i : Int) (List.replicate 32 0) (oneS l.length ++ (l.take i).flatMap valB) = _
   have hv := h.2 _ (getD_mem (z := zVal) hi)
   have b := setB_take h i
   have b1 := txt_len (l.getD i zVal).1
   have b2 := oneS_len (l.getD i zVal).2.1
   rw [affiantref10_SetHash_1_step_z, fork_t (by omega), need_true (by omega), Int.toNat_natCast, rtext_eq _ hv.1, andThen_mk, need_true (by omega), rput_eq, andThen_mk, need_true (by rw [List.length_append (as := oneS _ ++ _)]; omega), need_true (by rw [List.length_append (as := (oneS _ ++ _) ++ _), List.length_append (as := oneS _ ++ _)]; omega), w64_eq (by omega) (by omega), flat_take valB l zVal hi]
   simp [valB, List.append_assoc]
  ·show q12_1_step l (l.length : Int) (l.length : Int) (List.replicate 32 0) (oneS l.length ++ (l.take l.length).flatMap valB) = _
   unfold q12_1_step
   rw [fork_f (by omega), List.take_of_length_le (Nat.le_refl _)]
   rfl
 have b := setB_take h l.length
 rw [List.take_of_length_le (Nat.le_refl _)] at b
 have b : (setB l).length ≤ 100100 * 1000 + 7 := b
 have hf : [setB l].flatten = setB l := by simp
 unfold q12
 rw [rput_eq, andThen_mk, main, andThen_mk]
 simp only
 rw [rtagged_eq _ _ (by rw [hf]; omega) (by simp), hf]
 rfl
end Go.Ax.V
