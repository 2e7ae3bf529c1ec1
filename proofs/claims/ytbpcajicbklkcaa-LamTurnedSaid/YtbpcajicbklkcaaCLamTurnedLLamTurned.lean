/-
  Chapter 3: a signature with a bit turned anywhere, of another message, for another key: it is verified just if the document's own reckoning leads to that key.
-/
import Derived.Test.YtbpcajicbklkcaaCLamTurnedLLamRuns
import Derived.Test.YtbpcajicbklkcaaCLamTurnedLRLam
import Derived.Test.YtbpcajicbklkcaaCLamTurnedLWithin
namespace Go.Ax.V
open Go.Ax
set_option linter.unusedVariables false
set_option linter.unusedSimpArgs false

theorem rwho_eq (m : List UInt8) (hm : m.length ≤ 100000) (x : One) (lo : Len32 x.1) (ls : Len32 x.2.1) : affiantref1_Who m x = some (whoS m x) := by
  unfold affiantref1_Who whoS
  by_cases ho : x.1.length = 32
  · rw [fork_nt (by omega)]
    by_cases hs : x.2.1.length = 32
    · rw [fork_nt (by omega), if_pos ⟨ho, hs⟩]
      have main : affiantref1_Who_1 m 0 x zH [] = some (zH, wparts (digS m) x.1 x.2.1) := by
        unfold affiantref1_Who_1
        have := loop_for (step := fun (s : Int × List (List UInt8)) => affiantref1_Who_1_step m s.1 x zH s.2) (fun i (_ : Unit) => ((i : Int), (List.range i).flatMap (wpart (digS m) x.1 x.2.1))) (fun _ _ => ()) (fun _ => (zH, wparts (digS m) x.1 x.2.1)) 32 (fun _ _ => True) (fun i w hi _ => ⟨?_, trivial⟩) (fun w _ => ?_) 32 0 () (by omega) trivial
        · exact this
        · show affiantref1_Who_1_step m (i : Int) x zH ((List.range i).flatMap (wpart (digS m) x.1 x.2.1)) = _
          unfold affiantref1_Who_1_step
          have hb := bitN_le (digS m) i
          have hl := wparts_len (digS m) x.1 x.2.1 i
          have hg : (x.1.getD i (List.replicate 32 0)).length = 32 := getD_len _ lo i
          rw [fork_t (by omega), need_true (by omega), Int.toNat_natCast, rpub_eq _ hg, andThen_mk, need_true (by omega), rbit_eq m hm i (by omega), andThen_mk, w64_eq (by omega) (by omega), flatRange]
          have hw : wpart (digS m) x.1 x.2.1 i = if bitN (digS m) i = 0 then [pubS (x.1.getD i zH), x.2.1.getD i zH] else [x.2.1.getD i zH, pubS (x.1.getD i zH)] := rfl
          rw [hw]
          rcases (show bitN (digS m) i = 0 ∨ bitN (digS m) i = 1 by omega) with h0 | h0
          · rw [h0, if_pos rfl, fork_f (by omega), need_true (by rw [hl, List.length_cons, List.length_cons, List.length_nil]; omega)]
            rfl
          · rw [h0, if_neg (by omega), fork_t (by omega), need_true (by rw [hl, List.length_cons, List.length_cons, List.length_nil]; omega)]
            rfl
        · show affiantref1_Who_1_step m 32 x zH _ = _
          unfold affiantref1_Who_1_step
          rw [fork_f (by omega)]
          rfl
      have hk : affiantref1_key (wparts (digS m) x.1 x.2.1) = some (keyS (wparts (digS m) x.1 x.2.1)) := rkey_eq _ (by unfold wparts; rw [wparts_len]; omega) (wparts_mem _ _ _ ls 32)
      have main' : affiantref1_Who_1 m 0 x (List.replicate 32 0) [] = some (zH, wparts (digS m) x.1 x.2.1) := main
      rw [main', andThen_mk]
      simp only
      rw [hk]
      rfl
    · rw [fork_nf (by omega), if_neg (fun h => hs h.2)]
  · rw [fork_nf (by omega), if_neg (fun h => ho h.1)]
theorem turned_1 (a1 m n k : List UInt8) (s : One) (o sh : List (List UInt8)) (x y : List UInt8) (hm : m.length ≤ 100000) (hn : n.length ≤ 100000) :
    ∃ b : Bool, affiantlaw3_LamTurned_1 true 0 a1 m n k s () o sh x y = some (b, a1, m, n, k, s, (), o, sh, x, y) ∧ (b = true → ∀ i, i < 32 → bitN (digS m) i = bitN (digS n) i) := by
  refine ⟨runFor (fun i b => b && decide (bitN (digS m) i = bitN (digS n) i)) 0 32 true, ?_, ?_⟩
  · unfold affiantlaw3_LamTurned_1
    refine loop_for (step := fun (t : Bool × Int) => affiantlaw3_LamTurned_1_step t.1 t.2 a1 m n k s () o sh x y) (fun i b => (b, (i : Int))) _ (fun b => (b, a1, m, n, k, s, (), o, sh, x, y)) 32 (fun _ _ => True) (fun i b hi _ => ⟨?_, trivial⟩) (fun b _ => ?_) 32 0 true (by omega) trivial
    · show affiantlaw3_LamTurned_1_step b (i : Int) a1 m n k s () o sh x y = _
      unfold affiantlaw3_LamTurned_1_step
      rw [fork_t (by omega), w64_eq (by omega) (by omega)]
      cases b with
      | false => rfl
      | true =>
        rw [fork_tt, Bit_eq m hm i (by omega), andThen_mk, Bit_eq n hn i (by omega), andThen_mk, Bool.true_and]
        have : decide (((bitN (digS m) i : Nat) : Int) = ((bitN (digS n) i : Nat) : Int)) = decide (bitN (digS m) i = bitN (digS n) i) := decide_eq_decide.2 (by omega)
        rw [this]
        rfl
    · show affiantlaw3_LamTurned_1_step b 32 a1 m n k s () o sh x y = _
      unfold affiantlaw3_LamTurned_1_step
      rw [fork_f (by omega)]
  · have := runFor_inv (f := fun i b => b && decide (bitN (digS m) i = bitN (digS n) i)) (I := fun i b => b = true → ∀ j, j < i → bitN (digS m) j = bitN (digS n) j) (n := 32) (fun i b hi ih h => by
      simp only [Bool.and_eq_true, decide_eq_true_eq] at h
      intro j hj
      rcases (show j < i ∨ j = i by omega) with h1 | h1
      · exact ih h.1 j h1
      · subst h1; exact h.2) (k := 32) (i := 0) (t := true) (by omega) (fun _ j hj => by omega)
    exact this
theorem turned_2 (a1 m n k : List UInt8) (s : One) (o sh : List (List UInt8)) (x y : List UInt8) (hm : m.length ≤ 100000) (hn : n.length ≤ 100000) :
    ∃ b : Bool, affiantlaw3_LamTurned_2 true 0 a1 m n k s () o sh x y = some (b, a1, m, n, k, s, (), o, sh, x, y) ∧ (b = true → ∀ i, i < 32 → bitN (digS m) i = bitN (digS n) i) := by
  refine ⟨runFor (fun i b => b && decide (bitN (digS m) i = bitN (digS n) i)) 0 32 true, ?_, ?_⟩
  · unfold affiantlaw3_LamTurned_2
    refine loop_for (step := fun (t : Bool × Int) => affiantlaw3_LamTurned_2_step t.1 t.2 a1 m n k s () o sh x y) (fun i b => (b, (i : Int))) _ (fun b => (b, a1, m, n, k, s, (), o, sh, x, y)) 32 (fun _ _ => True) (fun i b hi _ => ⟨?_, trivial⟩) (fun b _ => ?_) 32 0 true (by omega) trivial
    · show affiantlaw3_LamTurned_2_step b (i : Int) a1 m n k s () o sh x y = _
      unfold affiantlaw3_LamTurned_2_step
      rw [fork_t (by omega), w64_eq (by omega) (by omega)]
      cases b with
      | false => rfl
      | true =>
        rw [fork_tt, Bit_eq m hm i (by omega), andThen_mk, Bit_eq n hn i (by omega), andThen_mk, Bool.true_and]
        have : decide (((bitN (digS m) i : Nat) : Int) = ((bitN (digS n) i : Nat) : Int)) = decide (bitN (digS m) i = bitN (digS n) i) := decide_eq_decide.2 (by omega)
        rw [this]
        rfl
    · show affiantlaw3_LamTurned_2_step b 32 a1 m n k s () o sh x y = _
      unfold affiantlaw3_LamTurned_2_step
      rw [fork_f (by omega)]
  · have := runFor_inv (f := fun i b => b && decide (bitN (digS m) i = bitN (digS n) i)) (I := fun i b => b = true → ∀ j, j < i → bitN (digS m) j = bitN (digS n) j) (n := 32) (fun i b hi ih h => by
      simp only [Bool.and_eq_true, decide_eq_true_eq] at h
      intro j hj
      rcases (show j < i ∨ j = i by omega) with h1 | h1
      · exact ih h.1 j h1
      · subst h1; exact h.2) (k := 32) (i := 0) (t := true) (by omega) (fun _ j hj => by omega)
    exact this

theorem beq_comm (a b : List UInt8) : Ty.beq (.arr 32 (.int .u8)) a b = Ty.beq (.arr 32 (.int .u8)) b a := by
  rw [Bool.eq_iff_iff, Ty.beq_iff _ rfl, Ty.beq_iff _ rfl]
  exact ⟨fun h => h.symm, fun h => h.symm⟩
theorem who_same (seed m n : List UInt8) (h : ∀ i, i < 32 → bitN (digS m) i = bitN (digS n) i) : whoS n (signS seed m) = (KeyS seed, true) := by
  obtain ⟨h1, h2, _, _⟩ := sign_len seed m
  unfold whoS
  rw [if_pos ⟨h1, h2⟩]
  show (keyS (wparts (digS n) (openS seed (digS m) 32) (shutS seed (digS m) 32)), true) = _
  rw [wparts_sign]
  have : ∀ i ∈ List.range 32, pairB seed (digS m) (digS n) i = pairS seed i := fun i hi => if_pos (h i (List.mem_range.1 hi))
  rw [flatCongr this]
  rfl
theorem tailT (seed other m n : List UInt8) (ho : other.length = 32) (hm : m.length ≤ 100000) (hn : n.length ≤ 100000) (b : Bool) (hb : b = true → ∀ i, i < 32 → bitN (digS m) i = bitN (digS n) i) (t : One) (t1 : t.1.length = 32) (t2 : t.2.1.length = 32) (t3 : Len32 t.1) (t4 : Len32 t.2.1) :
    andThen (lam_Verify (KeyS seed) n (signS seed m)) (fun u37 => fork (u37 == (Ty.beq (.arr 32 (.int .u8)) (whoS n (signS seed m)).1 (KeyS seed))) (fork (!b) (andThen (lam_Verify (KeyS seed) m (t.1, t.2.1, ())) (fun u41 => fork (u41 == (Ty.beq (.arr 32 (.int .u8)) (whoS m t).1 (KeyS seed))) (andThen (lam_Key other) (fun u44 => andThen (lam_Verify u44 m (signS seed m)) (fun u46 => andThen (lam_Key other) (fun u48 => fork (u46 == (Ty.beq (.arr 32 (.int .u8)) u48 (KeyS seed))) (andThen (affiantlaw3_LamRuns) (fun u51 => some u51)) (none))))) (none))) (fork (Ty.beq (.arr 32 (.int .u8)) (whoS n (signS seed m)).1 (KeyS seed)) (andThen (lam_Verify (KeyS seed) m (t.1, t.2.1, ())) (fun u54 => fork (u54 == (Ty.beq (.arr 32 (.int .u8)) (whoS m t).1 (KeyS seed))) (andThen (lam_Key other) (fun u57 => andThen (lam_Verify u57 m (signS seed m)) (fun u59 => andThen (lam_Key other) (fun u61 => fork (u59 == (Ty.beq (.arr 32 (.int .u8)) u61 (KeyS seed))) (andThen (affiantlaw3_LamRuns) (fun u64 => some u64)) (none))))) (none))) (none))) (none)) = some true := by
  obtain ⟨h1, h2, h3, h4⟩ := sign_len seed m
  have w1 : (whoS n (signS seed m)).2 = true := by unfold whoS; rw [if_pos ⟨h1, h2⟩]
  have w2 : (whoS m t).2 = true := by unfold whoS; rw [if_pos ⟨t1, t2⟩]
  have v2 : lam_Verify (KeyS seed) m (t.1, t.2.1, ()) = some ((whoS m t).2 && Ty.beq (.arr 32 (.int .u8)) (whoS m t).1 (KeyS seed)) := verify_eq _ m hm t t3 t4
  rw [verify_eq _ n hn _ h3 h4, andThen_mk, w1, Bool.true_and, v2, w2, Bool.true_and, Key_eq other ho]
  simp only [andThen_mk, beq_self_eq_true, fork_tt]
  rw [verify_eq _ m hm _ h3 h4, who_sign]
  simp only [andThen_mk, Bool.true_and]
  rw [beq_comm (KeyS other) (KeyS seed), beq_self_eq_true, fork_tt, law_LamRuns]
  cases b with
  | false => rfl
  | true => rw [who_same seed m n (hb rfl), beq_hash]; rfl
theorem law_LamTurned (y0 y1 y2 y3 : List UInt8) (y4 y5 : Int) (y6 : Bool) (w0 : Wf (.arr 32 (.int .u8)) y0) (w1 : Wf (.arr 32 (.int .u8)) y1) (w2 : Wf (.slice (.int .u8)) y2) (w3 : Wf (.slice (.int .u8)) y3) (w4 : Wf (.int .i64) y4) (w5 : Wf (.int .i64) y5) (w6 : Wf .bool y6) : affiantlaw3_LamTurned y0 y1 y2 y3 y4 y5 y6 = some true := by
  unfold affiantlaw3_LamTurned
  have hs : y0.length = 32 := w0.1
  have ho : y1.length = 32 := w1.1
  have hc := cut_len y2 0 (min (y2.length : Int) 40) (by omega) (by omega) (by omega)
  have hc2 := cut_len y3 0 (min (y3.length : Int) 40) (by omega) (by omega) (by omega)
  rw [need_true (by omega)]
  simp only [List.nil_append]
  generalize cutL y2 0 (min (y2.length : Int) 40) = m at hc ⊢
  generalize cutL y3 0 (min (y3.length : Int) 40) = n at hc2 ⊢
  have hm : m.length ≤ 100000 := by omega
  have hn : n.length ≤ 100000 := by omega
  obtain ⟨h1, h2, h3, h4⟩ := sign_len y0 m
  obtain ⟨i, e1, i1, i2⟩ := within_eq y4 0 31 (by omega) (by omega) (by omega)
  obtain ⟨j, e2, j1, j2⟩ := within_eq y5 0 255 (by omega) (by omega) (by omega)
  rw [need_true (by simp; omega), need_true (by omega), need_true (by simp; omega), Key_eq y0 hs, andThen_mk, sign_eq y0 m hs hm, andThen_mk, verify_eq _ m hm _ h3 h4, who_sign, andThen_mk]
  simp only [beq_hash, Bool.and_self, Bool.not_true, fork_ff]
  rw [fork_nt (by omega), fork_nt (by omega), need_true (by simp; omega), need_true (by simp; omega), e1, andThen_mk, e2, andThen_mk]
  have hd : Int.tdiv j 8 = j / 8 := Int.tdiv_eq_ediv_of_nonneg j1
  rw [hd, w64_eq (by omega) (by omega)]
  generalize hq : (UInt8.ofNat (UInt8.toNat (1 : UInt8) <<< (Int.toNat (((UInt64.ofNat (Int.toNat ((Int.tmod j (8 : Int)) % 18446744073709551616))).toNat : Nat) : Int)))) = q
  have setL : ∀ l : List (List UInt8), Len32 l → ∀ v, Len32 (List.set l (Int.toNat i) (List.set (List.getD l (Int.toNat i) (List.replicate 32 (0 : UInt8))) (Int.toNat (j / 8)) v)) := by
    intro l hl v x hx
    rcases List.mem_or_eq_of_mem_set hx with h | h
    · exact hl x h
    · rw [h, List.length_set]; exact getD_len l hl _
  cases y6 with
  | true =>
    rw [fork_tt, need_true (by omega), need_true (by omega), need_true (by omega), rwho_eq n hn _ h3 h4, andThen_mk]
    generalize hto : List.set (signS y0 m).1 (Int.toNat i) _ = to
    have k1 : to.length = 32 := by rw [← hto, List.length_set]; exact h1
    have k3 : Len32 to := by rw [← hto]; exact setL _ h3 _
    rw [rwho_eq m hm (to, (signS y0 m).2.1, ()) k3 h4, andThen_mk]
    obtain ⟨b, e, hb⟩ := turned_1 y1 m n (KeyS y0) (signS y0 m) to (signS y0 m).2.1 (whoS n (signS y0 m)).1 (whoS m (to, (signS y0 m).2.1, ())).1 hm hn
    rw [e, andThen_mk]
    exact tailT y0 y1 m n ho hm hn b hb (to, (signS y0 m).2.1, ()) k1 h2 k3 h4
  | false =>
    rw [fork_ff, need_true (by omega), need_true (by omega), need_true (by omega), rwho_eq n hn _ h3 h4, andThen_mk]
    generalize hto : List.set (signS y0 m).2.1 (Int.toNat i) _ = ts
    have k1 : ts.length = 32 := by rw [← hto, List.length_set]; exact h2
    have k3 : Len32 ts := by rw [← hto]; exact setL _ h4 _
    rw [rwho_eq m hm ((signS y0 m).1, ts, ()) h3 k3, andThen_mk]
    obtain ⟨b, e, hb⟩ := turned_2 y1 m n (KeyS y0) (signS y0 m) (signS y0 m).1 ts (whoS n (signS y0 m)).1 (whoS m ((signS y0 m).1, ts, ())).1 hm hn
    rw [e, andThen_mk]
    exact tailT y0 y1 m n ho hm hn b hb ((signS y0 m).1, ts, ()) h1 k1 h3 k3
end Go.Ax.V
