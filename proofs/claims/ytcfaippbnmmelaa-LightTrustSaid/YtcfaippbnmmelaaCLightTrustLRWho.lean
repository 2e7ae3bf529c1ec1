/-
  Whose a signature is, as the document reckons it.
-/
import Derived.Test.YtcfaippbnmmelaaCLightTrustLRLam
namespace Go.Ax.V
open Go.Ax
set_option linter.unusedVariables false
set_option linter.unusedSimpArgs false
theorem rwho_eq (m : List UInt8) (hm : m.length ≤ 100000) (x : One) (lo : Len32 x.1) (ls : Len32 x.2.1) : affiantref1_Who m x = some (whoS m x) := by
 unfold affiantref1_Who whoS
 by_cases ho : x.1.length = 32
 ·rw [fork_nt (by omega)]
  by_cases hs : x.2.1.length = 32
  ·rw [fork_nt (by omega), if_pos ⟨ho, hs⟩]
   have main : affiantref1_Who_1 m 0 x zH [] = some (zH, wparts (digS m) x.1 x.2.1) := by
    unfold affiantref1_Who_1
    have := loop_for (step := fun (s : Int × List (List UInt8)) => affiantref1_Who_1_step m s.1 x zH s.2) (fun i (_ : Unit) => ((i : Int), (List.range i).flatMap (wpart (digS m) x.1 x.2.1))) (fun _ _ => ()) (fun _ => (zH, wparts (digS m) x.1 x.2.1)) 32 (fun _ _ => True) (fun i w hi _ => ⟨?_, trivial⟩) (fun w _ => ?_) 32 0 () (by omega) trivial
    ·exact this
    ·show affiantref1_Who_1_step m (i : Int) x zH ((List.range i).flatMap (wpart (digS m) x.1 x.2.1)) = _
     unfold affiantref1_Who_1_step
     have hb := bitN_le (digS m) i
     have hl := wparts_len (digS m) x.1 x.2.1 i
     have hg : (x.1.getD i (List.replicate 32 0)).length = 32 := getD_len _ lo i
     rw [fork_t (by omega), need_true (by omega), Int.toNat_natCast, rpub_eq _ hg, andThen_mk, need_true (by omega), rbit_eq m hm i (by omega), andThen_mk, w64_eq (by omega) (by omega), flatRange]
     have hw : wpart (digS m) x.1 x.2.1 i = if bitN (digS m) i = 0 then [pubS (x.1.getD i zH), x.2.1.getD i zH] else [x.2.1.getD i zH, pubS (x.1.getD i zH)] := rfl
     rw [hw]
     rcases (show bitN (digS m) i = 0 ∨ bitN (digS m) i = 1 by omega) with h0 | h0
     ·rw [h0, if_pos rfl, fork_f (by omega), need_true (by rw [hl, List.length_cons, List.length_cons, List.length_nil]; omega)]
      rfl
     ·rw [h0, if_neg (by omega), fork_t (by omega), need_true (by rw [hl, List.length_cons, List.length_cons, List.length_nil]; omega)]
      rfl
    ·show affiantref1_Who_1_step m 32 x zH _ = _
     unfold affiantref1_Who_1_step
     rw [fork_f (by omega)]
     rfl
   have hk : affiantref1_key (wparts (digS m) x.1 x.2.1) = some (keyS (wparts (digS m) x.1 x.2.1)) := rkey_eq _ (by unfold wparts; rw [wparts_len]; omega) (wparts_mem _ _ _ ls 32)
   have main' : affiantref1_Who_1 m 0 x (List.replicate 32 0) [] = some (zH, wparts (digS m) x.1 x.2.1) := main
   rw [main', andThen_mk]
   simp only
   rw [hk]
   rfl
  ·rw [fork_nf (by omega), if_neg (fun h => hs h.2)]
 ·rw [fork_nf (by omega), if_neg (fun h => ho h.1)]
end Go.Ax.V
