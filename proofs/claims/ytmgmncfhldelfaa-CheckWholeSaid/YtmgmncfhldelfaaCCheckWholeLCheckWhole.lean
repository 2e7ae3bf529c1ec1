/-
  Chapter 9: a proof that begins or ends too late shows nothing of what it leaves out; one that has more shows the range all the same.
-/
import Derived.Test.YtmgmncfhldelfaaCCheckWholeLCheckRuns
namespace Go.Ax.V
open Go.Ax
set_option linter.unusedVariables false
set_option linter.unusedSimpArgs false
theorem whole_tail (l : List Pr) (hrow : RowOk l) (x y : List UInt8) : (andThen (prove_Some l (0 : Int) (List.length l : Int)) (fun u32 => andThen (check_Range (rootL l) x y u32) (fun u34 => fork u34.2 (andThen (kv_Range l x y) (fun u37 => andThen (affiantbook_Same_Pair u34.1 u37) (fun u39 => fork u39 (andThen (affiantlaw9_CheckRuns) (fun u42 => some u42)) (none)))) (none)))) = some true := by
 have hk := row_kv hrow
 have hrt := row_right hrow
 have hl := hrow.2.1
 have s := some_eq l hk 0 (l.length : Int)
 rw [show (max (0 : Int) 0).toNat = 0 from rfl, show (min (l.length : Int) (l.length : Int)).toNat = l.length from by omega] at s
 have c1 := checkRange_eq (rootL l) x y _ (someN_ok l hk 0 l.length (by omega))
 have hP : l.length = 0 ∨ (0 < l.length ∧ (0 = 0 ∨ 0 < belowN l x) ∧ (l.length = l.length ∨ belowN l (maxS x y) < l.length)) := by
  by_cases c : l.length = 0
  ·exact .inl c
  ·exact .inr ⟨by omega, .inl rfl, .inl rfl⟩
 rw [rangeS_some l hrt _ _ 0 l.length (Nat.le_refl _), if_pos hP] at c1
 have hle : (rangeF l x y).length ≤ l.length := List.length_filter_le _ _
 rw [s, andThen_mk, c1, andThen_mk]
 dsimp only
 rw [fork_tt, kvRange_eq l hrow.1 (by omega), andThen_mk, samePair_refl _ (by omega), andThen_mk, fork_tt, law_CheckRuns]
 rfl
theorem whole_leaf (l : List Pr) (hrow : RowOk l) (x y : List UInt8) (w : Bool) (r : List Pr × Bool) (hr : r = if w then (rangeF l x y, true) else ([], false)) : (fork (!(r.2 == w)) (none) (fork r.2 (andThen (kv_Range l x y) (fun u25 => andThen (affiantbook_Same_Pair r.1 u25) (fun u27 => fork (!u27) (none) (fork (!r.2) (fork (!decide ((List.length r.1 : Int) = (0 : Int))) (none) (andThen (prove_Some l (0 : Int) (List.length l : Int)) (fun u32 => andThen (check_Range (rootL l) x y u32) (fun u34 => fork u34.2 (andThen (kv_Range l x y) (fun u37 => andThen (affiantbook_Same_Pair u34.1 u37) (fun u39 => fork u39 (andThen (affiantlaw9_CheckRuns) (fun u42 => some u42)) (none)))) (none))))) (andThen (prove_Some l (0 : Int) (List.length l : Int)) (fun u44 => andThen (check_Range (rootL l) x y u44) (fun u46 => fork u46.2 (andThen (kv_Range l x y) (fun u49 => andThen (affiantbook_Same_Pair u46.1 u49) (fun u51 => fork u51 (andThen (affiantlaw9_CheckRuns) (fun u54 => some u54)) (none)))) (none)))))))) (fork (!r.2) (fork (!decide ((List.length r.1 : Int) = (0 : Int))) (none) (andThen (prove_Some l (0 : Int) (List.length l : Int)) (fun u58 => andThen (check_Range (rootL l) x y u58) (fun u60 => fork u60.2 (andThen (kv_Range l x y) (fun u63 => andThen (affiantbook_Same_Pair u60.1 u63) (fun u65 => fork u65 (andThen (affiantlaw9_CheckRuns) (fun u68 => some u68)) (none)))) (none))))) (andThen (prove_Some l (0 : Int) (List.length l : Int)) (fun u70 => andThen (check_Range (rootL l) x y u70) (fun u72 => fork u72.2 (andThen (kv_Range l x y) (fun u75 => andThen (affiantbook_Same_Pair u72.1 u75) (fun u77 => fork u77 (andThen (affiantlaw9_CheckRuns) (fun u80 => some u80)) (none)))) (none))))))) = some true := by
 have hl := hrow.2.1
 have t := whole_tail l hrow x y
 have hle : (rangeF l x y).length ≤ l.length := List.length_filter_le _ _
 cases w with
 | true =>
  rw [if_pos rfl] at hr
  subst hr
  rw [kvRange_eq l hrow.1 (by omega)] at t
  dsimp only
  rw [beq_self_eq_true, Bool.not_true, fork_ff, fork_tt, kvRange_eq l hrow.1 (by omega), andThen_mk, samePair_refl _ (by omega), andThen_mk, Bool.not_true, fork_ff, fork_ff]
  exact t
 | false =>
  rw [if_neg (by simp)] at hr
  subst hr
  dsimp only
  rw [beq_self_eq_true, Bool.not_true, fork_ff, fork_ff, Bool.not_false, fork_tt, fork_nt (by rfl)]
  exact t
theorem whole_core (l : List Pr) (hrow : RowOk l) (x y : List UInt8) (hxy : sless y x = false) (a3 a4 : Int) : (andThen (affiantbook_Within a3 (0 : Int) (List.length l : Int)) (fun u10 => andThen (affiantbook_Within a4 (0 : Int) (List.length l : Int)) (fun u12 => andThen (prove_Some l u10 u12) (fun u14 => andThen (check_Range (rootL l) x y u14) (fun u16 => andThen (kv_First l x) (fun u18 => andThen (kv_First l y) (fun u20 => fork (decide ((List.length l : Int) = (0 : Int))) (fork (!(u16.2 == true)) (none) (fork u16.2 (andThen (kv_Range l x y) (fun u25 => andThen (affiantbook_Same_Pair u16.1 u25) (fun u27 => fork (!u27) (none) (fork (!u16.2) (fork (!decide ((List.length u16.1 : Int) = (0 : Int))) (none) (andThen (prove_Some l (0 : Int) (List.length l : Int)) (fun u32 => andThen (check_Range (rootL l) x y u32) (fun u34 => fork u34.2 (andThen (kv_Range l x y) (fun u37 => andThen (affiantbook_Same_Pair u34.1 u37) (fun u39 => fork u39 (andThen (affiantlaw9_CheckRuns) (fun u42 => some u42)) (none)))) (none))))) (andThen (prove_Some l (0 : Int) (List.length l : Int)) (fun u44 => andThen (check_Range (rootL l) x y u44) (fun u46 => fork u46.2 (andThen (kv_Range l x y) (fun u49 => andThen (affiantbook_Same_Pair u46.1 u49) (fun u51 => fork u51 (andThen (affiantlaw9_CheckRuns) (fun u54 => some u54)) (none)))) (none)))))))) (fork (!u16.2) (fork (!decide ((List.length u16.1 : Int) = (0 : Int))) (none) (andThen (prove_Some l (0 : Int) (List.length l : Int)) (fun u58 => andThen (check_Range (rootL l) x y u58) (fun u60 => fork u60.2 (andThen (kv_Range l x y) (fun u63 => andThen (affiantbook_Same_Pair u60.1 u63) (fun u65 => fork u65 (andThen (affiantlaw9_CheckRuns) (fun u68 => some u68)) (none)))) (none))))) (andThen (prove_Some l (0 : Int) (List.length l : Int)) (fun u70 => andThen (check_Range (rootL l) x y u70) (fun u72 => fork u72.2 (andThen (kv_Range l x y) (fun u75 => andThen (affiantbook_Same_Pair u72.1 u75) (fun u77 => fork u77 (andThen (affiantlaw9_CheckRuns) (fun u80 => some u80)) (none)))) (none))))))) (fork (decide (u10 < u12)) (fork (decide (u10 = (0 : Int))) (fork (decide (u12 = (List.length l : Int))) (fork (!(u16.2 == true)) (none) (fork u16.2 (andThen (kv_Range l x y) (fun u87 => andThen (affiantbook_Same_Pair u16.1 u87) (fun u89 => fork (!u89) (none) (fork (!u16.2) (fork (!decide ((List.length u16.1 : Int) = (0 : Int))) (none) (andThen (prove_Some l (0 : Int) (List.length l : Int)) (fun u94 => andThen (check_Range (rootL l) x y u94) (fun u96 => fork u96.2 (andThen (kv_Range l x y) (fun u99 => andThen (affiantbook_Same_Pair u96.1 u99) (fun u101 => fork u101 (andThen (affiantlaw9_CheckRuns) (fun u104 => some u104)) (none)))) (none))))) (andThen (prove_Some l (0 : Int) (List.length l : Int)) (fun u106 => andThen (check_Range (rootL l) x y u106) (fun u108 => fork u108.2 (andThen (kv_Range l x y) (fun u111 => andThen (affiantbook_Same_Pair u108.1 u111) (fun u113 => fork u113 (andThen (affiantlaw9_CheckRuns) (fun u116 => some u116)) (none)))) (none)))))))) (fork (!u16.2) (fork (!decide ((List.length u16.1 : Int) = (0 : Int))) (none) (andThen (prove_Some l (0 : Int) (List.length l : Int)) (fun u120 => andThen (check_Range (rootL l) x y u120) (fun u122 => fork u122.2 (andThen (kv_Range l x y) (fun u125 => andThen (affiantbook_Same_Pair u122.1 u125) (fun u127 => fork u127 (andThen (affiantlaw9_CheckRuns) (fun u130 => some u130)) (none)))) (none))))) (andThen (prove_Some l (0 : Int) (List.length l : Int)) (fun u132 => andThen (check_Range (rootL l) x y u132) (fun u134 => fork u134.2 (andThen (kv_Range l x y) (fun u137 => andThen (affiantbook_Same_Pair u134.1 u137) (fun u139 => fork u139 (andThen (affiantlaw9_CheckRuns) (fun u142 => some u142)) (none)))) (none))))))) (fork (!(u16.2 == (decide (u20 < u12)))) (none) (fork u16.2 (andThen (kv_Range l x y) (fun u146 => andThen (affiantbook_Same_Pair u16.1 u146) (fun u148 => fork (!u148) (none) (fork (!u16.2) (fork (!decide ((List.length u16.1 : Int) = (0 : Int))) (none) (andThen (prove_Some l (0 : Int) (List.length l : Int)) (fun u153 => andThen (check_Range (rootL l) x y u153) (fun u155 => fork u155.2 (andThen (kv_Range l x y) (fun u158 => andThen (affiantbook_Same_Pair u155.1 u158) (fun u160 => fork u160 (andThen (affiantlaw9_CheckRuns) (fun u163 => some u163)) (none)))) (none))))) (andThen (prove_Some l (0 : Int) (List.length l : Int)) (fun u165 => andThen (check_Range (rootL l) x y u165) (fun u167 => fork u167.2 (andThen (kv_Range l x y) (fun u170 => andThen (affiantbook_Same_Pair u167.1 u170) (fun u172 => fork u172 (andThen (affiantlaw9_CheckRuns) (fun u175 => some u175)) (none)))) (none)))))))) (fork (!u16.2) (fork (!decide ((List.length u16.1 : Int) = (0 : Int))) (none) (andThen (prove_Some l (0 : Int) (List.length l : Int)) (fun u179 => andThen (check_Range (rootL l) x y u179) (fun u181 => fork u181.2 (andThen (kv_Range l x y) (fun u184 => andThen (affiantbook_Same_Pair u181.1 u184) (fun u186 => fork u186 (andThen (affiantlaw9_CheckRuns) (fun u189 => some u189)) (none)))) (none))))) (andThen (prove_Some l (0 : Int) (List.length l : Int)) (fun u191 => andThen (check_Range (rootL l) x y u191) (fun u193 => fork u193.2 (andThen (kv_Range l x y) (fun u196 => andThen (affiantbook_Same_Pair u193.1 u196) (fun u198 => fork u198 (andThen (affiantlaw9_CheckRuns) (fun u201 => some u201)) (none)))) (none)))))))) (fork (decide (u10 < u18)) (fork (decide (u12 = (List.length l : Int))) (fork (!(u16.2 == true)) (none) (fork u16.2 (andThen (kv_Range l x y) (fun u207 => andThen (affiantbook_Same_Pair u16.1 u207) (fun u209 => fork (!u209) (none) (fork (!u16.2) (fork (!decide ((List.length u16.1 : Int) = (0 : Int))) (none) (andThen (prove_Some l (0 : Int) (List.length l : Int)) (fun u214 => andThen (check_Range (rootL l) x y u214) (fun u216 => fork u216.2 (andThen (kv_Range l x y) (fun u219 => andThen (affiantbook_Same_Pair u216.1 u219) (fun u221 => fork u221 (andThen (affiantlaw9_CheckRuns) (fun u224 => some u224)) (none)))) (none))))) (andThen (prove_Some l (0 : Int) (List.length l : Int)) (fun u226 => andThen (check_Range (rootL l) x y u226) (fun u228 => fork u228.2 (andThen (kv_Range l x y) (fun u231 => andThen (affiantbook_Same_Pair u228.1 u231) (fun u233 => fork u233 (andThen (affiantlaw9_CheckRuns) (fun u236 => some u236)) (none)))) (none)))))))) (fork (!u16.2) (fork (!decide ((List.length u16.1 : Int) = (0 : Int))) (none) (andThen (prove_Some l (0 : Int) (List.length l : Int)) (fun u240 => andThen (check_Range (rootL l) x y u240) (fun u242 => fork u242.2 (andThen (kv_Range l x y) (fun u245 => andThen (affiantbook_Same_Pair u242.1 u245) (fun u247 => fork u247 (andThen (affiantlaw9_CheckRuns) (fun u250 => some u250)) (none)))) (none))))) (andThen (prove_Some l (0 : Int) (List.length l : Int)) (fun u252 => andThen (check_Range (rootL l) x y u252) (fun u254 => fork u254.2 (andThen (kv_Range l x y) (fun u257 => andThen (affiantbook_Same_Pair u254.1 u257) (fun u259 => fork u259 (andThen (affiantlaw9_CheckRuns) (fun u262 => some u262)) (none)))) (none))))))) (fork (!(u16.2 == (decide (u20 < u12)))) (none) (fork u16.2 (andThen (kv_Range l x y) (fun u266 => andThen (affiantbook_Same_Pair u16.1 u266) (fun u268 => fork (!u268) (none) (fork (!u16.2) (fork (!decide ((List.length u16.1 : Int) = (0 : Int))) (none) (andThen (prove_Some l (0 : Int) (List.length l : Int)) (fun u273 => andThen (check_Range (rootL l) x y u273) (fun u275 => fork u275.2 (andThen (kv_Range l x y) (fun u278 => andThen (affiantbook_Same_Pair u275.1 u278) (fun u280 => fork u280 (andThen (affiantlaw9_CheckRuns) (fun u283 => some u283)) (none)))) (none))))) (andThen (prove_Some l (0 : Int) (List.length l : Int)) (fun u285 => andThen (check_Range (rootL l) x y u285) (fun u287 => fork u287.2 (andThen (kv_Range l x y) (fun u290 => andThen (affiantbook_Same_Pair u287.1 u290) (fun u292 => fork u292 (andThen (affiantlaw9_CheckRuns) (fun u295 => some u295)) (none)))) (none)))))))) (fork (!u16.2) (fork (!decide ((List.length u16.1 : Int) = (0 : Int))) (none) (andThen (prove_Some l (0 : Int) (List.length l : Int)) (fun u299 => andThen (check_Range (rootL l) x y u299) (fun u301 => fork u301.2 (andThen (kv_Range l x y) (fun u304 => andThen (affiantbook_Same_Pair u301.1 u304) (fun u306 => fork u306 (andThen (affiantlaw9_CheckRuns) (fun u309 => some u309)) (none)))) (none))))) (andThen (prove_Some l (0 : Int) (List.length l : Int)) (fun u311 => andThen (check_Range (rootL l) x y u311) (fun u313 => fork u313.2 (andThen (kv_Range l x y) (fun u316 => andThen (affiantbook_Same_Pair u313.1 u316) (fun u318 => fork u318 (andThen (affiantlaw9_CheckRuns) (fun u321 => some u321)) (none)))) (none)))))))) (fork (!(u16.2 == false)) (none) (fork u16.2 (andThen (kv_Range l x y) (fun u325 => andThen (affiantbook_Same_Pair u16.1 u325) (fun u327 => fork (!u327) (none) (fork (!u16.2) (fork (!decide ((List.length u16.1 : Int) = (0 : Int))) (none) (andThen (prove_Some l (0 : Int) (List.length l : Int)) (fun u332 => andThen (check_Range (rootL l) x y u332) (fun u334 => fork u334.2 (andThen (kv_Range l x y) (fun u337 => andThen (affiantbook_Same_Pair u334.1 u337) (fun u339 => fork u339 (andThen (affiantlaw9_CheckRuns) (fun u342 => some u342)) (none)))) (none))))) (andThen (prove_Some l (0 : Int) (List.length l : Int)) (fun u344 => andThen (check_Range (rootL l) x y u344) (fun u346 => fork u346.2 (andThen (kv_Range l x y) (fun u349 => andThen (affiantbook_Same_Pair u346.1 u349) (fun u351 => fork u351 (andThen (affiantlaw9_CheckRuns) (fun u354 => some u354)) (none)))) (none)))))))) (fork (!u16.2) (fork (!decide ((List.length u16.1 : Int) = (0 : Int))) (none) (andThen (prove_Some l (0 : Int) (List.length l : Int)) (fun u358 => andThen (check_Range (rootL l) x y u358) (fun u360 => fork u360.2 (andThen (kv_Range l x y) (fun u363 => andThen (affiantbook_Same_Pair u360.1 u363) (fun u365 => fork u365 (andThen (affiantlaw9_CheckRuns) (fun u368 => some u368)) (none)))) (none))))) (andThen (prove_Some l (0 : Int) (List.length l : Int)) (fun u370 => andThen (check_Range (rootL l) x y u370) (fun u372 => fork u372.2 (andThen (kv_Range l x y) (fun u375 => andThen (affiantbook_Same_Pair u372.1 u375) (fun u377 => fork u377 (andThen (affiantlaw9_CheckRuns) (fun u380 => some u380)) (none)))) (none))))))))) (fork (!(u16.2 == false)) (none) (fork u16.2 (andThen (kv_Range l x y) (fun u384 => andThen (affiantbook_Same_Pair u16.1 u384) (fun u386 => fork (!u386) (none) (fork (!u16.2) (fork (!decide ((List.length u16.1 : Int) = (0 : Int))) (none) (andThen (prove_Some l (0 : Int) (List.length l : Int)) (fun u391 => andThen (check_Range (rootL l) x y u391) (fun u393 => fork u393.2 (andThen (kv_Range l x y) (fun u396 => andThen (affiantbook_Same_Pair u393.1 u396) (fun u398 => fork u398 (andThen (affiantlaw9_CheckRuns) (fun u401 => some u401)) (none)))) (none))))) (andThen (prove_Some l (0 : Int) (List.length l : Int)) (fun u403 => andThen (check_Range (rootL l) x y u403) (fun u405 => fork u405.2 (andThen (kv_Range l x y) (fun u408 => andThen (affiantbook_Same_Pair u405.1 u408) (fun u410 => fork u410 (andThen (affiantlaw9_CheckRuns) (fun u413 => some u413)) (none)))) (none)))))))) (fork (!u16.2) (fork (!decide ((List.length u16.1 : Int) = (0 : Int))) (none) (andThen (prove_Some l (0 : Int) (List.length l : Int)) (fun u417 => andThen (check_Range (rootL l) x y u417) (fun u419 => fork u419.2 (andThen (kv_Range l x y) (fun u422 => andThen (affiantbook_Same_Pair u419.1 u422) (fun u424 => fork u424 (andThen (affiantlaw9_CheckRuns) (fun u427 => some u427)) (none)))) (none))))) (andThen (prove_Some l (0 : Int) (List.length l : Int)) (fun u429 => andThen (check_Range (rootL l) x y u429) (fun u431 => fork u431.2 (andThen (kv_Range l x y) (fun u434 => andThen (affiantbook_Same_Pair u431.1 u434) (fun u436 => fork u436 (andThen (affiantlaw9_CheckRuns) (fun u439 => some u439)) (none)))) (none))))))))))))))) = some true := by
 have hk := row_kv hrow
 have hrt := row_right hrow
 have hl := hrow.2.1
 have hm : maxS x y = y := by
  unfold maxS
  cases c : sless x y with
  | true => rfl
  | false =>
   rcases sless_tot y x hxy with e | e
   ·rw [e]; rfl
   ·rw [c] at e; cases e
 obtain ⟨i, ei, i1, i2⟩ := within_eq a3 0 (l.length : Int) (by omega) (by omega) (by omega)
 obtain ⟨j, ej, j1, j2⟩ := within_eq a4 0 (l.length : Int) (by omega) (by omega) (by omega)
 have hi : i = (i.toNat : Int) := by omega
 have hj : j = (j.toNat : Int) := by omega
 generalize i.toNat = I at hi
 generalize j.toNat = J at hj
 subst hi; subst hj
 have so := some_eq l hk (I : Int) (J : Int)
 rw [show (max (I : Int) 0).toNat = I from by omega, show (min (J : Int) (l.length : Int)).toNat = J from by omega] at so
 have c1 := checkRange_eq (rootL l) x y _ (someN_ok l hk I J (by omega))
 rw [rangeS_some l hrt _ _ I J (by omega), hm] at c1
 rw [ei, andThen_mk, ej, andThen_mk, so, andThen_mk, c1, andThen_mk, kfirst_eq l hrow.1 (by omega), andThen_mk, kfirst_eq l hrow.1 (by omega), andThen_mk]
 have key : ∀ w : Bool, (w = true ↔ l.length = 0 ∨ (I < J ∧ (I = 0 ∨ I < belowN l x) ∧ (J = l.length ∨ belowN l y < J))) → (if l.length = 0 ∨ (I < J ∧ (I = 0 ∨ I < belowN l x) ∧ (J = l.length ∨ belowN l y < J)) then (rangeF l x y, true) else ([], false)) = if w then (rangeF l x y, true) else ([], false) := fun w hw => by
  cases w with
  | true => rw [if_pos (hw.1 rfl), if_pos rfl]
  | false => rw [if_neg (fun q => by have := hw.2 q; cases this), if_neg (by simp)]
 by_cases c0 : l.length = 0
 ·rw [fork_t (by omega)]
  exact whole_leaf l hrow x y true _ (key true ⟨fun _ => .inl c0, fun _ => rfl⟩)
 rw [fork_f (by omega)]
 by_cases cj : I < J
 case neg =>
  rw [fork_f (by omega)]
  exact whole_leaf l hrow x y false _ (key false ⟨fun h => (by cases h), fun h => h.elim (fun q => absurd q c0) (fun q => absurd q.1 cj)⟩)
 rw [fork_t (by omega)]
 by_cases ci : I = 0
 ·rw [fork_t (by omega)]
  by_cases cl : J = l.length
  ·rw [fork_t (by omega)]
   exact whole_leaf l hrow x y true _ (key true ⟨fun _ => .inr ⟨cj, .inl ci, .inl cl⟩, fun _ => rfl⟩)
  ·rw [fork_f (by omega)]
   exact whole_leaf l hrow x y (decide ((belowN l y : Int) < (J : Int))) _ (key _ ⟨fun h => .inr ⟨cj, .inl ci, .inr (by have := of_decide_eq_true h; omega)⟩, fun h => decide_eq_true (by rcases h with h | ⟨_, _, h | h⟩ <;> omega)⟩)
 ·rw [fork_f (by omega)]
  by_cases cx : I < belowN l x
  ·rw [fork_t (by omega)]
   by_cases cl : J = l.length
   ·rw [fork_t (by omega)]
    exact whole_leaf l hrow x y true _ (key true ⟨fun _ => .inr ⟨cj, .inr cx, .inl cl⟩, fun _ => rfl⟩)
   ·rw [fork_f (by omega)]
    exact whole_leaf l hrow x y (decide ((belowN l y : Int) < (J : Int))) _ (key _ ⟨fun h => .inr ⟨cj, .inr cx, .inr (by have := of_decide_eq_true h; omega)⟩, fun h => decide_eq_true (by rcases h with h | ⟨_, _, h | h⟩ <;> omega)⟩)
  ·rw [fork_f (by omega)]
   exact whole_leaf l hrow x y false _ (key false ⟨fun h => (by cases h), fun h => by rcases h with h | ⟨_, h | h, _⟩ <;> omega⟩)
theorem law_CheckWhole (y0 : List Int) (y1 y2 y3 y4 : Int) (w0 : Wf (.slice (.int .i64)) y0) (w1 : Wf (.int .i64) y1) (w2 : Wf (.int .i64) y2) (w3 : Wf (.int .i64) y3) (w4 : Wf (.int .i64) y4) : affiantlaw9_CheckWhole y0 y1 y2 y3 y4 = some true := by
 have e8 : tyBytes (.int .i64) = 8 := rfl
 have hp0 : y0.length ≤ 140737488355328 := by have := w0.1; rw [e8] at this; omega
 obtain ⟨l, el, hrow⟩ := pairs_eq y0 hp0
 obtain ⟨a, _, ea⟩ := key_eq y1
 obtain ⟨b, _, eb⟩ := key_eq y2
 generalize keys12.getD a [] = x at ea
 generalize keys12.getD b [] = y at eb
 unfold affiantlaw9_CheckWhole
 rw [el, andThen_mk, stroot_eq l (row_kv hrow), andThen_mk, ea, andThen_mk, eb, andThen_mk]
 cases c : sless y x with
 | true =>
  have c2 : sless x y = false := by
   cases q : sless x y with
   | false => rfl
   | true => have := sless_trans _ _ _ c q; rw [sless_irr] at this; cases this
  exact whole_core l hrow y x c2 y3 y4
 | false => exact whole_core l hrow x y c y3 y4
end Go.Ax.V
