/-
  Chapter 13: what is trusted is the chain's; or somebody who isn't faulty has a valid signature under what it never signed; or the faulty ones have more than a third.
-/
import Derived.Test.YtcfaippbnmmelaaCLightTrustLLightRuns
namespace Go.Ax.V
open Go.Ax
set_option linter.unusedVariables false
set_option linter.unusedSimpArgs false
abbrev Asked := Int × Int × Int × Int × List Int × Unit
theorem lt1_step (x0 : List (Int × Int × Int × Int × List Int × Unit)) (x1 : List Bool) (x2 : Int) (x3 : List Block) (x4 : Rows) (x5 : Unit) (x6 : List (List UInt8)) (x7 : List (List (List UInt8))) (x8 : List (List UInt8)) (x9 : List Val) : affiantlaw13_LightTrust_1_step x0 x1 x2 x3 x4 x5 x6 x7 x8 x9 =
  (fork (decide (x2 < (6 : Int))) (andThen (affiantref10_Chain_Commit_20bb (w64 ((10 : Int) * (w64 (x2 + (1 : Int))))) x3 x4 x5 x6 x7 x8 x9) (fun u5 => some (.inl ((w64 (x2 + (1 : Int))), u5.2.1, u5.2.2.1, u5.2.2.2.1, u5.2.2.2.2.1, u5.2.2.2.2.2.1, u5.2.2.2.2.2.2.1, u5.2.2.2.2.2.2.2)))) (some (.inr (x0, x1, x3, x4, x5, x6, x7, x8, x9))) : Option ((Int × (List Block) × (Rows) × Unit × List (List UInt8) × List (List (List UInt8)) × List (List UInt8) × List Val) ⊕ ((List (Int × Int × Int × Int × List Int × Unit)) × List Bool × (List Block) × (Rows) × Unit × List (List UInt8) × List (List (List UInt8)) × List (List UInt8) × List Val))) := rfl
theorem lightTrust_1 (l : List Asked) (fa : List Bool) (n : Nat) (hn : n ≤ 4) (S : List Val) (hS : SetSm S) : affiantlaw13_LightTrust_1 l fa 0 [] [] () (seedsN n) (ringsN n) (namesN n) S = some (l, fa, blF n S f10 6, List.replicate 6 [], (), seedsN n, ringsN n, namesN n, S) := by
 unfold affiantlaw13_LightTrust_1
 have := loop_for (step := fun (t : Int × List Block × Rows × Unit × List (List UInt8) × List (List (List UInt8)) × List (List UInt8) × List Val) => affiantlaw13_LightTrust_1_step l fa t.1 t.2.1 t.2.2.1 t.2.2.2.1 t.2.2.2.2.1 t.2.2.2.2.2.1 t.2.2.2.2.2.2.1 t.2.2.2.2.2.2.2) (fun i (_ : Unit) => ((i : Int), blF n S f10 i, List.replicate i [], (), seedsN n, ringsN n, namesN n, S)) (fun _ _ => ()) (fun _ => (l, fa, blF n S f10 6, List.replicate 6 [], (), seedsN n, ringsN n, namesN n, S)) 6 (fun _ _ => True) (fun i w hi _ => ⟨?_, trivial⟩) (fun w _ => ?_) 6 0 () (by omega) trivial
 ·exact this
 ·show affiantlaw13_LightTrust_1_step l fa (i : Int) (blF n S f10 i) (List.replicate i []) () (seedsN n) (ringsN n) (namesN n) S = _
  have e : w64 (10 * w64 ((i : Int) + 1)) = f10 i := by rw [w64_eq (n := (i : Int) + 1) (by omega) (by omega), w64_eq (by omega) (by omega)]; rfl
  rw [lt1_step, fork_t (by omega), e, commitF hn hS i (by omega) (by unfold f10; omega) (fun h => by unfold f10; omega), andThen_mk, w64_eq (by omega) (by omega)]
  rfl
 ·show affiantlaw13_LightTrust_1_step l fa 6 (blF n S f10 6) (List.replicate 6 []) () (seedsN n) (ringsN n) (namesN n) S = _
  rw [lt1_step, fork_f (by omega)]
def fau (fa : List Bool) (j : Nat) : Bool := decide (j < fa.length) && fa.getD j false
def badJ (fa : List Bool) (i : Nat) : List Nat := (List.range i).filter (fau fa)
def badI (fa : List Bool) (i : Nat) : List Int := (badJ fa i).map fun (j : Nat) => (j : Int)
theorem badJ_next (fa : List Bool) (i : Nat) : badJ fa (i + 1) = badJ fa i ++ (if fau fa i then [i] else []) := by
 unfold badJ
 rw [List.range_succ, List.filter_append]
 congr 1
 by_cases h : fau fa i
 ·rw [if_pos h, List.filter_cons_of_pos h, List.filter_nil]
 ·rw [if_neg h, List.filter_cons_of_neg h, List.filter_nil]
theorem lt2_step (x0 : List (Int × Int × Int × Int × List Int × Unit)) (x1 : List Bool) (x2 : Int) (x3 : Int) (x4 : Int) (x5 : List Block) (x6 : Rows) (x7 : Unit) (x8 : List (List UInt8)) (x9 : List (List (List UInt8))) (x10 : List (List UInt8)) (x11 : List Val) (x12 : List Int) : affiantlaw13_LightTrust_2_step x0 x1 x2 x3 x4 x5 x6 x7 x8 x9 x10 x11 x12 =
  (fork (decide (x4 < x3)) (need (0 ≤ x4 ∧ x4 < (List.length x11 : Int)) (fork (decide (x4 < (List.length x1 : Int))) (need (0 ≤ x4 ∧ x4 < (List.length x1 : Int)) (fork (List.getD x1 (Int.toNat x4) false) (need (List.length x12 + List.length ([x4] : List (Int)) ≤ 2147483648) (some (.inl ((w64 (x2 + (List.getD x11 (Int.toNat x4) zVal).2.1)), (w64 (x4 + (1 : Int))), (x12 ++ ([x4] : List (Int))))))) (some (.inl (x2, (w64 (x4 + (1 : Int))), x12))))) (some (.inl (x2, (w64 (x4 + (1 : Int))), x12))))) (some (.inr (x0, x1, x2, x5, x6, x7, x8, x9, x10, x11, x12))) : Option ((Int × Int × List Int) ⊕ ((List (Int × Int × Int × Int × List Int × Unit)) × List Bool × Int × (List Block) × (Rows) × Unit × List (List UInt8) × List (List (List UInt8)) × List (List UInt8) × (List Val) × List Int))) := rfl
theorem lightTrust_2 (l : List Asked) (fa : List Bool) {p : Nat → Int} (hp : PwOk p) {n : Nat} (hn : n ≤ 4) (B : List Block) (R : Rows) (seeds : List (List UInt8)) (rings : List (List (List UInt8))) (names : List (List UInt8)) :
  affiantlaw13_LightTrust_2 l fa 0 (n : Int) 0 B R () seeds rings names (ringN p n) [] = some (l, fa, pwJ p (badJ fa n), B, R, (), seeds, rings, names, ringN p n, badI fa n) := by
 have hl : (ringN p n).length = n := by simp [ringN]
 unfold affiantlaw13_LightTrust_2
 have := loop_for (step := fun (t : Int × Int × List Int) => affiantlaw13_LightTrust_2_step l fa t.1 (n : Int) t.2.1 B R () seeds rings names (ringN p n) t.2.2) (fun i (_ : Unit) => (pwJ p (badJ fa i), (i : Int), badI fa i)) (fun _ _ => ()) (fun _ => (l, fa, pwJ p (badJ fa n), B, R, (), seeds, rings, names, ringN p n, badI fa n)) n (fun _ _ => True) (fun i w hi _ => ⟨?_, trivial⟩) (fun w _ => ?_) n 0 () (by omega) trivial
 ·exact this
 ·show affiantlaw13_LightTrust_2_step l fa (pwJ p (badJ fa i)) (n : Int) (i : Int) B R () seeds rings names (ringN p n) (badI fa i) = _
  have hg : (ringN p n).getD i zVal = mkRing p i := getD_rng _ _ hi
  have hb := pwJ_b p hp.s (badJ fa i)
  have hbl : (badJ fa i).length ≤ i := by
   have := List.length_filter_le (fau fa) (List.range i)
   rwa [List.length_range] at this
  have hpi := hp i
  have hil : (badI fa i).length = (badJ fa i).length := List.length_map ..
  have hnx := badJ_next fa i
  rw [lt2_step, fork_t (by omega), need_true (by omega), Int.toNat_natCast, hg, w64_eq (n := (i : Int) + 1) (by omega) (by omega)]
  rw [show (mkRing p i).2.1 = p i from rfl, w64_eq (n := pwJ p (badJ fa i) + p i) (by omega) (by omega)]
  by_cases c1 : i < fa.length
  ·rw [fork_t (by omega), need_true (by omega)]
   by_cases c2 : fa.getD i false = true
   ·have c : fau fa i = true := by unfold fau; rw [decide_eq_true c1, c2]; rfl
    rw [c2, fork_tt, need_true (by simp only [List.length_cons, List.length_nil]; omega)]
    unfold badI
    rw [hnx, if_pos c, pwJ_snoc, List.map_append]
    simp [pwJ]
   ·have c : ¬ fau fa i = true := by unfold fau; rw [Bool.and_eq_true]; exact fun e => c2 e.2
    have c2 : fa.getD i false = false := by simpa using c2
    rw [c2, fork_ff]
    unfold badI
    rw [hnx, if_neg c, List.append_nil]
    rfl
  ·have c : ¬ fau fa i = true := by unfold fau; rw [Bool.and_eq_true, decide_eq_true_eq]; exact fun e => c1 e.1
   rw [fork_f (by omega)]
   unfold badI
   rw [hnx, if_neg c, List.append_nil]
   rfl
 ·show affiantlaw13_LightTrust_2_step l fa (pwJ p (badJ fa n)) (n : Int) (n : Int) B R () seeds rings names (ringN p n) (badI fa n) = _
  rw [lt2_step, fork_f (by omega)]
def hon (fa : List Bool) (j : Nat) : Bool := decide (fa.length ≤ j) || !(fa.getD j false)
theorem hon_fau (fa : List Bool) (j : Nat) : hon fa j = !(fau fa j) := by
 unfold hon fau
 by_cases c : fa.length ≤ j
 ·rw [decide_eq_true c, decide_eq_false (by omega)]; rfl
 ·rw [decide_eq_false c, decide_eq_true (by omega)]; rfl
def oneE (fa : List Bool) (S : List Val) (h : Int) (d : List UInt8) (s : Signed) (k : Nat) : Bool := (List.range k).any fun j => hon fa j && (decide ((S.getD j zVal).1 = s.1) && verS (S.getD j zVal).2.2.1 h d s.2.1)
theorem oneE_next (fa : List Bool) (S : List Val) (h : Int) (d : List UInt8) (s : Signed) (k : Nat) : oneE fa S h d s (k + 1) = (oneE fa S h d s k || (hon fa k && (decide ((S.getD k zVal).1 = s.1) && verS (S.getD k zVal).2.2.1 h d s.2.1))) := by
 unfold oneE
 rw [List.range_succ, List.any_append, List.any_cons, List.any_nil, Bool.or_false]
theorem lt5_step (x0 : List (Int × Int × Int × Int × List Int × Unit)) (x1 : List Bool) (x2 : List Int) (x3 : Int) (x4 : Int) (x5 : Bool) (x6 : Int) (x7 : Bool) (x8 : Int) (x9 : Int) (x10 : Bool) (x11 : List Signed) (x12 : Int) (x13 : Int) (x14 : Int) (x15 : Int) (x16 : List Block) (x17 : Rows) (x18 : Unit) (x19 : List (List UInt8)) (x20 : List (List (List UInt8))) (x21 : List (List UInt8)) (x22 : List Val) (x23 : (List Hdr) × (List Val) × Int × Bool × Unit) (x24 : Hdr × (List Signed) × (List Val) × (List Val) × Unit) (x25 : List UInt8) (x26 : List UInt8 × (Int × (List (List UInt8) × List (List UInt8) × Unit) × List (List UInt8) × Unit) × Unit) : affiantlaw13_LightTrust_5_step x0 x1 x2 x3 x4 x5 x6 x7 x8 x9 x10 x11 x12 x13 x14 x15 x16 x17 x18 x19 x20 x21 x22 x23 x24 x25 x26 =
  (fork (decide (x15 < x14)) (need (0 ≤ x15 ∧ x15 < (List.length x22 : Int)) (fork (decide ((List.length x1 : Int) ≤ x15)) (fork x5 (some (.inl (true, (w64 (x15 + (1 : Int)))))) (fork (decide ((List.getD x22 (Int.toNat x15) zVal).1 = x26.1)) (andThen (affiantref1_Verify ((List.getD x22 (Int.toNat x15) zVal).2.2.1) x24.1.1 x25 x26.2.1) (fun u87 => some (.inl (u87, (w64 (x15 + (1 : Int))))))) (some (.inl (false, (w64 (x15 + (1 : Int)))))))) (need (0 ≤ x15 ∧ x15 < (List.length x1 : Int)) (fork x5 (some (.inl (true, (w64 (x15 + (1 : Int)))))) (fork (!(List.getD x1 (Int.toNat x15) false)) (fork (decide ((List.getD x22 (Int.toNat x15) zVal).1 = x26.1)) (andThen (affiantref1_Verify ((List.getD x22 (Int.toNat x15) zVal).2.2.1) x24.1.1 x25 x26.2.1) (fun u93 => some (.inl (u93, (w64 (x15 + (1 : Int))))))) (some (.inl (false, (w64 (x15 + (1 : Int))))))) (some (.inl (false, (w64 (x15 + (1 : Int))))))))))) (some (.inr (x0, x1, x2, x3, x4, x5, x6, x7, x8, x9, x10, x11, x12, x13, x16, x17, x18, x19, x20, x21, x22, x23, x24, x25))) : Option ((Bool × Int) ⊕ ((List (Int × Int × Int × Int × List Int × Unit)) × List Bool × List Int × Int × Int × Bool × Int × Bool × Int × Int × Bool × (List Signed) × Int × Int × (List Block) × (Rows) × Unit × List (List UInt8) × List (List (List UInt8)) × List (List UInt8) × (List Val) × ((List Hdr) × (List Val) × Int × Bool × Unit) × (Hdr × (List Signed) × (List Val) × (List Val) × Unit) × List UInt8))) := rfl
theorem lightTrust_5 (fa : List Bool) (e : Bool) (x0 : List (Int × Int × Int × Int × List Int × Unit)) (x2 : List Int) (x3 : Int) (x4 : Int) (x6 : Int) (x7 : Bool) (x8 : Int) (x9 : Int) (x10 : Bool) (x11 : List Signed) (x12 : Int) (x13 : Int) (x16 : List Block) (x17 : Rows) (x18 : Unit) (x19 : List (List UInt8)) (x20 : List (List (List UInt8))) (x21 : List (List UInt8)) (x22 : List Val) (x23 : (List Hdr) × (List Val) × Int × Bool × Unit) (x24 : Hdr × (List Signed) × (List Val) × (List Val) × Unit) (x25 : List UInt8) (x26 : List UInt8 × (Int × (List (List UInt8) × List (List UInt8) × Unit) × List (List UInt8) × Unit) × Unit) (hs : SigOk x26.2.1) (hd : x25.length ≤ 1000) (hl : x22.length ≤ 1000000) :
  affiantlaw13_LightTrust_5 x0 fa x2 x3 x4 e x6 x7 x8 x9 x10 x11 x12 x13 (x22.length : Int) 0 x16 x17 x18 x19 x20 x21 x22 x23 x24 x25 x26 = some (x0, fa, x2, x3, x4, (e || oneE fa x22 x24.1.1 x25 x26 x22.length), x6, x7, x8, x9, x10, x11, x12, x13, x16, x17, x18, x19, x20, x21, x22, x23, x24, x25) := by
 unfold affiantlaw13_LightTrust_5
 have := loop_for (step := fun (t : Bool × Int) => affiantlaw13_LightTrust_5_step x0 fa x2 x3 x4 t.1 x6 x7 x8 x9 x10 x11 x12 x13 (x22.length : Int) t.2 x16 x17 x18 x19 x20 x21 x22 x23 x24 x25 x26) (fun i (_ : Unit) => ((e || oneE fa x22 x24.1.1 x25 x26 i), (i : Int))) (fun _ _ => ()) (fun _ => (x0, fa, x2, x3, x4, (e || oneE fa x22 x24.1.1 x25 x26 x22.length), x6, x7, x8, x9, x10, x11, x12, x13, x16, x17, x18, x19, x20, x21, x22, x23, x24, x25)) x22.length (fun _ _ => True) (fun i w hi _ => ⟨?_, trivial⟩) (fun w _ => ?_) x22.length 0 () (by omega) trivial
 ·rw [show (e || oneE fa x22 x24.1.1 x25 x26 0) = e from by show (e || false) = e; simp] at this
  exact this
 ·show affiantlaw13_LightTrust_5_step x0 fa x2 x3 x4 (e || oneE fa x22 x24.1.1 x25 x26 i) x6 x7 x8 x9 x10 x11 x12 x13 (x22.length : Int) (i : Int) x16 x17 x18 x19 x20 x21 x22 x23 x24 x25 x26 = _
  rw [lt5_step, fork_t (by omega), need_true (by omega), Int.toNat_natCast, w64_eq (n := (i : Int) + 1) (by omega) (by omega), oneE_next]
  have rest : fork (decide ((x22.getD i zVal).1 = x26.1)) (andThen (affiantref1_Verify (x22.getD i zVal).2.2.1 x24.1.1 x25 x26.2.1) (fun u => (some (.inl (u, (((i + 1 : Nat) : Int)))) : Option ((Bool × Int) ⊕ ((List (Int × Int × Int × Int × List Int × Unit)) × (List Bool) × (List Int) × (Int) × (Int) × (Bool) × (Int) × (Bool) × (Int) × (Int) × (Bool) × (List Signed) × (Int) × (Int) × (List Block) × (Rows) × (Unit) × (List (List UInt8)) × (List (List (List UInt8))) × (List (List UInt8)) × (List Val) × ((List Hdr) × (List Val) × Int × Bool × Unit) × (Hdr × (List Signed) × (List Val) × (List Val) × Unit) × (List UInt8)))))) (some (.inl (false, ((i + 1 : Nat) : Int)))) = some (.inl ((decide ((x22.getD i zVal).1 = x26.1) && verS (x22.getD i zVal).2.2.1 x24.1.1 x25 x26.2.1), ((i + 1 : Nat) : Int))) := by
   by_cases q : (x22.getD i zVal).1 = x26.1
   ·rw [fork_t q, rVer_eq _ _ _ (by omega) _ hs, andThen_mk, decide_eq_true q, Bool.true_and]
   ·rw [fork_f q, decide_eq_false q, Bool.false_and]
  by_cases c1 : fa.length ≤ i
  ·rw [fork_t (by omega)]
   have hh : hon fa i = true := by unfold hon; rw [decide_eq_true c1]; rfl
   rw [hh]
   cases hc : (e || oneE fa x22 x24.1.1 x25 x26 i) with
   | true => rw [fork_tt, ← Bool.or_assoc, hc]; rfl
   | false => rw [fork_ff, ← Bool.or_assoc, hc, Bool.false_or, Bool.true_and]; exact rest
  ·rw [fork_f (by omega), need_true (by omega)]
   have hh : hon fa i = !(fa.getD i false) := by unfold hon; rw [decide_eq_false c1]; rfl
   rw [hh]
   cases hc : (e || oneE fa x22 x24.1.1 x25 x26 i) with
   | true => rw [fork_tt, ← Bool.or_assoc, hc]; rfl
   | false =>
    rw [fork_ff, ← Bool.or_assoc, hc, Bool.false_or]
    cases fa.getD i false with
    | true => rfl
    | false => rw [Bool.not_false, fork_tt, Bool.true_and]; exact rest
 ·show affiantlaw13_LightTrust_5_step x0 fa x2 x3 x4 (e || oneE fa x22 x24.1.1 x25 x26 x22.length) x6 x7 x8 x9 x10 x11 x12 x13 (x22.length : Int) (x22.length : Int) x16 x17 x18 x19 x20 x21 x22 x23 x24 x25 x26 = _
  rw [lt5_step, fork_f (by omega)]
theorem lt6_step (x0 : List (Int × Int × Int × Int × List Int × Unit)) (x1 : List Bool) (x2 : List Int) (x3 : Int) (x4 : Int) (x5 : Bool) (x6 : Int) (x7 : Bool) (x8 : Int) (x9 : Int) (x10 : Bool) (x11 : List Signed) (x12 : Int) (x13 : Int) (x14 : List Block) (x15 : Rows) (x16 : Unit) (x17 : List (List UInt8)) (x18 : List (List (List UInt8))) (x19 : List (List UInt8)) (x20 : List Val) (x21 : (List Hdr) × (List Val) × Int × Bool × Unit) (x22 : Hdr × (List Signed) × (List Val) × (List Val) × Unit) (x23 : List UInt8) : affiantlaw13_LightTrust_6_step x0 x1 x2 x3 x4 x5 x6 x7 x8 x9 x10 x11 x12 x13 x14 x15 x16 x17 x18 x19 x20 x21 x22 x23 =
  (fork (decide (x13 < x12)) (need (0 ≤ x13 ∧ x13 < (List.length x11 : Int)) (andThen (affiantlaw13_LightTrust_5 x0 x1 x2 x3 x4 x5 x6 x7 x8 x9 x10 x11 x12 x13 (List.length x20 : Int) (0 : Int) x14 x15 x16 x17 x18 x19 x20 x21 x22 x23 (List.getD x11 (Int.toNat x13) (([] : List UInt8), ((0 : Int), (([] : List (List UInt8)), ([] : List (List UInt8)), ()), ([] : List (List UInt8)), ()), ()))) (fun o95 => some (.inl (o95.1, o95.2.1, o95.2.2.1, o95.2.2.2.1, o95.2.2.2.2.1, o95.2.2.2.2.2.1, o95.2.2.2.2.2.2.1, o95.2.2.2.2.2.2.2.1, o95.2.2.2.2.2.2.2.2.1, o95.2.2.2.2.2.2.2.2.2.1, o95.2.2.2.2.2.2.2.2.2.2.1, o95.2.2.2.2.2.2.2.2.2.2.2.1, o95.2.2.2.2.2.2.2.2.2.2.2.2.1, (w64 (o95.2.2.2.2.2.2.2.2.2.2.2.2.2.1 + (1 : Int))), o95.2.2.2.2.2.2.2.2.2.2.2.2.2.2.1, o95.2.2.2.2.2.2.2.2.2.2.2.2.2.2.2.1, o95.2.2.2.2.2.2.2.2.2.2.2.2.2.2.2.2.1, o95.2.2.2.2.2.2.2.2.2.2.2.2.2.2.2.2.2.1, o95.2.2.2.2.2.2.2.2.2.2.2.2.2.2.2.2.2.2.1, o95.2.2.2.2.2.2.2.2.2.2.2.2.2.2.2.2.2.2.2.1, o95.2.2.2.2.2.2.2.2.2.2.2.2.2.2.2.2.2.2.2.2.1, o95.2.2.2.2.2.2.2.2.2.2.2.2.2.2.2.2.2.2.2.2.2.1, o95.2.2.2.2.2.2.2.2.2.2.2.2.2.2.2.2.2.2.2.2.2.2.1, o95.2.2.2.2.2.2.2.2.2.2.2.2.2.2.2.2.2.2.2.2.2.2.2))))) (some (.inr (x0, x1, x2, x3, x4, x5, x6, x7, x8, x9, x10, x14, x15, x16, x17, x18, x19, x20, x21))) : Option (((List (Int × Int × Int × Int × List Int × Unit)) × List Bool × List Int × Int × Int × Bool × Int × Bool × Int × Int × Bool × (List Signed) × Int × Int × (List Block) × (Rows) × Unit × List (List UInt8) × List (List (List UInt8)) × List (List UInt8) × (List Val) × ((List Hdr) × (List Val) × Int × Bool × Unit) × (Hdr × (List Signed) × (List Val) × (List Val) × Unit) × List UInt8) ⊕ ((List (Int × Int × Int × Int × List Int × Unit)) × List Bool × List Int × Int × Int × Bool × Int × Bool × Int × Int × Bool × (List Block) × (Rows) × Unit × List (List UInt8) × List (List (List UInt8)) × List (List UInt8) × (List Val) × (List Hdr) × (List Val) × Int × Bool × Unit))) := rfl
def escK (fa : List Bool) (S : List Val) (h : Int) (d : List UInt8) (l : List Signed) (k : Nat) : Bool := (l.take k).any fun s => oneE fa S h d s S.length
theorem escK_next (fa : List Bool) (S : List Val) (h : Int) (d : List UInt8) (l : List Signed) {k : Nat} (hk : k < l.length) : escK fa S h d l (k + 1) = (escK fa S h d l k || oneE fa S h d (l.getD k zSg) S.length) := by
 unfold escK
 rw [List.take_add_one, List.getElem?_eq_getElem hk, List.any_append, List.getD_eq_getElem?_getD, List.getElem?_eq_getElem hk]
 simp
theorem lightTrust_6 (fa : List Bool) (e : Bool) (x0 : List (Int × Int × Int × Int × List Int × Unit)) (x2 : List Int) (x3 : Int) (x4 : Int) (x6 : Int) (x7 : Bool) (x8 : Int) (x9 : Int) (x10 : Bool) (x11 : List Signed) (x14 : List Block) (x15 : Rows) (x16 : Unit) (x17 : List (List UInt8)) (x18 : List (List (List UInt8))) (x19 : List (List UInt8)) (x20 : List Val) (x21 : (List Hdr) × (List Val) × Int × Bool × Unit) (x22 : Hdr × (List Signed) × (List Val) × (List Val) × Unit) (x23 : List UInt8) (hs : SgOk x11) (hd : x23.length ≤ 1000) (hl : x20.length ≤ 1000000) (hn : x11.length ≤ 1000000) :
  affiantlaw13_LightTrust_6 x0 fa x2 x3 x4 e x6 x7 x8 x9 x10 x11 (x11.length : Int) 0 x14 x15 x16 x17 x18 x19 x20 x21 x22 x23 = some (x0, fa, x2, x3, x4, (e || escK fa x20 x22.1.1 x23 x11 x11.length), x6, x7, x8, x9, x10, x14, x15, x16, x17, x18, x19, x20, x21) := by
 unfold affiantlaw13_LightTrust_6
 have := loop_for (step := fun (t : (List (Int × Int × Int × Int × List Int × Unit)) × (List Bool) × (List Int) × (Int) × (Int) × (Bool) × (Int) × (Bool) × (Int) × (Int) × (Bool) × (List Signed) × (Int) × (Int) × (List Block) × (Rows) × (Unit) × (List (List UInt8)) × (List (List (List UInt8))) × (List (List UInt8)) × (List Val) × ((List Hdr) × (List Val) × Int × Bool × Unit) × (Hdr × (List Signed) × (List Val) × (List Val) × Unit) × (List UInt8)) => affiantlaw13_LightTrust_6_step t.1 t.2.1 t.2.2.1 t.2.2.2.1 t.2.2.2.2.1 t.2.2.2.2.2.1 t.2.2.2.2.2.2.1 t.2.2.2.2.2.2.2.1 t.2.2.2.2.2.2.2.2.1 t.2.2.2.2.2.2.2.2.2.1 t.2.2.2.2.2.2.2.2.2.2.1 t.2.2.2.2.2.2.2.2.2.2.2.1 t.2.2.2.2.2.2.2.2.2.2.2.2.1 t.2.2.2.2.2.2.2.2.2.2.2.2.2.1 t.2.2.2.2.2.2.2.2.2.2.2.2.2.2.1 t.2.2.2.2.2.2.2.2.2.2.2.2.2.2.2.1 t.2.2.2.2.2.2.2.2.2.2.2.2.2.2.2.2.1 t.2.2.2.2.2.2.2.2.2.2.2.2.2.2.2.2.2.1 t.2.2.2.2.2.2.2.2.2.2.2.2.2.2.2.2.2.2.1 t.2.2.2.2.2.2.2.2.2.2.2.2.2.2.2.2.2.2.2.1 t.2.2.2.2.2.2.2.2.2.2.2.2.2.2.2.2.2.2.2.2.1 t.2.2.2.2.2.2.2.2.2.2.2.2.2.2.2.2.2.2.2.2.2.1 t.2.2.2.2.2.2.2.2.2.2.2.2.2.2.2.2.2.2.2.2.2.2.1 t.2.2.2.2.2.2.2.2.2.2.2.2.2.2.2.2.2.2.2.2.2.2.2) (fun i (_ : Unit) => (x0, fa, x2, x3, x4, (e || escK fa x20 x22.1.1 x23 x11 i), x6, x7, x8, x9, x10, x11, (x11.length : Int), (i : Int), x14, x15, x16, x17, x18, x19, x20, x21, x22, x23)) (fun _ _ => ()) (fun _ => (x0, fa, x2, x3, x4, (e || escK fa x20 x22.1.1 x23 x11 x11.length), x6, x7, x8, x9, x10, x14, x15, x16, x17, x18, x19, x20, x21)) x11.length (fun _ _ => True) (fun i w hi _ => ⟨?_, trivial⟩) (fun w _ => ?_) x11.length 0 () (by omega) trivial
 ·rw [show (e || escK fa x20 x22.1.1 x23 x11 0) = e from by show (e || false) = e; simp] at this
  exact this
 ·show affiantlaw13_LightTrust_6_step x0 fa x2 x3 x4 (e || escK fa x20 x22.1.1 x23 x11 i) x6 x7 x8 x9 x10 x11 (x11.length : Int) (i : Int) x14 x15 x16 x17 x18 x19 x20 x21 x22 x23 = _
  rw [lt6_step, fork_t (by omega), need_true (by omega), Int.toNat_natCast]
  show andThen (affiantlaw13_LightTrust_5 x0 fa x2 x3 x4 (e || escK fa x20 x22.1.1 x23 x11 i) x6 x7 x8 x9 x10 x11 (x11.length : Int) (i : Int) (x20.length : Int) 0 x14 x15 x16 x17 x18 x19 x20 x21 x22 x23 (x11.getD i zSg)) _ = _
  rw [lightTrust_5 (hs := sg_at hs i) (hd := hd) (hl := hl), andThen_mk]
  simp only
  rw [w64_eq (by omega) (by omega), escK_next fa x20 x22.1.1 x23 x11 hi, Bool.or_assoc]
  rfl
 ·show affiantlaw13_LightTrust_6_step x0 fa x2 x3 x4 (e || escK fa x20 x22.1.1 x23 x11 x11.length) x6 x7 x8 x9 x10 x11 (x11.length : Int) (x11.length : Int) x14 x15 x16 x17 x18 x19 x20 x21 x22 x23 = _
  rw [lt6_step, fork_f (by omega)]
theorem pwJ_mono {p : Nat → Int} (hp : PwOk p) {f g : Nat → Bool} : ∀ n, (∀ i, i < n → f i = true → g i = true) → pwJ p ((List.range n).filter f) ≤ pwJ p ((List.range n).filter g)
 | 0, _ => Int.le_refl _
 | n + 1, h => by
  have ih := pwJ_mono hp n fun i hi => h i (by omega)
  have h1 := hp n
  rw [List.range_succ, List.filter_append, List.filter_append, pwJ_snoc, pwJ_snoc]
  have e0 : pwJ p [] = 0 := rfl
  have e1 : pwJ p [n] = p n := by simp [pwJ]
  by_cases c : f n = true
  ·have d := h n (by omega) c
   rw [List.filter_cons_of_pos c, List.filter_cons_of_pos d, List.filter_nil, List.filter_nil]
   omega
  ·rw [List.filter_cons_of_neg c]
   by_cases d : g n = true
   ·rw [List.filter_cons_of_pos d, List.filter_nil, List.filter_nil, e0, e1]
    omega
   ·rw [List.filter_cons_of_neg d, List.filter_nil, List.filter_nil]
    omega
theorem trust_core {p : Nat → Int} (hp : PwOk p) {n : Nat} (h1 : 1 ≤ n) (hn : n ≤ 4) (fa : List Bool) (h : Hdr) (s : List Signed) (he : enS (ringN p n) h s = true) (hw : pwJ p (badJ fa n) * 3 ≤ allS (ringN p n) * 1) :
  s.any (fun s => oneE fa (ringN p n) h.1 (textS h) s (ringN p n).length) = true := by
 rw [← Bool.not_eq_false]
 intro hno
 have hl : (ringN p n).length = n := by simp [ringN]
 rw [hl] at hno
 have hall := all_ringN p n
 have hone := pwJ_one hp _ (range_ne h1)
 unfold enS at he
 rw [decide_eq_true_eq] at he
 have hpart : partS (ringN p n) h s ≤ pwJ p (badJ fa n) := by
  unfold partS
  rw [pow_ring p (fun v => (namesS (ringN p n) h s).contains v.1) (fun i => (namesS (ringN p n) h s).contains (nm i)) n (fun _ _ => rfl)]
  refine pwJ_mono hp n fun i hi hc => ?_
  rw [List.contains_iff_mem] at hc
  unfold namesS at hc
  split at hc
  ·unfold namesF at hc
   obtain ⟨x, hx, e⟩ := List.mem_map.1 hc
   obtain ⟨hx, hg⟩ := List.mem_filter.1 hx
   have hm : mkRing p i ∈ ringN p n := List.mem_map_of_mem (List.mem_range.2 hi)
   have hf := find_in (ringN_dist p n hn) hm
   unfold goodS at hg
   rw [show x.1 = (mkRing p i).1 from e, hf, Bool.true_and] at hg
   rw [← Bool.not_eq_false]
   intro hfa
   have hx2 := List.any_eq_false.1 hno x hx
   apply hx2
   unfold oneE
   rw [List.any_eq_true]
   have hgd : (ringN p n).getD i zVal = mkRing p i := getD_rng _ _ hi
   refine ⟨i, List.mem_range.2 hi, ?_⟩
   rw [hon_fau, hfa, hgd, decide_eq_true (show (mkRing p i).1 = x.1 from e.symm)]
   simpa using hg
  ·simp at hc
 omega
theorem upd_cases (b : Block) (now : Int) (c : Cli) : (updS b now c).2 = c ∧ (updS b now c).1 ≠ 0 ∨ ((updS b now c).1 = 0 ∧ (updS b now c).2 = (cut6 (c.1 ++ [b.1]), b.2.2.2.1, c.2.2.1, c.2.2.2.1, ()) ∧ wholeS b = true ∧ enS b.2.2.1 b.1 b.2.1 = true) := by
 unfold updS
 split
 ·exact .inl ⟨rfl, by simp⟩
 split
 ·exact .inl ⟨rfl, by simp⟩
 rename_i hw
 split
 ·exact .inl ⟨rfl, by simp⟩
 split
 ·exact .inl ⟨rfl, by simp⟩
 split
 ·exact .inl ⟨rfl, by simp⟩
 split
 ·exact .inl ⟨rfl, by simp⟩
 split
 ·exact .inl ⟨rfl, by simp⟩
 split
 ·exact .inl ⟨rfl, by simp⟩
 rename_i he
 split
 ·exact .inl ⟨rfl, by simp⟩
 ·exact .inr ⟨rfl, rfl, by simpa using hw, by simpa using he⟩
theorem loop_upto {σ ρ τ : Type} {step : σ → Option (σ ⊕ ρ)} (st : Nat → τ → σ) (I : Nat → τ → Prop) (n : Nat) (g : τ → ρ) (h1 : ∀ i t, i < n → I i t → ∃ t', step (st i t) = some (.inl (st (i + 1) t')) ∧ I (i + 1) t')
  (h2 : ∀ t, I n t → step (st n t) = some (.inr (g t))) : ∀ (k i : Nat) (t : τ), i + k = n → I i t → ∃ t', loop step (st i t) = some (g t') ∧ I n t'
 | 0, i, t, e, h => by
  have : i = n := by omega
  subst this
  exact ⟨t, loop_out (h2 t h), h⟩
 | k + 1, i, t, e, h => by
  obtain ⟨t', e1, e2⟩ := h1 i t (by omega) h
  obtain ⟨t2, e3, e4⟩ := loop_upto st I n g h1 h2 k (i + 1) t' (by omega) e2
  exact ⟨t2, by rw [loop_next e1]; exact e3, e4⟩
def TrI (S : List Val) (c : Cli) : Prop := CliOk c ∧ c.2.1 = S ∧ c.1.length ≤ 6
theorem cut6_len (l : List Hdr) (h : l.length ≤ 7) : (cut6 l).length ≤ 6 := by
 unfold cut6; split
 ·rw [List.length_drop]; omega
 ·omega
theorem tri_next {p : Nat → Int} (hp : PwOk p) {n : Nat} (hn : n ≤ 4) {b : Block} {now : Int} {c : Cli} (hc : TrI (ringN p n) c) (hb : b.2.2.2.1 = ringN p n) : TrI (ringN p n) (updS b now c).2 := by
 rcases upd_cases b now c with ⟨e, _⟩ | ⟨_, e, hw, _⟩
 ·rw [e]; exact hc
 ·rw [e]
  have hr : rightHS b.1 = true := by unfold wholeS at hw; rw [Bool.and_eq_true] at hw; exact hw.1
  have hr := (rightHS_iff b.1).1 hr
  obtain ⟨⟨c1, c2, c3, _, _⟩, c6, c7⟩ := hc
  have hcl := cut6_len (c.1 ++ [b.1]) (by rw [List.length_append]; simp only [List.length_cons, List.length_nil]; omega)
  have hc1 : 1 ≤ (cut6 (c.1 ++ [b.1])).length := by
   unfold cut6; split
   ·rw [List.length_drop]; omega
   ·rw [List.length_append]; simp only [List.length_cons, List.length_nil]; omega
  have hlast := lastH_cut c.1 b.1 (b.2.2.2.1, c.2.2.1, c.2.2.2.1, ()) c1
  refine ⟨⟨hc1, by show (cut6 (c.1 ++ [b.1])).length ≤ 1000000; omega, by show SmallV b.2.2.2.1; rw [hb]; exact ringN_smallV hp hn, ?_, ?_⟩, hb, hcl⟩
  ·rw [hlast]; omega
  ·rw [hlast]; omega
theorem lt7_step (x0 : List (Int × Int × Int × Int × List Int × Unit)) (x1 : List Bool) (x2 : List Int) (x3 : Int) (x4 : Int) (x5 : List Block) (x6 : Rows) (x7 : Unit) (x8 : List (List UInt8)) (x9 : List (List (List UInt8))) (x10 : List (List UInt8)) (x11 : List Val) (x12 : (List Hdr) × (List Val) × Int × Bool × Unit) : affiantlaw13_LightTrust_7_step x0 x1 x2 x3 x4 x5 x6 x7 x8 x9 x10 x11 x12 =
  (fork (decide (x4 < (List.length x0 : Int))) (fork (decide (x4 < (8 : Int))) (need (0 ≤ x4 ∧ x4 < (List.length x0 : Int)) (andThen (affiantbook_Within ((List.getD x0 (Int.toNat x4) ((0 : Int), (0 : Int), (0 : Int), (0 : Int), ([] : List Int), ())).2.1) (0 : Int) (5 : Int)) (fun u28 => need (0 ≤ u28 ∧ u28 < (List.length x5 : Int)) (andThen (affiantkeep_Forged (List.getD x5 (Int.toNat u28) zBlk) x2 ((List.getD x0 (Int.toNat x4) ((0 : Int), (0 : Int), (0 : Int), (0 : Int), ([] : List Int), ())).2.2.1)) (fun u31 => fork (decide ((Int.tmod (List.getD x0 (Int.toNat x4) ((0 : Int), (0 : Int), (0 : Int), (0 : Int), ([] : List Int), ())).2.2.1 (3 : Int)) = (0 : Int))) (andThen (light_Client_Update_b86e (List.getD x5 (Int.toNat u28) zBlk) (70 : Int) x12) (fun u34 => fork (!decide (u34.1 = (0 : Int))) (some (.inl (x0, x1, x2, x3, (w64 (x4 + (1 : Int))), x5, x6, x7, x8, x9, x10, x11, u34.2))) (fork (Ty.beq (.fld (.int .i64) (.fld (.int .i64) (.fld (.arr 32 (.int .u8)) (.fld (.arr 32 (.int .u8)) (.fld (.arr 32 (.int .u8)) (.fld (.arr 32 (.int .u8)) .unit)))))) (List.getD x5 (Int.toNat u28) zBlk).1 (List.getD x5 (Int.toNat u28) zBlk).1) (some (.inl (x0, x1, x2, x3, (w64 (x4 + (1 : Int))), x5, x6, x7, x8, x9, x10, x11, u34.2))) (andThen (affiantref10_Total x11) (fun u38 => andThen (affiantref10_Over x3 u38 (1 : Int) (3 : Int)) (fun u40 => fork u40 (some (.inl (x0, x1, x2, x3, (w64 (x4 + (1 : Int))), x5, x6, x7, x8, x9, x10, x11, u34.2))) (andThen (affiantref10_HeaderHash ((List.getD x5 (Int.toNat u28) zBlk).1)) (fun u43 => andThen (affiantlaw13_LightTrust_4 x0 x1 x2 x3 x4 false x4 (decide (x4 < (8 : Int))) x3 u38 u40 (List.getD x5 (Int.toNat u28) zBlk).2.1 (List.length (List.getD x5 (Int.toNat u28) zBlk).2.1 : Int) (0 : Int) x5 x6 x7 x8 x9 x10 x11 u34.2 (List.getD x5 (Int.toNat u28) zBlk) u43) (fun o64 => fork (!o64.2.2.2.2.2.1) (some (.inr (.inl false))) (some (.inl (o64.1, o64.2.1, o64.2.2.1, o64.2.2.2.1, (w64 (o64.2.2.2.2.1 + (1 : Int))), o64.2.2.2.2.2.2.2.2.2.2.2.1, o64.2.2.2.2.2.2.2.2.2.2.2.2.1, o64.2.2.2.2.2.2.2.2.2.2.2.2.2.1, o64.2.2.2.2.2.2.2.2.2.2.2.2.2.2.1, o64.2.2.2.2.2.2.2.2.2.2.2.2.2.2.2.1, o64.2.2.2.2.2.2.2.2.2.2.2.2.2.2.2.2.1, o64.2.2.2.2.2.2.2.2.2.2.2.2.2.2.2.2.2.1, o64.2.2.2.2.2.2.2.2.2.2.2.2.2.2.2.2.2.2)))))))))))) (andThen (light_Client_Update_b86e u31 (70 : Int) x12) (fun u67 => fork (!decide (u67.1 = (0 : Int))) (some (.inl (x0, x1, x2, x3, (w64 (x4 + (1 : Int))), x5, x6, x7, x8, x9, x10, x11, u67.2))) (fork (Ty.beq (.fld (.int .i64) (.fld (.int .i64) (.fld (.arr 32 (.int .u8)) (.fld (.arr 32 (.int .u8)) (.fld (.arr 32 (.int .u8)) (.fld (.arr 32 (.int .u8)) .unit)))))) u31.1 (List.getD x5 (Int.toNat u28) zBlk).1) (some (.inl (x0, x1, x2, x3, (w64 (x4 + (1 : Int))), x5, x6, x7, x8, x9, x10, x11, u67.2))) (andThen (affiantref10_Total x11) (fun u71 => andThen (affiantref10_Over x3 u71 (1 : Int) (3 : Int)) (fun u73 => fork u73 (some (.inl (x0, x1, x2, x3, (w64 (x4 + (1 : Int))), x5, x6, x7, x8, x9, x10, x11, u67.2))) (andThen (affiantref10_HeaderHash u31.1) (fun u76 => andThen (affiantlaw13_LightTrust_6 x0 x1 x2 x3 x4 false x4 (decide (x4 < (8 : Int))) x3 u71 u73 u31.2.1 (List.length u31.2.1 : Int) (0 : Int) x5 x6 x7 x8 x9 x10 x11 u67.2 u31 u76) (fun o97 => fork (!o97.2.2.2.2.2.1) (some (.inr (.inl false))) (some (.inl (o97.1, o97.2.1, o97.2.2.1, o97.2.2.2.1, (w64 (o97.2.2.2.2.1 + (1 : Int))), o97.2.2.2.2.2.2.2.2.2.2.2.1, o97.2.2.2.2.2.2.2.2.2.2.2.2.1, o97.2.2.2.2.2.2.2.2.2.2.2.2.2.1, o97.2.2.2.2.2.2.2.2.2.2.2.2.2.2.1, o97.2.2.2.2.2.2.2.2.2.2.2.2.2.2.2.1, o97.2.2.2.2.2.2.2.2.2.2.2.2.2.2.2.2.1, o97.2.2.2.2.2.2.2.2.2.2.2.2.2.2.2.2.2.1, o97.2.2.2.2.2.2.2.2.2.2.2.2.2.2.2.2.2.2))))))))))))))))) (some (.inr (.inr ())))) (some (.inr (.inr ()))) : Option (((List (Int × Int × Int × Int × List Int × Unit)) × List Bool × List Int × Int × Int × (List Block) × (Rows) × Unit × List (List UInt8) × List (List (List UInt8)) × List (List UInt8) × (List Val) × (List Hdr) × (List Val) × Int × Bool × Unit) ⊕ ((Bool) ⊕ (Unit)))) := rfl
theorem forge_sig {h : Hdr} (h1 : 1 ≤ h.1) (h2 : h.1 ≤ 16) (x : List UInt8) (who : List Int) {s : List Signed} (hs : SgOk s) : SgOk (forgeS h x who s) := by
 intro y hy
 unfold forgeS at hy
 obtain ⟨i, _, rfl⟩ := List.mem_map.1 hy
 split
 ·exact sig_ok (seedK i) h.1 h1 h2 x
 ·exact sg_at hs i
theorem forge_len (h : Hdr) (x : List UInt8) (who : List Int) (s : List Signed) : (forgeS h x who s).length = s.length := by simp [forgeS]
abbrev TS := List Asked × List Bool × List Int × Int × Int × List Block × Rows × Unit × List (List UInt8) × List (List (List UInt8)) × List (List UInt8) × List Val × Cli
theorem lightTrust_7 (l : List Asked) (fa : List Bool) {p : Nat → Int} (hp : PwOk p) {n : Nat} (h1 : 1 ≤ n) (hn : n ≤ 4) (R : Rows) (seeds : List (List UInt8)) (rings : List (List (List UInt8))) (names : List (List UInt8)) (c : Cli) (hc : TrI (ringN p n) c) :
  affiantlaw13_LightTrust_7 l fa (badI fa n) (pwJ p (badJ fa n)) 0 (blF n (ringN p n) f10 6) R () seeds rings names (ringN p n) c = some (.inr ()) := by
 have hl := blF_len n (ringN p n) f10 6
 have hbad : (badI fa n).length ≤ 1152921504606846976 := by
  have := List.length_filter_le (fau fa) (List.range n)
  rw [List.length_range] at this
  have e : (badI fa n).length = (badJ fa n).length := List.length_map ..
  rw [e]; unfold badJ; omega
 have hpb := pwJ_b p hp.s (badJ fa n)
 have hbl : (badJ fa n).length ≤ n := by
  have := List.length_filter_le (fau fa) (List.range n)
  rwa [List.length_range] at this
 have ab := all_b (ringN p n) (ringN_smallV hp hn)
 have hSl : (ringN p n).length = n := by simp [ringN]
 unfold affiantlaw13_LightTrust_7
 have key := loop_upto (step := fun (s : TS) => affiantlaw13_LightTrust_7_step s.1 s.2.1 s.2.2.1 s.2.2.2.1 s.2.2.2.2.1 s.2.2.2.2.2.1 s.2.2.2.2.2.2.1 s.2.2.2.2.2.2.2.1 s.2.2.2.2.2.2.2.2.1 s.2.2.2.2.2.2.2.2.2.1 s.2.2.2.2.2.2.2.2.2.2.1 s.2.2.2.2.2.2.2.2.2.2.2.1 s.2.2.2.2.2.2.2.2.2.2.2.2) (fun i (c : Cli) => ((l, fa, badI fa n, pwJ p (badJ fa n), (i : Int), blF n (ringN p n) f10 6, R, (), seeds, rings, names, ringN p n, c) : TS)) (fun _ c => TrI (ringN p n) c) (min l.length 8) (fun _ => (.inr () : Bool ⊕ Unit)) (fun i c hi hc => ?_) (fun c hc => ?_) (min l.length 8) 0 c (by omega) hc
 ·obtain ⟨c', e, _⟩ := key
  exact e
 ·show ∃ t', affiantlaw13_LightTrust_7_step l fa (badI fa n) (pwJ p (badJ fa n)) (i : Int) (blF n (ringN p n) f10 6) R () seeds rings names (ringN p n) c = _ ∧ _
  obtain ⟨r, er, r1, r2⟩ := within_eq (l.getD i ((0 : Int), (0 : Int), (0 : Int), (0 : Int), ([] : List Int), ())).2.1 0 5 (by omega) (by omega) (by omega)
  have hb := blF_at n (ringN p n) f10 (k := 6) (j := r.toNat) (by omega)
  have e1 := hF_1 n (ringN p n) f10 r.toNat
  have ho := hF_hashes n (ringN p n) f10 r.toNat
  have ok := hon_ok hn p ho (by omega) (by omega)
  obtain ⟨r3, hr3, ef⟩ := forged_eq (honB n (ringN p n) (hF n (ringN p n) f10 r.toNat)) (badI fa n) hbad (l.getD i ((0 : Int), (0 : Int), (0 : Int), (0 : Int), ([] : List Int), ())).2.2.1 ho (by show 1 ≤ (hF n (ringN p n) f10 r.toNat).1; omega) (by show (hF n (ringN p n) f10 r.toNat).1 ≤ 16; omega) ok.2.2.1
  have hok2 : BlkOk (forgeB (honB n (ringN p n) (hF n (ringN p n) f10 r.toNat)) (badI fa n) r3) := by
   refine ⟨turnH_hashes ho r3, forge_sig (by show 1 ≤ (hF n (ringN p n) f10 r.toNat).1; omega) (by show (hF n (ringN p n) f10 r.toNat).1 ≤ 16; omega) _ _ ok.2.1, ?_, ok.2.2.2.1, ok.2.2.2.2.1, ok.2.2.2.2.2.1, ok.2.2.2.2.2.2⟩
   show (forgeS _ _ _ _).length ≤ 1000000
   rw [forge_len]; exact ok.2.2.1
  have u1 := upd_eq _ 70 c ok hc.1 (by omega)
  have u2 := upd_eq _ 70 c hok2 hc.1 (by omega)
  have i1 := tri_next hp hn (b := honB n (ringN p n) (hF n (ringN p n) f10 r.toNat)) (now := 70) hc rfl
  have i2 := tri_next hp hn (b := forgeB (honB n (ringN p n) (hF n (ringN p n) f10 r.toNat)) (badI fa n) r3) (now := 70) hc rfl
  have hne : (forgeB (honB n (ringN p n) (hF n (ringN p n) f10 r.toNat)) (badI fa n) r3).1 ≠ (honB n (ringN p n) (hF n (ringN p n) f10 r.toNat)).1 := turnH_ne ho hr3
  have hx1 : (forgeB (honB n (ringN p n) (hF n (ringN p n) f10 r.toNat)) (badI fa n) r3).2.2.1 = ringN p n := rfl
  have hw1 : w64 ((i : Int) + 1) = ((i + 1 : Nat) : Int) := w64_eq (by omega) (by omega)
  generalize hx : forgeB (honB n (ringN p n) (hF n (ringN p n) f10 r.toNat)) (badI fa n) r3 = x at *
  generalize honB n (ringN p n) (hF n (ringN p n) f10 r.toNat) = b at *
  rw [lt7_step, fork_t (by omega), fork_t (by omega), need_true (by omega), Int.toNat_natCast, er, andThen_mk, need_true (by omega), hb, ef, andThen_mk, hw1]
  by_cases q : Int.tmod (l.getD i ((0 : Int), (0 : Int), (0 : Int), (0 : Int), ([] : List Int), ())).2.2.1 3 = 0
  ·rw [fork_t q, u1, andThen_mk]
   by_cases q2 : (updS b 70 c).1 = 0
   ·rw [fork_nt q2]
    show ∃ t', fork (eqHd b.1 b.1) _ _ = _ ∧ _
    rw [eqHd_self, fork_tt]
    exact ⟨_, rfl, i1⟩
   ·rw [fork_nf q2]
    exact ⟨_, rfl, i1⟩
  ·rw [fork_f q, u2, andThen_mk]
   by_cases q2 : (updS x 70 c).1 = 0
   ·rw [fork_nt q2]
    show ∃ t', fork (eqHd x.1 b.1) _ _ = _ ∧ _
    rw [eqHd_ne hne, fork_ff, rtotal_eq _ (ringN_smallV hp hn), andThen_mk, rover_eq _ _ 1 3 (by omega) ab (by omega) (by omega), andThen_mk]
    by_cases q3 : allS (ringN p n) * 1 < pwJ p (badJ fa n) * 3
    ·rw [fork_t q3]
     exact ⟨_, rfl, i2⟩
    ·rw [fork_f q3, rheadHash_eq _ hok2.1, andThen_mk, lightTrust_6 (fa := fa) (e := false) (hs := hok2.2.1) (hd := by rw [sha_len]; omega) (hl := by omega) (hn := hok2.2.2.1), andThen_mk]
     simp only
     rcases upd_cases x 70 c with ⟨_, h⟩ | ⟨_, _, hwh, hen⟩
     ·exact absurd q2 h
     ·rw [hx1] at hen
      have hrt : rightHS x.1 = true := by unfold wholeS at hwh; rw [Bool.and_eq_true] at hwh; exact hwh.1
      have core := trust_core hp h1 hn fa x.1 x.2.1 hen (by omega)
      have hesc : escK fa (ringN p n) x.1.1 (sha (72 :: bodyS x.1)) x.2.1 x.2.1.length = true := by
       unfold escK
       rw [List.take_of_length_le (Nat.le_refl _), ← text_body hrt]
       exact core
      rw [hesc, Bool.false_or, Bool.not_true, fork_ff, hw1]
      exact ⟨_, rfl, i2⟩
   ·rw [fork_nf q2]
    exact ⟨_, rfl, i2⟩
 ·show affiantlaw13_LightTrust_7_step l fa (badI fa n) (pwJ p (badJ fa n)) ((min l.length 8 : Nat) : Int) (blF n (ringN p n) f10 6) R () seeds rings names (ringN p n) c = _
  rw [lt7_step]
  by_cases q : l.length ≤ 8
  ·rw [fork_f (by omega)]
  ·rw [fork_t (by omega), fork_f (by omega)]
theorem law_LightTrust (y0 : List Int) (y1 : List Asked) (y2 : List Bool) (w0 : Wf (.slice (.int .i64)) y0) (w1 : Wf (.slice (.fld (.int .i64) (.fld (.int .i64) (.fld (.int .i64) (.fld (.int .i64) (.fld (.slice (.int .i64)) .unit)))))) y1) (w2 : Wf (.slice .bool) y2) : affiantlaw13_LightTrust y0 y1 y2 = some true := by
 have e8 : tyBytes (.int .i64) = 8 := rfl
 have hp0 : y0.length ≤ 140737488351232 := by have := w0.1; rw [e8] at this; omega
 have hp := pw_ok y0
 obtain ⟨h1, hn⟩ := setN_b y0
 have hS := ringN_sm (pw y0) (setN y0) hn
 have hce := chain_eq y0 hp0
 have hce : affiantkeep_Chain y0 = some ((), seedsN (setN y0), ringsN (setN y0), namesN (setN y0), ringN (pw y0) (setN y0)) := hce
 generalize pw y0 = p at *
 generalize setN y0 = n at *
 have hl := blF_len n (ringN p n) f10 6
 have hSl : (ringN p n).length = n := by simp [ringN]
 have g0 : (blF n (ringN p n) f10 6).getD 0 zBlk = honB n (ringN p n) (hF n (ringN p n) f10 0) := blF_at _ _ _ (by omega)
 have hnew := new_hon hp h1 hn f10_rise (P := 1000) (by omega) (j := 0) (by omega)
 have k0 := knows_new (ringN p n) 1000 (hF n (ringN p n) f10 0)
 have c0 := knows_ok hp hn f10_rise (by omega) k0
 unfold affiantlaw13_LightTrust
 rw [hce, andThen_mk, lightTrust_1 y1 y2 n hn _ hS, andThen_mk]
 simp only
 rw [hSl, lightTrust_2 y1 y2 hp hn, andThen_mk]
 simp only
 rw [need_true (by omega), show Int.toNat 0 = 0 from rfl]
 have z0 : (blF n (ringN p n) f10 6).getD 0 (((0 : Int), (0 : Int), (List.replicate 32 (0 : UInt8)), (List.replicate 32 (0 : UInt8)), (List.replicate 32 (0 : UInt8)), (List.replicate 32 (0 : UInt8)), ()), ([] : List Signed), ([] : List Val), ([] : List Val), ()) = honB n (ringN p n) (hF n (ringN p n) f10 0) := g0
 have zh : (honB n (ringN p n) (hF n (ringN p n) f10 0)).1 = hF n (ringN p n) f10 0 := rfl
 have zn : (honB n (ringN p n) (hF n (ringN p n) f10 0)).2.2.2.1 = ringN p n := rfl
 rw [z0, zh, zn, hnew, andThen_mk]
 simp only
 rw [fork_nt trivial, lightTrust_7 y1 y2 hp h1 hn _ _ _ _ _ ⟨c0, rfl, by simp⟩, andThen_mk]
 simp only
 rw [law_LightRuns]
 rfl
end Go.Ax.V
