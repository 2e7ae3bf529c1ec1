/-
  Chapter 13: skipping over changes of power: taken if more than a third of the set that is known has signed, and more than two thirds of its own.
-/
import Derived.Test.YtcfaippbnmmelaaGreatCLightSkipsLChain3
import Derived.Test.YtcfaippbnmmelaaGreatCLightSkipsLChain2
import Derived.Test.YtcfaippbnmmelaaGreatCLightSkipsLLightRuns
import Derived.Test.YtcfaippbnmmelaaGreatCLightSkipsLMisb
import Derived.Test.YtcfaippbnmmelaaGreatCLightSkipsLWithin
namespace Go.Ax.V
open Go.Ax
set_option linter.unusedVariables false
set_option linter.unusedSimpArgs false
theorem sk_text (a0 : List Int) (a1 : List Int) (a2 : List Bool) (a3 : Int) : qr a0 a1 a2 a3 =
  (andThen (q1n a0) (fun u1 => andThen (qc (1 : Int) u1.1 u1.2.1 u1.2.2.1 u1.2.2.2.1 u1.2.2.2.2) (fun u3 => andThen (qr_1 a1 a2 a3 (0 : Int) ([] : List (List UInt8 × List UInt8 × Unit)) u3.2.2.2.2.2.1 u3.2.2.2.2.2.2.1 u3.2.2.2.2.2.2.2 u3.2.1 u3.2.2.1 u3.2.2.2.1 u3.2.2.2.2.1) (fun o16 => andThen (q17 o16.2.1 (1 : Int) (3 : Int)) (fun u18 => need (0 ≤ u18 ∧ u18 < (List.length o16.2.2.2.2.1 : Int)) (andThen (qr_2 o16.1 (0 : Int) (0 : Int) (0 : Int) (0 : Int) (List.getD o16.2.2.2.2.1 (Int.toNat u18) zBlk).2.1 (List.length (List.getD o16.2.2.2.2.1 (Int.toNat u18) zBlk).2.1 : Int) (0 : Int) o16.2.2.1 o16.2.2.2.1 o16.2.2.2.2.1 o16.2.2.2.2.2.1 o16.2.2.2.2.2.2.1 o16.2.2.2.2.2.2.2.1 o16.2.2.2.2.2.2.2.2.1 o16.2.2.2.2.2.2.2.2.2 (List.getD o16.2.2.2.2.1 (Int.toNat u18) zBlk) ([] : List Signed)) (fun o34 => need (0 ≤ (0 : Int) ∧ (0 : Int) < (List.length o34.2.2.2.2.2.2.1 : Int)) (andThen (q2v ((List.getD o34.2.2.2.2.2.2.1 (Int.toNat (0 : Int)) zBlk).1) ((List.getD o34.2.2.2.2.2.2.1 (Int.toNat (0 : Int)) zBlk).2.2.2.1) (50 : Int)) (fun u37 => (match u37 with | .inl u39 => none | .inr u40 => fork (!decide (u40.1 = (0 : Int))) (none) (fork (decide ((w64 (o34.1 * (3 : Int))) ≤ (w64 (o34.2.2.1 * (2 : Int))))) (andThen (qn (o34.2.2.2.2.2.2.2.2.2.2.2.2.1.1, o34.2.2.2.2.2.2.2.2.2.2.2.2.2, o34.2.2.2.2.2.2.2.2.2.2.2.2.1.2.2.1, o34.2.2.2.2.2.2.2.2.2.2.2.2.1.2.2.2.1, ()) (9 : Int) u40.2) (fun u43 => fork (decide (u43.1 = (9 : Int))) (andThen (qp u43.2) (fun u46 => fork ((Ty.beq (.fld (.int .i64) (.fld (.int .i64) (.fld (.arr 32 (.int .u8)) (.fld (.arr 32 (.int .u8)) (.fld (.arr 32 (.int .u8)) (.fld (.arr 32 (.int .u8)) .unit)))))) u46 o34.2.2.2.2.2.2.2.2.2.2.2.2.1.1) == false) (andThen (qu) (fun u49 => some u49)) (none))) (none))) (fork (decide ((2 : Int) < o34.2.2.2.2.2.2.2.2.2.2.2.2.1.1.1)) (fork (decide ((w64 (o34.2.1 * (3 : Int))) ≤ o34.2.2.2.1)) (andThen (qn (o34.2.2.2.2.2.2.2.2.2.2.2.2.1.1, o34.2.2.2.2.2.2.2.2.2.2.2.2.2, o34.2.2.2.2.2.2.2.2.2.2.2.2.1.2.2.1, o34.2.2.2.2.2.2.2.2.2.2.2.2.1.2.2.2.1, ()) (9 : Int) u40.2) (fun u53 => fork (decide (u53.1 = (9 : Int))) (andThen (qp u53.2) (fun u56 => fork ((Ty.beq (.fld (.int .i64) (.fld (.int .i64) (.fld (.arr 32 (.int .u8)) (.fld (.arr 32 (.int .u8)) (.fld (.arr 32 (.int .u8)) (.fld (.arr 32 (.int .u8)) .unit)))))) u56 o34.2.2.2.2.2.2.2.2.2.2.2.2.1.1) == false) (andThen (qu) (fun u59 => some u59)) (none))) (none))) (andThen (qn (o34.2.2.2.2.2.2.2.2.2.2.2.2.1.1, o34.2.2.2.2.2.2.2.2.2.2.2.2.2, o34.2.2.2.2.2.2.2.2.2.2.2.2.1.2.2.1, o34.2.2.2.2.2.2.2.2.2.2.2.2.1.2.2.2.1, ()) (9 : Int) u40.2) (fun u61 => fork (decide (u61.1 = (0 : Int))) (andThen (qp u61.2) (fun u64 => fork ((Ty.beq (.fld (.int .i64) (.fld (.int .i64) (.fld (.arr 32 (.int .u8)) (.fld (.arr 32 (.int .u8)) (.fld (.arr 32 (.int .u8)) (.fld (.arr 32 (.int .u8)) .unit)))))) u64 o34.2.2.2.2.2.2.2.2.2.2.2.2.1.1) == true) (andThen (qu) (fun u67 => some u67)) (none))) (none)))) (andThen (qn (o34.2.2.2.2.2.2.2.2.2.2.2.2.1.1, o34.2.2.2.2.2.2.2.2.2.2.2.2.2, o34.2.2.2.2.2.2.2.2.2.2.2.2.1.2.2.1, o34.2.2.2.2.2.2.2.2.2.2.2.2.1.2.2.2.1, ()) (9 : Int) u40.2) (fun u69 => fork (decide (u69.1 = (0 : Int))) (andThen (qp u69.2) (fun u72 => fork ((Ty.beq (.fld (.int .i64) (.fld (.int .i64) (.fld (.arr 32 (.int .u8)) (.fld (.arr 32 (.int .u8)) (.fld (.arr 32 (.int .u8)) (.fld (.arr 32 (.int .u8)) .unit)))))) u72 o34.2.2.2.2.2.2.2.2.2.2.2.2.1.1) == true) (andThen (qu) (fun u75 => some u75)) (none))) (none)))))))))))))) : Option (Bool)) := rfl
theorem sk1_step (x0 : List Int) (x1 : List Bool) (x2 : Int) (x3 : Int) (x4 : List (List UInt8 × List UInt8 × Unit)) (x5 : List Val) (x6 : List Block) (x7 : Rows) (x8 : Unit) (x9 : List (List UInt8)) (x10 : List (List (List UInt8))) (x11 : List (List UInt8)) : qr_1_step x0 x1 x2 x3 x4 x5 x6 x7 x8 x9 x10 x11 =
  (fork (decide (x3 < (3 : Int))) (andThen (q1j) (fun u7 => need (0 ≤ x3 ∧ x3 < (List.length u7 : Int)) (andThen (q1u x0 x3) (fun u10 => andThen (qi ((6 : Int), (List.getD u7 (Int.toNat x3) ([] : List UInt8)), ([] : List UInt8), (w64 ((1 : Int) + (Int.tmod u10 (9 : Int)))), (0 : Int), ()) x4 x5 x6 x7 x8 x9 x10 x11) (fun u12 => andThen (qa (w64 ((2 : Int) + x3)) u12.2.1 u12.2.2.1 u12.2.2.2.1 u12.2.2.2.2.1 u12.2.2.2.2.2.1 u12.2.2.2.2.2.2.1 u12.2.2.2.2.2.2.2.1 u12.2.2.2.2.2.2.2.2) (fun u14 => some (.inl ((w64 (x3 + (1 : Int))), u14.2.1, u14.2.2.1, u14.2.2.2.1, u14.2.2.2.2.1, u14.2.2.2.2.2.1, u14.2.2.2.2.2.2.1, u14.2.2.2.2.2.2.2.1, u14.2.2.2.2.2.2.2.2)))))))) (some (.inr (x1, x2, x4, x5, x6, x7, x8, x9, x10, x11))) : Option ((Int × (List (List UInt8 × List UInt8 × Unit)) × (List Val) × (List Block) × (Rows) × Unit × List (List UInt8) × List (List (List UInt8)) × List (List UInt8)) ⊕ (List Bool × Int × (List (List UInt8 × List UInt8 × Unit)) × (List Val) × (List Block) × (Rows) × Unit × List (List UInt8) × List (List (List UInt8)) × List (List UInt8)))) := rfl
theorem sk2_step (x0 : List Bool) (x1 : Int) (x2 : Int) (x3 : Int) (x4 : Int) (x5 : List Signed) (x6 : Int) (x7 : Int) (x8 : List (List UInt8 × List UInt8 × Unit)) (x9 : List Val) (x10 : List Block) (x11 : Rows) (x12 : Unit) (x13 : List (List UInt8)) (x14 : List (List (List UInt8))) (x15 : List (List UInt8)) (x16 : Hdr × (List Signed) × (List Val) × (List Val) × Unit) (x17 : List Signed) : qr_2_step x0 x1 x2 x3 x4 x5 x6 x7 x8 x9 x10 x11 x12 x13 x14 x15 x16 x17 =
  (fork (decide (x7 < x6)) (need (0 ≤ x7 ∧ x7 < (List.length x5 : Int)) (fork (decide (x7 < (List.length x0 : Int))) (need (0 ≤ x7 ∧ x7 < (List.length x0 : Int)) (need (0 ≤ x7 ∧ x7 < (List.length x16.2.2.1 : Int)) (need (0 ≤ (0 : Int) ∧ (0 : Int) < (List.length x10 : Int)) (need (0 ≤ x7 ∧ x7 < (List.length (List.getD x10 (Int.toNat (0 : Int)) zBlk).2.2.2.1 : Int)) (fork (List.getD x0 (Int.toNat x7) false) (need (List.length x17 + List.length ([(List.getD x5 (Int.toNat x7) zSg)] : List Signed) ≤ 2147483648) (some (.inl ((w64 (x1 + (List.getD x16.2.2.1 (Int.toNat x7) zVal).2.1)), (w64 (x2 + (List.getD (List.getD x10 (Int.toNat (0 : Int)) zBlk).2.2.2.1 (Int.toNat x7) zVal).2.1)), (w64 (x3 + (List.getD x16.2.2.1 (Int.toNat x7) zVal).2.1)), (w64 (x4 + (List.getD (List.getD x10 (Int.toNat (0 : Int)) zBlk).2.2.2.1 (Int.toNat x7) zVal).2.1)), (w64 (x7 + (1 : Int))), (x17 ++ ([(List.getD x5 (Int.toNat x7) zSg)] : List Signed)))))) (some (.inl (x1, x2, (w64 (x3 + (List.getD x16.2.2.1 (Int.toNat x7) zVal).2.1)), (w64 (x4 + (List.getD (List.getD x10 (Int.toNat (0 : Int)) zBlk).2.2.2.1 (Int.toNat x7) zVal).2.1)), (w64 (x7 + (1 : Int))), x17)))))))) (need (0 ≤ x7 ∧ x7 < (List.length x16.2.2.1 : Int)) (need (0 ≤ (0 : Int) ∧ (0 : Int) < (List.length x10 : Int)) (need (0 ≤ x7 ∧ x7 < (List.length (List.getD x10 (Int.toNat (0 : Int)) zBlk).2.2.2.1 : Int)) (some (.inl (x1, x2, (w64 (x3 + (List.getD x16.2.2.1 (Int.toNat x7) zVal).2.1)), (w64 (x4 + (List.getD (List.getD x10 (Int.toNat (0 : Int)) zBlk).2.2.2.1 (Int.toNat x7) zVal).2.1)), (w64 (x7 + (1 : Int))), x17)))))))) (some (.inr (x1, x2, x3, x4, x8, x9, x10, x11, x12, x13, x14, x15, x16, x17))) : Option ((Int × Int × Int × Int × Int × List Signed) ⊕ (Int × Int × Int × Int × (List (List UInt8 × List UInt8 × Unit)) × (List Val) × (List Block) × (Rows) × Unit × List (List UInt8) × List (List (List UInt8)) × List (List UInt8) × (Hdr × (List Signed) × (List Val) × (List Val) × Unit) × List Signed))) := rfl
theorem pick_eq (l : List Int) (i : Nat) (hl : l.length ≤ 140737488355328) : ∃ r, q1u l (i : Int) = some r ∧ 0 ≤ r ∧ r ≤ 1073741824 := by
 unfold q1u
 by_cases c : l.length = 0
 ·rw [fork_t (by omega)]; exact ⟨0, rfl, by omega, by omega⟩
 ·have h1 := Int.tmod_lt_of_pos (i : Int) (b := (l.length : Int)) (by omega)
  have h0 : 0 ≤ Int.tmod (i : Int) (l.length : Int) := Int.tmod_nonneg _ (by omega)
  obtain ⟨r, er, r1, r2⟩ := within_eq (l.getD (Int.toNat (Int.tmod (i : Int) (l.length : Int))) 0) 0 1073741824 (by omega) (by omega) (by omega)
  rw [fork_f (by omega), need_true (by omega), need_true ⟨h0, h1⟩, er, andThen_mk]
  exact ⟨r, rfl, r1, r2⟩
def pickA (l : List Int) (k : Nat) : Int := 1 + Int.tmod ((q1u l (k : Int)).getD 0) 9
theorem pickA_b (l : List Int) (k : Nat) (hl : l.length ≤ 140737488355328) : 1 ≤ pickA l k ∧ pickA l k ≤ 9 := by
 obtain ⟨r, er, r1, r2⟩ := pick_eq l k hl
 unfold pickA
 rw [er]
 show 1 ≤ 1 + Int.tmod r 9 ∧ 1 + Int.tmod r 9 ≤ 9
 have h1 := Int.tmod_lt_of_pos r (b := 9) (by omega)
 have h0 : 0 ≤ Int.tmod r 9 := Int.tmod_nonneg _ r1
 omega
def powK (ps ch : List Int) : Nat → Nat → Int
 | 0 => pw ps
 | k + 1 => updP (powK ps ch k) k (pickA ch k)
theorem powK_ok (ps ch : List Int) (hl : ch.length ≤ 140737488355328) : ∀ k, PwOk (powK ps ch k)
 | 0 => pw_ok ps
 | k + 1 => by have := pickA_b ch k hl; exact updP_ok (powK_ok ps ch hl k) (by omega) (by omega)
def fK (i : Nat) : Int := (i : Int) + 1
theorem fK_rise : RiseG 16 fK := ⟨fun i hi => by unfold fK; omega, fun i hi => by unfold fK; omega⟩
noncomputable def rK : Nat → List UInt8 := fun _ => root0
theorem names_eq4 : q1j = some [[118, 97], [118, 98], [118, 99], [118, 100]] := rfl
theorem skips_1 (ps ch : List Int) (hl : ch.length ≤ 140737488355328) (who : List Bool) (x : Int) {n : Nat} (hn : n ≤ 4) :
  qr_1 ch who x 0 [] (ringN (powK ps ch 0) n) (blG n rK (fun k => ringN (powK ps ch k) n) fK 1) [[]] () (seedsN n) (ringsN n) (namesN n) = some (who, x, [], ringN (powK ps ch 3) n, blG n rK (fun k => ringN (powK ps ch k) n) fK 4, List.replicate 4 [], (), seedsN n, ringsN n, namesN n) := by
 unfold qr_1
 have := loop_for (step := fun (s : Int × (List PrR) × (List Val) × (List Block) × (Rows) × Unit × List (List UInt8) × List (List (List UInt8)) × List (List UInt8)) => qr_1_step ch who x s.1 s.2.1 s.2.2.1 s.2.2.2.1 s.2.2.2.2.1 s.2.2.2.2.2.1 s.2.2.2.2.2.2.1 s.2.2.2.2.2.2.2.1 s.2.2.2.2.2.2.2.2) (fun i (_ : Unit) => ((i : Int), [], ringN (powK ps ch i) n, blG n rK (fun k => ringN (powK ps ch k) n) fK (i + 1), List.replicate (i + 1) [], (), seedsN n, ringsN n, namesN n)) (fun _ _ => ()) (fun _ => (who, x, [], ringN (powK ps ch 3) n, blG n rK (fun k => ringN (powK ps ch k) n) fK 4, List.replicate 4 [], (), seedsN n, ringsN n, namesN n)) 3 (fun _ _ => True) (fun i w hi _ => ⟨?_, trivial⟩) (fun w _ => ?_) 3 0 () (by omega) trivial
 ·exact this
 ·show qr_1_step ch who x (i : Int) [] (ringN (powK ps ch i) n) (blG n rK (fun k => ringN (powK ps ch k) n) fK (i + 1)) (List.replicate (i + 1) []) () (seedsN n) (ringsN n) (namesN n) = _
  obtain ⟨r, er, r1, r2⟩ := pick_eq ch i hl
  have ha : 1 + Int.tmod r 9 = pickA ch i := by unfold pickA; rw [er]; rfl
  have hb := pickA_b ch i hl
  have h1 := Int.tmod_lt_of_pos r (b := 9) (by omega)
  have h0 : 0 ≤ Int.tmod r 9 := Int.tmod_nonneg _ r1
  have hnm : ([[118, 97], [118, 98], [118, 99], [118, 100]] : List (List UInt8)).getD i [] = nm i := rfl
  have hS : (if pickA ch i < 1 ∨ 1048576 < pickA ch i then ((1 : Int), ([] : List PrR), ringN (powK ps ch i) n, blG n rK (fun k => ringN (powK ps ch k) n) fK (i + 1), (List.replicate (i + 1) [] : Rows), (), seedsN n, ringsN n, namesN n) else if i < n then (0, [], ringN (updP (powK ps ch i) i (pickA ch i)) n, blG n rK (fun k => ringN (powK ps ch k) n) fK (i + 1), List.replicate (i + 1) [], (), seedsN n, ringsN n, namesN n) else (3, [], ringN (powK ps ch i) n, blG n rK (fun k => ringN (powK ps ch k) n) fK (i + 1), List.replicate (i + 1) [], (), seedsN n, ringsN n, namesN n)).2 = ([], ringN (powK ps ch (i + 1)) n, blG n rK (fun k => ringN (powK ps ch k) n) fK (i + 1), List.replicate (i + 1) [], (), seedsN n, ringsN n, namesN n) := by
   rw [if_neg (by omega)]
   split
   ·rfl
   ·show ([], ringN (powK ps ch i) n, _) = ([], ringN (updP (powK ps ch i) i (pickA ch i)) n, _)
    rw [ringN_out _ (by omega)]
  have hc := commitGk (n := n) hn (r := rK) (S := fun k => ringN (powK ps ch k) n) (f := fK) (i + 1) (by omega) [] storeRoot_nil (List.replicate (i + 1) []) (by rw [List.length_replicate]; omega) (fun j _ => ⟨root0_len, ringN_sm _ n hn⟩) (by unfold fK; omega) (fun _ => by unfold fK; omega)
  have hf : fK (i + 1) = 2 + (i : Int) := by unfold fK; omega
  rw [hf] at hc
  rw [sk1_step, fork_t (by omega), names_eq4, andThen_mk, need_true (by simp only [List.length_cons, List.length_nil]; omega), er, andThen_mk, Int.toNat_natCast, hnm, w64_eq (n := 1 + Int.tmod r 9) (by omega) (by omega), ha, do6_eq _ hn (by omega) _ rfl rfl, andThen_mk]
  dsimp only
  rw [hS]
  dsimp only
  rw [w64_eq (n := 2 + (i : Int)) (by omega) (by omega), hc, andThen_mk, w64_eq (by omega) (by omega), List.replicate_succ' (n := i + 1)]
  rfl
 ·show qr_1_step ch who x ((3 : Nat) : Int) _ _ _ _ _ _ _ _ = _
  rw [sk1_step, fork_f (by omega)]
def inW2 (who : List Bool) (i : Nat) : Bool := decide (i < who.length) && who.getD i false
theorem filt_next (g : Nat → Bool) (i : Nat) : (List.range (i + 1)).filter g = (List.range i).filter g ++ (if g i then [i] else []) := by
 rw [List.range_succ, List.filter_append, List.filter_cons]; rfl
theorem pw_next (p : Nat → Int) (i : Nat) : pwJ p (List.range (i + 1)) = pwJ p (List.range i) + p i := by
 rw [List.range_succ, pwJ_snoc]
 show _ + (p i + 0) = _
 omega
theorem pw_filt (p : Nat → Int) (g : Nat → Bool) (i : Nat) : pwJ p ((List.range (i + 1)).filter g) = pwJ p ((List.range i).filter g) + (if g i then p i else 0) := by
 rw [filt_next, pwJ_snoc]
 split
 ·show _ + (p i + 0) = _; omega
 ·rfl
theorem pw_bnd {p : Nat → Int} (hp : PwOk p) (js : List Nat) (hl : js.length ≤ 4) : 0 ≤ pwJ p js ∧ pwJ p js ≤ 8388608 := by
 have := pwJ_b p hp.s js
 omega
theorem sg_filt (h : Hdr) (g : Nat → Bool) (i : Nat) : sgJ h ((List.range (i + 1)).filter g) = sgJ h ((List.range i).filter g) ++ (if g i then [sgS h (nm i) (seedK i)] else []) := by
 rw [filt_next]
 unfold sgJ
 rw [List.map_append]
 split <;> rfl
theorem skips_2 (who : List Bool) (hw : who.length ≤ 140737488355328) {n : Nat} (hn : n ≤ 4) {P : Nat → Nat → Int} (hP : ∀ j, PwOk (P j)) (j : Nat) (h : Hdr) (N : List PrR) (S : List Val) (B : List Block) (R : Rows) (u : Unit) (se : List (List UInt8)) (ri : List (List (List UInt8))) (na : List (List UInt8)) (b : Block) (hb : b.2.2.1 = ringN (pB P j) n) (hB0 : 0 < B.length) (hB : (B.getD 0 zBlk).2.2.2.1 = ringN (P 0) n) (s : List Signed) (hs : s = sgJ h (List.range n)) :
  qr_2 who 0 0 0 0 s (s.length : Int) 0 N S B R u se ri na b [] = some (pwJ (pB P j) ((List.range n).filter (inW2 who)), pwJ (P 0) ((List.range n).filter (inW2 who)), pwJ (pB P j) (List.range n), pwJ (P 0) (List.range n), N, S, B, R, u, se, ri, na, b, sgJ h ((List.range n).filter (inW2 who))) := by
 have hl : ∀ p, (ringN p n).length = n := fun p => by simp [ringN]
 have hsl : s.length = n := by rw [hs, sgJ_len, List.length_range]
 rw [hsl]
 unfold qr_2
 have := loop_for (step := fun (t : Int × Int × Int × Int × Int × List Signed) => qr_2_step who t.1 t.2.1 t.2.2.1 t.2.2.2.1 s (n : Int) t.2.2.2.2.1 N S B R u se ri na b t.2.2.2.2.2) (fun i (_ : Unit) => (pwJ (pB P j) ((List.range i).filter (inW2 who)), pwJ (P 0) ((List.range i).filter (inW2 who)), pwJ (pB P j) (List.range i), pwJ (P 0) (List.range i), (i : Int), sgJ h ((List.range i).filter (inW2 who)))) (fun _ _ => ()) (fun _ => (pwJ (pB P j) ((List.range n).filter (inW2 who)), pwJ (P 0) ((List.range n).filter (inW2 who)), pwJ (pB P j) (List.range n), pwJ (P 0) (List.range n), N, S, B, R, u, se, ri, na, b, sgJ h ((List.range n).filter (inW2 who)))) n (fun _ _ => True) (fun i w hi _ => ⟨?_, trivial⟩) (fun w _ => ?_) n 0 () (by omega) trivial
 ·exact this
 ·show qr_2_step who (pwJ (pB P j) ((List.range i).filter (inW2 who))) (pwJ (P 0) ((List.range i).filter (inW2 who))) (pwJ (pB P j) (List.range i)) (pwJ (P 0) (List.range i)) s (n : Int) (i : Int) N S B R u se ri na b (sgJ h ((List.range i).filter (inW2 who))) = some (.inl (pwJ (pB P j) ((List.range (i + 1)).filter (inW2 who)), pwJ (P 0) ((List.range (i + 1)).filter (inW2 who)), pwJ (pB P j) (List.range (i + 1)), pwJ (P 0) (List.range (i + 1)), ((i + 1 : Nat) : Int), sgJ h ((List.range (i + 1)).filter (inW2 who))))
  have hp := pB_ok hP j
  have g1 : ((ringN (pB P j) n).getD i zVal).2.1 = pB P j i := by rw [show (ringN (pB P j) n).getD i zVal = mkRing (pB P j) i from getD_rng _ _ hi]; rfl
  have g2 : ((ringN (P 0) n).getD i zVal).2.1 = P 0 i := by rw [show (ringN (P 0) n).getD i zVal = mkRing (P 0) i from getD_rng _ _ hi]; rfl
  have g3 : s.getD i zSg = sgS h (nm i) (seedK i) := by
   rw [hs]
   exact getD_rng (fun j => sgS h (nm j) (seedK j)) zSg hi
  have l1 := filt_len (inW2 who) i
  have b1 := pw_bnd hp ((List.range i).filter (inW2 who)) (by omega)
  have b2 := pw_bnd (hP 0) ((List.range i).filter (inW2 who)) (by omega)
  have b3 := pw_bnd hp (List.range i) (by rw [List.length_range]; omega)
  have b4 := pw_bnd (hP 0) (List.range i) (by rw [List.length_range]; omega)
  have p1 := hp i
  have p2 := hP 0 i
  rw [sk2_step, fork_t (by omega), need_true (by omega), Int.toNat_natCast, show Int.toNat (0 : Int) = 0 from rfl, hb, hB, hl, hl, g1, g2, g3, pw_filt, pw_filt, pw_next, pw_next, sg_filt, w64_eq (n := pwJ (pB P j) (List.range i) + _) (by omega) (by omega), w64_eq (n := pwJ (P 0) (List.range i) + _) (by omega) (by omega), w64_eq (n := (i : Int) + 1) (by omega) (by omega)]
  unfold inW2
  by_cases c : i < who.length
  ·rw [fork_t (by omega), need_true (by omega), need_true (by omega), need_true (by omega), need_true (by omega), decide_eq_true c, Bool.true_and]
   cases who.getD i false with
   | true =>
    rw [fork_tt, need_true (by
     have : (sgJ h (List.filter (inW2 who) (List.range i))).length ≤ i := by rw [sgJ_len]; exact l1
     have h2 : (sgJ h (List.filter (fun i => decide (i < who.length) && who.getD i false) (List.range i))).length ≤ i := this
     rw [List.length_singleton]; omega)]
    have w1 : w64 (pwJ (pB P j) (List.filter (fun i => decide (i < who.length) && who.getD i false) (List.range i)) + pB P j i) = pwJ (pB P j) (List.filter (fun i => decide (i < who.length) && who.getD i false) (List.range i)) + pB P j i := w64_eq (by have : 0 ≤ pwJ (pB P j) (List.filter (fun i => decide (i < who.length) && who.getD i false) (List.range i)) := b1.1; omega) (by have : pwJ (pB P j) (List.filter (fun i => decide (i < who.length) && who.getD i false) (List.range i)) ≤ 8388608 := b1.2; omega)
    have w2 : w64 (pwJ (P 0) (List.filter (fun i => decide (i < who.length) && who.getD i false) (List.range i)) + P 0 i) = pwJ (P 0) (List.filter (fun i => decide (i < who.length) && who.getD i false) (List.range i)) + P 0 i := w64_eq (by have : 0 ≤ pwJ (P 0) (List.filter (fun i => decide (i < who.length) && who.getD i false) (List.range i)) := b2.1; omega) (by have : pwJ (P 0) (List.filter (fun i => decide (i < who.length) && who.getD i false) (List.range i)) ≤ 8388608 := b2.2; omega)
    rw [w1, w2]
    rfl
   | false =>
    rw [fork_ff, if_neg (by simp), if_neg (by simp), if_neg (by simp), Int.add_zero, Int.add_zero, List.append_nil]
    rfl
  ·rw [fork_f (by omega), need_true (by omega), need_true (by omega), need_true (by omega), decide_eq_false c, Bool.false_and, if_neg (by simp), if_neg (by simp), if_neg (by simp), Int.add_zero, Int.add_zero, List.append_nil]
   rfl
 ·show qr_2_step who _ _ _ _ s (n : Int) (n : Int) N S B R u se ri na b _ = _
  rw [sk2_step, fork_f (by omega)]
theorem law_LightSkips (y0 y1 : List Int) (y2 : List Bool) (y3 : Int) (w0 : Wf (.slice (.int .i64)) y0) (w1 : Wf (.slice (.int .i64)) y1) (w2 : Wf (.slice .bool) y2) (w3 : Wf (.int .i64) y3) : qr y0 y1 y2 y3 = some true := by
 have e8 : J62 (.int .i64) = 8 := rfl
 have hp0 : y0.length ≤ 140737488351232 := by have := w0.1; rw [e8] at this; omega
 have hp1 : y1.length ≤ 140737488355328 := by have := w1.1; rw [e8] at this; omega
 have hp2 : y2.length ≤ 140737488355328 := by have := w2.1; rw [show J62 .bool = 1 from rfl] at this; omega
 have hn : 1 ≤ setN y0 ∧ setN y0 ≤ 4 := by unfold setN; omega
 have hch := chain_eq y0 hp0
 unfold ringS at hch
 have hP := powK_ok y0 y1 hp1
 have hA := commitA_eq (setN y0) hn.2 1 (ringN (pw y0) (setN y0)) (by omega) (by omega) (ringN_sm _ _ hn.2)
 have hsk := skips_1 y0 y1 hp1 y2 y3 hn.2
 generalize setN y0 = n at *
 have hb1 : blG n rK (fun k => ringN (powK y0 y1 k) n) fK 1 = [blkS n (ringN (pw y0) n) [] 1] := rfl
 rw [hb1] at hsk
 obtain ⟨j, ej, j1, j2⟩ := within_eq y3 1 3 (by omega) (by omega) (by omega)
 have hj : j = ((j.toNat : Nat) : Int) := by omega
 generalize j.toNat = J at hj
 subst hj
 have hBl := blG_len n rK (fun k => ringN (powK y0 y1 k) n) fK 4
 have hB0 := blG_at n rK (fun k => ringN (powK y0 y1 k) n) fK (show 0 < 4 by omega)
 have hBJ := blG_at n rK (fun k => ringN (powK y0 y1 k) n) fK (show J < 4 by omega)
 have hb : (genB n rK (fun k => ringN (powK y0 y1 k) n) fK J).2.2.1 = ringN (pB (powK y0 y1) J) n := preR (powK y0 y1) n J
 have s2 := skips_2 y2 hp2 hn.2 hP J (hG n rK (fun k => ringN (powK y0 y1 k) n) fK J) [] (ringN (powK y0 y1 3) n) (blG n rK (fun k => ringN (powK y0 y1 k) n) fK 4) (List.replicate 4 []) () (seedsN n) (ringsN n) (namesN n) (genB n rK (fun k => ringN (powK y0 y1 k) n) fK J) hb (by omega) (by rw [hB0]; rfl) (genB n rK (fun k => ringN (powK y0 y1 k) n) fK J).2.1 rfl
 have hnew := new_gen hn.1 hn.2 (r := rK) hP (Nat.le_refl 16) fK_rise (T := 50) (by omega) (j := 0) (by omega)
 have hkn := knows_new (ringN (powK y0 y1 0) n) 50 (hG n rK (fun k => ringN (powK y0 y1 k) n) fK 0)
 have hcok := cli_ok hn.2 hP (Nat.le_refl 16) fK_rise (i := 0) (by omega) hkn
 have hbok := sgB_ok hn.2 (r := rK) (powK y0 y1) fK (j := J) (by omega) root0_len (inW2 y2)
 have hup := upd_eq (sgB n rK (powK y0 y1) fK J (inW2 y2)) 9 ([hG n rK (fun k => ringN (powK y0 y1 k) n) fK 0], ringN (powK y0 y1 0) n, 50, false, ()) hbok hcok (by omega)
 have hs := upd_sgB hn.1 hn.2 (r := rK) hP (Nat.le_refl 16) fK_rise (i := 0) (j := J) (by omega) (by omega) hkn 9 (inW2 y2) (by unfold fK; omega) (by unfold fK; omega)
 rw [hs] at hup
 have b1 := pw_bnd (pB_ok hP J) ((List.range n).filter (inW2 y2)) (by have := filt_len (inW2 y2) n; omega)
 have b2 := pw_bnd (hP 0) ((List.range n).filter (inW2 y2)) (by have := filt_len (inW2 y2) n; omega)
 have b3 := pw_bnd (pB_ok hP J) (List.range n) (by rw [List.length_range]; omega)
 have b4 := pw_bnd (hP 0) (List.range n) (by rw [List.length_range]; omega)
 have h01 : (hG n rK (fun k => ringN (powK y0 y1 k) n) fK J).1 = (J : Int) + 1 := hG_1 _ _ _ _ _
 have h00 : (hG n rK (fun k => ringN (powK y0 y1 k) n) fK 0).1 = 1 := hG_1 _ _ _ _ _
 have hne : hG n rK (fun k => ringN (powK y0 y1 k) n) fK 0 ≠ hG n rK (fun k => ringN (powK y0 y1 k) n) fK J := fun e => by rw [e, h01] at h00; omega
 have l0 := latest_eq ([hG n rK (fun k => ringN (powK y0 y1 k) n) fK 0], ringN (powK y0 y1 0) n, 50, false, ()) (by simp) (by simp)
 have hl0 : lastH ([hG n rK (fun k => ringN (powK y0 y1 k) n) fK 0], ringN (powK y0 y1 0) n, 50, false, ()) = hG n rK (fun k => ringN (powK y0 y1 k) n) fK 0 := rfl
 have l1 := latest_eq (cut6 ([hG n rK (fun k => ringN (powK y0 y1 k) n) fK 0] ++ [hG n rK (fun k => ringN (powK y0 y1 k) n) fK J]), ringN (powK y0 y1 J) n, 50, false, ()) (by unfold cut6; simp) (by unfold cut6; simp)
 rw [lastH_cut _ _ _ (by simp)] at l1
 rw [hl0] at l0
 rw [sk_text, hch, andThen_mk]
 dsimp only
 rw [hA, andThen_mk]
 dsimp only
 have hsk' : qr_1 y1 y2 y3 0 [] (ringN (pw y0) n) [blkS n (ringN (pw y0) n) [] 1] [[]] () (seedsN n) (ringsN n) (namesN n) = _ := hsk
 rw [hsk', andThen_mk]
 dsimp only
 rw [ej, andThen_mk, need_true (by omega), Int.toNat_natCast, hBJ, s2, andThen_mk]
 dsimp only
 rw [need_true (by omega), show Int.toNat (0 : Int) = 0 from rfl, hB0]
 show andThen (q2v (hG n rK (fun k => ringN (powK y0 y1 k) n) fK 0) (ringN (powK y0 y1 0) n) 50) _ = _
 rw [hnew, andThen_mk]
 dsimp only
 rw [fork_nt (by rfl), w64_eq (n := _ * 3) (by omega) (by omega), w64_eq (n := _ * 2) (by omega) (by omega), w64_eq (n := pwJ (powK y0 y1 0) _ * 3) (by omega) (by omega)]
 have hup' : qn ((genB n rK (fun k => ringN (powK y0 y1 k) n) fK J).1, sgJ (hG n rK (fun k => ringN (powK y0 y1 k) n) fK J) ((List.range n).filter (inW2 y2)), (genB n rK (fun k => ringN (powK y0 y1 k) n) fK J).2.2.1, (genB n rK (fun k => ringN (powK y0 y1 k) n) fK J).2.2.2.1, ()) 9 ([hG n rK (fun k => ringN (powK y0 y1 k) n) fK 0], ringN (powK y0 y1 0) n, 50, false, ()) = _ := hup
 have hg1 : (genB n rK (fun k => ringN (powK y0 y1 k) n) fK J).1 = hG n rK (fun k => ringN (powK y0 y1 k) n) fK J := rfl
 by_cases q1 : pwJ (pB (powK y0 y1) J) (List.range n) * 2 < pwJ (pB (powK y0 y1) J) ((List.range n).filter (inW2 y2)) * 3
 ·rw [fork_f (by omega)]
  rw [if_neg (fun q => q q1)] at hup'
  by_cases q2 : (2 : Int) < (hG n rK (fun k => ringN (powK y0 y1 k) n) fK J).1
  ·rw [hg1, fork_t q2]
   by_cases q3 : pwJ (powK y0 y1 0) (List.range n) * 1 < pwJ (powK y0 y1 0) ((List.range n).filter (inW2 y2)) * 3
   ·rw [if_neg (fun q => q.2 q3), hg1] at hup'
    rw [fork_f (by omega), hup', andThen_mk, fork_t (by rfl), l1, andThen_mk, show Ty.beq HdT (hG n rK (fun k => ringN (powK y0 y1 k) n) fK J) (hG n rK (fun k => ringN (powK y0 y1 k) n) fK J) = true from eqHd_self _, beq_self_eq_true, fork_tt, law_LightRuns]
    rfl
   ·rw [if_pos ⟨by omega, q3⟩, hg1] at hup'
    rw [fork_t (by omega), hup', andThen_mk, fork_t (by rfl), l0, andThen_mk, show Ty.beq HdT (hG n rK (fun k => ringN (powK y0 y1 k) n) fK 0) (hG n rK (fun k => ringN (powK y0 y1 k) n) fK J) = false from eqHd_ne hne, beq_self_eq_true, fork_tt, law_LightRuns]
    rfl
  ·rw [if_neg (fun q => by have := q.1; omega), hg1] at hup'
   rw [hg1, fork_f q2, hup', andThen_mk, fork_t (by rfl), l1, andThen_mk, show Ty.beq HdT (hG n rK (fun k => ringN (powK y0 y1 k) n) fK J) (hG n rK (fun k => ringN (powK y0 y1 k) n) fK J) = true from eqHd_self _, beq_self_eq_true, fork_tt, law_LightRuns]
   rfl
 ·rw [if_pos q1, hg1] at hup'
  rw [fork_t (by omega), hg1, hup', andThen_mk, fork_t (by rfl), l0, andThen_mk, show Ty.beq HdT (hG n rK (fun k => ringN (powK y0 y1 k) n) fK 0) (hG n rK (fun k => ringN (powK y0 y1 k) n) fK J) = false from eqHd_ne hne, beq_self_eq_true, fork_tt, law_LightRuns]
  rfl
end Go.Ax.V
