/-
  Chapter 13: a chain's own blocks, one behind the other, or skipping, in time, are all taken; what is known then is the last one's next set.
-/
import Derived.Test.YtanhbdkimbljeaaGreatCLightHonestLB
namespace Go.Ax.V
open Go.Ax
set_option linter.unusedVariables false
set_option linter.unusedSimpArgs false
theorem same_hdr (a : List Hdr) (ha : a.length ≤ 1073741824) : qu a a = some true := by
 have main : qu_1 a a 0 = some (.inr ()) := by
  unfold qu_1
  have := K46 (step := fun (s : Int) => qu_1_step a a s) (fun i (_ : Unit) => (i : Int)) (fun _ _ => ()) (fun _ => .inr ()) a.length (fun _ _ => True) (fun i w hi _ => ⟨?_, trivial⟩) (fun w _ => ?_) a.length 0 () (by omega) trivial
  ·exact this
  ·unfold qu_1_step
   rw [K2c (by omega), need_true (by omega), need_true (by omega)]
   show fork (!eqHd _ _) _ _ = _
   rw [K1g, Bool.not_true, K27, w64_eq (by omega) (by omega)]
   rfl
  ·unfold qu_1_step
   rw [K26 (by omega)]
 unfold qu
 rw [K2b rfl, main]
 rfl
theorem pick_eq (l : List Int) (i : Nat) (hl : l.length ≤ 140737488355328) : ∃ r, q1t l (i : Int) = some r ∧ 0 ≤ r ∧ r ≤ 1073741824 := by
 unfold q1t
 by_cases c : l.length = 0
 ·rw [K2c (by omega)]; exact ⟨0, rfl, by omega, by omega⟩
 ·have h1 := Int.tmod_lt_of_pos (i : Int) (b := (l.length : Int)) (by omega)
  have h0 : 0 ≤ Int.tmod (i : Int) (l.length : Int) := Int.tmod_nonneg _ (by omega)
  obtain ⟨r, er, r1, r2⟩ := K98 (l.getD (Int.toNat (Int.tmod (i : Int) (l.length : Int))) 0) 0 1073741824 (by omega) (by omega) (by omega)
  rw [K26 (by omega), need_true (by omega), need_true ⟨h0, h1⟩, er, K05]
  exact ⟨r, rfl, r1, r2⟩
theorem K4m : q1q = some [[118, 97], [118, 98], [118, 99], [118, 100]] := rfl
theorem ho_text (a0 : List Int) (a1 : List Int) (a2 : List (Int × Int × Int × Int × Int × Unit)) : qn a0 a1 a2 =
  (andThen (q1r a0) (fun u1 => andThen (qn_1 a1 a2 (0 : Int) ([] : List (List UInt8 × List UInt8 × Unit)) u1.2.2.2.2 ([] : List Block) ([] : Rows) u1.1 u1.2.1 u1.2.2.1 u1.2.2.2.1) (fun o20 => need (0 ≤ (0 : Int) ∧ (0 : Int) < (List.length o20.2.2.2.1 : Int)) (andThen (q3a ((List.getD o20.2.2.2.1 (Int.toNat (0 : Int)) zBlk).1) ((List.getD o20.2.2.2.1 (Int.toNat (0 : Int)) zBlk).2.2.2.1) (100 : Int)) (fun u23 => (match u23 with | .inl u25 => none | .inr u26 => fork (!decide (u26.1 = (0 : Int))) (none) (andThen (qn_2 o20.1 (0 : Int) (0 : Int) o20.2.1 o20.2.2.1 o20.2.2.2.1 o20.2.2.2.2.1 o20.2.2.2.2.2.1 o20.2.2.2.2.2.2.1 o20.2.2.2.2.2.2.2.1 o20.2.2.2.2.2.2.2.2 u26.2) (fun o44 => (match o44 with | .inl o46 => andThen (qx o46) (fun u48 => andThen (qs u48.1 u48.2.1 u48.2.2) (fun u50 => andThen (qt o46) (fun u52 => andThen (qu u50 u52) (fun u54 => fork u54 (andThen (qt o46) (fun u57 => fork (decide ((List.length u57 : Int) ≤ (6 : Int))) (andThen (qm o46) (fun u60 => fork (!u60) (andThen (qj (5000 : Int) o46) (fun u63 => fork u63 (andThen (ql o46) (fun u66 => andThen (qj u66.2.1 o46) (fun u68 => fork (!u68) (andThen (qy) (fun u71 => some u71)) (none)))) (none))) (none))) (none))) (none))))) | .inr o47 => some o47)))))))) : Option (Bool)) := rfl
theorem K30 (x0 : List Int) (x1 : List (Int × Int × Int × Int × Int × Unit)) (x2 : Int) (x3 : List (List UInt8 × List UInt8 × Unit)) (x4 : List Val) (x5 : List Block) (x6 : Rows) (x7 : Unit) (x8 : List (List UInt8)) (x9 : List (List (List UInt8))) (x10 : List (List UInt8)) : qn_1_step x0 x1 x2 x3 x4 x5 x6 x7 x8 x9 x10 =
  (fork (decide (x2 < (8 : Int))) (fork (decide (x2 < (List.length x1 : Int))) (need (0 ≤ x2 ∧ x2 < (List.length x1 : Int)) (andThen (q1o (List.getD x1 (Int.toNat x2) ((0 : Int), (0 : Int), (0 : Int), (0 : Int), (0 : Int), ()))) (fun u7 => fork (!decide (u7.1 = (6 : Int))) (andThen (q1o (List.getD x1 (Int.toNat x2) ((0 : Int), (0 : Int), (0 : Int), (0 : Int), (0 : Int), ()))) (fun u10 => andThen (qh u10 x3 x4 x5 x6 x7 x8 x9 x10) (fun u12 => andThen (qb (w64 ((5 : Int) * (w64 (x2 + (1 : Int))))) u12.2.1 u12.2.2.1 u12.2.2.2.1 u12.2.2.2.2.1 u12.2.2.2.2.2.1 u12.2.2.2.2.2.2.1 u12.2.2.2.2.2.2.2.1 u12.2.2.2.2.2.2.2.2) (fun u14 => some (.inl ((w64 (x2 + (1 : Int))), u14.2.1, u14.2.2.1, u14.2.2.2.1, u14.2.2.2.2.1, u14.2.2.2.2.2.1, u14.2.2.2.2.2.2.1, u14.2.2.2.2.2.2.2.1, u14.2.2.2.2.2.2.2.2)))))) (andThen (qb (w64 ((5 : Int) * (w64 (x2 + (1 : Int))))) x3 x4 x5 x6 x7 x8 x9 x10) (fun u16 => some (.inl ((w64 (x2 + (1 : Int))), u16.2.1, u16.2.2.1, u16.2.2.2.1, u16.2.2.2.2.1, u16.2.2.2.2.2.1, u16.2.2.2.2.2.2.1, u16.2.2.2.2.2.2.2.1, u16.2.2.2.2.2.2.2.2))))))) (andThen (qb (w64 ((5 : Int) * (w64 (x2 + (1 : Int))))) x3 x4 x5 x6 x7 x8 x9 x10) (fun u18 => some (.inl ((w64 (x2 + (1 : Int))), u18.2.1, u18.2.2.1, u18.2.2.2.1, u18.2.2.2.2.1, u18.2.2.2.2.2.1, u18.2.2.2.2.2.2.1, u18.2.2.2.2.2.2.2.1, u18.2.2.2.2.2.2.2.2))))) (some (.inr (x0, x3, x4, x5, x6, x7, x8, x9, x10))) : Option ((Int × (List (List UInt8 × List UInt8 × Unit)) × (List Val) × (List Block) × (Rows) × Unit × List (List UInt8) × List (List (List UInt8)) × List (List UInt8)) ⊕ (List Int × (List (List UInt8 × List UInt8 × Unit)) × (List Val) × (List Block) × (Rows) × Unit × List (List UInt8) × List (List (List UInt8)) × List (List UInt8)))) := rfl
theorem K31 (x0 : List Int) (x1 : Int) (x2 : Int) (x3 : List (List UInt8 × List UInt8 × Unit)) (x4 : List Val) (x5 : List Block) (x6 : Rows) (x7 : Unit) (x8 : List (List UInt8)) (x9 : List (List (List UInt8))) (x10 : List (List UInt8)) (x11 : (List Hdr) × (List Val) × Int × Bool × Unit) : qn_2_step x0 x1 x2 x3 x4 x5 x6 x7 x8 x9 x10 x11 =
  (fork (decide (x2 < (8 : Int))) (andThen (q1t x0 x2) (fun u30 => fork (decide ((8 : Int) ≤ (w64 ((w64 (x1 + (1 : Int))) + (Int.tmod u30 (3 : Int)))))) (some (.inr (.inl x11))) (need (0 ≤ (w64 ((w64 (x1 + (1 : Int))) + (Int.tmod u30 (3 : Int)))) ∧ (w64 ((w64 (x1 + (1 : Int))) + (Int.tmod u30 (3 : Int)))) < (List.length x5 : Int)) (andThen (qq (List.getD x5 (Int.toNat (w64 ((w64 (x1 + (1 : Int))) + (Int.tmod u30 (3 : Int))))) zBlk) (50 : Int) x11) (fun u34 => fork (!decide (u34.1 = (0 : Int))) (some (.inr (.inr false))) (andThen (ql u34.2) (fun u37 => fork (!(Ty.beq (.fld (.int .i64) (.fld (.int .i64) (.fld (.arr 32 (.int .u8)) (.fld (.arr 32 (.int .u8)) (.fld (.arr 32 (.int .u8)) (.fld (.arr 32 (.int .u8)) .unit)))))) u37 (List.getD x5 (Int.toNat (w64 ((w64 (x1 + (1 : Int))) + (Int.tmod u30 (3 : Int))))) zBlk).1)) (some (.inr (.inr false))) (andThen (qw (w64 ((w64 ((w64 (x1 + (1 : Int))) + (Int.tmod u30 (3 : Int)))) + (1 : Int))) u34.2) (fun u40 => fork (!u40.2.1) (some (.inr (.inr false))) (fork (!(Ty.beq (.arr 32 (.int .u8)) u40.1 (List.getD x5 (Int.toNat (w64 ((w64 (x1 + (1 : Int))) + (Int.tmod u30 (3 : Int))))) zBlk).1.2.2.1)) (some (.inr (.inr false))) (some (.inl ((w64 ((w64 (x1 + (1 : Int))) + (Int.tmod u30 (3 : Int)))), (w64 (x2 + (1 : Int))), u40.2.2))))))))))))) (some (.inr (.inl x11))) : Option ((Int × Int × (List Hdr) × (List Val) × Int × Bool × Unit) ⊕ (((List Hdr) × (List Val) × Int × Bool × Unit) ⊕ (Bool)))) := rfl
theorem K7b (x0 : Int) (x1 : List Hdr) (x2 : Int) (x3 : Int) (x4 : (List Hdr) × (List Val) × Int × Bool × Unit) (x5 : List UInt8) : qw_1_step x0 x1 x2 x3 x4 x5 =
  (fork (decide (x3 < x2)) (need (0 ≤ x3 ∧ x3 < (List.length x1 : Int)) (fork (decide ((List.getD x1 (Int.toNat x3) zHdr).1 = x0)) (some (.inr (.inl (true, x4, (List.getD x1 (Int.toNat x3) zHdr).2.2.1)))) (some (.inl (w64 (x3 + (1 : Int))))))) (some (.inr (.inr (x4, x5)))) : Option ((Int) ⊕ ((Bool × ((List Hdr) × (List Val) × Int × Bool × Unit) × List UInt8) ⊕ (((List Hdr) × (List Val) × Int × Bool × Unit) × List UInt8)))) := rfl
abbrev TxI := Int × Int × Int × Int × Int × Unit
abbrev TxV := Int × List UInt8 × List UInt8 × Int × Int × Unit
theorem tx_eq (k : TxI) : ∃ t : TxV, q1o k = some t ∧ t.2.1.length ≤ 1000 ∧ (t.1 = 6 → ∃ j, j < 4 ∧ t.2.1 = nm j ∧ t.2.2.2.1 ≤ 1000000) := by
 obtain ⟨a, ea, a1, a2⟩ := K98 k.1 1 6 (by omega) (by omega) (by omega)
 obtain ⟨b, eb, _, _⟩ := K98 k.2.2.2.1 0 60 (by omega) (by omega) (by omega)
 obtain ⟨c, ec, _, _⟩ := K98 k.2.2.2.2.1 1 60 (by omega) (by omega) (by omega)
 obtain ⟨i, hi, ei⟩ := kkey_eq k.2.1
 obtain ⟨x, ex, _⟩ := ktext_eq k.2.2.1
 have hkl := keys_b _ (K2g (z := []) (show i < K3d.length from hi))
 unfold q1o
 rw [ea, K05, eb, K05, ec, K05]
 by_cases c1 : a = 1
 ·rw [K2c c1, ei, K05, ex, K05]
  exact ⟨_, rfl, by show (K3d.getD i []).length ≤ 1000; omega, fun h => by have : a = 6 := h; omega⟩
 rw [K26 c1]
 by_cases c2 : a = 2
 ·rw [K2c c2, ei, K05]
  exact ⟨_, rfl, by show (K3d.getD i []).length ≤ 1000; omega, fun h => by have : a = 6 := h; omega⟩
 rw [K26 c2]
 by_cases c6 : a = 6
 ·obtain ⟨j, ej, j1, j2⟩ := K98 k.2.1 0 3 (by omega) (by omega) (by omega)
  obtain ⟨d, ed, d1, d2⟩ := K98 k.2.2.2.1 0 9 (by omega) (by omega) (by omega)
  have hnm : ([[118, 97], [118, 98], [118, 99], [118, 100]] : List (List UInt8)).getD j.toNat [] = nm j.toNat := rfl
  have hlen : ∀ i, i < 4 → (nm i).length ≤ 1000 := by decide
  rw [K2c c6, K4m, K05, ej, K05, need_true (by simp only [List.length_cons, List.length_nil]; omega), ed, K05, hnm]
  exact ⟨_, rfl, hlen _ (by omega), fun _ => ⟨j.toNat, by omega, rfl, by show d ≤ 1000000; omega⟩⟩
 ·obtain ⟨j, ej, j1, j2⟩ := K98 k.2.1 0 2 (by omega) (by omega) (by omega)
  have hlen : ∀ i, i < 3 → (([([97] : List UInt8), ([98] : List UInt8), ([99] : List UInt8)] : List (List UInt8)).getD i []).length ≤ 1000 := by decide
  rw [K26 c6, ej, K05, need_true (by simp only [List.length_cons, List.length_nil]; omega)]
  exact ⟨_, rfl, hlen _ (by omega), fun h => absurd h c6⟩
def fH (i : Nat) : Int := 5 * ((i : Int) + 1)
theorem K1k : RiseG 16 fH := ⟨fun i hi => by unfold fH; omega, fun i hi => by unfold fH; omega⟩
def updR (r : Nat → List UInt8) (i : Nat) (x : List UInt8) : Nat → List UInt8 := fun j => if j = i then x else r j
theorem K8w (r : Nat → List UInt8) (i : Nat) (x : List UInt8) : updR r i x i = x := if_pos rfl
theorem K8x (r : Nat → List UInt8) {i j : Nat} (x : List UInt8) (h : j ≠ i) : updR r i x j = r j := if_neg h
theorem K6q (l : List Pr) : (rootL l).length = 32 := K7z _
theorem honest_1 (ns : List Int) (txs : List TxI) (ht : txs.length ≤ 140737488355328) {p : Nat → Int} (hp : PwOk p) {n : Nat} (hn : n ≤ 4) :
  ∃ o, qn_1 ns txs 0 [] (ringN p n) [] [] () (K7p n) (K6k n) (K4j n) = some o ∧ ∃ N r R, o = (ns, N, ringN p n, blG n r (fun _ => ringN p n) fH 8, R, (), K7p n, K6k n, K4j n) ∧ ∀ j, j < 8 → (r j).length = 32 := by
 unfold qn_1
 refine K45 (step := fun (s : Int × (List PrR) × (List Val) × (List Block) × (Rows) × Unit × List (List UInt8) × List (List (List UInt8)) × List (List UInt8)) => qn_1_step ns txs s.1 s.2.1 s.2.2.1 s.2.2.2.1 s.2.2.2.2.1 s.2.2.2.2.2.1 s.2.2.2.2.2.2.1 s.2.2.2.2.2.2.2.1 s.2.2.2.2.2.2.2.2)
  (fun k s => ∃ (i : Nat) (N : List PrR) (r : Nat → List UInt8) (R : Rows), s = ((i : Int), N, ringN p n, blG n r (fun _ => ringN p n) fH i, R, (), K7p n, K6k n, K4j n) ∧ i + k = 8 ∧ RowB N ∧ R.length ≤ i ∧ ∀ j, j < i → (r j).length = 32)
  (fun o => ∃ N r R, o = (ns, N, ringN p n, blG n r (fun _ => ringN p n) fH 8, R, (), K7p n, K6k n, K4j n) ∧ ∀ j, j < 8 → (r j).length = 32) (fun k s hs => ?_) 8 (0, [], ringN p n, [], [], (), K7p n, K6k n, K4j n) ⟨0, [], fun _ => [], [], rfl, by omega, rowB_nil, by simp, fun j hj => by omega⟩
 obtain ⟨i, N, r, R, rfl, hk, hN, hR, hr⟩ := hs
 by_cases c : i < 8
 ·right
  have com : ∀ N', RowB N' → qb (w64 (5 * w64 ((i : Int) + 1))) N' (ringN p n) (blG n r (fun _ => ringN p n) fH i) R () (K7p n) (K6k n) (K4j n) = some ((i : Int) + 1, N', ringN p n, blG n (updR r i (rootL N')) (fun _ => ringN p n) fH (i + 1), R ++ [N'], (), K7p n, K6k n, K4j n) := fun N' hN' => by
   have hc := commitGk (n := n) hn (r := updR r i (rootL N')) (S := fun _ => ringN p n) (f := fH) i (by omega) N' (by rw [K8w]; exact K7a N' (rowB_kv hN')) R (by omega) (fun j hj => ⟨by
    by_cases e : j = i
    ·rw [e, K8w]; exact K6q _
    ·rw [K8x _ _ e]; exact hr j (by omega), K6g _ n hn⟩) (by unfold fH; omega) (fun _ => by unfold fH; omega)
   rw [K0j (r' := r) (S' := fun _ => ringN p n) (f' := fH) n i (fun j hj => ⟨K8x _ _ (by omega), rfl, rfl⟩)] at hc
   have hf : w64 (5 * w64 ((i : Int) + 1)) = fH i := by
    unfold fH
    rw [w64_eq (n := (i : Int) + 1) (by omega) (by omega), w64_eq (by omega) (by omega)]
   rw [hf]; exact hc
  have nxt : ∀ N', RowB N' → qn_1_step ns txs (i : Int) N (ringN p n) (blG n r (fun _ => ringN p n) fH i) R () (K7p n) (K6k n) (K4j n) = some (.inl (((i + 1 : Nat) : Int), N', ringN p n, blG n (updR r i (rootL N')) (fun _ => ringN p n) fH (i + 1), R ++ [N'], (), K7p n, K6k n, K4j n)) →
    ∃ j s', k = j + 1 ∧ qn_1_step ns txs (i : Int) N (ringN p n) (blG n r (fun _ => ringN p n) fH i) R () (K7p n) (K6k n) (K4j n) = some (.inl s') ∧ ∃ (i : Nat) (N : List PrR) (r : Nat → List UInt8) (R : Rows), s' = ((i : Int), N, ringN p n, blG n r (fun _ => ringN p n) fH i, R, (), K7p n, K6k n, K4j n) ∧ i + j = 8 ∧ RowB N ∧ R.length ≤ i ∧ ∀ j, j < i → (r j).length = 32 := fun N' hN' h => by
   refine ⟨k - 1, _, by omega, h, i + 1, N', updR r i (rootL N'), R ++ [N'], rfl, by omega, hN', by rw [List.length_append, List.length_singleton]; omega, fun j hj => ?_⟩
   by_cases e : j = i
   ·rw [e, K8w]; exact K6q _
   ·rw [K8x _ _ e]; exact hr j (by omega)
  have hw : w64 ((i : Int) + 1) = ((i + 1 : Nat) : Int) := by rw [w64_eq (by omega) (by omega)]; omega
  by_cases c2 : i < txs.length
  ·obtain ⟨t, et, t1, t2⟩ := tx_eq (txs.getD i ((0 : Int), (0 : Int), (0 : Int), (0 : Int), (0 : Int), ()))
   by_cases c3 : t.1 = 6
   ·refine nxt N hN ?_
    rw [K30, K2c (by omega), K2c (by omega), need_true (by omega), Int.toNat_natCast, et, K05, K2b c3, com N hN, K05, hw]
   ·obtain ⟨e, N', p', ed, hN', _, hp'⟩ := do_tot p hp hn t t1 t2 N hN (blG n r (fun _ => ringN p n) fH i) R (K7p n) (K6k n) (K4j n)
    rw [hp' c3] at ed
    refine nxt N' hN' ?_
    rw [K30, K2c (by omega), K2c (by omega), need_true (by omega), Int.toNat_natCast, et, K05, K29 c3, K05, ed, K05]
    dsimp only
    rw [com N' hN', K05, hw]
  ·refine nxt N hN ?_
   rw [K30, K2c (by omega), K26 (by omega), com N hN, K05, hw]
 ·left
  have : i = 8 := by omega
  subst this
  refine ⟨_, ?_, N, r, R, rfl, hr⟩
  show qn_1_step ns txs ((8 : Nat) : Int) N _ _ _ _ _ _ _ = _
  rw [K30, K26 (by omega)]
theorem K6y (x : Int) (l : List Hdr) (h : Hdr) (y : List Val × Int × Bool × Unit) (hl : l.length ≤ 1000) (hh : h.1 = x) (hne : ∀ z ∈ l, z.1 ≠ x) : qw x (l ++ [h], y) = some (h.2.2.1, true, (l ++ [h], y)) := by
 have hlen : (l ++ [h]).length = l.length + 1 := by rw [List.length_append]; rfl
 have m : qw_1 x (l ++ [h]) ((l ++ [h]).length : Int) 0 (l ++ [h], y) (List.replicate 32 0) = some (scan (fun i => if ((l ++ [h]).getD i zHdr).1 = x then some (.inl (true, (l ++ [h], y), ((l ++ [h]).getD i zHdr).2.2.1)) else none) (.inr ((l ++ [h], y), List.replicate 32 0)) 0 (l ++ [h]).length) := by
  unfold qw_1
  refine K47 (step := fun (s : Int) => qw_1_step x (l ++ [h]) ((l ++ [h]).length : Int) s (l ++ [h], y) (List.replicate 32 0)) (fun i => (i : Int)) _ _ (l ++ [h]).length (fun i hi q => ?_) (fun i r hi q => ?_) ?_ (l ++ [h]).length 0 (by omega)
  ·rw [K7b, K2c (by omega), need_true (by omega), Int.toNat_natCast, w64_eq (by omega) (by omega)]
   by_cases e : ((l ++ [h]).getD i zHdr).1 = x
   ·rw [if_pos e] at q; cases q
   ·rw [K26 e]; rfl
  ·rw [K7b, K2c (by omega), need_true (by omega), Int.toNat_natCast]
   by_cases e : ((l ++ [h]).getD i zHdr).1 = x
   ·rw [if_pos e] at q; injection q with q; subst q; rw [K2c e]
   ·rw [if_neg e] at q; cases q
  ·rw [K7b, K26 (by omega)]
 have g : (l ++ [h]).getD l.length zHdr = h := by
  rw [List.getD_eq_getElem?_getD, List.getElem?_append_right (by omega)]; simp
 unfold qw
 dsimp only
 rw [m, K05, K7j (bad := fun i => if ((l ++ [h]).getD i zHdr).1 = x then some (Sum.inl (true, (l ++ [h], y), ((l ++ [h]).getD i zHdr).2.2.1)) else none) (l ++ [h]).length 0 l.length (Nat.zero_le _) (by omega) (fun j _ hj => if_neg (by
  rw [List.getD_eq_getElem?_getD, List.getElem?_append_left hj, List.getElem?_eq_getElem hj]
  exact hne _ (List.getElem_mem _))) (if_pos (by rw [g]; exact hh)), g]
theorem K15 (l : List Hdr) (h : Hdr) (hl : 1 ≤ l.length) : cut6 (l ++ [h]) = (if 6 < l.length + 1 then l.drop 1 else l) ++ [h] := by
 unfold cut6
 rw [List.length_append, List.length_singleton]
 split
 ·rw [List.drop_append_of_le_length hl]
 ·rfl
theorem honest_2 (ns : List Int) (hns : ns.length ≤ 140737488355328) {p : Nat → Int} (hp : PwOk p) {n : Nat} (h1 : 1 ≤ n) (hn : n ≤ 4) {r : Nat → List UInt8} (hr : ∀ j, j < 8 → (r j).length = 32) (N : List PrR) (S : List Val) (R : Rows) (u : Unit) (se : List (List UInt8)) (ri : List (List (List UInt8))) (na : List (List UInt8)) :
  ∃ o, qn_2 ns 0 0 N S (blG n r (fun _ => ringN p n) fH 8) R u se ri na ([hG n r (fun _ => ringN p n) fH 0], ringN p n, 100, false, ()) = some o ∧ ∃ (i : Nat) (c : Cli), o = .inl c ∧ i < 8 ∧ Knows (ringN p n) 100 (hG n r (fun _ => ringN p n) fH i) c ∧ c.1.length ≤ 6 := by
 have hP : ∀ j : Nat, PwOk ((fun _ : Nat => p) j) := fun _ => hp
 unfold qn_2
 refine K45 (step := fun (s : Int × Int × (List Hdr) × (List Val) × Int × Bool × Unit) => qn_2_step ns s.1 s.2.1 N S (blG n r (fun _ => ringN p n) fH 8) R u se ri na s.2.2)
  (fun k s => ∃ (i a : Nat) (c : Cli), s = ((a : Int), (i : Int), c) ∧ i + k = 8 ∧ a < 8 ∧ Knows (ringN p n) 100 (hG n r (fun _ => ringN p n) fH a) c ∧ c.1.length ≤ 6 ∧ ∀ z ∈ c.1, z.1 ≤ (a : Int) + 1)
  (fun o => ∃ (i : Nat) (c : Cli), o = .inl c ∧ i < 8 ∧ Knows (ringN p n) 100 (hG n r (fun _ => ringN p n) fH i) c ∧ c.1.length ≤ 6) (fun k s hs => ?_) 8 (0, 0, [hG n r (fun _ => ringN p n) fH 0], ringN p n, 100, false, ()) ⟨0, 0, _, rfl, by omega, by omega, K3h _ _ _, by simp, fun z hz => by rw [List.mem_singleton.1 hz, hG_1]; omega⟩
 obtain ⟨i, a, c, rfl, hk, ha, hc, hl, hz⟩ := hs
 by_cases c1 : i < 8
 ·obtain ⟨q, eq, q1, q2⟩ := pick_eq ns i hns
  have h3 := Int.tmod_lt_of_pos q (b := 3) (by omega)
  have h0 : 0 ≤ Int.tmod q 3 := Int.tmod_nonneg _ q1
  have hw : w64 (w64 ((a : Int) + 1) + Int.tmod q 3) = (a : Int) + 1 + Int.tmod q 3 := by rw [w64_eq (n := (a : Int) + 1) (by omega) (by omega), w64_eq (by omega) (by omega)]
  by_cases c2 : (8 : Int) ≤ (a : Int) + 1 + Int.tmod q 3
  ·left
   refine ⟨.inl c, ?_, a, c, rfl, ha, hc, hl⟩
   show qn_2_step ns (a : Int) (i : Int) N S _ R u se ri na c = _
   rw [K31, K2c (by omega), eq, K05, hw, K2c c2]
  ·right
   have hb : (a : Int) + 1 + Int.tmod q 3 = (((a : Int) + 1 + Int.tmod q 3).toNat : Int) := by omega
   generalize hB : ((a : Int) + 1 + Int.tmod q 3).toNat = b at hb
   have hab : a < b := by omega
   have hb8 : b < 8 := by omega
   have hbl := K0k n r (fun _ => ringN p n) fH 8
   have hat := K0i n r (fun _ => ringN p n) fH hb8
   have hgs : genB n r (fun _ => ringN p n) fH b = sgB n r (fun _ => p) fH b (fun _ => true) := genB_sg n r (fun _ => p) fH b
   have fa : fH a = 5 * ((a : Int) + 1) := rfl
   have fb : fH b = 5 * ((b : Int) + 1) := rfl
   have us := upd_sgB h1 hn (r := r) hP (Nat.le_refl 16) K1k hab (by omega) hc 50 (fun _ => true) (by omega) (by omega)
   have pw1 := K5n hp (List.range n) (K5s h1)
   have hpb : pB (fun _ => p) b = p := by unfold pB; split <;> rfl
   rw [K1l, hpb, if_neg (fun q => q (by omega)), if_neg (fun q => q.2 (by omega))] at us
   have ue := K8y (sgB n r (fun _ => p) fH b (fun _ => true)) 50 c (sgB_ok hn (fun _ => p) fH (by omega) (hr b hb8) _) (cli_ok hn hP (Nat.le_refl 16) K1k (by omega) hc) (by omega)
   rw [us] at ue
   have hkn := K3i (h := hG n r (fun _ => ringN p n) fH b) hc (by omega)
   have hcut := K15 c.1 (hG n r (fun _ => ringN p n) fH b) hc.1
   have lt := K3r (cut6 (c.1 ++ [hG n r (fun _ => ringN p n) fH b]), ringN p n, 100, false, ()) hkn.1 (by have := hkn.2.1; omega)
   rw [K3p _ _ _ hc.1] at lt
   have hsub : ∀ z ∈ (if 6 < c.1.length + 1 then c.1.drop 1 else c.1), z ∈ c.1 := fun z hz => by
    split at hz
    ·exact List.mem_of_mem_drop hz
    ·exact hz
   have hslen : (if 6 < c.1.length + 1 then c.1.drop 1 else c.1).length ≤ 5 ∨ c.1.length + 1 ≤ 6 ∧ (if 6 < c.1.length + 1 then c.1.drop 1 else c.1).length = c.1.length := by
    split
    ·left; rw [List.length_drop]; omega
    ·right; exact ⟨by omega, rfl⟩
   have rl := K6y ((b : Int) + 1) (if 6 < c.1.length + 1 then c.1.drop 1 else c.1) (hG n r (fun _ => ringN p n) fH b) (ringN p n, 100, false, ()) (by omega) (hG_1 _ _ _ _ _) (fun z hzz => by have := hz z (hsub z hzz); omega)
   rw [← hcut] at rl
   refine ⟨k - 1, ((b : Int), ((i + 1 : Nat) : Int), cut6 (c.1 ++ [hG n r (fun _ => ringN p n) fH b]), ringN p n, 100, false, ()), by omega, ?_, i + 1, b, _, rfl, by omega, hb8, hkn, ?_, fun z hzz => ?_⟩
   ·show qn_2_step ns (a : Int) (i : Int) N S _ R u se ri na c = _
    rw [K31, K2c (by omega), eq, K05, hw, hb, K26 (by omega), need_true (by omega), Int.toNat_natCast, hat, hgs, ue, K05]
    dsimp only
    rw [K2b (by rfl), lt, K05]
    show fork (!(eqHd (hG n r (fun _ => ringN p n) fH b) (hG n r (fun _ => ringN p n) fH b))) _ _ = _
    rw [K1g, Bool.not_true, K27, w64_eq (n := (b : Int) + 1) (by omega) (by omega), rl, K05]
    dsimp only
    rw [Bool.not_true, K27]
    show fork (!(Ty.beq (.arr 32 (.int .u8)) (hG n r (fun _ => ringN p n) fH b).2.2.1 (hG n r (fun _ => ringN p n) fH b).2.2.1)) _ _ = _
    rw [K0e, Bool.not_true, K27, w64_eq (by omega) (by omega)]
    rfl
   ·show (cut6 (c.1 ++ [hG n r (fun _ => ringN p n) fH b])).length ≤ 6
    rw [hcut, List.length_append, List.length_singleton]; omega
   ·have hzz : z ∈ cut6 (c.1 ++ [hG n r (fun _ => ringN p n) fH b]) := hzz
    rw [hcut] at hzz
    rcases List.mem_append.1 hzz with hzz | hzz
    ·have := hz z (hsub z hzz); omega
    ·rw [List.mem_singleton.1 hzz, hG_1]; omega
 ·left
  refine ⟨.inl c, ?_, a, c, rfl, ha, hc, hl⟩
  show qn_2_step ns (a : Int) (i : Int) N S _ R u se ri na c = _
  rw [K31, K26 (by omega)]
theorem K3t (y0 y1 : List Int) (y2 : List TxI) (w0 : Wf (.slice (.int .i64)) y0) (w1 : Wf (.slice (.int .i64)) y1) (w2 : Wf (.slice (.fld (.int .i64) (.fld (.int .i64) (.fld (.int .i64) (.fld (.int .i64) (.fld (.int .i64) .unit)))))) y2) : qn y0 y1 y2 = some true := by
 have e8 : J62 (.int .i64) = 8 := rfl
 have hp0 : y0.length ≤ 140737488351232 := by have := w0.1; rw [e8] at this; omega
 have hp1 : y1.length ≤ 140737488355328 := by have := w1.1; rw [e8] at this; omega
 have hp2 : y2.length ≤ 140737488355328 := by
  have := w2.1
  rw [show J62 (.fld (.int .i64) (.fld (.int .i64) (.fld (.int .i64) (.fld (.int .i64) (.fld (.int .i64) .unit))))) = 40 from rfl] at this; omega
 have hn : 1 ≤ setN y0 ∧ setN y0 ≤ 4 := by unfold setN; omega
 have hp := pw_ok y0
 have hce := K0t y0 hp0
 have hce : q1r y0 = some ((), K7p (setN y0), K6k (setN y0), K4j (setN y0), ringN (pw y0) (setN y0)) := hce
 generalize pw y0 = p at *
 generalize setN y0 = n at *
 obtain ⟨_, eo1, N, r, R, rfl, hr⟩ := honest_1 y1 y2 hp2 hp hn.2
 obtain ⟨_, eo2, i, c, rfl, hi, hc, hcl⟩ := honest_2 y1 hp1 hp hn.1 hn.2 hr N (ringN p n) R () (K7p n) (K6k n) (K4j n)
 have hbl := K0k n r (fun _ => ringN p n) fH 8
 have h0 := K0i n r (fun _ => ringN p n) fH (show 0 < 8 by omega)
 have hP : ∀ j : Nat, PwOk ((fun _ : Nat => p) j) := fun _ => hp
 have hnew := new_gen hn.1 hn.2 (r := r) hP (Nat.le_refl 16) K1k (T := 100) (by omega) (j := 0) (by omega)
 have hok := cli_ok hn.2 hP (Nat.le_refl 16) K1k (show i < 16 by omega) hc
 have x1 := K1h 5000 c hok (by omega)
 have hlt : (lastH c).2.1 = fH i := by rw [hc.2.2.1, hG_t]
 have fi : fH i = 5 * ((i : Int) + 1) := rfl
 have x2 := K1h (lastH c).2.1 c hok (by rw [hlt]; omega)
 rw [hc.2.2.2.2.1, hlt, decide_eq_true (by omega)] at x1
 rw [hc.2.2.2.2.1, Int.sub_self, decide_eq_false (by omega)] at x2
 have lt := K3r c hc.1 (by omega)
 have hv : c.2.1.length ≤ 4 := by rw [hc.2.2.2.1]; simp [ringN]; omega
 have hcopy : qx c = some ((c.2.2.1, c.2.2.2.1, ()), c.1, c.2.1) := by
  unfold qx
  rw [K0x _ (by omega), K05, K0y _ (by omega), K05]
 have hh1 : ∀ a b, qs a c.1 b = some c.1 := fun a b => by
  unfold qs
  rw [K0x _ (by omega), K05]
 have hh2 : qt c = some c.1 := by
  unfold qt
  rw [K0x _ (by omega), K05]
 have hfz : qm c = some false := congrArg some hc.2.2.2.2.2
 rw [ho_text, hce, K05]
 dsimp only
 rw [eo1, K05]
 dsimp only
 rw [need_true (by omega), show Int.toNat (0 : Int) = 0 from rfl, h0]
 show andThen (q3a (hG n r (fun _ => ringN p n) fH 0) (ringN p n) 100) _ = _
 rw [hnew, K05]
 dsimp only
 rw [K2b (by rfl), eo2, K05]
 dsimp only
 rw [hcopy, K05, hh1, K05, hh2, K05, same_hdr _ (by omega), K05, K2d, K05, K2c (by omega), hfz, K05, Bool.not_false, K2d, x1, K05, K2d, lt, K05, x2, K05, Bool.not_false, K2d, K3u]
 rfl
end Go.Ax.V
