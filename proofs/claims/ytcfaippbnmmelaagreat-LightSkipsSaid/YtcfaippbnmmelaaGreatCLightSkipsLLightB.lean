/-
  A chain's own blocks, and what a client makes of them.
-/
import Derived.Test.YtcfaippbnmmelaaGreatCLightSkipsLLight
namespace Go.Ax.V
open Go.Ax
set_option linter.unusedVariables false
set_option linter.unusedSimpArgs false
theorem names_ring (p : Nat → Int) {n : Nat} (hn : n ≤ 4) (h : Hdr) (h1 : 1 ≤ h.1) (h2 : h.1 ≤ 16) {js : List Nat} (q1 : js.Pairwise (· < ·)) (q2 : ∀ j ∈ js, j < n) (q3 : js.length ≤ 4) : namesS (ringN p n) h (sgJ h js) = js.map nm := by
 unfold namesS namesF
 rw [if_pos (right_sgJ h q1 (fun j hj => by have := q2 j hj; omega) q3), List.filter_eq_self.2, ← nms_sgJ h js]
 ·rfl
 ·intro x hx
  obtain ⟨j, hj, rfl⟩ := List.mem_map.1 hx
  exact good_own _ (ringN_dist p n hn) h h1 h2 (mkRing p j) (List.mem_map_of_mem (List.mem_range.2 (q2 j hj))) (seedK j) rfl
theorem filt_inc (g : Nat → Bool) (n : Nat) : ((List.range n).filter g).Pairwise (· < ·) := List.Pairwise.filter _ List.pairwise_lt_range
theorem filt_lt {g : Nat → Bool} {n j : Nat} (h : j ∈ (List.range n).filter g) : j < n := List.mem_range.1 (List.mem_filter.1 h).1
theorem filt_len (g : Nat → Bool) (n : Nat) : ((List.range n).filter g).length ≤ n := by
 have := List.length_filter_le g (List.range n)
 rwa [List.length_range] at this
theorem part_ring (p : Nat → Int) {n : Nat} (hn : n ≤ 4) (h : Hdr) (h1 : 1 ≤ h.1) (h2 : h.1 ≤ 16) (g : Nat → Bool) : partS (ringN p n) h (sgJ h ((List.range n).filter g)) = pwJ p ((List.range n).filter g) := by
 have hl := filt_len g n
 unfold partS
 rw [names_ring p hn h h1 h2 (filt_inc g n) (fun j hj => filt_lt hj) (by omega)]
 refine pow_ring p _ g n fun i hi => ?_
 show (((List.range n).filter g).map nm).contains (nm i) = g i
 rw [contains_nm (fun j hj => by have := filt_lt hj; omega) (by omega), Bool.eq_iff_iff]
 simp only [List.contains_iff_mem, List.mem_filter, List.mem_range]
 exact ⟨fun x => x.2, fun x => ⟨hi, x⟩⟩
theorem filt_all (n : Nat) : (List.range n).filter (fun _ => true) = List.range n := List.filter_eq_self.2 fun _ _ => rfl
theorem part_all (p : Nat → Int) {n : Nat} (hn : n ≤ 4) (h : Hdr) (h1 : 1 ≤ h.1) (h2 : h.1 ≤ 16) : partS (ringN p n) h (sgJ h (List.range n)) = pwJ p (List.range n) := by
 have := part_ring p hn h h1 h2 fun _ => true
 rwa [filt_all] at this
theorem all_ringN (p : Nat → Int) (n : Nat) : allS (ringN p n) = pwJ p (List.range n) := by
 unfold allS
 rw [pow_ring p (fun _ => true) (fun _ => true) n (fun _ _ => rfl), filt_all]
def PwOk (p : Nat → Int) : Prop := ∀ i, 1 ≤ p i ∧ p i ≤ 1000000
theorem pw_ok (ps : List Int) : PwOk (pw ps) := fun i => by have := pw_b ps i; omega
theorem PwOk.s {p : Nat → Int} (h : PwOk p) : ∀ i, 0 ≤ p i ∧ p i ≤ 2097152 := fun i => by have := h i; omega
theorem pwJ_one {p : Nat → Int} (h : PwOk p) : ∀ js : List Nat, js ≠ [] → 1 ≤ pwJ p js
 | [], e => absurd rfl e
 | j :: js, _ => by
  have := h j
  have := pwJ_b p h.s js
  unfold pwJ at *
  rw [List.map_cons, List.sum_cons]; omega
theorem range_ne {n : Nat} (h : 1 ≤ n) : List.range n ≠ [] := fun e => by have := congrArg List.length e; simp at this; omega
theorem ringN_right {p : Nat → Int} (hp : PwOk p) {n : Nat} (h1 : 1 ≤ n) (hn : n ≤ 4) : rightS (ringN p n) = true := by
 have hl : (ringN p n).length = n := by simp [ringN]
 have hg : ∀ i, i < n → (ringN p n).getD i zVal = mkRing p i := fun i hi => getD_rng _ _ hi
 have h2 : ∀ i, i < 4 → nm i ≠ [] ∧ (nm i).length ≤ 16 := by decide
 unfold rightS
 rw [hl]
 simp only [Bool.and_eq_true, decide_eq_true_eq]
 refine ⟨List.all_eq_true.2 fun i hi => ?_, by omega, by omega⟩
 have hi := List.mem_range.1 hi
 obtain ⟨a, b⟩ := h2 i (by omega)
 have := hp i
 unfold okAt mayS
 rw [hg i hi]
 simp only [Bool.and_eq_true, Bool.or_eq_true, Bool.not_eq_true', decide_eq_true_eq, decide_eq_false_iff_not, beq_iff_eq]
 refine ⟨⟨a, ?_, this.1, ?_⟩, ?_⟩
 ·show ((nm i).length : Int) ≤ 16; omega
 ·show p i ≤ 1048576; omega
 ·by_cases c : i = 0
  ·exact .inl c
  ·right
   rw [hg (i - 1) (by omega)]
   exact nm_inc (i - 1) (by omega) i (by omega) (by omega)
theorem ringN_key (p : Nat → Int) (n : Nat) : KeyOk (ringN p n) := by
 intro v hv
 obtain ⟨i, hi, rfl⟩ := List.mem_map.1 hv
 exact rootS_len _
theorem ringN_smallV {p : Nat → Int} (hp : PwOk p) {n : Nat} (hn : n ≤ 4) : SmallV (ringN p n) := ringN_small p n hn hp.s
theorem en_all {p : Nat → Int} (hp : PwOk p) {n : Nat} (h1 : 1 ≤ n) (hn : n ≤ 4) (h : Hdr) (q1 : 1 ≤ h.1) (q2 : h.1 ≤ 16) : enS (ringN p n) h (sgJ h (List.range n)) = true := by
 unfold enS
 rw [part_all p hn h q1 q2, all_ringN, decide_eq_true_eq]
 have := pwJ_one hp _ (range_ne h1)
 omega
theorem so_all {p : Nat → Int} (hp : PwOk p) {n : Nat} (h1 : 1 ≤ n) (hn : n ≤ 4) (h : Hdr) (q1 : 1 ≤ h.1) (q2 : h.1 ≤ 16) : soS (ringN p n) h (sgJ h (List.range n)) = true := by
 unfold soS
 rw [part_all p hn h q1 q2, all_ringN, decide_eq_true_eq]
 have := pwJ_one hp _ (range_ne h1)
 omega
noncomputable def blF (n : Nat) (S : List Val) (f : Nat → Int) : Nat → List Block
 | 0 => []
 | k + 1 => blF n S f k ++ [blkS n S (blF n S f k) (f k)]
noncomputable def hF (n : Nat) (S : List Val) (f : Nat → Int) (j : Nat) : Hdr := hdS S (blF n S f j) (f j)
noncomputable def honB (n : Nat) (S : List Val) (h : Hdr) : Block := (h, sgJ h (List.range n), S, S, ())
theorem blF_len (n : Nat) (S : List Val) (f : Nat → Int) : ∀ k, (blF n S f k).length = k
 | 0 => rfl
 | k + 1 => by rw [blF, List.length_append, blF_len n S f k]; rfl
theorem nowF (n : Nat) (S : List Val) (f : Nat → Int) : ∀ k, nowS S (blF n S f k) = S
 | 0 => rfl
 | k + 1 => by
  unfold nowS
  rw [blF_len, if_neg (by omega), blF, lastB_snoc]
  rfl
theorem blF_at (n : Nat) (S : List Val) (f : Nat → Int) : ∀ {k j : Nat}, j < k → (blF n S f k).getD j zBlk = honB n S (hF n S f j)
 | k + 1, j, h => by
  rw [blF]
  rcases Nat.lt_or_ge j k with c | c
  ·rw [List.getD_eq_getElem?_getD, List.getElem?_append_left (by rw [blF_len]; exact c), ← List.getD_eq_getElem?_getD]
   exact blF_at n S f c
  ·have : j = k := by omega
   subst this
   rw [List.getD_eq_getElem?_getD, List.getElem?_append_right (by rw [blF_len]; omega), blF_len]
   simp only [Nat.sub_self, List.getElem?_cons_zero, Option.getD_some]
   unfold blkS
   rw [nowF]
   rfl
theorem hF_1 (n : Nat) (S : List Val) (f : Nat → Int) (j : Nat) : (hF n S f j).1 = (j : Int) + 1 := by unfold hF; rw [hdS_1, blF_len]
theorem hF_t (n : Nat) (S : List Val) (f : Nat → Int) (j : Nat) : (hF n S f j).2.1 = f j := hdS_t _ _ _
theorem hF_next (n : Nat) (S : List Val) (f : Nat → Int) (j : Nat) : (hF n S f j).2.2.2.2.1 = setH S := hdS_next _ _ _
theorem hF_vals (n : Nat) (S : List Val) (f : Nat → Int) (j : Nat) : (hF n S f j).2.2.2.1 = setH S := by unfold hF; rw [hdS_vals, nowF]
theorem hF_hashes (n : Nat) (S : List Val) (f : Nat → Int) (j : Nat) : Hashes (hF n S f j) := hdS_hashes _ _ _
theorem hF_right {n : Nat} {S : List Val} {f : Nat → Int} {j : Nat} (hj : j < 16) (h1 : 0 ≤ f j) (h2 : f j ≤ 1073741824) : rightHS (hF n S f j) = true := hdS_right (by rw [blF_len]; exact hj) h1 h2
theorem last_blF (n : Nat) (S : List Val) (f : Nat → Int) (k : Nat) : lastB (blF n S f (k + 1)) = honB n S (hF n S f k) := by
 unfold lastB
 rw [blF_len]
 exact blF_at n S f (by omega)
theorem good_blF {n : Nat} {S : List Val} (hS : SetSm S) (f : Nat → Int) : ∀ k, Good (blF n S f k)
 | 0 => .inl rfl
 | k + 1 => good_snoc hS _ _
def Rise (f : Nat → Int) : Prop := (∀ i, i < 16 → 0 ≤ f i ∧ f i ≤ 1000000000) ∧ ∀ i, i + 1 < 16 → f i < f (i + 1)
theorem Rise.lt {f : Nat → Int} (h : Rise f) {i : Nat} : ∀ {j : Nat}, i < j → j < 16 → f i < f j
 | j + 1, hij, hj => by
  have := h.2 j hj
  rcases Nat.lt_or_ge i j with c | c
  ·have := h.lt c (by omega); omega
  ·have : i = j := by omega
   subst this; omega
theorem commitF {n : Nat} (hn : n ≤ 4) {S : List Val} (hS : SetSm S) {f : Nat → Int} (k : Nat) (hk : k < 16) (h0 : 0 ≤ f k ∧ f k ≤ 1000000000) (h1 : k ≠ 0 → f (k - 1) < f k) :
  qd (f k) (blF n S f k) (List.replicate k []) () (seedsN n) (ringsN n) (namesN n) S = some ((k : Int) + 1, blF n S f (k + 1), List.replicate (k + 1) [], (), seedsN n, ringsN n, namesN n, S) := by
 have hl := blF_len n S f k
 rw [commit_eq n hn (f k) (blF n S f k) (List.replicate k []) S (by omega) (by simp; omega) h0.1 (by omega) ?_ (good_blF hS f k) hS, hl, List.replicate_succ']
 ·rfl
 ·intro hne
  obtain ⟨q, rfl⟩ : ∃ q, k = q + 1 := ⟨k - 1, by omega⟩
  rw [last_blF]
  show (hF n S f q).2.1 < _
  rw [hF_t]
  exact h1 (by omega)
theorem hon_ok {n : Nat} (hn : n ≤ 4) (p : Nat → Int) {h : Hdr} (hh : Hashes h) (h1 : 1 ≤ h.1) (h2 : h.1 ≤ 16) : BlkOk (honB n (ringN p n) h) := by
 have hl : (ringN p n).length = n := by simp [ringN]
 refine ⟨hh, sgJ_ok h h1 h2 _, ?_, ringN_key p n, ringN_key p n, ?_, ?_⟩
 ·show (sgJ h (List.range n)).length ≤ 1000000
  rw [sgJ_len, List.length_range]; omega
 ·show (ringN p n).length ≤ 1000000; omega
 ·show (ringN p n).length ≤ 1000000; omega
theorem whole_hon {p : Nat → Int} (hp : PwOk p) {n : Nat} (h1 : 1 ≤ n) (hn : n ≤ 4) {h : Hdr} (hr : rightHS h = true) (hv : h.2.2.2.1 = setH (ringN p n)) (hx : h.2.2.2.2.1 = setH (ringN p n)) : wholeS (honB n (ringN p n) h) = true := by
 unfold wholeS honB
 simp only
 rw [hr, ringN_right hp h1 hn, hv, hx, show eqH (setH (ringN p n)) (setH (ringN p n)) = true from beq_hash _, decide_eq_true (by rw [sgJ_len, List.length_range]; omega)]
 rfl
def Knows (S : List Val) (P : Int) (h : Hdr) (c : Cli) : Prop := 1 ≤ c.1.length ∧ c.1.length ≤ 1000 ∧ lastH c = h ∧ c.2.1 = S ∧ c.2.2.1 = P ∧ c.2.2.2.1 = false
theorem knows_ok {p : Nat → Int} (hp : PwOk p) {n : Nat} (hn : n ≤ 4) {P : Int} {f : Nat → Int} (hf : Rise f) {i : Nat} (hi : i < 16) {c : Cli} (hc : Knows (ringN p n) P (hF n (ringN p n) f i) c) : CliOk c := by
 obtain ⟨c1, c2, c3, c4, _, _⟩ := hc
 have := hf.1 i hi
 refine ⟨c1, by omega, by rw [c4]; exact ringN_smallV hp hn, ?_, ?_⟩
 ·rw [c3, hF_1]; omega
 ·rw [c3, hF_t]; omega
theorem lastH_snoc (l : List Hdr) (h : Hdr) (x : List Val × Int × Bool × Unit) : lastH (l ++ [h], x) = h := by
 unfold lastH
 simp only
 rw [List.length_append, List.getD_eq_getElem?_getD, List.getElem?_append_right (by simp)]
 simp
theorem lastH_cut (l : List Hdr) (h : Hdr) (x : List Val × Int × Bool × Unit) (hl : 1 ≤ l.length) : lastH (cut6 (l ++ [h]), x) = h := by
 unfold cut6
 split
 ·rw [List.drop_append_of_le_length hl]
  exact lastH_snoc _ _ _
 ·exact lastH_snoc _ _ _
theorem upd_hon {p : Nat → Int} (hp : PwOk p) {n : Nat} (h1 : 1 ≤ n) (hn : n ≤ 4) {P : Int} {f : Nat → Int} (hf : Rise f) {i j : Nat} (hi : i < 16) (hj : j < 16) {c : Cli} (hc : Knows (ringN p n) P (hF n (ringN p n) f i) c) (now : Int) :
  updS (honB n (ringN p n) (hF n (ringN p n) f j)) now c = if j ≤ i then (8, c) else if P < now - f i ∨ now < f j then (6, c) else (0, (cut6 (c.1 ++ [hF n (ringN p n) f j]), ringN p n, P, false, ())) := by
 obtain ⟨c1, c2, c3, c4, c5, c6⟩ := hc
 have r := hF_right (n := n) (S := ringN p n) hj (hf.1 j hj).1 (by have := (hf.1 j hj).2; omega)
 have e1 := hF_1 n (ringN p n) f j
 have e2 := hF_1 n (ringN p n) f i
 unfold updS
 rw [if_neg (by rw [c6]; simp), whole_hon hp h1 hn r (hF_vals _ _ _ _) (hF_next _ _ _ _), if_neg (by simp), c3, e2, hF_t, hF_next]
 show (if (hF n (ringN p n) f j).1 ≤ _ then _ else if (hF n (ringN p n) f j).2.1 ≤ _ then _ else _) = _
 rw [e1, hF_t]
 by_cases q1 : j ≤ i
 ·rw [if_pos (by omega), if_pos q1]
 rw [if_neg (by omega), if_neg q1]
 have := hf.lt (show i < j by omega) hj
 rw [if_neg (by omega), c5]
 by_cases q2 : P < now - f i
 ·rw [if_pos q2, if_pos (.inl q2)]
 rw [if_neg q2]
 show (if now < (hF n (ringN p n) f j).2.1 then _ else _) = _
 rw [hF_t]
 by_cases q3 : now < f j
 ·rw [if_pos q3, if_pos (.inr q3)]
 rw [if_neg q3]
 show (if (hF n (ringN p n) f j).1 = _ ∧ eqH (hF n (ringN p n) f j).2.2.2.1 _ = false then _ else if enS (ringN p n) (hF n (ringN p n) f j) (sgJ (hF n (ringN p n) f j) (List.range n)) = false then _ else if (hF n (ringN p n) f j).1 ≠ _ ∧ soS c.2.1 (hF n (ringN p n) f j) (sgJ (hF n (ringN p n) f j) (List.range n)) = false then _ else (0, (cut6 (c.1 ++ [hF n (ringN p n) f j]), ringN p n, P, c.2.2.2.1, ()))) = _
 rw [hF_vals, show eqH (setH (ringN p n)) (setH (ringN p n)) = true from beq_hash _, if_neg (by simp), en_all hp h1 hn _ (by omega) (by omega), if_neg (by simp), c4, so_all hp h1 hn _ (by omega) (by omega), if_neg (by simp), c6, if_neg (by omega)]
theorem knows_next {S : List Val} {P : Int} {h0 h : Hdr} {c : Cli} (hc : Knows S P h0 c) (hl : c.1.length ≤ 990) : Knows S P h (cut6 (c.1 ++ [h]), S, P, false, ()) := by
 obtain ⟨c1, c2, c3, c4, c5, c6⟩ := hc
 have hcut : 1 ≤ (cut6 (c.1 ++ [h])).length ∧ (cut6 (c.1 ++ [h])).length ≤ 1000 := by
  unfold cut6
  split
  ·rw [List.length_drop, List.length_append]; simp only [List.length_cons, List.length_nil]; omega
  ·rw [List.length_append]; simp only [List.length_cons, List.length_nil]; omega
 exact ⟨hcut.1, hcut.2, lastH_cut _ _ _ c1, rfl, rfl, rfl⟩
theorem new_hon {p : Nat → Int} (hp : PwOk p) {n : Nat} (h1 : 1 ≤ n) (hn : n ≤ 4) {f : Nat → Int} (hf : Rise f) {P : Int} (hP : 0 ≤ P ∧ P ≤ 1073741824) {j : Nat} (hj : j < 16) :
  q2v (hF n (ringN p n) f j) (ringN p n) P = some (.inr (0, ([hF n (ringN p n) f j], ringN p n, P, false, ()))) := by
 have hl : (ringN p n).length = n := by simp [ringN]
 rw [new_eq _ _ _ (ringN_key p n) (by omega)]
 unfold newS
 rw [if_pos ⟨hF_right hj (hf.1 j hj).1 (by have := (hf.1 j hj).2; omega), ringN_right hp h1 hn, by rw [hF_next]; exact beq_hash _, hP.1, hP.2⟩]
theorem knows_new (S : List Val) (P : Int) (h : Hdr) : Knows S P h ([h], S, P, false, ()) := ⟨Nat.le_refl _, by simp, rfl, rfl, rfl, rfl⟩
end Go.Ax.V
