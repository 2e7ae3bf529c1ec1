/-
  Chapter 4: depths grow by one where leaves double; a place beyond isn't one; costs are leaves and nodes.
-/
import Derived.Test.YtcdpooojocbakaaCTreeDepthsLTreeRuns
import Derived.Test.YtcdpooojocbakaaCTreeDepthsLWithin
import Derived.Test.YtcdpooojocbakaaCTreeDepthsLBits
namespace Go.Ax.V
open Go.Ax
set_option linter.unusedVariables false
set_option linter.unusedSimpArgs false

theorem leftF_pow : ∀ (f m j n : Nat), 2 ^ m < n → n ≤ 2 ^ (m + 1) → j ≤ m → m - j < f → leftF f (2 ^ j) n = 2 ^ m
  | 0, m, j, n, h1, h2, hj, hf => by omega
  | f + 1, m, j, n, h1, h2, hj, hf => by
    rw [leftF]
    rcases (show j = m ∨ j < m by omega) with e | e
    · subst e
      rw [if_neg (by rw [Nat.pow_succ] at h2; omega)]
    · have hp : 2 * 2 ^ j = 2 ^ (j + 1) := by rw [Nat.pow_succ]; omega
      have hle : 2 ^ (j + 1) ≤ 2 ^ m := Nat.pow_le_pow_right (by omega) (by omega)
      rw [hp, if_pos (by omega)]
      exact leftF_pow f m (j + 1) n h1 h2 (by omega) (by omega)
theorem leftS_pow (m n : Nat) (h1 : 2 ^ m < n) (h2 : n ≤ 2 ^ (m + 1)) (hm : m < 40) : leftS n = 2 ^ m := by
  have := leftF_pow 40 m 0 n h1 h2 (by omega) (by omega)
  rw [Nat.pow_zero] at this
  exact this
theorem pow_cases (n : Nat) (h : 2 ≤ n) (h2 : n ≤ 1048576) : ∃ m, m < 20 ∧ 2 ^ m < n ∧ n ≤ 2 ^ (m + 1) := by
  have : ∀ k, k ≤ 20 → n ≤ 2 ^ k → ∃ m, m < k ∧ 2 ^ m < n ∧ n ≤ 2 ^ (m + 1) := by
    intro k
    induction k with
    | zero => intro _ h; simp at h; omega
    | succ k ih =>
      intro hk hn
      by_cases h3 : n ≤ 2 ^ k
      · obtain ⟨m, a, b, c⟩ := ih (by omega) h3; exact ⟨m, by omega, b, c⟩
      · exact ⟨k, by omega, by omega, hn⟩
  exact this 20 (by omega) (by omega)
/-- No leaf lies deeper. -/
theorem sides_le : ∀ (f m i n : Nat), n ≤ 2 ^ m → n ≤ 1048576 → (sidesF f i n).length ≤ m
  | 0, m, i, n, _, _ => by simp [sidesF]
  | f + 1, m, i, n, h, h2 => by
    rw [sidesF]
    by_cases h1 : n ≤ 1
    · rw [if_pos h1]; simp
    · rw [if_neg h1]
      obtain ⟨k, a, b, c⟩ := pow_cases n (by omega) h2
      have hl := leftS_pow k n b c (by omega)
      have hkm : k < m := by
        rcases Nat.lt_or_ge k m with x | x
        · exact x
        · have : 2 ^ m ≤ 2 ^ k := Nat.pow_le_pow_right (by omega) x
          omega
      obtain ⟨m, rfl⟩ : ∃ m', m = m' + 1 := ⟨m - 1, by omega⟩
      have hk : 2 ^ k ≤ 2 ^ m := Nat.pow_le_pow_right (by omega) (by omega)
      have hc : n ≤ 2 ^ k * 2 := by rw [← Nat.pow_succ]; exact c
      rw [hl]
      split
      · have := sides_le f m i (2 ^ k) hk (by omega); simp; omega
      · have := sides_le f m (i - 2 ^ k) (n - 2 ^ k) (by omega) (by omega); simp; omega
/-- The first leaf lies deepest. -/
theorem sides_first : ∀ (f m n : Nat), 2 ^ m < n → n ≤ 2 ^ (m + 1) → n ≤ 1048576 → m < f → (sidesF f 0 n).length = m + 1
  | 0, m, n, _, _, _, hf => by omega
  | f + 1, m, n, h, h2, h3, hf => by
    have hm : m < 20 := by
      rcases Nat.lt_or_ge m 20 with x | x
      · exact x
      · have : 2 ^ 20 ≤ 2 ^ m := Nat.pow_le_pow_right (by omega) x
        omega
    have hp : 1 ≤ 2 ^ m := Nat.one_le_two_pow
    rw [sidesF, if_neg (by omega), leftS_pow m n h h2 (by omega), if_pos (by omega), List.length_cons]
    cases m with
    | zero =>
      congr 1
      cases f with
      | zero => rfl
      | succ f => rw [sidesF, if_pos (by omega)]; rfl
    | succ m => rw [sides_first f m (2 ^ (m + 1)) (Nat.pow_lt_pow_right (by omega) (by omega)) (Nat.le_refl _) (by omega) (by omega)]
theorem most_loop (k j d : Int) (n : Nat) (hk : k = (n : Int)) (hn : n ≤ 1000) : ∃ m : Nat, affiantlaw4_TreeDepths_1 k j d 0 = some (k, j, d, (m : Int)) ∧ n ≤ 2 ^ m ∧ m ≤ 10 ∧ (m = 0 ∨ 2 ^ (m - 1) < n) := by
  have step : ∀ i : Nat, i ≤ 10 → affiantlaw4_TreeDepths_1_step k j d (i : Int) = if 2 ^ i < n then some (.inl ((i + 1 : Nat) : Int)) else some (.inr (k, j, d, (i : Int))) := by
    intro i hi
    unfold affiantlaw4_TreeDepths_1_step
    have hp : 2 ^ i ≤ 2 ^ 10 := Nat.pow_le_pow_right (by omega) hi
    have e1 : (UInt64.ofNat (Int.toNat ((i : Int) % 18446744073709551616))).toNat = i := by
      rw [show Int.toNat ((i : Int) % 18446744073709551616) = i from by omega, UInt64.toNat_ofNat']; omega
    have e2 : ishl (1 : Int) i = ((2 ^ i : Nat) : Int) := by
      have := ishl_nat 1 i (by omega) (by omega)
      rw [Nat.one_mul] at this
      exact this
    rw [e1, need_true (by omega), Int.toNat_natCast, e2, hk]
    by_cases h : 2 ^ i < n
    · rw [if_pos h, fork_t (by omega), w64_eq (by omega) (by omega)]; rfl
    · rw [if_neg h, fork_f (by omega)]
  have main : ∀ f i : Nat, i + f = 10 → (i = 0 ∨ 2 ^ (i - 1) < n) → ∃ m : Nat, loop (fun (s : Int) => affiantlaw4_TreeDepths_1_step k j d s) (i : Int) = some (k, j, d, (m : Int)) ∧ n ≤ 2 ^ m ∧ m ≤ 10 ∧ (m = 0 ∨ 2 ^ (m - 1) < n) := by
    intro f
    induction f with
    | zero =>
      intro i hi h
      have : i = 10 := by omega
      subst this
      exact ⟨10, loop_out (by rw [step 10 (by omega), if_neg (by omega)]), by omega, by omega, h⟩
    | succ f ih =>
      intro i hi h
      by_cases hlt : 2 ^ i < n
      · obtain ⟨m, a, b⟩ := ih (i + 1) (by omega) (.inr (by simpa using hlt))
        refine ⟨m, ?_, b⟩
        rw [loop_next (show (fun (s : Int) => affiantlaw4_TreeDepths_1_step k j d s) (i : Int) = some (.inl ((i + 1 : Nat) : Int)) from by show affiantlaw4_TreeDepths_1_step k j d (i : Int) = _; rw [step i (by omega), if_pos hlt])]
        exact a
      · exact ⟨i, loop_out (by rw [step i (by omega), if_neg hlt]), by omega, by omega, h⟩
  exact main 10 0 rfl (.inl rfl)
theorem law_TreeDepths (y0 y1 : Int) (w0 : Wf (.int .i64) y0) (w1 : Wf (.int .i64) y1) : affiantlaw4_TreeDepths y0 y1 = some true := by
  unfold affiantlaw4_TreeDepths
  obtain ⟨k, e1, k1, k2⟩ := within_eq y0 1 200 (by omega) (by omega) (by omega)
  obtain ⟨n, rfl⟩ := Int.eq_ofNat_of_zero_le (show 0 ≤ k by omega)
  rw [e1, andThen_mk, w64_eq (by omega) (by omega)]
  obtain ⟨j, e2, j1, j2⟩ := within_eq y1 0 ((n : Int) - 1) (by omega) (by omega) (by omega)
  obtain ⟨i, rfl⟩ := Int.eq_ofNat_of_zero_le j1
  rw [e2, andThen_mk, depth_eq _ _ (by omega), if_pos ((isS_iff _ _).2 (by omega)), andThen_mk]
  simp only [Int.toNat_natCast]
  obtain ⟨m, e3, m1, m2, m3⟩ := most_loop (n : Int) (i : Int) ((sidesF n i n).length : Int) n rfl (by omega)
  rw [e3, andThen_mk]
  simp only
  have hp : 2 ^ m ≤ 2 ^ 10 := Nat.pow_le_pow_right (by omega) m2
  have s1 := sides_le n m i n m1 (by omega)
  have s2 := sides_le (2 * n) (m + 1) i (2 * n) (by rw [Nat.pow_succ]; omega) (by omega)
  have s0 : (sidesF n 0 n).length = m := by
    rcases m3 with h | h
    · subst h
      simp only [Nat.pow_zero] at m1
      have : n = 1 := by omega
      subst this; rfl
    · rcases (show m = 0 ∨ 0 < m by omega) with h0 | h0
      · subst h0
        simp only [Nat.pow_zero] at m1
        have : n = 1 := by omega
        subst this; rfl
      · obtain ⟨q, rfl⟩ : ∃ q, m = q + 1 := ⟨m - 1, by omega⟩
        simp only [Nat.add_sub_cancel] at h
        have : q < 2 ^ q := Nat.lt_two_pow_self
        exact sides_first n q n h m1 (by omega) (by omega)
  have d0 : tree_Depth 0 (n : Int) = some (m : Int) := by
    rw [depth_eq _ _ (by omega), if_pos ((isS_iff _ _).2 (by omega)), Int.toNat_natCast]
    show some ((sidesF n 0 n).length : Int) = _
    rw [s0]
  have d2 : tree_Depth (i : Int) (2 * (n : Int)) = some ((sidesF (2 * n) i (2 * n)).length : Int) := by
    rw [depth_eq _ _ (by omega), if_pos ((isS_iff _ _).2 (by omega)), Int.toNat_natCast, show Int.toNat (2 * (n : Int)) = 2 * n from by omega]
  have d3 : tree_Depth (n : Int) (n : Int) = some (-1) := by
    rw [depth_eq _ _ (by omega), if_neg (fun h => by have := (isS_iff _ _).1 h; omega)]
  have d4 : tree_Depth (-1) (n : Int) = some (-1) := by
    rw [depth_eq _ _ (by omega), if_neg (fun h => by have := (isS_iff _ _).1 h; omega)]
  have d5 : tree_Depth 0 2097152 = some (-1) := by
    rw [depth_eq _ _ (by omega), if_neg (fun h => by have := (isS_iff _ _).1 h; omega)]
  rw [fork_t (by omega), fork_t (by omega), d0, andThen_mk, fork_t rfl, w64_eq (by omega) (by omega), d2, andThen_mk, w64_eq (by omega) (by omega), fork_t (by omega), d3, andThen_mk, fork_t rfl, d4, andThen_mk, fork_t rfl, cost_eq _ (by omega) (by omega), andThen_mk, w64_eq (by omega) (by omega), fork_t (by omega), cost_eq 0 (by omega) (by omega), andThen_mk, fork_t (by decide), d5, andThen_mk, fork_t rfl, law_TreeRuns]
  rfl
end Go.Ax.V
