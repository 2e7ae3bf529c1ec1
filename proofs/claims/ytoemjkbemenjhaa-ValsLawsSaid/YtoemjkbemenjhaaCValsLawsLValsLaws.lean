/-
  Chapter 10: nobody's power is nought, everybody's is all; more than two thirds and more than two thirds have more than a third in common; one more never has less.
-/
import Derived.Test.YtoemjkbemenjhaaCValsLawsLValsLaws1
namespace Go.Ax.V
open Go.Ax
set_option linter.unusedVariables false
set_option linter.unusedSimpArgs false

def pickB (a : List Bool) (i : Nat) : Bool := decide (i < a.length) && a.getD i false
def addIf (b : Bool) (l : List (List UInt8)) (n : List UInt8) : List (List UInt8) := if b then l ++ [n] else l
abbrev L4 := List (List UInt8) × List (List UInt8) × List (List UInt8) × List (List UInt8)
def lawStep (a b : List Bool) (l : List Val) (i : Nat) (s : L4) : L4 :=
  (addIf (pickB a i) s.1 (l.getD i zVal).1, addIf (pickB b i) s.2.1 (l.getD i zVal).1, addIf (pickB a i && pickB b i) s.2.2.1 (l.getD i zVal).1, s.2.2.2 ++ [(l.getD i zVal).1])
def short (n : Nat) (s : L4) : Prop := s.1.length ≤ n ∧ s.2.1.length ≤ n ∧ s.2.2.1.length ≤ n ∧ s.2.2.2.length ≤ n
theorem addIf_len (b : Bool) (l : List (List UInt8)) (n : List UInt8) : (addIf b l n).length ≤ l.length + 1 := by
  unfold addIf; split <;> simp
theorem laws_1 (a b : List Bool) (ha : a.length ≤ 140737488351232) (hb : b.length ≤ 140737488351232) (l : List Val) (hl : l.length ≤ 1000) :
    affiantlaw10_ValsLaws_1 a b (l.length : Int) 0 l [] [] [] [] = some (l, runFor (lawStep a b l) 0 l.length ([], [], [], [])) := by
  unfold affiantlaw10_ValsLaws_1
  refine loop_for (step := fun (s : Int × L4) => affiantlaw10_ValsLaws_1_step a b (l.length : Int) s.1 l s.2.1 s.2.2.1 s.2.2.2.1 s.2.2.2.2) (fun i s => ((i : Int), s)) (lawStep a b l) (fun s => (l, s)) l.length (fun i s => short i s) (fun i s hi hs => ⟨?_, ?_⟩) (fun s hs => ?_) l.length 0 ([], [], [], []) (by omega) (by simp [short])
  · obtain ⟨x, y, z, w⟩ := s
    obtain ⟨h1, h2, h3, h4⟩ := hs
    simp only at h1 h2 h3 h4
    show affiantlaw10_ValsLaws_1_step a b (l.length : Int) (i : Int) l x y z w = _
    unfold affiantlaw10_ValsLaws_1_step
    simp only [zVal_eq]
    have ho : ∀ x : List UInt8, List.length [x] = 1 := fun _ => rfl
    simp (disch := omega) only [fork_t, need_true, Int.toNat_natCast, w64_eq, ho]
    unfold lawStep pickB
    by_cases ca : i < a.length
    · rw [fork_t (by omega), need_true (by omega), decide_eq_true ca, Bool.true_and]
      by_cases cb : i < b.length
      · rw [fork_t (by omega), need_true (by omega), decide_eq_true cb, Bool.true_and]
        cases a.getD i false <;> cases b.getD i false <;> rfl
      · rw [fork_f (by omega), decide_eq_false cb, Bool.false_and, Bool.and_false]
        cases a.getD i false <;> rfl
    · rw [fork_f (by omega), decide_eq_false ca, Bool.false_and, Bool.false_and]
      by_cases cb : i < b.length
      · rw [fork_t (by omega), need_true (by omega), decide_eq_true cb, Bool.true_and]
        cases b.getD i false <;> rfl
      · rw [fork_f (by omega), decide_eq_false cb, Bool.false_and]
        rfl
  · have := addIf_len (pickB a i) s.1 (l.getD i zVal).1
    have := addIf_len (pickB b i) s.2.1 (l.getD i zVal).1
    have := addIf_len (pickB a i && pickB b i) s.2.2.1 (l.getD i zVal).1
    obtain ⟨h1, h2, h3, h4⟩ := hs
    refine ⟨by unfold lawStep; simp only; omega, by unfold lawStep; simp only; omega, by unfold lawStep; simp only; omega, by unfold lawStep; simp; omega⟩
  · show affiantlaw10_ValsLaws_1_step a b (l.length : Int) (l.length : Int) l s.1 s.2.1 s.2.2.1 s.2.2.2 = _
    unfold affiantlaw10_ValsLaws_1_step
    rw [fork_f (by omega)]

theorem pow_mono (p q : Val → Bool) : ∀ (l : List Val), (∀ v ∈ l, 0 ≤ v.2.1) → (∀ v ∈ l, p v = true → q v = true) → pow p l ≤ pow q l
  | [], _, _ => Int.le_refl _
  | v :: l, h, h2 => by
    have ih := pow_mono p q l (fun w hw => h w (List.mem_cons_of_mem _ hw)) (fun w hw => h2 w (List.mem_cons_of_mem _ hw))
    have hv := h v List.mem_cons_self
    have hq := h2 v List.mem_cons_self
    unfold pow at ih ⊢
    by_cases hp : p v
    · rw [List.filter_cons_of_pos hp, List.filter_cons_of_pos (hq hp)]; simp only [List.map_cons, List.sum_cons]; omega
    · rw [List.filter_cons_of_neg hp]
      by_cases hqv : q v
      · rw [List.filter_cons_of_pos hqv]; simp only [List.map_cons, List.sum_cons]; omega
      · rw [List.filter_cons_of_neg hqv]; exact ih
theorem pow_meet (p q r : Val → Bool) : ∀ (l : List Val), (∀ v ∈ l, 0 ≤ v.2.1) → (∀ v ∈ l, r v = (p v && q v)) → pow p l + pow q l ≤ pow (fun _ => true) l + pow r l
  | [], _, _ => by simp [pow]
  | v :: l, h, h2 => by
    have ih := pow_meet p q r l (fun w hw => h w (List.mem_cons_of_mem _ hw)) (fun w hw => h2 w (List.mem_cons_of_mem _ hw))
    have hv := h v List.mem_cons_self
    have hr := h2 v List.mem_cons_self
    unfold pow at ih ⊢
    simp only [List.filter_cons, hr]
    cases p v <;> cases q v <;> simp <;> omega
theorem pow_all (p : Val → Bool) (l : List Val) (h : ∀ v ∈ l, p v = true) : pow p l = pow (fun _ => true) l := by
  unfold pow
  rw [List.filter_eq_self.2 h, List.filter_eq_self.2 (by simp)]
theorem pow_none (p : Val → Bool) (l : List Val) (h : ∀ v ∈ l, p v = false) : pow p l = 0 := by
  unfold pow
  rw [List.filter_eq_nil_iff.2 (by intro v hv; rw [h v hv]; simp)]; rfl
theorem equal_refl (l : List Val) (hl : l.length ≤ 1073741824) : vals_Same l l = some true := by
  have : slices_Equal_LVal_Val_1 l l (l.length : Int) 0 = some (.inr ()) := by
    unfold slices_Equal_LVal_Val_1
    have := loop_for (step := fun (s : Int) => slices_Equal_LVal_Val_1_step l l (l.length : Int) s) (fun i (_ : Unit) => (i : Int)) (fun _ _ => ()) (fun _ => .inr ()) l.length (fun _ _ => True) (fun i w hi _ => ⟨?_, trivial⟩) (fun w _ => ?_) l.length 0 () (by omega) trivial
    · exact this
    · unfold slices_Equal_LVal_Val_1_step
      simp (disch := omega) only [fork_t, need_true, Int.toNat_natCast, w64_eq]
      rw [beq_self _ rfl]
      rfl
    · unfold slices_Equal_LVal_Val_1_step
      rw [fork_f (by omega)]
  unfold vals_Same slices_Equal_LVal_Val
  rw [fork_nt rfl, this]
  rfl

theorem addIf_mem {b : Bool} {l : List (List UInt8)} {n m : List UInt8} : m ∈ addIf b l n ↔ m ∈ l ∨ (b = true ∧ m = n) := by
  unfold addIf; cases b <;> simp
/-- What the loop picks: at each place just those whose mark is set. -/
theorem picked (a b : List Bool) (l : List Val) (inj : ∀ i j, i < l.length → j < l.length → (l.getD i zVal).1 = (l.getD j zVal).1 → i = j) :
    ∀ j, j < l.length → ((l.getD j zVal).1 ∈ (runFor (lawStep a b l) 0 l.length ([], [], [], [])).1 ↔ pickB a j = true) ∧ ((l.getD j zVal).1 ∈ (runFor (lawStep a b l) 0 l.length ([], [], [], [])).2.1 ↔ pickB b j = true) ∧
      ((l.getD j zVal).1 ∈ (runFor (lawStep a b l) 0 l.length ([], [], [], [])).2.2.1 ↔ (pickB a j && pickB b j) = true) ∧ (l.getD j zVal).1 ∈ (runFor (lawStep a b l) 0 l.length ([], [], [], [])).2.2.2 := by
  have inv := runFor_inv (f := lawStep a b l) (n := l.length) (I := fun i s => ∀ j, j < l.length → ((l.getD j zVal).1 ∈ s.1 ↔ j < i ∧ pickB a j = true) ∧ ((l.getD j zVal).1 ∈ s.2.1 ↔ j < i ∧ pickB b j = true) ∧
      ((l.getD j zVal).1 ∈ s.2.2.1 ↔ j < i ∧ (pickB a j && pickB b j) = true) ∧ ((l.getD j zVal).1 ∈ s.2.2.2 ↔ j < i)) (fun i s hi hs j hj => ?_) (k := l.length) (i := 0) (t := ([], [], [], [])) (by omega) (by simp)
  · intro j hj
    obtain ⟨h1, h2, h3, h4⟩ := inv j hj
    exact ⟨h1.trans (by simp [hj]), h2.trans (by simp [hj]), h3.trans (by simp [hj]), h4.2 hj⟩
  · obtain ⟨h1, h2, h3, h4⟩ := hs j hj
    have key : (l.getD j zVal).1 = (l.getD i zVal).1 ↔ j = i := ⟨inj j i hj hi, fun e => by rw [e]⟩
    unfold lawStep
    simp only [addIf_mem, h1, h2, h3, List.mem_append, h4, List.mem_singleton, key]
    by_cases e : j = i
    · subst e; simp
    · have : j < i + 1 ↔ j < i := by omega
      simp [e, this]
theorem mem_getD {l : List Val} {v : Val} (h : v ∈ l) : ∃ j, j < l.length ∧ l.getD j zVal = v := by
  obtain ⟨j, hj, e⟩ := List.getElem_of_mem h
  exact ⟨j, hj, by rw [List.getD_eq_getElem?_getD, List.getElem?_eq_getElem hj]; exact e⟩

theorem setS_len (ps : List Int) : (setS ps).length = setN ps := by simp [setS]
theorem setS_get (ps : List Int) {i : Nat} (h : i < setN ps) : (setS ps).getD i zVal = mkVal (pw ps) i := by
  unfold setS
  rw [List.getD_eq_getElem?_getD, List.getElem?_map, List.getElem?_range h]; rfl
theorem nm_inj : ∀ i, i < 4 → ∀ j, j < 4 → nm i = nm j → i = j := by decide
theorem setN_b (ps : List Int) : 1 ≤ setN ps ∧ setN ps ≤ 4 := by unfold setN; omega
theorem setS_small (ps : List Int) : Small (setS ps) := by
  have := setN_b ps
  refine ⟨by rw [setS_len]; omega, fun v hv => ?_⟩
  unfold setS at hv
  obtain ⟨i, _, rfl⟩ := List.mem_map.1 hv
  have := pw_b ps i
  show 0 ≤ pw ps i ∧ pw ps i ≤ 2097152
  omega
theorem setS_pos (ps : List Int) : 0 < pow (fun _ => true) (setS ps) := by
  have h := pow_bound (fun _ => true) ((setS ps).tail) fun v hv => (setS_small ps).2 v (List.mem_of_mem_tail hv)
  have hn := setN_b ps
  cases hs : setS ps with
  | nil => have := setS_len ps; rw [hs] at this; simp at this; omega
  | cons v l =>
    rw [hs] at h
    have hg := setS_get ps (i := 0) (by omega)
    rw [hs] at hg
    have hv : v = mkVal (pw ps) 0 := hg
    have := pw_b ps 0
    unfold pow at h ⊢
    simp only [List.filter_cons, if_true, List.map_cons, List.sum_cons, List.tail_cons] at h ⊢
    rw [hv]
    show 0 < pw ps 0 + _
    omega

theorem law_ValsLaws (y0 : List Int) (y1 y2 : List Bool) (w0 : Wf (.slice (.int .i64)) y0) (w1 : Wf (.slice .bool) y1) (w2 : Wf (.slice .bool) y2) : affiantlaw10_ValsLaws y0 y1 y2 = some true := by
  have b0 : y0.length ≤ 140737488351232 := by have := w0.1; simp only [tyBytes] at this; omega
  have b1 : y1.length ≤ 140737488351232 := by have := w1.1; simp only [tyBytes] at this; omega
  have b2 : y2.length ≤ 140737488351232 := by have := w2.1; simp only [tyBytes] at this; omega
  unfold affiantlaw10_ValsLaws
  rw [set_eq y0 b0, andThen_mk]
  have hsm := setS_small y0
  have hpos := setS_pos y0
  have hN := setN_b y0
  have hlen := setS_len y0
  have pk := picked y1 y2 (setS y0) (fun i j hi hj e => by
    rw [hlen] at hi hj
    rw [setS_get y0 hi, setS_get y0 hj] at e
    exact nm_inj i (by omega) j (by omega) e)
  have bd := fun p => pow_bound p (setS y0) hsm.2
  rw [laws_1 y1 y2 b1 b2 _ hsm.1, andThen_mk]
  have sh := runFor_inv (f := lawStep y1 y2 (setS y0)) (I := fun i s => short i s) (n := (setS y0).length) (fun i s hi hs => by
    have := addIf_len (pickB y1 i) s.1 ((setS y0).getD i zVal).1
    have := addIf_len (pickB y2 i) s.2.1 ((setS y0).getD i zVal).1
    have := addIf_len (pickB y1 i && pickB y2 i) s.2.2.1 ((setS y0).getD i zVal).1
    obtain ⟨h1, h2, h3, h4⟩ := hs
    exact ⟨by unfold lawStep; simp only; omega, by unfold lawStep; simp only; omega, by unfold lawStep; simp only; omega, by unfold lawStep; simp; omega⟩) (k := (setS y0).length) (i := 0) (t := ([], [], [], [])) (by omega) (by simp [short])
  generalize runFor (lawStep y1 y2 (setS y0)) 0 (setS y0).length ([], [], [], []) = s at pk sh ⊢
  obtain ⟨x, y, z, w⟩ := s
  obtain ⟨s1, s2, s3, s4⟩ := sh
  simp only at pk s1 s2 s3 s4
  generalize hl : setS y0 = l at pk hsm hpos hlen bd s1 s2 s3 s4 ⊢
  rw [hlen] at s1 s2 s3 s4
  have hnn : ∀ v ∈ l, 0 ≤ v.2.1 := fun v hv => (hsm.2 v hv).1
  have hmeet := pow_meet (fun v => x.contains v.1) (fun v => y.contains v.1) (fun v => z.contains v.1) l hnn (fun v hv => by
    obtain ⟨j, hj, rfl⟩ := mem_getD hv
    obtain ⟨h1, h2, h3, _⟩ := pk j hj
    rw [Bool.eq_iff_iff, Bool.and_eq_true, List.contains_iff_mem, List.contains_iff_mem, List.contains_iff_mem, h1, h2, h3, Bool.and_eq_true])
  have hzx := pow_mono (fun v => z.contains v.1) (fun v => x.contains v.1) l hnn (fun v hv h => by
    obtain ⟨j, hj, rfl⟩ := mem_getD hv
    obtain ⟨h1, h2, h3, _⟩ := pk j hj
    simp only [List.contains_iff_mem] at h ⊢
    rw [h3, Bool.and_eq_true] at h
    exact h1.2 h.1)
  have hall := pow_all (fun v => w.contains v.1) l (fun v hv => by
    obtain ⟨j, hj, rfl⟩ := mem_getD hv
    simp only [List.contains_iff_mem]
    exact (pk j hj).2.2.2)
  have hnone := pow_none (fun v => ([] : List (List UInt8)).contains v.1) l (fun v hv => rfl)
  have hmore := pow_mono (fun v => x.contains v.1) (fun v => (x ++ [(l.getD 0 zVal).1]).contains v.1) l hnn (fun v hv h => by
    simp only [List.contains_iff_mem] at h ⊢
    exact List.mem_append_left _ h)
  have tx := tally_eq l hsm x (by omega)
  have ty := tally_eq l hsm y (by omega)
  have tz := tally_eq l hsm z (by omega)
  have tw := tally_eq l hsm w (by omega)
  have t0 := tally_eq l hsm [] (by simp)
  have tm := tally_eq l hsm (x ++ [(l.getD 0 zVal).1]) (by simp; omega)
  have bx := bd (fun v => x.contains v.1)
  have by_ := bd (fun v => y.contains v.1)
  have bz := bd (fun v => z.contains v.1)
  have bS := bd (fun _ => true)
  rw [hall] at tw
  rw [hnone] at t0
  generalize pow (fun v => x.contains v.1) l = X at *
  generalize pow (fun v => y.contains v.1) l = Y at *
  generalize pow (fun v => z.contains v.1) l = Z at *
  generalize pow (fun v => (x ++ [(l.getD 0 zVal).1]).contains v.1) l = M at *
  generalize pow (fun _ => true) l = S at *
  have hl4 : l.length ≤ 4 := by omega
  have o1 := over_eq (X, S) 2 3 (by simp only; omega) (by simp only; omega) (by omega) (by omega)
  have o2 := over_eq (Y, S) 2 3 (by simp only; omega) (by simp only; omega) (by omega) (by omega)
  have o3 := over_eq (Z, S) 1 3 (by simp only; omega) (by simp only; omega) (by omega) (by omega)
  have o4 := over_eq (S, S) 2 3 (by simp only; omega) (by simp only; omega) (by omega) (by omega)
  have o5 := over_eq (0, S) 0 1 (by simp only; omega) (by simp only; omega) (by omega) (by omega)
  have ho : ∀ a : List UInt8, List.length [a] = 1 := fun _ => rfl
  have e0 : Int.toNat (0 : Int) = 0 := rfl
  have eqs := equal_refl l (by omega)
  simp only [zVal_eq, e0, List.nil_append, tx, ty, tz, tw, t0, tm, andThen_mk, o1, o2, o3, o4, o5, eqs, law_ValsRuns, fork_tt]
  have tail : ∀ r : Option Bool, fork (decide (S * 2 < X * 3)) (fork (decide (S * 2 < Y * 3)) (fork (!decide (S * 1 < Z * 3)) none r) r) r = r := by
    intro r
    by_cases c1 : S * 2 < X * 3
    · rw [fork_t c1]
      by_cases c2 : S * 2 < Y * 3
      · rw [fork_t c2, fork_nt (by omega)]
      · rw [fork_f c2]
    · rw [fork_f c1]
  rw [tail]
  simp (disch := first | omega | (simp; omega)) only [need_true, fork_t, fork_nf, ho]
  rfl
end Go.Ax.V
