/-
  A block on words, and its sum.
-/
import Derived.Test.YtgjebofbjdfdhaaCRingTurnedLFast2
namespace Go.Ax.V
open Go.Ax
set_option linter.unusedVariables false
set_option linter.unusedSimpArgs false
set_option maxRecDepth 100000

theorem strm_sched (r : Nat) : ∀ (t : List Nat) (a b c d e f g h i j l m n o p q : Nat), (schedN r (q :: p :: o :: n :: m :: l :: j :: i :: h :: g :: f :: e :: d :: c :: b :: a :: t)).reverse = t.reverse ++ strm (16 + r) a b c d e f g h i j l m n o p q := by
  induction r with
  | zero =>
    intro t a b c d e f g h i j l m n o p q
    rw [schedN]
    simp only [Nat.add_zero, strm_succ, strm_zero, List.reverse_cons, List.append_assoc, List.cons_append, List.nil_append]
  | succ r ih =>
    intro t a b c d e f g h i j l m n o p q
    rw [schedN, seqN_eq]
    have := ih (a :: t) b c d e f g h i j l m n o p q (Nat.mod (Nat.add (Nat.add (Nat.add a (s2 b 7 18 3)) j) (s2 p 17 19 10)) 4294967296)
    rw [show 16 + (r + 1) = (16 + r) + 1 from rfl, strm_succ]
    rw [List.reverse_cons, List.append_assoc] at this
    exact this
noncomputable def fin8 (a b c d e f g h : Nat) (l : List Nat) : List Nat :=
  match l with
  | [s, t, u, v, w, x, y, z] =>
    seqK (Nat.mod (Nat.add a s) 4294967296) fun s => seqK (Nat.mod (Nat.add b t) 4294967296) fun t => seqK (Nat.mod (Nat.add c u) 4294967296) fun u => seqK (Nat.mod (Nat.add d v) 4294967296) fun v =>
    seqK (Nat.mod (Nat.add e w) 4294967296) fun w => seqK (Nat.mod (Nat.add f x) 4294967296) fun x => seqK (Nat.mod (Nat.add g y) 4294967296) fun y => seqK (Nat.mod (Nat.add h z) 4294967296) fun z => [s, t, u, v, w, x, y, z]
  | _ => []
noncomputable def blk (a b c d e f g h i j l m n o p q : Nat) (s : List Nat) : List Nat :=
  match s with
  | [s0, s1, s2, s3, s4, s5, s6, s7] => fin8 s0 s1 s2 s3 s4 s5 s6 s7 (rnds (schd kN a b c d e f g h i j l m n o p q) s0 s1 s2 s3 s4 s5 s6 s7)
  | _ => []
def Lt8 (l : List Nat) : Prop := l.length = 8 ∧ ∀ x ∈ l, x < 4294967296
theorem rounds_len : ∀ (ks ws : List Nat) (a b c d e f g h : Nat), (roundsN ks ws a b c d e f g h).length = 8 := by
  intro ks
  induction ks with
  | nil => intros; rfl
  | cons k ks ih =>
    intro ws a b c d e f g h
    cases ws with
    | nil => rfl
    | cons w ws => rw [roundsN, seqN_eq, seqN_eq, seqN_eq, ih]
theorem blk_eq (a b c d e f g h i j l m n o p q : Nat) (s : List Nat) (hs : Lt8 s) : blk a b c d e f g h i j l m n o p q s = blockN [q, p, o, n, m, l, j, i, h, g, f, e, d, c, b, a] s := by
  obtain ⟨h8, hlt⟩ := hs
  match s, h8 with
  | [s0, s1, s2', s3', s4, s5, s6, s7], _ =>
    have k4 : s4 < 4294967296 := hlt s4 (by simp)
    have k5 : s5 < 4294967296 := hlt s5 (by simp)
    have k6 : s6 < 4294967296 := hlt s6 (by simp)
    unfold blk blockN
    simp only
    have hr := strm_sched 48 [] a b c d e f g h i j l m n o p q
    rw [hr, schd_eq, List.reverse_nil, List.nil_append, rnds_eq _ _ _ _ _ _ _ _ _ _ (by rw [strm_len]) k4 k5 k6]
    have h8 := rounds_len kN (strm 64 a b c d e f g h i j l m n o p q) s0 s1 s2' s3' s4 s5 s6 s7
    have hk : kN.length = 64 := rfl
    rw [hk, show 16 + 48 = 64 from rfl]
    generalize roundsN kN (strm 64 a b c d e f g h i j l m n o p q) s0 s1 s2' s3' s4 s5 s6 s7 = v at h8
    match v, h8 with
    | [v0, v1, v2, v3, v4, v5, v6, v7], _ =>
      unfold fin8
      simp only [seqK_eq, add8, seqN_eq, Nat.add_eq, Nat.add_comm]
theorem add8_lt (v s : List Nat) (h : v.length = 8) (h' : s.length = 8) : Lt8 (add8 v s) := by
  match v, h, s, h' with
  | [v0, v1, v2, v3, v4, v5, v6, v7], _, [s0, s1, s2', s3', s4, s5, s6, s7], _ =>
    have hM : ∀ x : Nat, Nat.mod x 4294967296 < 4294967296 := fun x => Nat.mod_lt x (by omega)
    simp only [add8, seqN_eq]
    refine ⟨rfl, fun x hx => ?_⟩
    simp only [List.mem_cons, List.not_mem_nil, or_false] at hx
    rcases hx with rfl | rfl | rfl | rfl | rfl | rfl | rfl | rfl <;> exact hM _
theorem blk_lt (a b c d e f g h i j l m n o p q : Nat) (s : List Nat) (hs : Lt8 s) : Lt8 (blk a b c d e f g h i j l m n o p q s) := by
  rw [blk_eq _ _ _ _ _ _ _ _ _ _ _ _ _ _ _ _ s hs]
  obtain ⟨h8, hlt⟩ := hs
  match s, h8 with
  | [s0, s1, s2', s3', s4, s5, s6, s7], h8 =>
    unfold blockN
    simp only
    exact add8_lt _ _ (rounds_len _ _ _ _ _ _ _ _ _ _) h8

/-! ### Words in place of bytes -/

noncomputable def blocksW : Nat → List Nat → List Nat → List Nat
  | 0, _, s => s
  | r + 1, ws, s => match ws with
    | a :: b :: c :: d :: e :: f :: g :: h :: i :: j :: l :: m :: n :: o :: p :: q :: t => blocksW r t (blk a b c d e f g h i j l m n o p q s)
    | _ => s
theorem outN_app (a b : List Nat) : outN (a ++ b) = outN a ++ outN b := by unfold outN; rw [List.flatMap_append]
theorem outN_cons (x : Nat) (b : List Nat) : outN (x :: b) = UInt8.ofNat (x >>> 24) :: UInt8.ofNat (x >>> 16) :: UInt8.ofNat (x >>> 8) :: UInt8.ofNat x :: outN b := rfl
theorem outN_len : ∀ (a : List Nat), (outN a).length = 4 * a.length
  | [] => rfl
  | x :: a => by rw [outN_cons]; simp only [List.length_cons]; rw [outN_len a]; omega
theorem word_cons (a b c d : UInt8) (l : List UInt8) (i : Nat) : word (a :: b :: c :: d :: l) (i + 1) = word l i := rfl
theorem b8_32 (x : Nat) : (UInt32.ofNat (UInt8.toNat (UInt8.ofNat x))).toNat = x % 256 := by
  rw [UInt32.toNat_ofNat', UInt8.toNat_ofNat']; omega
theorem word_zero (w : Nat) (h : w < 4294967296) (l : List UInt8) : (word (UInt8.ofNat (w >>> 24) :: UInt8.ofNat (w >>> 16) :: UInt8.ofNat (w >>> 8) :: UInt8.ofNat w :: l) 0).toNat = w := by
  show (((UInt32.ofNat (UInt32.toNat (UInt32.ofNat (UInt8.toNat (UInt8.ofNat (w >>> 24)))) <<< 24) ||| UInt32.ofNat (UInt32.toNat (UInt32.ofNat (UInt8.toNat (UInt8.ofNat (w >>> 16)))) <<< 16)) ||| UInt32.ofNat (UInt32.toNat (UInt32.ofNat (UInt8.toNat (UInt8.ofNat (w >>> 8)))) <<< 8)) ||| UInt32.ofNat (UInt8.toNat (UInt8.ofNat w))).toNat = w
  rw [b8_32, b8_32, b8_32, UInt32.toNat_or, UInt32.toNat_or, UInt32.toNat_or, b8_32, UInt32.toNat_ofNat', UInt32.toNat_ofNat', UInt32.toNat_ofNat']
  simp only [Nat.shiftLeft_eq, Nat.shiftRight_eq_div_pow]
  have k1 : w / 2 ^ 24 < 256 := by omega
  have k2 : w / 2 ^ 16 % 256 < 256 := Nat.mod_lt _ (by omega)
  have k3 : w / 2 ^ 8 % 256 < 256 := Nat.mod_lt _ (by omega)
  have m1 : w / 2 ^ 24 % 256 * 2 ^ 24 % 2 ^ 32 = (w / 2 ^ 24) * 2 ^ 24 := by rw [Nat.mod_eq_of_lt k1, Nat.mod_eq_of_lt (by omega)]
  have m2 : w / 2 ^ 16 % 256 * 2 ^ 16 % 2 ^ 32 = (w / 2 ^ 16 % 256) * 2 ^ 16 := Nat.mod_eq_of_lt (by omega)
  have m3 : w / 2 ^ 8 % 256 * 2 ^ 8 % 2 ^ 32 = (w / 2 ^ 8 % 256) * 2 ^ 8 := Nat.mod_eq_of_lt (by omega)
  rw [m1, m2, m3]
  have o1 : (w / 2 ^ 24) * 2 ^ 24 ||| (w / 2 ^ 16 % 256) * 2 ^ 16 = (w / 2 ^ 16 % 256) * 2 ^ 16 + (w / 2 ^ 24) * 2 ^ 24 := by
    rw [Nat.or_comm, or_high _ _ 24 (by omega)]
  have o2 : ((w / 2 ^ 16 % 256) * 2 ^ 16 + (w / 2 ^ 24) * 2 ^ 24) ||| (w / 2 ^ 8 % 256) * 2 ^ 8 = (w / 2 ^ 8 % 256) * 2 ^ 8 + (w / 2 ^ 16) * 2 ^ 16 := by
    rw [show (w / 2 ^ 16 % 256) * 2 ^ 16 + (w / 2 ^ 24) * 2 ^ 24 = (w / 2 ^ 16) * 2 ^ 16 from by omega, Nat.or_comm, or_high _ _ 16 (by omega)]
  have o3 : ((w / 2 ^ 8 % 256) * 2 ^ 8 + (w / 2 ^ 16) * 2 ^ 16) ||| (w % 256) = w := by
    rw [show (w / 2 ^ 8 % 256) * 2 ^ 8 + (w / 2 ^ 16) * 2 ^ 16 = (w / 2 ^ 8) * 2 ^ 8 from by omega, Nat.or_comm, or_high _ _ 8 (by omega)]; omega
  rw [o1, o2, o3]
theorem word_out : ∀ (l : List Nat) (t : List UInt8) (i : Nat), i < l.length → (∀ x ∈ l, x < 4294967296) → (word (outN l ++ t) i).toNat = l.getD i 0
  | x :: l, t, 0, _, hw => by
    simp only [outN_cons, List.cons_append, List.getD_cons_zero]
    exact word_zero x (hw x List.mem_cons_self) _
  | x :: l, t, i + 1, hi, hw => by
    simp only [outN_cons, List.cons_append, List.getD_cons_succ]
    exact (congrArg UInt32.toNat (word_cons _ _ _ _ (outN l ++ t) i)).trans (word_out l t i (by simpa using hi) fun y hy => hw y (List.mem_cons_of_mem _ hy))
theorem words_out (l : List Nat) (hl : l.length = 16) (hw : ∀ x ∈ l, x < 4294967296) : wordsN (outN l) = [l.getD 15 0, l.getD 14 0, l.getD 13 0, l.getD 12 0, l.getD 11 0, l.getD 10 0, l.getD 9 0, l.getD 8 0, l.getD 7 0, l.getD 6 0, l.getD 5 0, l.getD 4 0, l.getD 3 0, l.getD 2 0, l.getD 1 0, l.getD 0 0] := by
  have h : ∀ i, i < 16 → (word (outN l) i).toNat = l.getD i 0 := fun i hi => by
    have := word_out l [] i (by omega) hw
    rwa [List.append_nil] at this
  unfold wordsN
  rw [h 15 (by omega), h 14 (by omega), h 13 (by omega), h 12 (by omega), h 11 (by omega), h 10 (by omega), h 9 (by omega), h 8 (by omega), h 7 (by omega), h 6 (by omega), h 5 (by omega), h 4 (by omega), h 3 (by omega), h 2 (by omega), h 1 (by omega), h 0 (by omega)]
theorem blocksW_zero (ws s : List Nat) : blocksW 0 ws s = s := rfl
theorem blocksW_succ (r : Nat) (a b c d e f g h i j l m n o p q : Nat) (t s : List Nat) : blocksW (r + 1) (a :: b :: c :: d :: e :: f :: g :: h :: i :: j :: l :: m :: n :: o :: p :: q :: t) s = blocksW r t (blk a b c d e f g h i j l m n o p q s) := rfl
theorem blocks_words : ∀ (r : Nat) (ws s : List Nat), ws.length = 16 * r → (∀ x ∈ ws, x < 4294967296) → Lt8 s → blocksN r (outN ws) s = blocksW r ws s ∧ Lt8 (blocksW r ws s)
  | 0, ws, s, _, _, hs => ⟨rfl, hs⟩
  | r + 1, ws, s, hl, hw, hs => by
    match ws, hl, hw with
    | a :: b :: c :: d :: e :: f :: g :: h :: i :: j :: l :: m :: n :: o :: p :: q :: t, hl, hw =>
      have hsplit : outN (a :: b :: c :: d :: e :: f :: g :: h :: i :: j :: l :: m :: n :: o :: p :: q :: t) = outN [a, b, c, d, e, f, g, h, i, j, l, m, n, o, p, q] ++ outN t := outN_app [a, b, c, d, e, f, g, h, i, j, l, m, n, o, p, q] t
      have l64 : (outN [a, b, c, d, e, f, g, h, i, j, l, m, n, o, p, q]).length = 64 := by rw [outN_len]; rfl
      have q1 : ∀ x ∈ [a, b, c, d, e, f, g, h, i, j, l, m, n, o, p, q], x < 4294967296 := fun x hx => hw x (by
        have : a :: b :: c :: d :: e :: f :: g :: h :: i :: j :: l :: m :: n :: o :: p :: q :: t = [a, b, c, d, e, f, g, h, i, j, l, m, n, o, p, q] ++ t := rfl
        rw [this]; exact List.mem_append_left _ hx)
      have hb := blk_lt a b c d e f g h i j l m n o p q s hs
      have ih := blocks_words r t (blk a b c d e f g h i j l m n o p q s) (by simp only [List.length_cons] at hl; omega) (fun x hx => hw x (by
        have : a :: b :: c :: d :: e :: f :: g :: h :: i :: j :: l :: m :: n :: o :: p :: q :: t = [a, b, c, d, e, f, g, h, i, j, l, m, n, o, p, q] ++ t := rfl
        rw [this]; exact List.mem_append_right _ hx)) hb
      rw [blocksN, hsplit, List.take_left' l64, List.drop_left' l64, words_out _ rfl q1, blocksW_succ]
      rw [blk_eq _ _ _ _ _ _ _ _ _ _ _ _ _ _ _ _ s hs] at ih ⊢
      exact ih
/-- Words behind a byte: turned by a byte; what is carried out. -/
def shiftW : Nat → List Nat → List Nat
  | _, [] => []
  | c, w :: ws => (c * 16777216 + w / 256) :: shiftW (w % 256) ws
def carryW : Nat → List Nat → Nat
  | c, [] => c
  | _, w :: ws => carryW (w % 256) ws
theorem shiftW_cons (c w : Nat) (ws : List Nat) : shiftW c (w :: ws) = (c * 16777216 + w / 256) :: shiftW (w % 256) ws := rfl
theorem carryW_cons (c w : Nat) (ws : List Nat) : carryW c (w :: ws) = carryW (w % 256) ws := rfl
theorem u8_congr {a b : Nat} (h : a % 256 = b % 256) : UInt8.ofNat a = UInt8.ofNat b := by
  apply UInt8.toNat_inj.1
  rw [UInt8.toNat_ofNat', UInt8.toNat_ofNat']; omega
theorem shift_bytes : ∀ (ws : List Nat) (c : Nat), c < 256 → (∀ x ∈ ws, x < 4294967296) → outN (shiftW c ws) ++ [UInt8.ofNat (carryW c ws)] = UInt8.ofNat c :: outN ws
  | [], c, _, _ => rfl
  | w :: ws, c, hc, hw => by
    have h0 := hw w (by simp)
    have ih := shift_bytes ws (w % 256) (by omega) (fun x hx => hw x (by simp [hx]))
    rw [shiftW_cons, carryW_cons, outN_cons, outN_cons, List.cons_append, List.cons_append, List.cons_append, List.cons_append, ih]
    simp only [Nat.shiftRight_eq_div_pow]
    rw [u8_congr (a := (c * 16777216 + w / 256) / 2 ^ 24) (b := c) (by omega), u8_congr (a := (c * 16777216 + w / 256) / 2 ^ 16) (b := w / 2 ^ 24) (by omega), u8_congr (a := (c * 16777216 + w / 256) / 2 ^ 8) (b := w / 2 ^ 16) (by omega), u8_congr (a := c * 16777216 + w / 256) (b := w / 2 ^ 8) (by omega), u8_congr (a := w % 256) (b := w) (by omega)]
theorem shiftW_len : ∀ (ws : List Nat) (c : Nat), (shiftW c ws).length = ws.length
  | [], _ => rfl
  | w :: ws, c => by rw [shiftW_cons, List.length_cons, List.length_cons, shiftW_len ws]
theorem shiftW_lt : ∀ (ws : List Nat) (c : Nat), c < 256 → (∀ x ∈ ws, x < 4294967296) → (∀ x ∈ shiftW c ws, x < 4294967296) ∧ carryW c ws < 256
  | [], c, hc, _ => ⟨fun x hx => by simp [shiftW] at hx, hc⟩
  | w :: ws, c, hc, hw => by
    have h0 := hw w (by simp)
    have ih := shiftW_lt ws (w % 256) (by omega) (fun x hx => hw x (by simp [hx]))
    refine ⟨fun x hx => ?_, by rw [carryW_cons]; exact ih.2⟩
    rw [shiftW_cons, List.mem_cons] at hx
    rcases hx with rfl | hx
    · omega
    · exact ih.1 x hx
def padW (x z n : Nat) : Nat → List Nat → List Nat
  | c, [] => Nat.add (Nat.mul c 16777216) x :: (List.replicate z 0 ++ [0, n])
  | c, w :: ws => seqK (Nat.add (Nat.mul c 16777216) (Nat.div w 256)) fun y => seqK (Nat.mod w 256) fun c' => y :: padW x z n c' ws
theorem padW_eq (x z n : Nat) : ∀ (c : Nat) (ws : List Nat), padW x z n c ws = shiftW c ws ++ ((carryW c ws * 16777216 + x) :: (List.replicate z 0 ++ [0, n]))
  | c, [] => rfl
  | c, w :: ws => by
    rw [padW, seqK_eq, seqK_eq, padW_eq x z n (Nat.mod w 256) ws, shiftW_cons, carryW_cons]
    rfl
theorem outN_zero : ∀ z : Nat, outN (List.replicate z 0) = List.replicate (4 * z) 0
  | 0 => rfl
  | z + 1 => by
    rw [List.replicate_succ, outN_cons, outN_zero z, show 4 * (z + 1) = 4 * z + 1 + 1 + 1 + 1 from by omega, List.replicate_succ, List.replicate_succ, List.replicate_succ, List.replicate_succ]
    rfl
def LtW (l : List Nat) : Prop := ∀ x ∈ l, x < 4294967296
noncomputable def shaW (r c : Nat) (ws : List Nat) (x z n : Nat) : List Nat := blocksW r (padW x z n c ws) h0N
/-- A byte, words, up to two bytes: their sum, on words. -/
theorem sha_words (r c : Nat) (hc : c < 256) (ws : List Nat) (hw : LtW ws) (tl : List UInt8) (x y z n : Nat) (hx : x < 16777216) (hn : n < 4294967296) (htl : tl ++ ((128 : UInt8) :: List.replicate y (0 : UInt8)) = [UInt8.ofNat (x >>> 16), UInt8.ofNat (x >>> 8), UInt8.ofNat x])
    (hr : ws.length + 1 + z + 2 = 16 * r) (hlen : (1 + 4 * ws.length + tl.length + 8) / 64 + 1 = r) (hz : (1 + 4 * ws.length + tl.length + 8) / 64 * 64 + 55 - (1 + 4 * ws.length + tl.length) = y + 4 * z)
    (hb : [byteAt (UInt64.ofNat (1 + 4 * ws.length + tl.length) * 8) 7, byteAt (UInt64.ofNat (1 + 4 * ws.length + tl.length) * 8) 6, byteAt (UInt64.ofNat (1 + 4 * ws.length + tl.length) * 8) 5, byteAt (UInt64.ofNat (1 + 4 * ws.length + tl.length) * 8) 4, byteAt (UInt64.ofNat (1 + 4 * ws.length + tl.length) * 8) 3, byteAt (UInt64.ofNat (1 + 4 * ws.length + tl.length) * 8) 2, byteAt (UInt64.ofNat (1 + 4 * ws.length + tl.length) * 8) 1, byteAt (UInt64.ofNat (1 + 4 * ws.length + tl.length) * 8) 0] = outN [0, n]) :
    sha (UInt8.ofNat c :: (outN ws ++ tl)) = outN (shaW r c ws x z n) ∧ Lt8 (shaW r c ws x z n) := by
  have hk := shiftW_lt ws c hc hw
  have h0 : Lt8 h0N := ⟨rfl, by decide⟩
  have len : (UInt8.ofNat c :: (outN ws ++ tl)).length = 1 + 4 * ws.length + tl.length := by rw [List.length_cons, List.length_append, outN_len]; omega
  have hp : padS (UInt8.ofNat c :: (outN ws ++ tl)) = outN (padW x z n c ws) := by
    unfold padS bitsOf
    rw [len, hz, hb, padW_eq, outN_app (shiftW c ws), outN_cons (carryW c ws * 16777216 + x), outN_app (List.replicate z 0), outN_zero]
    have e1 : UInt8.ofNat ((carryW c ws * 16777216 + x) >>> 24) = UInt8.ofNat (carryW c ws) := u8_congr (by rw [Nat.shiftRight_eq_div_pow]; omega)
    have e2 : UInt8.ofNat ((carryW c ws * 16777216 + x) >>> 16) = UInt8.ofNat (x >>> 16) := u8_congr (by rw [Nat.shiftRight_eq_div_pow, Nat.shiftRight_eq_div_pow]; omega)
    have e3 : UInt8.ofNat ((carryW c ws * 16777216 + x) >>> 8) = UInt8.ofNat (x >>> 8) := u8_congr (by rw [Nat.shiftRight_eq_div_pow, Nat.shiftRight_eq_div_pow]; omega)
    have e4 : UInt8.ofNat (carryW c ws * 16777216 + x) = UInt8.ofNat x := u8_congr (by omega)
    rw [e1, e2, e3, e4]
    have e5 : List.replicate (y + 4 * z) (0 : UInt8) = List.replicate y 0 ++ List.replicate (4 * z) 0 := by rw [List.replicate_append_replicate]
    have e6 : outN (shiftW c ws) ++ UInt8.ofNat (carryW c ws) :: UInt8.ofNat (x >>> 16) :: UInt8.ofNat (x >>> 8) :: UInt8.ofNat x :: (List.replicate (4 * z) 0 ++ outN [0, n])
        = (outN (shiftW c ws) ++ [UInt8.ofNat (carryW c ws)]) ++ ([UInt8.ofNat (x >>> 16), UInt8.ofNat (x >>> 8), UInt8.ofNat x] ++ (List.replicate (4 * z) 0 ++ outN [0, n])) := by simp
    rw [e5, e6, shift_bytes ws c hc hw, ← htl]
    simp
    rw [e5, List.append_assoc]
  have hm := blocks_words r (padW x z n c ws) h0N (by rw [padW_eq, List.length_append, shiftW_len, List.length_cons, List.length_append, List.length_replicate]; simp; omega) (fun v hv => by
    rw [padW_eq] at hv
    rcases List.mem_append.1 hv with h | h
    · exact hk.1 v h
    · rw [List.mem_cons] at h
      rcases h with rfl | h
      · omega
      · rcases List.mem_append.1 h with h | h
        · rw [List.eq_of_mem_replicate h]; omega
        · simp only [List.mem_cons, List.not_mem_nil, or_false] at h
          rcases h with rfl | rfl <;> omega) h0
  refine ⟨?_, hm.2⟩
  rw [sha_fast]
  unfold shaN
  rw [len, hlen, hp, hm.1]
  rfl
end Go.Ax.V
