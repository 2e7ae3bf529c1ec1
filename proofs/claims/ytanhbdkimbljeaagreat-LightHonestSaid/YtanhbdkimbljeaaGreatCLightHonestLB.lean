/-
  Chapter 13's runs.
-/
import Derived.Test.YtanhbdkimbljeaaGreatCLightHonestLA
namespace Go.Ax.V
open Go.Ax
set_option linter.unusedVariables false
set_option linter.unusedSimpArgs false
def seedS (seed : List UInt8) (h : Nat) : List UInt8 := sha (114 :: (seed ++ [UInt8.ofNat h]))
def keysN (seed : List UInt8) (n : Nat) : List (List UInt8) := (List.range n).map fun i => KeyS (seedS seed (i + 1))
def keysS (seed : List UInt8) : List (List UInt8) := keysN seed 16
noncomputable def K33 (seed : List UInt8) : List UInt8 := rootS (keysS seed)
abbrev Sig := Int × One × List (List UInt8) × Unit
noncomputable def byS (keys : List (List UInt8)) (seed : List UInt8) (h : Int) (m : List UInt8) : Sig := (h, signS (seedS seed h.toNat) m, pathS keys (h - 1), ())
def noSig : Sig := (0, ([], [], ()), [], ())
def isH (h : Int) : Bool := decide (1 ≤ h) && decide (h ≤ 16)
def verS (id : List UInt8) (j : Int) (m : List UInt8) (s : Sig) : Bool :=
 isH j && (decide (s.1 = j) && ((whoS m s.2.1).2 && ((upS (whoS m s.2.1).1 (j - 1) 16 s.2.2.1).2 && Ty.beq (.arr 32 (.int .u8)) (upS (whoS m s.2.1).1 (j - 1) 16 s.2.2.1).1 id)))
theorem K7o (seed : List UInt8) (h : Nat) : (seedS seed h).length = 32 := K7z _
theorem KeyS_len (seed : List UInt8) : (KeyS seed).length = 32 := K3c _
theorem K3e (seed : List UInt8) (n : Nat) : (keysN seed n).length = n := by simp [keysN]
theorem keysN_32 (seed : List UInt8) (n : Nat) : Len32 (keysN seed n) := by
 intro x hx
 obtain ⟨i, _, rfl⟩ := List.mem_map.1 hx
 exact KeyS_len _
theorem K3f (seed : List UInt8) : (keysS seed).length = 16 := K3e _ _
theorem K3g (seed : List UInt8) : Small (keysS seed) := fun x hx => by rw [keysN_32 seed 16 x hx]; omega
theorem keysS_at (seed : List UInt8) (i : Nat) (h : i < 16) : (keysS seed).getD i [] = KeyS (seedS seed (i + 1)) := by
 unfold keysS keysN
 rw [List.getD_eq_getElem?_getD, List.getElem?_map, List.getElem?_range h]; rfl
theorem isH_eq (h : Int) : q3j h = some (isH h) := by
 unfold q3j isH
 by_cases c : 1 ≤ h
 ·rw [K2c c, decide_eq_true c]; rfl
 ·rw [K26 c, decide_eq_false c]; rfl
theorem isH_t {h : Int} (h1 : 1 ≤ h) (h2 : h ≤ 16) : isH h = true := by unfold isH; rw [decide_eq_true h1, decide_eq_true h2]; rfl
theorem isH_iff {h : Int} : isH h = true ↔ 1 ≤ h ∧ h ≤ 16 := by unfold isH; rw [Bool.and_eq_true, decide_eq_true_eq, decide_eq_true_eq]
noncomputable def sigS (seed : List UInt8) (h : Int) (m : List UInt8) : Sig := byS (keysS seed) seed h m
theorem whoS_len (m : List UInt8) (x : One) : (whoS m x).1.length = 32 := by
 unfold whoS
 split
 ·exact K3c _
 ·rfl
def SigOk (s : Sig) : Prop := Len32 s.2.1.1 ∧ Len32 s.2.1.2.1 ∧ Len32 s.2.2.1 ∧ s.2.2.1.length ≤ 100000
theorem Ver_eq (id : List UInt8) (j : Int) (m : List UInt8) (hm : m.length ≤ 100000) (s : Sig) (hs : SigOk s) : q2h id j m s = some (verS id j m s) := by
 obtain ⟨s1, s2, s3, s4⟩ := hs
 unfold q2h verS
 rw [isH_eq, K05]
 cases hj : isH j with
 | false => rfl
 | true =>
  obtain ⟨j1, j2⟩ := isH_iff.1 hj
  rw [show (!true) = false from rfl, K27, Bool.true_and]
  by_cases c : s.1 = j
  ·rw [K2b c, decide_eq_true c, Bool.true_and, who_eq m hm s.2.1 s1 s2, K05]
   cases (whoS m s.2.1).2 with
   | false => rfl
   | true =>
    rw [show (!true) = false from rfl, K27, Bool.true_and, w64_eq (by omega) (by omega), up_eq _ (by rw [whoS_len]; omega) _ _ (by omega) _ s3 s4, K05]
    cases (upS (whoS m s.2.1).1 (j - 1) 16 s.2.2.1).2 <;> rfl
  ·rw [K29 c, decide_eq_false c]; rfl
theorem K80 : ∀ i, i < 16 → (K81 16 i 16).length = 4 := by decide
theorem path16 (seed : List UInt8) (h : Int) (h1 : 1 ≤ h) (h2 : h ≤ 16) : pathS (keysS seed) (h - 1) = pathF 16 (keysS seed) (h - 1).toNat ∧ (pathS (keysS seed) (h - 1)).length = 4 ∧ Len32 (pathS (keysS seed) (h - 1)) := by
 have e : pathS (keysS seed) (h - 1) = pathF 16 (keysS seed) (h - 1).toNat := by
  unfold pathS
  rw [K3f, if_pos (by omega)]
 rw [e]
 refine ⟨rfl, ?_, K58 _ _ _⟩
 rw [K5b _ _ _ (by rw [K3f]; omega), K3f, K80 _ (by omega)]
theorem sig_ok (seed : List UInt8) (h : Int) (h1 : 1 ≤ h) (h2 : h ≤ 16) (m : List UInt8) : SigOk (sigS seed h m) := by
 obtain ⟨_, _, a, b⟩ := K84 (seedS seed h.toNat) m
 obtain ⟨_, p1, p2⟩ := path16 seed h h1 h2
 exact ⟨a, b, p2, by show (pathS (keysS seed) (h - 1)).length ≤ 100000; omega⟩
theorem noSig_ok : SigOk noSig := ⟨(fun x hx => nomatch hx), (fun x hx => nomatch hx), (fun x hx => nomatch hx), by show (0 : Nat) ≤ 100000; omega⟩
theorem ver_sig (id seed : List UInt8) (h : Int) (h1 : 1 ≤ h) (h2 : h ≤ 16) (m : List UInt8) : verS id h m (sigS seed h m) = Ty.beq (.arr 32 (.int .u8)) (K33 seed) id := by
 obtain ⟨p0, p1, p2⟩ := path16 seed h h1 h2
 have hw : whoS m (sigS seed h m).2.1 = (KeyS (seedS seed h.toNat), true) := who_sign _ _
 have hk : KeyS (seedS seed h.toNat) = (keysS seed).getD (h - 1).toNat [] := by
  rw [keysS_at seed _ (by omega), show (h - 1).toNat + 1 = h.toNat from by omega]
 have hup : upS (KeyS (seedS seed h.toNat)) (h - 1) 16 (sigS seed h m).2.2.1 = (K33 seed, true) := by
  show upS (KeyS (seedS seed h.toNat)) (h - 1) 16 (pathS (keysS seed) (h - 1)) = _
  unfold upS
  have e16 : (16 : Int).toNat = 16 := rfl
  rw [e16, if_pos ⟨(K39 _ _).2 (by omega), by rw [p1, K80 _ (by omega)]⟩, p0, hk]
  have := K5c 16 (keysS seed) (h - 1).toNat (by rw [K3f]; omega) (by rw [K3f]; omega) (by rw [K3f]; omega)
  rw [K3f] at this
  rw [this]
  rfl
 unfold verS
 rw [hw, isH_t h1 h2]
 simp only
 rw [hup, decide_eq_true (show (sigS seed h m).1 = h from rfl)]
 rfl
theorem K78 (seed : List UInt8) (hs : seed.length = 32) (i v : Nat) (hi : i < 256) (hv : v < 256) : q1j seed (i : Int) (v : Int) = some (secS seed i v) := by
 unfold q1j
 have hf : [seed, [UInt8.ofNat (Int.toNat ((i : Int) % 256)), UInt8.ofNat (Int.toNat ((v : Int) % 256))]].flatten = seed ++ [UInt8.ofNat i, UInt8.ofNat v] := by
  rw [K8v, K8v]; simp
 rw [K7c _ _ (by rw [hf]; simp; omega) (by simp), hf]
 rfl
theorem K73 (s : List UInt8) (hs : s.length = 32) : q1a s = some (pubS s) := by
 unfold q1a
 have hf : [s].flatten = s := by simp
 rw [K7c _ _ (by rw [hf]; omega) (by simp), hf]
 rfl
theorem rdig_eq (m : List UInt8) (hm : m.length ≤ 100000) : q1e 109 [m] = some (digS m) := by
 have hf : [m].flatten = m := by simp
 rw [K7c _ _ (by rw [hf]; omega) (by simp), hf]
 rfl
theorem rbit_at (d : List UInt8) (i : Nat) (hi : i < 256) : need (0 ≤ (w64 (Int.tdiv (i : Int) (8 : Int))) ∧ (w64 (Int.tdiv (i : Int) (8 : Int))) < (32 : Int)) (need (0 ≤ (((UInt64.ofNat (Int.toNat ((w64 ((7 : Int) - (Int.tmod (i : Int) (8 : Int)))) % 18446744073709551616))).toNat : Nat) : Int))
  (some (band ((UInt8.toNat (UInt8.ofNat (UInt8.toNat (List.getD d (Int.toNat (w64 (Int.tdiv (i : Int) (8 : Int)))) (0 : UInt8)) >>> (Int.toNat (((UInt64.ofNat (Int.toNat ((w64 ((7 : Int) - (Int.tmod (i : Int) (8 : Int)))) % 18446744073709551616))).toNat : Nat) : Int)))) : Nat) : Int) (1 : Int)))) = some ((bitN d i : Nat) : Int) := by
 have e1 : Int.tdiv (i : Int) 8 = ((i / 8 : Nat) : Int) := by rw [Int.tdiv_eq_ediv_of_nonneg (by omega)]; omega
 have e2 : Int.tmod (i : Int) 8 = ((i % 8 : Nat) : Int) := by rw [Int.tmod_eq_emod_of_nonneg (by omega)]; omega
 have e3 : (UInt64.ofNat (Int.toNat ((7 - ((i % 8 : Nat) : Int)) % 18446744073709551616))).toNat = 7 - i % 8 := by
  rw [show Int.toNat ((7 - ((i % 8 : Nat) : Int)) % 18446744073709551616) = 7 - i % 8 from by omega, UInt64.toNat_ofNat']; omega
 rw [e1, e2, w64_eq (by omega) (by omega), w64_eq (by omega) (by omega), need_true (by omega), e3, need_true (by omega), Int.toNat_natCast, Int.toNat_natCast]
 generalize hx : d.getD (i / 8) 0 = x
 have hlt := x.toNat_lt
 have hs : x.toNat >>> (7 - i % 8) ≤ x.toNat := by rw [Nat.shiftRight_eq_div_pow]; exact Nat.div_le_self _ _
 rw [UInt8.toNat_ofNat', Nat.mod_eq_of_lt (by omega)]
 have hb := K08 (x.toNat >>> (7 - i % 8)) 1 (by omega) (by omega)
 rw [show ((1 : Nat) : Int) = 1 from rfl] at hb
 rw [hb, show (1 : Nat) = 2 ^ 1 - 1 from rfl, Nat.and_two_pow_sub_one_eq_mod]
 unfold bitN
 rw [hx]
theorem rbit_eq (m : List UInt8) (hm : m.length ≤ 100000) (i : Nat) (hi : i < 256) : q26 m (i : Int) = some ((bitN (digS m) i : Nat) : Int) := by
 unfold q26
 rw [rdig_eq m hm, K05]
 exact rbit_at (digS m) i hi
theorem rkey_eq (l : List (List UInt8)) (hl : l.length ≤ 1000) (h : ∀ x ∈ l, x.length = 32) : q2c l = some (keyS l) := by
 have hlen : ∀ i, ((l.take i).flatten).length ≤ 32 * l.length := fun i => by
  rw [K1r _ fun x hx => h x (List.mem_of_mem_take hx), List.length_take]; omega
 have main : ∀ z, q2c_1 l (l.length : Int) 0 z [] = some (z, l.flatten) := by
  intro z
  unfold q2c_1
  have := K46 (step := fun (s : Int × List UInt8) => q2c_1_step l (l.length : Int) s.1 z s.2) (fun i (_ : Unit) => ((i : Int), (l.take i).flatten)) (fun _ _ => ()) (fun _ => (z, l.flatten)) l.length (fun _ _ => True) (fun i w hi _ => ⟨?_, trivial⟩) (fun w _ => ?_) l.length 0 () (by omega) trivial
  ·exact this
  ·show q2c_1_step l (l.length : Int) (i : Int) z (l.take i).flatten = _
   unfold q2c_1_step
   have b := hlen i
   have hm : (l.getD i (List.replicate 32 0)).length = 32 := K2e l h i
   rw [K2c (by omega), need_true (by omega), Int.toNat_natCast, need_true (by omega), w64_eq (by omega) (by omega), K1u l hi]
   rfl
  ·show q2c_1_step l (l.length : Int) (l.length : Int) z (l.take l.length).flatten = _
   unfold q2c_1_step
   rw [K26 (by omega), List.take_of_length_le (Nat.le_refl _)]
 unfold q2c
 have hf : [l.flatten].flatten = l.flatten := by simp
 have := K1r l h
 rw [main, K05]
 simp only
 rw [K7c _ _ (by rw [hf]; omega) (by simp), hf]
 rfl
theorem rKey_eq (seed : List UInt8) (hs : seed.length = 32) : q29 seed = some (KeyS seed) := by
 have main : ∀ z, q29_1 0 seed z [] = some (z, K56 seed 32) := by
  intro z
  unfold q29_1
  have := K46 (step := fun (s : Int × List (List UInt8)) => q29_1_step s.1 seed z s.2) (fun i (_ : Unit) => ((i : Int), K56 seed i)) (fun _ _ => ()) (fun _ => (z, K56 seed 32)) 32 (fun _ _ => True) (fun i w hi _ => ⟨?_, trivial⟩) (fun w _ => ?_) 32 0 () (by omega) trivial
  ·exact this
  ·show q29_1_step (i : Int) seed z (K56 seed i) = _
   unfold q29_1_step
   have hl := (K57 seed i).2
   have s0 := K78 seed hs i 0 (by omega) (by omega)
   have s1 := K78 seed hs i 1 (by omega) (by omega)
   rw [show ((0 : Nat) : Int) = 0 from rfl] at s0
   rw [show ((1 : Nat) : Int) = 1 from rfl] at s1
   rw [K2c (by omega), s0, K05, K73 _ (K7m _ _ _), K05, s1, K05, K73 _ (K7m _ _ _), K05, need_true (by simp; omega), w64_eq (by omega) (by omega)]
   unfold K56
   rw [K1t]
   rfl
  ·show q29_1_step 32 seed z (K56 seed 32) = _
   unfold q29_1_step
   rw [K26 (by omega)]
 unfold q29
 obtain ⟨h1, h2⟩ := K57 seed 32
 rw [main, K05]
 simp only
 rw [rkey_eq _ (by omega) h1]
 rfl
theorem rsign_eq (seed m : List UInt8) (hs : seed.length = 32) (hm : m.length ≤ 100000) : q20 seed m = some (signS seed m) := by
 have main : q20_1 m 0 seed () () [] [] = some ((), (), openS seed (digS m) 32, shutS seed (digS m) 32) := by
  generalize hd : digS m = d
  unfold q20_1
  have := K46 (step := fun (s : Int × List (List UInt8) × List (List UInt8)) => q20_1_step m s.1 seed () () s.2.1 s.2.2) (fun i (_ : Unit) => ((i : Int), openS seed d i, shutS seed d i)) (fun _ _ => ()) (fun _ => ((), (), openS seed d 32, shutS seed d 32)) 32 (fun _ _ => True) (fun i w hi _ => ⟨?_, trivial⟩) (fun w _ => ?_) 32 0 () (by omega) trivial
  ·exact this
  ·show q20_1_step m (i : Int) seed () () (openS seed d i) (shutS seed d i) = _
   unfold q20_1_step
   have hb := K0f d i
   have lo : (openS seed d i).length = i := by simp [openS]
   have ls : (shutS seed d i).length = i := by simp [shutS]
   rw [K2c (by omega), rbit_eq m hm i (by omega), K05, hd, K78 seed hs i _ (by omega) (by omega), K05, need_true (by simp; omega), w64_eq (by omega) (by omega), show (1 : Int) - ((bitN d i : Nat) : Int) = ((1 - bitN d i : Nat) : Int) from by omega,
    K78 seed hs i _ (by omega) (by omega), K05, K73 _ (K7m _ _ _), K05, need_true (by simp; omega), w64_eq (by omega) (by omega)]
   unfold openS shutS
   rw [mapRange, mapRange]
   rfl
  ·show q20_1_step m 32 seed () () (openS seed d 32) (shutS seed d 32) = _
   unfold q20_1_step
   rw [K26 (by omega)]
 unfold q20
 rw [main, K05]
 rfl
theorem K5r (seed : List UInt8) (hs : seed.length = 32) (h : Nat) : q1d seed (h : Int) = some (seedS seed h) := by
 unfold q1d
 have hf : [seed, [UInt8.ofNat (Int.toNat ((h : Int) % 256))]].flatten = seed ++ [UInt8.ofNat h] := by
  rw [K8v]; simp
 rw [K7c _ _ (by rw [hf]; simp; omega) (by simp), hf]
 rfl
theorem K5p (seed : List UInt8) (hs : seed.length = 32) : q23 seed = some (keysS seed) := by
 have main : q23_1 1 seed [] = some (keysS seed) := by
  unfold q23_1
  have := K46 (step := fun (s : Int × List (List UInt8)) => q23_1_step s.1 seed s.2) (fun i (_ : Unit) => (((i + 1 : Nat) : Int), keysN seed i)) (fun _ _ => ()) (fun _ => keysS seed) 16 (fun _ _ => True) (fun i w hi _ => ⟨?_, trivial⟩) (fun w _ => ?_) 16 0 () (by omega) trivial
  ·exact this
  ·show q23_1_step ((i + 1 : Nat) : Int) seed (keysN seed i) = _
   unfold q23_1_step
   have hl := K3e seed i
   rw [K2c (by omega), K5r seed hs, K05, rKey_eq _ (K7o _ _), K05, need_true (by simp; omega), w64_eq (by omega) (by omega)]
   unfold keysN
   rw [mapRange]
   rfl
  ·show q23_1_step 17 seed (keysN seed 16) = _
   unfold q23_1_step
   rw [K26 (by omega)]
   rfl
 unfold q23
 rw [main]
 rfl
theorem K5o (keys : List (List UInt8)) (hk : keys.length < 64) (hks : Small keys) (seed m : List UInt8) (hs : seed.length = 32) (h : Int) (h1 : 1 ≤ h) (h2 : h ≤ 16) (hm : m.length ≤ 100000) : q2e keys seed h m = some (byS keys seed h m) := by
 obtain ⟨k, rfl⟩ := Int.eq_ofNat_of_zero_le (show 0 ≤ h by omega)
 unfold q2e byS
 rw [K5r seed hs, K05, rsign_eq _ m (K7o _ _) hm, K05, w64_eq (by omega) (by omega), rpath_eq keys _ hk hks, K05, Int.toNat_natCast]
theorem K5q (seed m : List UInt8) (hs : seed.length = 32) (h : Int) (h1 : 1 ≤ h) (h2 : h ≤ 16) (hm : m.length ≤ 100000) : q1i seed h m = some (sigS seed h m) := by
 unfold q1i
 rw [K5p seed hs, K05, K5o _ (by rw [K3f]; omega) (K3g seed) seed m hs h h1 h2 hm]
 rfl
abbrev K01 := List UInt8 × Sig × Unit
def zSg : K01 := (([] : List UInt8), ((0 : Int), (([] : List (List UInt8)), ([] : List (List UInt8)), ()), ([] : List (List UInt8)), ()), ())
def nmsS (s : List K01) : List (List UInt8) := s.map (·.1)
theorem K4q (s : List K01) (i : Nat) : (s.getD i zSg).1 = (nmsS s).getD i [] := by
 unfold nmsS
 rw [List.getD_eq_getElem?_getD, List.getD_eq_getElem?_getD, List.getElem?_map]
 cases s[i]? <;> rfl
def incS (s : List K01) : Bool := incN (nmsS s)
def K69 (s : List K01) : Bool := incS s && decide (s.length ≤ 5)
theorem K64 (s : List K01) (i : Int) : q30_1_step s i = (fork (decide (i < (s.length : Int))) (need (0 ≤ (w64 (i - 1)) ∧ (w64 (i - 1)) < (s.length : Int)) (need (0 ≤ i ∧ i < (s.length : Int)) (fork (!sless (s.getD (Int.toNat (w64 (i - 1))) zSg).1 (s.getD (Int.toNat i) zSg).1) (some (.inr (.inl false))) (some (.inl (w64 (i + 1))))))) (some (.inr (.inr s))) : Option (Int ⊕ (Bool ⊕ List K01))) := rfl
theorem K7h (s : List K01) {ρ : Type} (r r0 : ρ) : ∀ (k i : Nat), i + k = s.length - 1 → (∀ j, j < i → sless (s.getD j zSg).1 (s.getD (j + 1) zSg).1 = true) →
  scan (fun i => if sless (s.getD i zSg).1 (s.getD (i + 1) zSg).1 = true then none else some r) r0 i k = if incS s = true then r0 else r
 | 0, i, h, hj => by
  have : incS s = true := List.all_eq_true.2 fun j hj' => by
   have hj' : j < (nmsS s).length - 1 := by simpa using hj'
   have hl : (nmsS s).length = s.length := by simp [nmsS]
   rw [← K4q, ← K4q]
   exact hj j (by omega)
  rw [if_pos this]; rfl
 | k + 1, i, h, hj => by
  rw [scan]
  by_cases e : sless (s.getD i zSg).1 (s.getD (i + 1) zSg).1 = true
  ·rw [if_pos e]
   exact K7h s r r0 k (i + 1) (by omega) fun j hj' => by
    rcases (show j < i ∨ j = i by omega) with h1 | rfl
    ·exact hj j h1
    ·exact e
  ·rw [if_neg e]
   have hl : (nmsS s).length = s.length := by simp [nmsS]
   have : ¬ incS s = true := fun hall => e (by
    have := List.all_eq_true.1 hall i (by simp; omega)
    rwa [← K4q, ← K4q] at this)
   rw [if_neg this]
theorem K7k (s : List K01) (hs : s.length ≤ 1073741824) : q30 s = some (K69 s) := by
 have h : q30_1 s 1 = some (scan (fun i => if sless (s.getD i zSg).1 (s.getD (i + 1) zSg).1 = true then none else some (.inl false)) (.inr s) 0 (s.length - 1)) := by
  unfold q30_1
  refine K47 (step := fun (x : Int) => q30_1_step s x) (fun i => ((i + 1 : Nat) : Int)) _ _ (s.length - 1) (fun i hi h => ?_) (fun i r hi h => ?_) ?_ (s.length - 1) 0 (by omega)
  ·rw [K64, K2c (by omega), w64_eq (n := ((i + 1 : Nat) : Int) - 1) (by omega) (by omega), need_true (by omega), need_true (by omega), show Int.toNat (((i + 1 : Nat) : Int) - 1) = i from by omega, Int.toNat_natCast]
   by_cases e : sless (s.getD i zSg).1 (s.getD (i + 1) zSg).1 = true
   ·rw [e, w64_eq (by omega) (by omega)]; rfl
   ·rw [if_neg e] at h; cases h
  ·rw [K64, K2c (by omega), w64_eq (n := ((i + 1 : Nat) : Int) - 1) (by omega) (by omega), need_true (by omega), need_true (by omega), show Int.toNat (((i + 1 : Nat) : Int) - 1) = i from by omega, Int.toNat_natCast]
   by_cases e : sless (s.getD i zSg).1 (s.getD (i + 1) zSg).1 = true
   ·rw [if_pos e] at h; cases h
   ·rw [if_neg e] at h; injection h with h; subst h
    rw [Bool.not_eq_true] at e
    rw [e]; rfl
  ·rw [K64, K26 (by omega)]
 unfold q30 K69
 rw [h, K05, K7h s _ _ (s.length - 1) 0 (by omega) (fun j hj => by omega)]
 cases incS s with
 | true =>
  show some (decide ((s.length : Int) ≤ 5)) = some (true && decide (s.length ≤ 5))
  rw [Bool.true_and]
  congr 1
  exact decide_eq_decide.2 (by omega)
 | false => rfl
def textS (h : Hdr) : List UInt8 := sha (72 :: K0r h)
theorem K8m (h : Hdr) : (textS h).length = 32 := K7z _
theorem text_eq (h : Hdr) (hh : K00 h) : q35 h = some (textS h) := by
 unfold q35
 rw [K2z h hh]
 rfl
noncomputable def sgS (h : Hdr) (n seed : List UInt8) : K01 := (n, sigS seed h.1 (textS h), ())
def SgOk (s : List K01) : Prop := ∀ x ∈ s, SigOk x.2.1
theorem sg_at {s : List K01} (h : SgOk s) (i : Nat) : SigOk (s.getD i zSg).2.1 := by
 rw [List.getD_eq_getElem?_getD]
 cases e : s[i]? with
 | none => exact noSig_ok
 | some x => exact h x (List.mem_of_getElem? e)
def goodS (set : List Val) (h : Int) (d : List UInt8) (x : K01) : Bool := (findS set x.1).2 && verS (findS set x.1).1.2.2.1 h d x.2.1
def K4g (set : List Val) (h : Int) (d : List UInt8) (s : List K01) : List (List UInt8) := (s.filter (goodS set h d)).map (·.1)
def K4k (set : List Val) (h : Hdr) (s : List K01) : List (List UInt8) := if K69 s then K4g set h.1 (textS h) s else []
theorem K4h (set : List Val) (h : Int) (d : List UInt8) (s : List K01) : (K4g set h d s).length ≤ s.length := by
 unfold K4g
 rw [List.length_map]
 exact List.length_filter_le _ _
theorem K4i (set : List Val) (h : Int) (d : List UInt8) (s : List K01) {i : Nat} (hi : i < s.length) : K4g set h d (s.take (i + 1)) = K4g set h d (s.take i) ++ (if goodS set h d (s.getD i zSg) then [(s.getD i zSg).1] else []) := by
 unfold K4g
 rw [List.take_add_one, List.getElem?_eq_getElem hi, List.getD_eq_getElem?_getD, List.getElem?_eq_getElem hi]
 simp only [Option.toList_some, Option.getD_some, List.filter_append, List.map_append]
 by_cases hg : goodS set h d s[i]
 ·rw [List.filter_cons_of_pos hg, if_pos hg]; rfl
 ·rw [List.filter_cons_of_neg hg, if_neg hg]; rfl
theorem K4f (set : List Val) (s : List K01) (n i : Int) (h : Hdr) (o : List (List UInt8)) (d : List UInt8) : q2y_1_step set s n i h o d = (fork (decide (i < n)) (need (0 ≤ i ∧ i < (s.length : Int)) (andThen (q38 set (s.getD (Int.toNat i) zSg).1) (fun u9 => fork u9.2 (andThen (q2h u9.1.2.2.1 h.1 d (s.getD (Int.toNat i) zSg).2.1) (fun u12 => fork u12 (need (o.length + ([(s.getD (Int.toNat i) zSg).1] : List (List UInt8)).length ≤ 2147483648) (some (.inl ((w64 (i + 1)), o ++ ([(s.getD (Int.toNat i) zSg).1] : List (List UInt8)))))) (some (.inl ((w64 (i + 1)), o))))) (some (.inl ((w64 (i + 1)), o)))))) (some (.inr o)) : Option ((Int × List (List UInt8)) ⊕ (List (List UInt8)))) := rfl
theorem names_eq (set : List Val) (hset : set.length ≤ 1073741824) (h : Hdr) (hh : K00 h) (s : List K01) (hl : s.length ≤ 1073741824) (hs : SgOk s) : q2y set h s = some (K4k set h s) := by
 unfold q2y K4k
 rw [K7k s hl, K05]
 cases hr : K69 s with
 | false => rfl
 | true =>
  have main : ∀ d : List UInt8, d.length ≤ 100000 → q2y_1 set s (s.length : Int) 0 h [] d = some (K4g set h.1 d s) := by
   intro d hd
   unfold q2y_1
   have := K46 (step := fun (x : Int × List (List UInt8)) => q2y_1_step set s (s.length : Int) x.1 h x.2 d) (fun i (_ : Unit) => ((i : Int), K4g set h.1 d (s.take i))) (fun _ _ => ()) (fun _ => K4g set h.1 d s) s.length (fun _ _ => True) (fun i w hi _ => ⟨?_, trivial⟩) (fun w _ => ?_) s.length 0 () (by omega) trivial
   ·exact this
   ·show q2y_1_step set s (s.length : Int) (i : Int) h (K4g set h.1 d (s.take i)) d = _
    have b := K4h set h.1 d (s.take i)
    rw [List.length_take] at b
    have t := K4i set h.1 d s hi
    rw [K4f, K2c (by omega), need_true (by omega), Int.toNat_natCast, find_eq set hset, K05, t, w64_eq (by omega) (by omega)]
    unfold goodS
    cases hf : (findS set (s.getD i zSg).1).2 with
    | false => rw [K27, Bool.false_and, if_neg (by simp), List.append_nil]; rfl
    | true =>
     rw [K2d, Bool.true_and, Ver_eq _ _ d hd _ (sg_at hs i), K05]
     cases hv : verS (findS set (s.getD i zSg).1).1.2.2.1 h.1 d (s.getD i zSg).2.1 with
     | false => rw [K27, if_neg (by simp), List.append_nil]; rfl
     | true => rw [K2d, need_true (by simp; omega), if_pos rfl]; rfl
   ·show q2y_1_step set s (s.length : Int) (s.length : Int) h (K4g set h.1 d (s.take s.length)) d = _
    rw [K4f, K26 (by omega), List.take_of_length_le (Nat.le_refl _)]
  rw [show (!true) = false from rfl, K27, text_eq h hh, K05, main _ (by rw [K8m]; omega), if_pos rfl]
  rfl
theorem K4l (set : List Val) (h : Hdr) (s : List K01) : (K4k set h s).length ≤ s.length := by
 unfold K4k
 split
 ·exact K4h _ _ _ _
 ·simp
def partS (set : List Val) (h : Hdr) (s : List K01) : Int := pow (fun v => (K4k set h s).contains v.1) set
def allS (set : List Val) : Int := pow (fun _ => true) set
theorem part_b (set : List Val) (hset : K02 set) (h : Hdr) (s : List K01) : 0 ≤ partS set h s ∧ partS set h s ≤ 4294967296 := by
 have := K5e (fun v => (K4k set h s).contains v.1) set hset.2
 have := hset.1
 unfold partS
 omega
theorem all_b (set : List Val) (hset : K02 set) : 0 ≤ allS set ∧ allS set ≤ 4294967296 := by
 have := K5e (fun _ => true) set hset.2
 have := hset.1
 unfold allS
 omega
theorem K7l (set : List Val) (hset : K02 set) (h : Hdr) (hh : K00 h) (s : List K01) (hl : s.length ≤ 1000000) (hs : SgOk s) : q2v set h s = some (partS set h s, allS set) := by
 have := K4l set h s
 unfold q2v
 rw [names_eq set (by have := hset.1; omega) h hh s (by omega) hs, K05, tally_eq set hset _ (by omega)]
 rfl
theorem K1e (set : List Val) (hset : K02 set) (h : Hdr) (hh : K00 h) (s : List K01) (hl : s.length ≤ 1000000) (hs : SgOk s) : q2k set h s = some (decide (allS set * 2 < partS set h s * 3)) := by
 unfold q2k
 rw [K7l set hset h hh s hl hs, K05, K50 _ 2 3 (part_b set hset h s) (all_b set hset) (by omega) (by omega)]
 rfl
theorem K8c (set : List Val) (hset : K02 set) (h : Hdr) (hh : K00 h) (s : List K01) (hl : s.length ≤ 1000000) (hs : SgOk s) : q33 set h s = some (decide (allS set * 1 < partS set h s * 3)) := by
 unfold q33
 rw [K7l set hset h hh s hl hs, K05, K50 _ 1 3 (part_b set hset h s) (all_b set hset) (by omega) (by omega)]
 rfl
def seedK (i : Nat) : List UInt8 := List.set (List.set (List.replicate 32 (0 : UInt8)) 0 (77 : UInt8)) 1 (UInt8.ofNat i)
theorem K7n (i : Nat) : (seedK i).length = 32 := by simp [seedK]
theorem K3b (i : Nat) : q22 (i : Int) = some (seedK i) := by
 unfold q22
 rw [K8v]
 rfl
noncomputable def K4e (p : Nat → Int) (i : Nat) : Val := (nm i, p i, K33 (seedK i), ())
noncomputable def ringN (p : Nat → Int) (n : Nat) : List Val := (List.range n).map (K4e p)
noncomputable def ringS (ps : List Int) : List Val := ringN (pw ps) (setN ps)
noncomputable def midS (p : Nat → Int) (n i : Nat) : List Val := (List.range n).map fun j => if j < i then K4e p j else mkVal p j
theorem mid_step (p : Nat → Int) (n i : Nat) (h : i < n) : List.set (midS p n i) i (((midS p n i).getD i zVal).1, ((midS p n i).getD i zVal).2.1, K33 (seedK i), ()) = midS p n (i + 1) := by
 have hg : (midS p n i).getD i zVal = mkVal p i := by
  unfold midS
  rw [List.getD_eq_getElem?_getD, List.getElem?_map, List.getElem?_range h]
  simp
 rw [hg]
 unfold midS
 apply List.ext_getElem
 ·simp
 ·intro j h1 h2
  rw [List.getElem_set]
  simp only [List.getElem_map, List.getElem_range]
  by_cases e : i = j
  ·subst e; rw [if_pos rfl, if_pos (by omega)]; rfl
  ·rw [if_neg e]
   by_cases c : j < i
   ·rw [if_pos c, if_pos (by omega)]
   ·rw [if_neg c, if_neg (by omega)]
theorem setN_b (ps : List Int) : 1 ≤ setN ps ∧ setN ps ≤ 4 := by unfold setN; omega
theorem nm_inj : ∀ i, i < 4 → ∀ j, j < 4 → nm i = nm j → i = j := by decide
theorem nm_inc : ∀ i, i < 4 → ∀ j, j < 4 → i < j → sless (nm i) (nm j) = true := by decide
theorem K6d (p : Nat → Int) (n : Nat) (h : n ≤ 4) : Dist (ringN p n) := by
 unfold Dist ringN
 rw [List.map_map]
 rw [List.nodup_iff_pairwise_ne, List.pairwise_map]
 refine List.Pairwise.imp_of_mem (fun {a b} ha hb hab e => hab (nm_inj a (by have := List.mem_range.1 ha; omega) b (by have := List.mem_range.1 hb; omega) e)) (List.nodup_iff_pairwise_ne.1 List.nodup_range)
theorem K6h (p : Nat → Int) (n : Nat) (h : n ≤ 4) (hp : ∀ i, 0 ≤ p i ∧ p i ≤ 2097152) : K02 (ringN p n) := by
 refine ⟨by simp [ringN]; omega, fun v hv => ?_⟩
 obtain ⟨i, _, rfl⟩ := List.mem_map.1 hv
 exact hp i
theorem good_own (set : List Val) (hd : Dist set) (h : Hdr) (h1 : 1 ≤ h.1) (h2 : h.1 ≤ 16) (v : Val) (hv : v ∈ set) (seed : List UInt8) (hk : v.2.2.1 = K33 seed) : goodS set h.1 (textS h) (sgS h v.1 seed) = true := by
 unfold goodS sgS
 simp only
 rw [find_in hd hv, hk, ver_sig _ _ _ h1 h2, K0e]
 rfl
theorem sgS_ok (h : Hdr) (h1 : 1 ≤ h.1) (h2 : h.1 ≤ 16) (n seed : List UInt8) : SigOk (sgS h n seed).2.1 := sig_ok seed h.1 h1 h2 _
noncomputable def sgJ (h : Hdr) (js : List Nat) : List K01 := js.map fun j => sgS h (nm j) (seedK j)
def pwJ (p : Nat → Int) (js : List Nat) : Int := (js.map p).sum
theorem pwJ_b (p : Nat → Int) (hp : ∀ i, 0 ≤ p i ∧ p i ≤ 2097152) : ∀ js, 0 ≤ pwJ p js ∧ pwJ p js ≤ 2097152 * js.length
 | [] => ⟨Int.le_refl _, Int.le_refl _⟩
 | j :: js => by
  have := pwJ_b p hp js
  have := hp j
  unfold pwJ at *
  rw [List.map_cons, List.sum_cons, List.length_cons]
  omega
theorem pwJ_snoc (p : Nat → Int) (js ks : List Nat) : pwJ p (js ++ ks) = pwJ p js + pwJ p ks := by
 unfold pwJ; rw [List.map_append, List.sum_append]
theorem K4r (h : Hdr) (js : List Nat) : nmsS (sgJ h js) = js.map nm := by
 unfold nmsS sgJ
 rw [List.map_map]
 rfl
theorem K34 {js : List Nat} (h1 : js.Pairwise (· < ·)) (h2 : ∀ j ∈ js, j < 4) : incN (js.map nm) = true := by
 refine incN_of _ ?_
 rw [List.pairwise_map]
 exact List.Pairwise.imp_of_mem (fun {a b} ha hb hab => nm_inc a (h2 a ha) b (h2 b hb) hab) h1
theorem sgJ_ok (h : Hdr) (h1 : 1 ≤ h.1) (h2 : h.1 ≤ 16) (js : List Nat) : SgOk (sgJ h js) := by
 intro x hx
 obtain ⟨j, _, rfl⟩ := List.mem_map.1 hx
 exact sgS_ok h h1 h2 _ _
theorem K6a (h : Hdr) {js : List Nat} (h1 : js.Pairwise (· < ·)) (h2 : ∀ j ∈ js, j < 4) (h3 : js.length ≤ 4) : K69 (sgJ h js) = true := by
 unfold K69 incS
 rw [K4r, K34 h1 h2, Bool.true_and, decide_eq_true_eq]
 simp [sgJ]; omega
theorem K5d (q : Val → Bool) (a b : List Val) : pow q (a ++ b) = pow q a + pow q b := by
 unfold pow
 rw [List.filter_append, List.map_append, List.sum_append]
theorem K5g (p : Nat → Int) (q : Val → Bool) (f : Nat → Bool) : ∀ n, (∀ i, i < n → q (K4e p i) = f i) → pow q (ringN p n) = pwJ p ((List.range n).filter f)
 | 0, _ => rfl
 | n + 1, h => by
  have e : ringN p (n + 1) = ringN p n ++ [K4e p n] := by unfold ringN; rw [List.range_succ, List.map_append]; rfl
  rw [e, K5d, K5g p q f n fun i hi => h i (by omega), List.range_succ, List.filter_append, pwJ_snoc, pow_cons, pow_nil, h n (by omega)]
  congr 1
  by_cases c : f n
  ·rw [if_pos c, List.filter_cons_of_pos c, List.filter_nil]; simp [pwJ, K4e]
  ·rw [if_neg c, List.filter_cons_of_neg c, List.filter_nil]; rfl
theorem K14 {js : List Nat} {i : Nat} (h : ∀ j ∈ js, j < 4) (hi : i < 4) : (js.map nm).contains (nm i) = js.contains i := by
 rw [Bool.eq_iff_iff]
 simp only [List.contains_iff_mem]
 constructor
 ·intro hm
  obtain ⟨j, hj, e⟩ := List.mem_map.1 hm
  rw [← nm_inj j (h j hj) i hi e]
  exact hj
 ·exact fun hm => List.mem_map_of_mem hm
theorem K7y (h : Hdr) (i : Nat) : sgJ h (List.range (i + 1)) = sgJ h (List.range i) ++ [sgS h (nm i) (seedK i)] := by
 unfold sgJ; rw [List.range_succ, List.map_append]; rfl
theorem K7x (h : Hdr) (js : List Nat) : (sgJ h js).length = js.length := by simp [sgJ]
abbrev Block := Hdr × List K01 × List Val × List Val × Unit
def zBlk : Block := (zHdr, ([] : List K01), ([] : List Val), ([] : List Val), ())
def K7p (n : Nat) : List (List UInt8) := (List.range n).map seedK
def K6k (n : Nat) : List (List (List UInt8)) := (List.range n).map fun i => keysS (seedK i)
def K4j (n : Nat) : List (List UInt8) := (List.range n).map nm
theorem K2h {α : Type} (f : Nat → α) (z : α) {n i : Nat} (h : i < n) : ((List.range n).map f).getD i z = f i := by
 rw [List.getD_eq_getElem?_getD, List.getElem?_map, List.getElem?_range h]; rfl
theorem K49 {α : Type} (f : Nat → α) (i : Nat) : (List.range (i + 1)).map f = (List.range i).map f ++ [f i] := by
 rw [List.range_succ, List.map_append]; rfl
theorem K6o {α : Type} (f : Nat → α) (n : Nat) : ((List.range n).map f).length = n := by simp
def setV (p : Nat → Int) (n : Nat) : List Val := (List.range n).map (mkVal p)
theorem setS_v (ps : List Int) : setS ps = setV (pw ps) (setN ps) := rfl
theorem chain1 (n : Nat) (hn : n ≤ 4) (set : List Val) : q1r_1 (n : Int) 0 set [] = some (set, K7p n) := by
 unfold q1r_1
 have := K46 (step := fun (t : Int × List (List UInt8)) => q1r_1_step (n : Int) t.1 set t.2) (fun i (_ : Unit) => ((i : Int), K7p i)) (fun _ _ => ()) (fun _ => (set, K7p n)) n (fun _ _ => True) (fun i w hi _ => ⟨?_, trivial⟩) (fun w _ => ?_) n 0 () (by omega) trivial
 ·exact this
 ·show q1r_1_step (n : Int) (i : Int) set (K7p i) = _
  unfold q1r_1_step
  have hl : (K7p i).length = i := K6o _ _
  rw [K2c (by omega), K3b, K05, need_true (by rw [hl]; simp only [List.length_cons, List.length_nil]; omega), w64_eq (by omega) (by omega)]
  unfold K7p
  rw [K49]
  rfl
 ·show q1r_1_step (n : Int) (n : Int) set (K7p n) = _
  unfold q1r_1_step
  rw [K26 (by omega)]
theorem K4o (n i : Int) (set : List Val) (seeds : List (List UInt8)) (u : Unit) (r : List (List (List UInt8))) (ns : List (List UInt8)) : qi_1_step n i set seeds u r ns =
  (fork (decide (i < n)) (need (0 ≤ i ∧ i < (List.length set : Int)) (need (List.length ns + List.length ([(set.getD (Int.toNat i) zVal).1] : List (List UInt8)) ≤ 2147483648) (need (0 ≤ i ∧ i < (List.length seeds : Int)) (andThen (q23 (List.getD seeds (Int.toNat i) (List.replicate 32 (0 : UInt8)))) (fun u6 => need (List.length r + List.length ([u6] : List (List (List UInt8))) ≤ 2147483648) (some (.inl ((w64 (i + (1 : Int))), (r ++ ([u6] : List (List (List UInt8)))), (ns ++ ([(set.getD (Int.toNat i) zVal).1] : List (List UInt8))))))))))) (some (.inr (set, seeds, u, r, ns))) : Option ((Int × List (List (List UInt8)) × List (List UInt8)) ⊕ ((List Val) × List (List UInt8) × Unit × List (List (List UInt8)) × List (List UInt8)))) := rfl
theorem K4p (p : Nat → Int) (n : Nat) (hn : n ≤ 4) : qi (setV p n) (K7p n) = some (setV p n, K7p n, (), K6k n, K4j n) := by
 have hl : (setV p n).length = n := K6o _ _
 have hs : (K7p n).length = n := K6o _ _
 have main : qi_1 (n : Int) 0 (setV p n) (K7p n) () [] [] = some (setV p n, K7p n, (), K6k n, K4j n) := by
  unfold qi_1
  have := K46 (step := fun (t : Int × List (List (List UInt8)) × List (List UInt8)) => qi_1_step (n : Int) t.1 (setV p n) (K7p n) () t.2.1 t.2.2) (fun i (_ : Unit) => ((i : Int), K6k i, K4j i)) (fun _ _ => ()) (fun _ => (setV p n, K7p n, (), K6k n, K4j n)) n (fun _ _ => True) (fun i w hi _ => ⟨?_, trivial⟩) (fun w _ => ?_) n 0 () (by omega) trivial
  ·exact this
  ·show qi_1_step (n : Int) (i : Int) (setV p n) (K7p n) () (K6k i) (K4j i) = _
   have h1 : (K6k i).length = i := K6o _ _
   have h2 : (K4j i).length = i := K6o _ _
   have g1 : (setV p n).getD i zVal = mkVal p i := K2h _ _ hi
   have g2 : (K7p n).getD i (List.replicate 32 (0 : UInt8)) = seedK i := K2h _ _ hi
   rw [K4o, K2c (by omega), need_true (by omega), Int.toNat_natCast, g1, g2, need_true (by rw [h2]; simp only [List.length_cons, List.length_nil]; omega), need_true (by omega), K5p _ (K7n i), K05, need_true (by rw [h1]; simp only [List.length_cons, List.length_nil]; omega), w64_eq (by omega) (by omega)]
   unfold K6k K4j
   rw [K49, K49]
   rfl
  ·show qi_1_step (n : Int) (n : Int) (setV p n) (K7p n) () (K6k n) (K4j n) = _
   rw [K4o, K26 (by omega)]
 unfold qi
 rw [hl, main]
 rfl
theorem K0s (n i : Int) (set : List Val) (u : Unit) (seeds : List (List UInt8)) (r : List (List (List UInt8))) (ns : List (List UInt8)) : q1r_2_step n i set u seeds r ns =
  (fork (decide (i < n)) (need (0 ≤ i ∧ i < (List.length r : Int)) (andThen (q21 (List.getD r (Int.toNat i) ([] : List (List UInt8)))) (fun u15 => need (0 ≤ i ∧ i < (List.length set : Int)) (some (.inl ((w64 (i + (1 : Int))), (List.set set (Int.toNat i) ((set.getD (Int.toNat i) zVal).1, (set.getD (Int.toNat i) zVal).2.1, u15, ())))))))) (some (.inr (u, seeds, r, ns, set))) : Option ((Int × List Val) ⊕ (Unit × List (List UInt8) × List (List (List UInt8)) × List (List UInt8) × List Val))) := rfl
theorem chain2 (p : Nat → Int) (n : Nat) (hn : n ≤ 4) : q1r_2 (n : Int) 0 (setV p n) () (K7p n) (K6k n) (K4j n) = some ((), K7p n, K6k n, K4j n, ringN p n) := by
 have hr : (K6k n).length = n := K6o _ _
 unfold q1r_2
 have := K46 (step := fun (t : Int × List Val) => q1r_2_step (n : Int) t.1 t.2 () (K7p n) (K6k n) (K4j n)) (fun i (_ : Unit) => ((i : Int), midS p n i)) (fun _ _ => ()) (fun _ => ((), K7p n, K6k n, K4j n, ringN p n)) n (fun _ _ => True) (fun i w hi _ => ⟨?_, trivial⟩) (fun w _ => ?_) n 0 () (by omega) trivial
 ·rw [show setV p n = midS p n 0 from by unfold setV midS; congr 1]
  exact this
 ·show q1r_2_step (n : Int) (i : Int) (midS p n i) () (K7p n) (K6k n) (K4j n) = _
  have hm : (midS p n i).length = n := by simp [midS]
  have g1 : (K6k n).getD i [] = keysS (seedK i) := K2h _ _ hi
  rw [K0s, K2c (by omega), need_true (by omega), Int.toNat_natCast, g1, K76 _ (by rw [K3f]; omega) (K3g _), K05, need_true (by omega), w64_eq (by omega) (by omega)]
  show some (Sum.inl (_, List.set (midS p n i) i (((midS p n i).getD i zVal).1, ((midS p n i).getD i zVal).2.1, K33 (seedK i), ()))) = _
  rw [mid_step _ _ _ hi]
  rfl
 ·show q1r_2_step (n : Int) (n : Int) (midS p n n) () (K7p n) (K6k n) (K4j n) = _
  rw [K0s, K26 (by omega)]
  unfold midS ringN
  congr 6
  apply List.map_congr_left
  intro j hj
  rw [if_pos (List.mem_range.1 hj)]
theorem K0t (ps : List Int) (hp : ps.length ≤ 140737488351232) : q1r ps = some ((), K7p (setN ps), K6k (setN ps), K4j (setN ps), ringS ps) := by
 have hn := setN_b ps
 have hl : (setV (pw ps) (setN ps)).length = setN ps := K6o _ _
 unfold q1r
 rw [set_eq ps hp, K05, setS_v, hl, chain1 _ hn.2, K05]
 simp only
 rw [K4p _ _ hn.2, K05]
 simp only
 rw [hl, chain2 _ _ hn.2]
 rfl
noncomputable def root0 : List UInt8 := sha (83 :: (oneS 0 ++ rootS []))
theorem K6p : root0.length = 32 := K7z _
theorem K8j : qz [] = some root0 := by
 have h1 : q1h [] = some [] := by
  unfold q1h q1h_1
  rw [loop_out (r := []) rfl]; rfl
 have h2 := K76 [] (by simp) (fun x hx => nomatch hx)
 have h3 : [oneS 0, rootS []].flatten = oneS 0 ++ rootS [] := by simp
 have h4 : (rootS []).length ≤ 1000000 := by rw [K6t]; omega
 have h5 := K4v 0
 unfold qz
 rw [h1, K05, h2, K05]
 unfold q1m
 rw [show ((([] : List (List UInt8 × List UInt8 × Unit)).length : Int)) = 0 from rfl, K74, K05, K7c _ _ (by rw [h3, List.length_append]; omega) (by simp), h3]
 rfl
def lastB (B : List Block) : Block := B.getD (B.length - 1) zBlk
noncomputable def hdS (S : List Val) (B : List Block) (t : Int) : Hdr :=
 if B.length = 0 then (1, t, root0, setH S, setH S, List.replicate 32 0, ())
 else ((B.length : Int) + 1, t, root0, setH (lastB B).2.2.2.1, setH S, sha (72 :: bodyS (lastB B).1), ())
theorem K2x (S : List Val) (B : List Block) (t : Int) : K00 (hdS S B t) := by
 unfold hdS
 split
 ·exact ⟨K6p, K7r _, K7r _, by simp⟩
 ·exact ⟨K6p, K7r _, K7r _, K7z _⟩
theorem hdS_1 (S : List Val) (B : List Block) (t : Int) : (hdS S B t).1 = (B.length : Int) + 1 := by
 unfold hdS; split
 ·show (1 : Int) = _; omega
 ·rfl
theorem hdS_t (S : List Val) (B : List Block) (t : Int) : (hdS S B t).2.1 = t := by unfold hdS; split <;> rfl
theorem hdS_next (S : List Val) (B : List Block) (t : Int) : (hdS S B t).2.2.2.2.1 = setH S := by unfold hdS; split <;> rfl
def nowS (S : List Val) (B : List Block) : List Val := if B.length = 0 then S else (lastB B).2.2.2.1
theorem hdS_vals (S : List Val) (B : List Block) (t : Int) : (hdS S B t).2.2.2.1 = setH (nowS S B) := by unfold hdS nowS; split <;> rfl
theorem K2y {S : List Val} {B : List Block} {t : Int} (hb : B.length < 16) (h1 : 0 ≤ t) (h2 : t ≤ 1073741824) : K65 (hdS S B t) = true := by
 rw [K66, hdS_1, hdS_t]; omega
noncomputable def blkS (n : Nat) (S : List Val) (B : List Block) (t : Int) : Block := (hdS S B t, sgJ (hdS S B t) (List.range n), nowS S B, S, ())
def Good (B : List Block) : Prop := B.length = 0 ∨ (SetSm (lastB B).2.2.2.1 ∧ K00 (lastB B).1)
theorem K8n {h : Hdr} (hr : K65 h = true) : textS h = sha (72 :: bodyS h) := by
 unfold textS K0r; rw [if_pos hr]
abbrev Rows := List (List (List UInt8 × List UInt8 × Unit))
theorem cm1 (n : Nat) (hn : n ≤ 4) (k : Int) (B : List Block) (R : Rows) (S : List Val) (h : Hdr) (ps nx : List Val) (hk : w64 (k + 1) = h.1) (h1 : 1 ≤ h.1) (h2 : h.1 ≤ 16) :
  qc_1 k (n : Int) 0 B R () (K7p n) (K6k n) (K4j n) S h ps () [] nx (textS h) = some (k, B, R, (), K7p n, K6k n, K4j n, S, h, ps, (), sgJ h (List.range n), nx) := by
 have e1 : (K7p n).length = n := K6o _ _
 have e2 : (K6k n).length = n := K6o _ _
 have e3 : (K4j n).length = n := K6o _ _
 unfold qc_1
 have := K46 (step := fun (t : Int × List K01) => qc_1_step k (n : Int) t.1 B R () (K7p n) (K6k n) (K4j n) S h ps () t.2 nx (textS h)) (fun i (_ : Unit) => ((i : Int), sgJ h (List.range i))) (fun _ _ => ()) (fun _ => (k, B, R, (), K7p n, K6k n, K4j n, S, h, ps, (), sgJ h (List.range n), nx)) n (fun _ _ => True) (fun i w hi _ => ⟨?_, trivial⟩) (fun w _ => ?_) n 0 () (by omega) trivial
 ·exact this
 ·show qc_1_step k (n : Int) (i : Int) B R () (K7p n) (K6k n) (K4j n) S h ps () (sgJ h (List.range i)) nx (textS h) = _
  unfold qc_1_step
  have g1 : (K7p n).getD i (List.replicate 32 (0 : UInt8)) = seedK i := K2h _ _ hi
  have g2 : (K6k n).getD i [] = keysS (seedK i) := K2h _ _ hi
  have g3 : (K4j n).getD i [] = nm i := K2h _ _ hi
  rw [K2c (by omega), need_true (by omega), need_true (by omega), need_true (by omega), Int.toNat_natCast, g1, g2, g3, hk, K5o _ (by rw [K3f]; omega) (K3g _) _ _ (K7n i) _ h1 h2 (by rw [K8m]; omega), K05, need_true (by rw [K7x, List.length_range]; simp only [List.length_cons, List.length_nil]; omega), w64_eq (n := (i : Int) + 1) (by omega) (by omega), K7y]
  rfl
 ·show qc_1_step k (n : Int) (n : Int) B R () (K7p n) (K6k n) (K4j n) S h ps () (sgJ h (List.range n)) nx (textS h) = _
  unfold qc_1_step
  rw [K26 (by omega)]
theorem cm2 (n : Nat) (hn : n ≤ 4) (k : Int) (B : List Block) (R : Rows) (S : List Val) (h : Hdr) (nx : List Val) (hk : w64 (k + 1) = h.1) (h1 : 1 ≤ h.1) (h2 : h.1 ≤ 16) :
  qc_2 k (n : Int) 0 B R () (K7p n) (K6k n) (K4j n) S h () [] nx (textS h) = some (k, B, R, (), K7p n, K6k n, K4j n, S, h, (), sgJ h (List.range n), nx) := by
 have e1 : (K7p n).length = n := K6o _ _
 have e2 : (K6k n).length = n := K6o _ _
 have e3 : (K4j n).length = n := K6o _ _
 unfold qc_2
 have := K46 (step := fun (t : Int × List K01) => qc_2_step k (n : Int) t.1 B R () (K7p n) (K6k n) (K4j n) S h () t.2 nx (textS h)) (fun i (_ : Unit) => ((i : Int), sgJ h (List.range i))) (fun _ _ => ()) (fun _ => (k, B, R, (), K7p n, K6k n, K4j n, S, h, (), sgJ h (List.range n), nx)) n (fun _ _ => True) (fun i w hi _ => ⟨?_, trivial⟩) (fun w _ => ?_) n 0 () (by omega) trivial
 ·exact this
 ·show qc_2_step k (n : Int) (i : Int) B R () (K7p n) (K6k n) (K4j n) S h () (sgJ h (List.range i)) nx (textS h) = _
  unfold qc_2_step
  have g1 : (K7p n).getD i (List.replicate 32 (0 : UInt8)) = seedK i := K2h _ _ hi
  have g2 : (K6k n).getD i [] = keysS (seedK i) := K2h _ _ hi
  have g3 : (K4j n).getD i [] = nm i := K2h _ _ hi
  rw [K2c (by omega), need_true (by omega), need_true (by omega), need_true (by omega), Int.toNat_natCast, g1, g2, g3, hk, K5o _ (by rw [K3f]; omega) (K3g _) _ _ (K7n i) _ h1 h2 (by rw [K8m]; omega), K05, need_true (by rw [K7x, List.length_range]; simp only [List.length_cons, List.length_nil]; omega), w64_eq (n := (i : Int) + 1) (by omega) (by omega), K7y]
  rfl
 ·show qc_2_step k (n : Int) (n : Int) B R () (K7p n) (K6k n) (K4j n) S h () (sgJ h (List.range n)) nx (textS h) = _
  unfold qc_2_step
  rw [K26 (by omega)]
theorem K12 (a0 : Int) (a1 : List Block) (a2 : Rows) (a3 : Unit) (a4 : List (List UInt8)) (a5 : List (List (List UInt8))) (a6 : List (List UInt8)) (a7 : List Val) : qc a0 a1 a2 a3 a4 a5 a6 a7 =
  (fork (decide ((16 : Int) ≤ (List.length a1 : Int))) (some ((0 : Int), a1, a2, a3, a4, a5, a6, a7)) (fork (decide (a0 < (0 : Int))) (some ((0 : Int), a1, a2, a3, a4, a5, a6, a7)) (fork (decide ((1073741824 : Int) < a0)) (some ((0 : Int), a1, a2, a3, a4, a5, a6, a7)) (fork (decide ((0 : Int) < (List.length a1 : Int))) (need (0 ≤ (w64 ((List.length a1 : Int) - (1 : Int))) ∧ (w64 ((List.length a1 : Int) - (1 : Int))) < (List.length a1 : Int)) (fork (decide (a0 ≤ (List.getD a1 (Int.toNat (w64 ((List.length a1 : Int) - (1 : Int)))) zBlk).1.2.1)) (some ((0 : Int), a1, a2, a3, a4, a5, a6, a7)) (need (List.length ([] : List Val) + List.length a7 ≤ 2147483648) (andThen (qz ([] : List (List UInt8 × List UInt8 × Unit))) (fun u8 => andThen (qv ((List.getD a1 (Int.toNat (w64 ((List.length a1 : Int) - (1 : Int)))) zBlk).1)) (fun u10 => andThen (q15 ((List.getD a1 (Int.toNat (w64 ((List.length a1 : Int) - (1 : Int)))) zBlk).2.2.2.1)) (fun u12 => andThen (q15 (([] : List Val) ++ a7)) (fun u14 => andThen (qv ((w64 ((List.length a1 : Int) + (1 : Int))), a0, u8, u12, u14, u10, ())) (fun u16 => andThen (qc_1 (List.length a1 : Int) (List.length a4 : Int) (0 : Int) a1 a2 a3 a4 a5 a6 a7 ((w64 ((List.length a1 : Int) + (1 : Int))), a0, u8, u12, u14, u10, ()) (List.getD a1 (Int.toNat (w64 ((List.length a1 : Int) - (1 : Int)))) zBlk).2.2.2.1 (()) ([] : List K01) (([] : List Val) ++ a7) u16) (fun o26 => need (List.length ([] : List Block) + List.length o26.2.1 ≤ 2147483648) (need (List.length (([] : List Block) ++ o26.2.1) + List.length ([(o26.2.2.2.2.2.2.2.2.1, o26.2.2.2.2.2.2.2.2.2.2.2.1, o26.2.2.2.2.2.2.2.2.2.1, o26.2.2.2.2.2.2.2.2.2.2.2.2, ())] : List Block) ≤ 2147483648) (need (List.length ([] : Rows) + List.length o26.2.2.1 ≤ 2147483648) (need (List.length (([] : Rows) ++ o26.2.2.1) + List.length ([([] : List (List UInt8 × List UInt8 × Unit))] : Rows) ≤ 2147483648) (some ((w64 (o26.1 + (1 : Int))), ((([] : List Block) ++ o26.2.1) ++ ([(o26.2.2.2.2.2.2.2.2.1, o26.2.2.2.2.2.2.2.2.2.2.2.1, o26.2.2.2.2.2.2.2.2.2.1, o26.2.2.2.2.2.2.2.2.2.2.2.2, ())] : List Block)), ((([] : Rows) ++ o26.2.2.1) ++ ([([] : List (List UInt8 × List UInt8 × Unit))] : Rows)), o26.2.2.2.1, o26.2.2.2.2.1, o26.2.2.2.2.2.1, o26.2.2.2.2.2.2.1, o26.2.2.2.2.2.2.2.1))))))))))))))) (need (List.length ([] : List Val) + List.length a7 ≤ 2147483648) (andThen (qz ([] : List (List UInt8 × List UInt8 × Unit))) (fun u33 => andThen (q15 (([] : List Val) ++ a7)) (fun u35 => andThen (q15 (([] : List Val) ++ a7)) (fun u37 => andThen (qv ((w64 ((List.length a1 : Int) + (1 : Int))), a0, u33, u35, u37, (List.replicate 32 (0 : UInt8)), ())) (fun u39 => andThen (qc_2 (List.length a1 : Int) (List.length a4 : Int) (0 : Int) a1 a2 a3 a4 a5 a6 a7 ((w64 ((List.length a1 : Int) + (1 : Int))), a0, u33, u35, u37, (List.replicate 32 (0 : UInt8)), ()) (()) ([] : List K01) (([] : List Val) ++ a7) u39) (fun o49 => need (List.length ([] : List Block) + List.length o49.2.1 ≤ 2147483648) (need (List.length (([] : List Block) ++ o49.2.1) + List.length ([(o49.2.2.2.2.2.2.2.2.1, o49.2.2.2.2.2.2.2.2.2.2.1, o49.2.2.2.2.2.2.2.2.2.2.2, o49.2.2.2.2.2.2.2.2.2.2.2, ())] : List Block) ≤ 2147483648) (need (List.length ([] : Rows) + List.length o49.2.2.1 ≤ 2147483648) (need (List.length (([] : Rows) ++ o49.2.2.1) + List.length ([([] : List (List UInt8 × List UInt8 × Unit))] : Rows) ≤ 2147483648) (some ((w64 (o49.1 + (1 : Int))), ((([] : List Block) ++ o49.2.1) ++ ([(o49.2.2.2.2.2.2.2.2.1, o49.2.2.2.2.2.2.2.2.2.2.1, o49.2.2.2.2.2.2.2.2.2.2.2, o49.2.2.2.2.2.2.2.2.2.2.2, ())] : List Block)), ((([] : Rows) ++ o49.2.2.1) ++ ([([] : List (List UInt8 × List UInt8 × Unit))] : Rows)), o49.2.2.2.1, o49.2.2.2.2.1, o49.2.2.2.2.2.1, o49.2.2.2.2.2.2.1, o49.2.2.2.2.2.2.2.1))))))))))))))) : Option (Int × (List Block) × (Rows) × Unit × List (List UInt8) × List (List (List UInt8)) × List (List UInt8) × List Val)) := rfl
theorem K11 (n : Nat) (hn : n ≤ 4) (t : Int) (B : List Block) (R : Rows) (S : List Val) (hb : B.length < 16) (hR : R.length ≤ 100) (h1 : 0 ≤ t) (h2 : t ≤ 1073741824) (h3 : B.length ≠ 0 → (lastB B).1.2.1 < t) (hB : Good B) (hS : SetSm S) :
  qc t B R () (K7p n) (K6k n) (K4j n) S = some ((B.length : Int) + 1, B ++ [blkS n S B t], R ++ [[]], (), K7p n, K6k n, K4j n, S) := by
 have e1 : (K7p n).length = n := K6o _ _
 have hSl := hS.1
 have hnil : ([] : List Val) ++ S = S := rfl
 have hr := K2y (S := S) hb h1 h2
 have hh := K2x S B t
 have hd1 := hdS_1 S B t
 have w1 : w64 ((B.length : Int) + 1) = (B.length : Int) + 1 := w64_eq (by omega) (by omega)
 rw [K12, K26 (by omega), K26 (by omega), K26 (by omega)]
 by_cases c : B.length = 0
 ·rw [K26 (by omega), need_true (by simp only [List.length_nil]; omega), K8j, K05, hnil, K79 S hS, K05, K05, w1]
  have hh0 : ((B.length : Int) + 1, t, root0, setH S, setH S, List.replicate 32 (0 : UInt8), ()) = hdS S B t := by
   unfold hdS; rw [if_pos c, c]; rfl
  rw [hh0, K63 _ hh, K05, ← K8n hr, e1, cm2 n hn _ B R S _ S (by rw [w1, hd1]) (by omega) (by omega), K05]
  simp only
  have hB0 : B = [] := List.eq_nil_of_length_eq_zero c
  rw [need_true (by simp only [List.length_nil]; omega), need_true (by simp only [List.nil_append, List.length_cons, List.length_nil]; omega), need_true (by simp only [List.length_nil]; omega), need_true (by simp only [List.nil_append, List.length_cons, List.length_nil]; omega), w1]
  have hnow : nowS S B = S := by unfold nowS; rw [if_pos c]
  unfold blkS
  rw [hnow]
  rfl
 ·obtain ⟨g1, g2⟩ := hB.resolve_left c
  have hix : Int.toNat (w64 ((B.length : Int) - 1)) = B.length - 1 := by rw [w64_eq (by omega) (by omega)]; omega
  have hw : w64 ((B.length : Int) - 1) = (B.length : Int) - 1 := w64_eq (by omega) (by omega)
  have hl : B.getD (B.length - 1) zBlk = lastB B := rfl
  have h3 := h3 c
  rw [K2c (by omega), need_true (by omega), hix, hl, K26 (by omega), need_true (by simp only [List.length_nil]; omega), K8j, K05, K63 _ g2, K05, K79 _ g1, K05, hnil, K79 S hS, K05, w1]
  have hh0 : ((B.length : Int) + 1, t, root0, setH (lastB B).2.2.2.1, setH S, sha (72 :: bodyS (lastB B).1), ()) = hdS S B t := by
   unfold hdS; rw [if_neg c]
  rw [hh0, K63 _ hh, K05, ← K8n hr, e1, cm1 n hn _ B R S _ _ S (by rw [w1, hd1]) (by omega) (by omega), K05]
  simp only
  rw [need_true (by simp only [List.length_nil]; omega), need_true (by simp only [List.nil_append, List.length_cons, List.length_nil]; omega), need_true (by simp only [List.length_nil]; omega), need_true (by simp only [List.nil_append, List.length_cons, List.length_nil]; omega), w1]
  have hnow : nowS S B = (lastB B).2.2.2.1 := by unfold nowS; rw [if_neg c]
  unfold blkS
  rw [hnow]
  rfl
theorem K3o (B : List Block) (b : Block) : lastB (B ++ [b]) = b := by
 unfold lastB
 rw [List.length_append, List.getD_eq_getElem?_getD, List.getElem?_append_right (by simp)]
 simp
theorem K2j {n : Nat} {S : List Val} (hS : SetSm S) (B : List Block) (t : Int) : Good (B ++ [blkS n S B t]) := by
 right
 rw [K3o]
 exact ⟨hS, K2x S B t⟩
theorem K6g (p : Nat → Int) (n : Nat) (h : n ≤ 4) : SetSm (ringN p n) := by
 refine ⟨by simp [ringN]; omega, fun v hv => ?_⟩
 obtain ⟨i, hi, rfl⟩ := List.mem_map.1 hv
 have hi := List.mem_range.1 hi
 have : ∀ i, i < 4 → (nm i).length ≤ 100000 := by decide
 exact ⟨this i (by omega), K6t _⟩
abbrev eqH (x y : List UInt8) : Bool := Ty.beq (.arr 32 (.int .u8)) x y
abbrev Cli := List Hdr × List Val × Int × Bool × Unit
def KeyOk (l : List Val) : Prop := ∀ v ∈ l, v.2.2.1.length = 32
def BlkOk (b : Block) : Prop := K00 b.1 ∧ SgOk b.2.1 ∧ b.2.1.length ≤ 1000000 ∧ KeyOk b.2.2.1 ∧ KeyOk b.2.2.2.1 ∧ b.2.2.1.length ≤ 1000000 ∧ b.2.2.2.1.length ≤ 1000000
theorem K6c {l : List Val} (h : K68 l = true) : K02 l ∧ l.length ≤ 5 ∧ 1 ≤ l.length ∧ ∀ v ∈ l, v.1.length ≤ 16 := by
 unfold K68 at h
 simp only [Bool.and_eq_true, decide_eq_true_eq] at h
 obtain ⟨h1, h2, h3⟩ := h
 have key : ∀ v ∈ l, mayS v = true := by
  intro v hv
  obtain ⟨i, hi, rfl⟩ := List.getElem_of_mem hv
  have := List.all_eq_true.1 h1 i (List.mem_range.2 hi)
  unfold okAt at this
  rw [Bool.and_eq_true] at this
  rw [List.getD_eq_getElem?_getD, List.getElem?_eq_getElem hi] at this
  exact this.1
 have key2 : ∀ v ∈ l, v.1.length ≤ 16 ∧ 1 ≤ v.2.1 ∧ v.2.1 ≤ 1048576 := by
  intro v hv
  have := key v hv
  unfold mayS at this
  simp only [Bool.and_eq_true, decide_eq_true_eq] at this
  omega
 exact ⟨⟨by omega, fun v hv => by have := key2 v hv; omega⟩, h3, h2, fun v hv => (key2 v hv).1⟩
theorem K6b {l : List Val} (h : K68 l = true) (hk : KeyOk l) : SetSm l := by
 obtain ⟨_, h2, _, h4⟩ := K6c h
 exact ⟨by omega, fun v hv => ⟨by have := h4 v hv; omega, hk v hv⟩⟩
def K94 (b : Block) : Bool := K65 b.1 && (K68 b.2.2.1 && (K68 b.2.2.2.1 && (decide (b.2.1.length ≤ 5) && (eqH (setH b.2.2.1) b.1.2.2.2.1 && eqH (setH b.2.2.2.1) b.1.2.2.2.2.1))))
theorem K95 (b : Block) (hb : BlkOk b) : q2j b = some (K94 b) := by
 obtain ⟨b1, b2, b3, b4, b5, b6, b7⟩ := hb
 unfold q2j K94
 rw [K67, K05]
 cases c1 : K65 b.1 with
 | false => rfl
 | true =>
  rw [K2d, right_eq _ (by omega), K05]
  cases c2 : K68 b.2.2.1 with
  | false => rfl
  | true =>
   rw [K2d, right_eq _ (by omega), K05]
   cases c3 : K68 b.2.2.2.1 with
   | false => rfl
   | true =>
    rw [K2d]
    by_cases c4 : b.2.1.length ≤ 5
    ·rw [K2c (by omega), K91 _ (K6b c2 b4), K05, decide_eq_true c4]
     cases c5 : Ty.beq (.arr 32 (.int .u8)) (setH b.2.2.1) b.1.2.2.2.1 with
     | false => rw [show eqH (setH b.2.2.1) b.1.2.2.2.1 = false from c5]; rfl
     | true => rw [show eqH (setH b.2.2.1) b.1.2.2.2.1 = true from c5, K2d, K91 _ (K6b c3 b5), K05]; rfl
    ·rw [K26 (by omega), decide_eq_false c4]; rfl
def lastH (c : Cli) : Hdr := c.1.getD (c.1.length - 1) zHdr
theorem K3s (c : Cli) : ql c = need (0 ≤ (w64 ((List.length c.1 : Int) - (1 : Int))) ∧ (w64 ((List.length c.1 : Int) - (1 : Int))) < (List.length c.1 : Int)) (some (List.getD c.1 (Int.toNat (w64 ((List.length c.1 : Int) - (1 : Int)))) zHdr)) := rfl
theorem K3r (c : Cli) (h1 : 1 ≤ c.1.length) (h2 : c.1.length ≤ 1000000) : ql c = some (lastH c) := by
 rw [K3s, w64_eq (by omega) (by omega), need_true (by omega)]
 unfold lastH
 congr 2
 omega
def CliOk (c : Cli) : Prop := 1 ≤ c.1.length ∧ c.1.length ≤ 1000000 ∧ K02 c.2.1 ∧ (0 ≤ (lastH c).1 ∧ (lastH c).1 ≤ 1099511627776) ∧ (0 ≤ (lastH c).2.1 ∧ (lastH c).2.1 ≤ 1099511627776)
theorem K1h (now : Int) (c : Cli) (hc : CliOk c) (hn : -1099511627776 ≤ now ∧ now ≤ 1099511627776) : qj now c = some (decide (c.2.2.1 < now - (lastH c).2.1)) := by
 obtain ⟨h1, h2, _, _, h5⟩ := hc
 unfold qj
 rw [K3r c h1 h2, K05, w64_eq (by omega) (by omega)]
theorem K0y (l : List Val) (h : l.length ≤ 2147483648) : q14 l = some l := by unfold q14; rw [need_true h]
theorem K0x (l : List Hdr) (h : l.length ≤ 2147483648) : qg l = some l := by unfold qg; rw [need_true h]
def enS (set : List Val) (h : Hdr) (s : List K01) : Bool := decide (allS set * 2 < partS set h s * 3)
def soS (set : List Val) (h : Hdr) (s : List K01) : Bool := decide (allS set * 1 < partS set h s * 3)
def cut6 (l : List Hdr) : List Hdr := if 6 < l.length then l.drop 1 else l
def updS (b : Block) (now : Int) (c : Cli) : Int × Cli :=
 if c.2.2.2.1 = true then (5, c) else if K94 b = false then (1, c) else if b.1.1 ≤ (lastH c).1 then (8, c) else if b.1.2.1 ≤ (lastH c).2.1 then (1, c)
 else if c.2.2.1 < now - (lastH c).2.1 then (6, c) else if now < b.1.2.1 then (6, c)
 else if b.1.1 = (lastH c).1 + 1 ∧ eqH b.1.2.2.2.1 (lastH c).2.2.2.2.1 = false then (9, c) else if enS b.2.2.1 b.1 b.2.1 = false then (9, c)
 else if b.1.1 ≠ (lastH c).1 + 1 ∧ soS c.2.1 b.1 b.2.1 = false then (9, c)
 else (0, (cut6 (c.1 ++ [b.1]), b.2.2.2.1, c.2.2.1, c.2.2.2.1, ()))
theorem tail_eq (b : Block) (c : Cli) (hc : c.1.length ≤ 1000000) (hb : b.2.2.2.1.length ≤ 1000000) : (andThen (qg c.1) (fun u22 => need (List.length u22 + List.length ([b.1] : List Hdr) ≤ 2147483648) (fork (decide ((6 : Int) < (List.length (u22 ++ ([b.1] : List Hdr)) : Int))) (need (0 ≤ (1 : Int) ∧ (1 : Int) ≤ (List.length (u22 ++ ([b.1] : List Hdr)) : Int) ∧ (List.length (u22 ++ ([b.1] : List Hdr)) : Int) ≤ (List.length (u22 ++ ([b.1] : List Hdr)) : Int)) (andThen (q14 b.2.2.2.1) (fun u27 => some ((0 : Int), ((cutL (u22 ++ ([b.1] : List Hdr)) (1 : Int) (List.length (u22 ++ ([b.1] : List Hdr)) : Int)), u27, c.2.2.1, c.2.2.2.1, ()))))) (andThen (q14 b.2.2.2.1) (fun u29 => some ((0 : Int), ((u22 ++ ([b.1] : List Hdr)), u29, c.2.2.1, c.2.2.2.1, ())))))) : Option (Int × Cli)) =
  some (0, (cut6 (c.1 ++ [b.1]), b.2.2.2.1, c.2.2.1, c.2.2.2.1, ())) := by
 have hl : (c.1 ++ [b.1]).length = c.1.length + 1 := by simp
 have h1 : ([b.1] : List Hdr).length = 1 := rfl
 rw [K0x _ (by omega), K05, need_true (by omega)]
 unfold cut6
 by_cases h : (6 : Int) < ((c.1 ++ [b.1]).length : Int)
 ·rw [K2c h, need_true (by omega), K0y _ (by omega), K05, if_pos (by omega), K17]
  rfl
 ·rw [K26 h, K0y _ (by omega), K05, if_neg (by omega)]
theorem K8y (b : Block) (now : Int) (c : Cli) (hb : BlkOk b) (hc : CliOk c) (hn : -1099511627776 ≤ now ∧ now ≤ 1099511627776) : qq b now c = some (updS b now c) := by
 have hex := K1h now c hc hn
 obtain ⟨c1, c2, c3, c4, c5⟩ := hc
 have hw := K95 b hb
 obtain ⟨b1, b2, b3, b4, b5, b6, b7⟩ := hb
 have wl : w64 ((lastH c).1 + 1) = (lastH c).1 + 1 := w64_eq (by omega) (by omega)
 have htail := tail_eq b c (by omega) (by omega)
 unfold qq updS
 rw [K3r c c1 c2, K05]
 by_cases q1 : c.2.2.2.1 = true
 ·rw [q1, K2d, if_pos rfl]
 rw [if_neg q1]
 have q1 : c.2.2.2.1 = false := by simpa using q1
 rw [q1] at htail ⊢
 rw [K27, hw, K05]
 cases q2 : K94 b with
 | false => rw [if_pos rfl]; rfl
 | true =>
  rw [if_neg (by simp), Bool.not_true, K27]
  have hset : K02 b.2.2.1 := by
   unfold K94 at q2
   simp only [Bool.and_eq_true] at q2
   exact (K6c q2.2.1).1
  by_cases q3 : b.1.1 ≤ (lastH c).1
  ·rw [K2c q3, if_pos q3]
  rw [K26 q3, if_neg q3]
  by_cases q4 : b.1.2.1 ≤ (lastH c).2.1
  ·rw [K2c q4, if_pos q4]
  rw [K26 q4, if_neg q4, hex, K05]
  by_cases q5 : c.2.2.1 < now - (lastH c).2.1
  ·rw [K2c q5, if_pos q5]
  rw [K26 q5, if_neg q5]
  by_cases q6 : now < b.1.2.1
  ·rw [K2c q6, if_pos q6]
  rw [K26 q6, if_neg q6, wl]
  have en := K1e b.2.2.1 hset b.1 b1 b.2.1 b3 b2
  have so := K8c c.2.1 c3 b.1 b1 b.2.1 b3 b2
  rw [show decide (allS b.2.2.1 * 2 < partS b.2.2.1 b.1 b.2.1 * 3) = enS b.2.2.1 b.1 b.2.1 from rfl] at en
  rw [show decide (allS c.2.1 * 1 < partS c.2.1 b.1 b.2.1 * 3) = soS c.2.1 b.1 b.2.1 from rfl] at so
  by_cases q7 : b.1.1 = (lastH c).1 + 1
  ·rw [K2c q7]
   cases q8 : Ty.beq (.arr 32 (.int .u8)) b.1.2.2.2.1 (lastH c).2.2.2.2.1 with
   | false => rw [if_pos ⟨q7, q8⟩]; rfl
   | true =>
    rw [if_neg (by rw [show eqH b.1.2.2.2.1 (lastH c).2.2.2.2.1 = true from q8]; simp), Bool.not_true, K27, en, K05]
    cases q9 : enS b.2.2.1 b.1 b.2.1 with
    | false => rw [if_pos rfl]; rfl
    | true =>
     rw [if_neg (by simp), Bool.not_true, K27, K2b q7, if_neg (fun h => h.1 q7)]
     exact htail
  ·rw [K26 q7, if_neg (fun h => q7 h.1), en, K05]
   cases q9 : enS b.2.2.1 b.1 b.2.1 with
   | false => rw [if_pos rfl]; rfl
   | true =>
    rw [if_neg (by simp), Bool.not_true, K27, K29 q7, so, K05]
    cases q10 : soS c.2.1 b.1 b.2.1 with
    | false => rw [if_pos ⟨q7, rfl⟩]; rfl
    | true =>
     rw [if_neg (by simp), Bool.not_true, K27]
     exact htail
def newS (h : Hdr) (next : List Val) (p : Int) : Int ⊕ (Int × Cli) :=
 if K65 h = true ∧ K68 next = true ∧ eqH h.2.2.2.2.1 (setH next) = true ∧ (0 ≤ p ∧ p ≤ 1073741824) then .inr (0, ([h], next, p, false, ())) else .inl 1
theorem new_eq (h : Hdr) (next : List Val) (p : Int) (hk : KeyOk next) (hl : next.length ≤ 1000000) : q3a h next p = some (newS h next p) := by
 unfold q3a newS
 rw [K67, K05]
 cases q1 : K65 h with
 | false => rw [if_neg (by simp)]; rfl
 | true =>
  rw [Bool.not_true, K27, right_eq _ (by omega), K05]
  cases q2 : K68 next with
  | false => rw [if_neg (by simp)]; rfl
  | true =>
   rw [Bool.not_true, K27, K91 _ (K6b q2 hk), K05]
   cases q3 : Ty.beq (.arr 32 (.int .u8)) h.2.2.2.2.1 (setH next) with
   | false => rw [if_neg (by rw [show eqH h.2.2.2.2.1 (setH next) = false from q3]; simp)]; rfl
   | true =>
    rw [Bool.not_true, K27]
    unfold q2g
    by_cases q4 : 0 ≤ p
    ·rw [K2c q4, K05]
     by_cases q5 : p ≤ 1073741824
     ·rw [decide_eq_true q5, Bool.not_true, K27, K0y _ (by omega), if_pos ⟨rfl, rfl, q3, q4, q5⟩]
      rfl
     ·rw [decide_eq_false q5, if_neg (by omega)]; rfl
    ·rw [K26 q4, K05, if_neg (by omega)]; rfl
theorem K4n (p : Nat → Int) {n : Nat} (hn : n ≤ 4) (h : Hdr) (h1 : 1 ≤ h.1) (h2 : h.1 ≤ 16) {js : List Nat} (q1 : js.Pairwise (· < ·)) (q2 : ∀ j ∈ js, j < n) (q3 : js.length ≤ 4) : K4k (ringN p n) h (sgJ h js) = js.map nm := by
 unfold K4k K4g
 rw [if_pos (K6a h q1 (fun j hj => by have := q2 j hj; omega) q3), List.filter_eq_self.2, ← K4r h js]
 ·rfl
 ·intro x hx
  obtain ⟨j, hj, rfl⟩ := List.mem_map.1 hx
  exact good_own _ (K6d p n hn) h h1 h2 (K4e p j) (List.mem_map_of_mem (List.mem_range.2 (q2 j hj))) (seedK j) rfl
theorem filt_inc (g : Nat → Bool) (n : Nat) : ((List.range n).filter g).Pairwise (· < ·) := List.Pairwise.filter _ List.pairwise_lt_range
theorem K1n {g : Nat → Bool} {n j : Nat} (h : j ∈ (List.range n).filter g) : j < n := List.mem_range.1 (List.mem_filter.1 h).1
theorem K1m (g : Nat → Bool) (n : Nat) : ((List.range n).filter g).length ≤ n := by
 have := List.length_filter_le g (List.range n)
 rwa [List.length_range] at this
theorem K55 (p : Nat → Int) {n : Nat} (hn : n ≤ 4) (h : Hdr) (h1 : 1 ≤ h.1) (h2 : h.1 ≤ 16) (g : Nat → Bool) : partS (ringN p n) h (sgJ h ((List.range n).filter g)) = pwJ p ((List.range n).filter g) := by
 have hl := K1m g n
 unfold partS
 rw [K4n p hn h h1 h2 (filt_inc g n) (fun j hj => K1n hj) (by omega)]
 refine K5g p _ g n fun i hi => ?_
 show (((List.range n).filter g).map nm).contains (nm i) = g i
 rw [K14 (fun j hj => by have := K1n hj; omega) (by omega), Bool.eq_iff_iff]
 simp only [List.contains_iff_mem, List.mem_filter, List.mem_range]
 exact ⟨fun x => x.2, fun x => ⟨hi, x⟩⟩
theorem K1l (n : Nat) : (List.range n).filter (fun _ => true) = List.range n := List.filter_eq_self.2 fun _ _ => rfl
theorem K54 (p : Nat → Int) {n : Nat} (hn : n ≤ 4) (h : Hdr) (h1 : 1 ≤ h.1) (h2 : h.1 ≤ 16) : partS (ringN p n) h (sgJ h (List.range n)) = pwJ p (List.range n) := by
 have := K55 p hn h h1 h2 fun _ => true
 rwa [K1l] at this
theorem K04 (p : Nat → Int) (n : Nat) : allS (ringN p n) = pwJ p (List.range n) := by
 unfold allS
 rw [K5g p (fun _ => true) (fun _ => true) n (fun _ _ => rfl), K1l]
def PwOk (p : Nat → Int) : Prop := ∀ i, 1 ≤ p i ∧ p i ≤ 1000000
theorem pw_ok (ps : List Int) : PwOk (pw ps) := fun i => by have := pw_b ps i; omega
theorem PwOk.s {p : Nat → Int} (h : PwOk p) : ∀ i, 0 ≤ p i ∧ p i ≤ 2097152 := fun i => by have := h i; omega
theorem K5n {p : Nat → Int} (h : PwOk p) : ∀ js : List Nat, js ≠ [] → 1 ≤ pwJ p js
 | [], e => absurd rfl e
 | j :: js, _ => by
  have := h j
  have := pwJ_b p h.s js
  unfold pwJ at *
  rw [List.map_cons, List.sum_cons]; omega
theorem K5s {n : Nat} (h : 1 ≤ n) : List.range n ≠ [] := fun e => by have := congrArg List.length e; simp at this; omega
theorem K6f {p : Nat → Int} (hp : PwOk p) {n : Nat} (h1 : 1 ≤ n) (hn : n ≤ 4) : K68 (ringN p n) = true := by
 have hl : (ringN p n).length = n := by simp [ringN]
 have hg : ∀ i, i < n → (ringN p n).getD i zVal = K4e p i := fun i hi => K2h _ _ hi
 have h2 : ∀ i, i < 4 → nm i ≠ [] ∧ (nm i).length ≤ 16 := by decide
 unfold K68
 rw [hl]
 simp only [Bool.and_eq_true, decide_eq_true_eq]
 refine ⟨List.all_eq_true.2 fun i hi => ?_, by omega, by omega⟩
 have hi := List.mem_range.1 hi
 obtain ⟨a, b⟩ := h2 i (by omega)
 have := hp i
 unfold okAt mayS
 rw [hg i hi]
 simp only [Bool.and_eq_true, Bool.or_eq_true, Bool.not_eq_true', decide_eq_true_eq, decide_eq_false_iff_not, beq_iff_eq]
 refine ⟨⟨a, ?_, this.1, ?_⟩, ?_⟩
 ·show ((nm i).length : Int) ≤ 16; omega
 ·show p i ≤ 1048576; omega
 ·by_cases c : i = 0
  ·exact .inl c
  ·right
   rw [hg (i - 1) (by omega)]
   exact nm_inc (i - 1) (by omega) i (by omega) (by omega)
theorem K6e (p : Nat → Int) (n : Nat) : KeyOk (ringN p n) := by
 intro v hv
 obtain ⟨i, hi, rfl⟩ := List.mem_map.1 hv
 exact K6t _
theorem K6i {p : Nat → Int} (hp : PwOk p) {n : Nat} (hn : n ≤ 4) : K02 (ringN p n) := K6h p n hn hp.s
theorem K1d {p : Nat → Int} (hp : PwOk p) {n : Nat} (h1 : 1 ≤ n) (hn : n ≤ 4) (h : Hdr) (q1 : 1 ≤ h.1) (q2 : h.1 ≤ 16) : enS (ringN p n) h (sgJ h (List.range n)) = true := by
 unfold enS
 rw [K54 p hn h q1 q2, K04, decide_eq_true_eq]
 have := K5n hp _ (K5s h1)
 omega
theorem K8b {p : Nat → Int} (hp : PwOk p) {n : Nat} (h1 : 1 ≤ n) (hn : n ≤ 4) (h : Hdr) (q1 : 1 ≤ h.1) (q2 : h.1 ≤ 16) : soS (ringN p n) h (sgJ h (List.range n)) = true := by
 unfold soS
 rw [K54 p hn h q1 q2, K04, decide_eq_true_eq]
 have := K5n hp _ (K5s h1)
 omega
noncomputable def blF (n : Nat) (S : List Val) (f : Nat → Int) : Nat → List Block
 | 0 => []
 | k + 1 => blF n S f k ++ [blkS n S (blF n S f k) (f k)]
noncomputable def hF (n : Nat) (S : List Val) (f : Nat → Int) (j : Nat) : Hdr := hdS S (blF n S f j) (f j)
noncomputable def honB (n : Nat) (S : List Val) (h : Hdr) : Block := (h, sgJ h (List.range n), S, S, ())
theorem K0h (n : Nat) (S : List Val) (f : Nat → Int) : ∀ k, (blF n S f k).length = k
 | 0 => rfl
 | k + 1 => by rw [blF, List.length_append, K0h n S f k]; rfl
theorem nowF (n : Nat) (S : List Val) (f : Nat → Int) : ∀ k, nowS S (blF n S f k) = S
 | 0 => rfl
 | k + 1 => by
  unfold nowS
  rw [K0h, if_neg (by omega), blF, K3o]
  rfl
theorem K0g (n : Nat) (S : List Val) (f : Nat → Int) : ∀ {k j : Nat}, j < k → (blF n S f k).getD j zBlk = honB n S (hF n S f j)
 | k + 1, j, h => by
  rw [blF]
  rcases Nat.lt_or_ge j k with c | c
  ·rw [List.getD_eq_getElem?_getD, List.getElem?_append_left (by rw [K0h]; exact c), ← List.getD_eq_getElem?_getD]
   exact K0g n S f c
  ·have : j = k := by omega
   subst this
   rw [List.getD_eq_getElem?_getD, List.getElem?_append_right (by rw [K0h]; omega), K0h]
   simp only [Nat.sub_self, List.getElem?_cons_zero, Option.getD_some]
   unfold blkS
   rw [nowF]
   rfl
theorem hF_1 (n : Nat) (S : List Val) (f : Nat → Int) (j : Nat) : (hF n S f j).1 = (j : Int) + 1 := by unfold hF; rw [hdS_1, K0h]
theorem hF_t (n : Nat) (S : List Val) (f : Nat → Int) (j : Nat) : (hF n S f j).2.1 = f j := hdS_t _ _ _
theorem K2l (n : Nat) (S : List Val) (f : Nat → Int) (j : Nat) : (hF n S f j).2.2.2.2.1 = setH S := hdS_next _ _ _
theorem K2n (n : Nat) (S : List Val) (f : Nat → Int) (j : Nat) : (hF n S f j).2.2.2.1 = setH S := by unfold hF; rw [hdS_vals, nowF]
theorem K2k (n : Nat) (S : List Val) (f : Nat → Int) (j : Nat) : K00 (hF n S f j) := K2x _ _ _
theorem K2m {n : Nat} {S : List Val} {f : Nat → Int} {j : Nat} (hj : j < 16) (h1 : 0 ≤ f j) (h2 : f j ≤ 1073741824) : K65 (hF n S f j) = true := K2y (by rw [K0h]; exact hj) h1 h2
theorem last_blF (n : Nat) (S : List Val) (f : Nat → Int) (k : Nat) : lastB (blF n S f (k + 1)) = honB n S (hF n S f k) := by
 unfold lastB
 rw [K0h]
 exact K0g n S f (by omega)
theorem good_blF {n : Nat} {S : List Val} (hS : SetSm S) (f : Nat → Int) : ∀ k, Good (blF n S f k)
 | 0 => .inl rfl
 | k + 1 => K2j hS _ _
def Rise (f : Nat → Int) : Prop := (∀ i, i < 16 → 0 ≤ f i ∧ f i ≤ 1000000000) ∧ ∀ i, i + 1 < 16 → f i < f (i + 1)
theorem Rise.lt {f : Nat → Int} (h : Rise f) {i : Nat} : ∀ {j : Nat}, i < j → j < 16 → f i < f j
 | j + 1, hij, hj => by
  have := h.2 j hj
  rcases Nat.lt_or_ge i j with c | c
  ·have := h.lt c (by omega); omega
  ·have : i = j := by omega
   subst this; omega
theorem commitF {n : Nat} (hn : n ≤ 4) {S : List Val} (hS : SetSm S) {f : Nat → Int} (k : Nat) (hk : k < 16) (h0 : 0 ≤ f k ∧ f k ≤ 1000000000) (h1 : k ≠ 0 → f (k - 1) < f k) :
  qc (f k) (blF n S f k) (List.replicate k []) () (K7p n) (K6k n) (K4j n) S = some ((k : Int) + 1, blF n S f (k + 1), List.replicate (k + 1) [], (), K7p n, K6k n, K4j n, S) := by
 have hl := K0h n S f k
 rw [K11 n hn (f k) (blF n S f k) (List.replicate k []) S (by omega) (by simp; omega) h0.1 (by omega) ?_ (good_blF hS f k) hS, hl, List.replicate_succ']
 ·rfl
 ·intro hne
  obtain ⟨q, rfl⟩ : ∃ q, k = q + 1 := ⟨k - 1, by omega⟩
  rw [last_blF]
  show (hF n S f q).2.1 < _
  rw [hF_t]
  exact h1 (by omega)
theorem K32 {n : Nat} (hn : n ≤ 4) (p : Nat → Int) {h : Hdr} (hh : K00 h) (h1 : 1 ≤ h.1) (h2 : h.1 ≤ 16) : BlkOk (honB n (ringN p n) h) := by
 have hl : (ringN p n).length = n := by simp [ringN]
 refine ⟨hh, sgJ_ok h h1 h2 _, ?_, K6e p n, K6e p n, ?_, ?_⟩
 ·show (sgJ h (List.range n)).length ≤ 1000000
  rw [K7x, List.length_range]; omega
 ·show (ringN p n).length ≤ 1000000; omega
 ·show (ringN p n).length ≤ 1000000; omega
theorem K96 {p : Nat → Int} (hp : PwOk p) {n : Nat} (h1 : 1 ≤ n) (hn : n ≤ 4) {h : Hdr} (hr : K65 h = true) (hv : h.2.2.2.1 = setH (ringN p n)) (hx : h.2.2.2.2.1 = setH (ringN p n)) : K94 (honB n (ringN p n) h) = true := by
 unfold K94 honB
 simp only
 rw [hr, K6f hp h1 hn, hv, hx, show eqH (setH (ringN p n)) (setH (ringN p n)) = true from K0e _, decide_eq_true (by rw [K7x, List.length_range]; omega)]
 rfl
def Knows (S : List Val) (P : Int) (h : Hdr) (c : Cli) : Prop := 1 ≤ c.1.length ∧ c.1.length ≤ 1000 ∧ lastH c = h ∧ c.2.1 = S ∧ c.2.2.1 = P ∧ c.2.2.2.1 = false
theorem K3j {p : Nat → Int} (hp : PwOk p) {n : Nat} (hn : n ≤ 4) {P : Int} {f : Nat → Int} (hf : Rise f) {i : Nat} (hi : i < 16) {c : Cli} (hc : Knows (ringN p n) P (hF n (ringN p n) f i) c) : CliOk c := by
 obtain ⟨c1, c2, c3, c4, _, _⟩ := hc
 have := hf.1 i hi
 refine ⟨c1, by omega, by rw [c4]; exact K6i hp hn, ?_, ?_⟩
 ·rw [c3, hF_1]; omega
 ·rw [c3, hF_t]; omega
theorem K3q (l : List Hdr) (h : Hdr) (x : List Val × Int × Bool × Unit) : lastH (l ++ [h], x) = h := by
 unfold lastH
 simp only
 rw [List.length_append, List.getD_eq_getElem?_getD, List.getElem?_append_right (by simp)]
 simp
theorem K3p (l : List Hdr) (h : Hdr) (x : List Val × Int × Bool × Unit) (hl : 1 ≤ l.length) : lastH (cut6 (l ++ [h]), x) = h := by
 unfold cut6
 split
 ·rw [List.drop_append_of_le_length hl]
  exact K3q _ _ _
 ·exact K3q _ _ _
theorem K8z {p : Nat → Int} (hp : PwOk p) {n : Nat} (h1 : 1 ≤ n) (hn : n ≤ 4) {P : Int} {f : Nat → Int} (hf : Rise f) {i j : Nat} (hi : i < 16) (hj : j < 16) {c : Cli} (hc : Knows (ringN p n) P (hF n (ringN p n) f i) c) (now : Int) :
  updS (honB n (ringN p n) (hF n (ringN p n) f j)) now c = if j ≤ i then (8, c) else if P < now - f i ∨ now < f j then (6, c) else (0, (cut6 (c.1 ++ [hF n (ringN p n) f j]), ringN p n, P, false, ())) := by
 obtain ⟨c1, c2, c3, c4, c5, c6⟩ := hc
 have r := K2m (n := n) (S := ringN p n) hj (hf.1 j hj).1 (by have := (hf.1 j hj).2; omega)
 have e1 := hF_1 n (ringN p n) f j
 have e2 := hF_1 n (ringN p n) f i
 unfold updS
 rw [if_neg (by rw [c6]; simp), K96 hp h1 hn r (K2n _ _ _ _) (K2l _ _ _ _), if_neg (by simp), c3, e2, hF_t, K2l]
 show (if (hF n (ringN p n) f j).1 ≤ _ then _ else if (hF n (ringN p n) f j).2.1 ≤ _ then _ else _) = _
 rw [e1, hF_t]
 by_cases q1 : j ≤ i
 ·rw [if_pos (by omega), if_pos q1]
 rw [if_neg (by omega), if_neg q1]
 have := hf.lt (show i < j by omega) hj
 rw [if_neg (by omega), c5]
 by_cases q2 : P < now - f i
 ·rw [if_pos q2, if_pos (.inl q2)]
 rw [if_neg q2]
 show (if now < (hF n (ringN p n) f j).2.1 then _ else _) = _
 rw [hF_t]
 by_cases q3 : now < f j
 ·rw [if_pos q3, if_pos (.inr q3)]
 rw [if_neg q3]
 show (if (hF n (ringN p n) f j).1 = _ ∧ eqH (hF n (ringN p n) f j).2.2.2.1 _ = false then _ else if enS (ringN p n) (hF n (ringN p n) f j) (sgJ (hF n (ringN p n) f j) (List.range n)) = false then _ else if (hF n (ringN p n) f j).1 ≠ _ ∧ soS c.2.1 (hF n (ringN p n) f j) (sgJ (hF n (ringN p n) f j) (List.range n)) = false then _ else (0, (cut6 (c.1 ++ [hF n (ringN p n) f j]), ringN p n, P, c.2.2.2.1, ()))) = _
 rw [K2n, show eqH (setH (ringN p n)) (setH (ringN p n)) = true from K0e _, if_neg (by simp), K1d hp h1 hn _ (by omega) (by omega), if_neg (by simp), c4, K8b hp h1 hn _ (by omega) (by omega), if_neg (by simp), c6, if_neg (by omega)]
theorem K3i {S : List Val} {P : Int} {h0 h : Hdr} {c : Cli} (hc : Knows S P h0 c) (hl : c.1.length ≤ 990) : Knows S P h (cut6 (c.1 ++ [h]), S, P, false, ()) := by
 obtain ⟨c1, c2, c3, c4, c5, c6⟩ := hc
 have hcut : 1 ≤ (cut6 (c.1 ++ [h])).length ∧ (cut6 (c.1 ++ [h])).length ≤ 1000 := by
  unfold cut6
  split
  ·rw [List.length_drop, List.length_append]; simp only [List.length_cons, List.length_nil]; omega
  ·rw [List.length_append]; simp only [List.length_cons, List.length_nil]; omega
 exact ⟨hcut.1, hcut.2, K3p _ _ _ c1, rfl, rfl, rfl⟩
theorem new_hon {p : Nat → Int} (hp : PwOk p) {n : Nat} (h1 : 1 ≤ n) (hn : n ≤ 4) {f : Nat → Int} (hf : Rise f) {P : Int} (hP : 0 ≤ P ∧ P ≤ 1073741824) {j : Nat} (hj : j < 16) :
  q3a (hF n (ringN p n) f j) (ringN p n) P = some (.inr (0, ([hF n (ringN p n) f j], ringN p n, P, false, ()))) := by
 have hl : (ringN p n).length = n := by simp [ringN]
 rw [new_eq _ _ _ (K6e p n) (by omega)]
 unfold newS
 rw [if_pos ⟨K2m hj (hf.1 j hj).1 (by have := (hf.1 j hj).2; omega), K6f hp h1 hn, by rw [K2l]; exact K0e _, hP.1, hP.2⟩]
theorem K3h (S : List Val) (P : Int) (h : Hdr) : Knows S P h ([h], S, P, false, ()) := ⟨Nat.le_refl _, by simp, rfl, rfl, rfl, rfl⟩
abbrev PrR := List UInt8 × List UInt8 × Unit
noncomputable def hdR (r : List UInt8) (S : List Val) (B : List Block) (t : Int) : Hdr :=
 if B.length = 0 then (1, t, r, setH S, setH S, List.replicate 32 0, ())
 else ((B.length : Int) + 1, t, r, setH (lastB B).2.2.2.1, setH S, sha (72 :: bodyS (lastB B).1), ())
theorem K2v {r : List UInt8} (hr32 : r.length = 32) (S : List Val) (B : List Block) (t : Int) : K00 (hdR r S B t) := by
 unfold hdR
 split
 ·exact ⟨hr32, K7r _, K7r _, by simp⟩
 ·exact ⟨hr32, K7r _, K7r _, K7z _⟩
theorem hdR_1 (r : List UInt8) (S : List Val) (B : List Block) (t : Int) : (hdR r S B t).1 = (B.length : Int) + 1 := by
 unfold hdR; split
 ·show (1 : Int) = _; omega
 ·rfl
theorem hdR_t (r : List UInt8) (S : List Val) (B : List Block) (t : Int) : (hdR r S B t).2.1 = t := by unfold hdR; split <;> rfl
theorem hdR_next (r : List UInt8) (S : List Val) (B : List Block) (t : Int) : (hdR r S B t).2.2.2.2.1 = setH S := by unfold hdR; split <;> rfl
theorem hdR_vals (r : List UInt8) (S : List Val) (B : List Block) (t : Int) : (hdR r S B t).2.2.2.1 = setH (nowS S B) := by unfold hdR nowS; split <;> rfl
theorem K2w {r : List UInt8} {S : List Val} {B : List Block} {t : Int} (hb : B.length < 16) (h1 : 0 ≤ t) (h2 : t ≤ 1073741824) : K65 (hdR r S B t) = true := by
 rw [K66, hdR_1, hdR_t]; omega
noncomputable def blkR (n : Nat) (r : List UInt8) (S : List Val) (B : List Block) (t : Int) : Block := (hdR r S B t, sgJ (hdR r S B t) (List.range n), nowS S B, S, ())
theorem cg1 (n : Nat) (hn : n ≤ 4) (k : Int) (N : List PrR) (B : List Block) (R : Rows) (S : List Val) (h : Hdr) (ps nx : List Val) (hk : w64 (k + 1) = h.1) (h1 : 1 ≤ h.1) (h2 : h.1 ≤ 16) :
  qb_1 k (n : Int) 0 N S B R () (K7p n) (K6k n) (K4j n) h ps () [] nx (textS h) = some (k, N, S, B, R, (), K7p n, K6k n, K4j n, h, ps, (), sgJ h (List.range n), nx) := by
 have e1 : (K7p n).length = n := K6o _ _
 have e2 : (K6k n).length = n := K6o _ _
 have e3 : (K4j n).length = n := K6o _ _
 unfold qb_1
 have := K46 (step := fun (t : Int × List K01) => qb_1_step k (n : Int) t.1 N S B R () (K7p n) (K6k n) (K4j n) h ps () t.2 nx (textS h)) (fun i (_ : Unit) => ((i : Int), sgJ h (List.range i))) (fun _ _ => ()) (fun _ => (k, N, S, B, R, (), K7p n, K6k n, K4j n, h, ps, (), sgJ h (List.range n), nx)) n (fun _ _ => True) (fun i w hi _ => ⟨?_, trivial⟩) (fun w _ => ?_) n 0 () (by omega) trivial
 ·exact this
 ·show qb_1_step k (n : Int) (i : Int) N S B R () (K7p n) (K6k n) (K4j n) h ps () (sgJ h (List.range i)) nx (textS h) = _
  unfold qb_1_step
  have g1 : (K7p n).getD i (List.replicate 32 (0 : UInt8)) = seedK i := K2h _ _ hi
  have g2 : (K6k n).getD i [] = keysS (seedK i) := K2h _ _ hi
  have g3 : (K4j n).getD i [] = nm i := K2h _ _ hi
  rw [K2c (by omega), need_true (by omega), need_true (by omega), need_true (by omega), Int.toNat_natCast, g1, g2, g3, hk, K5o _ (by rw [K3f]; omega) (K3g _) _ _ (K7n i) _ h1 h2 (by rw [K8m]; omega), K05, need_true (by rw [K7x, List.length_range]; simp only [List.length_cons, List.length_nil]; omega), w64_eq (n := (i : Int) + 1) (by omega) (by omega), K7y]
  rfl
 ·show qb_1_step k (n : Int) (n : Int) N S B R () (K7p n) (K6k n) (K4j n) h ps () (sgJ h (List.range n)) nx (textS h) = _
  unfold qb_1_step
  rw [K26 (by omega)]
theorem cg2 (n : Nat) (hn : n ≤ 4) (k : Int) (N : List PrR) (B : List Block) (R : Rows) (S : List Val) (h : Hdr) (nx : List Val) (hk : w64 (k + 1) = h.1) (h1 : 1 ≤ h.1) (h2 : h.1 ≤ 16) :
  qb_2 k (n : Int) 0 N S B R () (K7p n) (K6k n) (K4j n) h () [] nx (textS h) = some (k, N, S, B, R, (), K7p n, K6k n, K4j n, h, (), sgJ h (List.range n), nx) := by
 have e1 : (K7p n).length = n := K6o _ _
 have e2 : (K6k n).length = n := K6o _ _
 have e3 : (K4j n).length = n := K6o _ _
 unfold qb_2
 have := K46 (step := fun (t : Int × List K01) => qb_2_step k (n : Int) t.1 N S B R () (K7p n) (K6k n) (K4j n) h () t.2 nx (textS h)) (fun i (_ : Unit) => ((i : Int), sgJ h (List.range i))) (fun _ _ => ()) (fun _ => (k, N, S, B, R, (), K7p n, K6k n, K4j n, h, (), sgJ h (List.range n), nx)) n (fun _ _ => True) (fun i w hi _ => ⟨?_, trivial⟩) (fun w _ => ?_) n 0 () (by omega) trivial
 ·exact this
 ·show qb_2_step k (n : Int) (i : Int) N S B R () (K7p n) (K6k n) (K4j n) h () (sgJ h (List.range i)) nx (textS h) = _
  unfold qb_2_step
  have g1 : (K7p n).getD i (List.replicate 32 (0 : UInt8)) = seedK i := K2h _ _ hi
  have g2 : (K6k n).getD i [] = keysS (seedK i) := K2h _ _ hi
  have g3 : (K4j n).getD i [] = nm i := K2h _ _ hi
  rw [K2c (by omega), need_true (by omega), need_true (by omega), need_true (by omega), Int.toNat_natCast, g1, g2, g3, hk, K5o _ (by rw [K3f]; omega) (K3g _) _ _ (K7n i) _ h1 h2 (by rw [K8m]; omega), K05, need_true (by rw [K7x, List.length_range]; simp only [List.length_cons, List.length_nil]; omega), w64_eq (n := (i : Int) + 1) (by omega) (by omega), K7y]
  rfl
 ·show qb_2_step k (n : Int) (n : Int) N S B R () (K7p n) (K6k n) (K4j n) h () (sgJ h (List.range n)) nx (textS h) = _
  unfold qb_2_step
  rw [K26 (by omega)]
theorem K10 (a0 : Int) (a1 : List (List UInt8 × List UInt8 × Unit)) (a2 : List Val) (a3 : List Block) (a4 : Rows) (a5 : Unit) (a6 : List (List UInt8)) (a7 : List (List (List UInt8))) (a8 : List (List UInt8)) : qb a0 a1 a2 a3 a4 a5 a6 a7 a8 =
  (fork (decide ((16 : Int) ≤ (List.length a3 : Int))) (some ((0 : Int), a1, a2, a3, a4, a5, a6, a7, a8)) (fork (decide (a0 < (0 : Int))) (some ((0 : Int), a1, a2, a3, a4, a5, a6, a7, a8)) (fork (decide ((1073741824 : Int) < a0)) (some ((0 : Int), a1, a2, a3, a4, a5, a6, a7, a8)) (fork (decide ((0 : Int) < (List.length a3 : Int))) (need (0 ≤ (w64 ((List.length a3 : Int) - (1 : Int))) ∧ (w64 ((List.length a3 : Int) - (1 : Int))) < (List.length a3 : Int)) (fork (decide (a0 ≤ (List.getD a3 (Int.toNat (w64 ((List.length a3 : Int) - (1 : Int)))) zBlk).1.2.1)) (some ((0 : Int), a1, a2, a3, a4, a5, a6, a7, a8)) (need (List.length ([] : List Val) + List.length a2 ≤ 2147483648) (andThen (qz a1) (fun u8 => andThen (qv ((List.getD a3 (Int.toNat (w64 ((List.length a3 : Int) - (1 : Int)))) zBlk).1)) (fun u10 => andThen (q15 ((List.getD a3 (Int.toNat (w64 ((List.length a3 : Int) - (1 : Int)))) zBlk).2.2.2.1)) (fun u12 => andThen (q15 (([] : List Val) ++ a2)) (fun u14 => andThen (qv ((w64 ((List.length a3 : Int) + (1 : Int))), a0, u8, u12, u14, u10, ())) (fun u16 => andThen (qb_1 (List.length a3 : Int) (List.length a6 : Int) (0 : Int) a1 a2 a3 a4 a5 a6 a7 a8 ((w64 ((List.length a3 : Int) + (1 : Int))), a0, u8, u12, u14, u10, ()) (List.getD a3 (Int.toNat (w64 ((List.length a3 : Int) - (1 : Int)))) zBlk).2.2.2.1 (()) ([] : List K01) (([] : List Val) ++ a2) u16) (fun o26 => need (List.length ([] : List Block) + List.length o26.2.2.2.1 ≤ 2147483648) (need (List.length (([] : List Block) ++ o26.2.2.2.1) + List.length ([(o26.2.2.2.2.2.2.2.2.2.1, o26.2.2.2.2.2.2.2.2.2.2.2.2.1, o26.2.2.2.2.2.2.2.2.2.2.1, o26.2.2.2.2.2.2.2.2.2.2.2.2.2, ())] : List Block) ≤ 2147483648) (need (List.length ([] : Rows) + List.length o26.2.2.2.2.1 ≤ 2147483648) (need (List.length (([] : Rows) ++ o26.2.2.2.2.1) + List.length ([o26.2.1] : Rows) ≤ 2147483648) (some ((w64 (o26.1 + (1 : Int))), o26.2.1, o26.2.2.1, ((([] : List Block) ++ o26.2.2.2.1) ++ ([(o26.2.2.2.2.2.2.2.2.2.1, o26.2.2.2.2.2.2.2.2.2.2.2.2.1, o26.2.2.2.2.2.2.2.2.2.2.1, o26.2.2.2.2.2.2.2.2.2.2.2.2.2, ())] : List Block)), ((([] : Rows) ++ o26.2.2.2.2.1) ++ ([o26.2.1] : Rows)), o26.2.2.2.2.2.1, o26.2.2.2.2.2.2.1, o26.2.2.2.2.2.2.2.1, o26.2.2.2.2.2.2.2.2.1))))))))))))))) (need (List.length ([] : List Val) + List.length a2 ≤ 2147483648) (andThen (qz a1) (fun u33 => andThen (q15 (([] : List Val) ++ a2)) (fun u35 => andThen (q15 (([] : List Val) ++ a2)) (fun u37 => andThen (qv ((w64 ((List.length a3 : Int) + (1 : Int))), a0, u33, u35, u37, (List.replicate 32 (0 : UInt8)), ())) (fun u39 => andThen (qb_2 (List.length a3 : Int) (List.length a6 : Int) (0 : Int) a1 a2 a3 a4 a5 a6 a7 a8 ((w64 ((List.length a3 : Int) + (1 : Int))), a0, u33, u35, u37, (List.replicate 32 (0 : UInt8)), ()) (()) ([] : List K01) (([] : List Val) ++ a2) u39) (fun o49 => need (List.length ([] : List Block) + List.length o49.2.2.2.1 ≤ 2147483648) (need (List.length (([] : List Block) ++ o49.2.2.2.1) + List.length ([(o49.2.2.2.2.2.2.2.2.2.1, o49.2.2.2.2.2.2.2.2.2.2.2.1, o49.2.2.2.2.2.2.2.2.2.2.2.2, o49.2.2.2.2.2.2.2.2.2.2.2.2, ())] : List Block) ≤ 2147483648) (need (List.length ([] : Rows) + List.length o49.2.2.2.2.1 ≤ 2147483648) (need (List.length (([] : Rows) ++ o49.2.2.2.2.1) + List.length ([o49.2.1] : Rows) ≤ 2147483648) (some ((w64 (o49.1 + (1 : Int))), o49.2.1, o49.2.2.1, ((([] : List Block) ++ o49.2.2.2.1) ++ ([(o49.2.2.2.2.2.2.2.2.2.1, o49.2.2.2.2.2.2.2.2.2.2.2.1, o49.2.2.2.2.2.2.2.2.2.2.2.2, o49.2.2.2.2.2.2.2.2.2.2.2.2, ())] : List Block)), ((([] : Rows) ++ o49.2.2.2.2.1) ++ ([o49.2.1] : Rows)), o49.2.2.2.2.2.1, o49.2.2.2.2.2.2.1, o49.2.2.2.2.2.2.2.1, o49.2.2.2.2.2.2.2.2.1))))))))))))))) : Option (Int × (List (List UInt8 × List UInt8 × Unit)) × (List Val) × (List Block) × (Rows) × Unit × List (List UInt8) × List (List (List UInt8)) × List (List UInt8))) := rfl
theorem K0z (n : Nat) (hn : n ≤ 4) (t : Int) (N : List PrR) (r : List UInt8) (hN : qz N = some r) (hr32 : r.length = 32) (B : List Block) (R : Rows) (S : List Val) (hb : B.length < 16) (hR : R.length ≤ 100) (h1 : 0 ≤ t) (h2 : t ≤ 1073741824) (h3 : B.length ≠ 0 → (lastB B).1.2.1 < t) (hB : Good B) (hS : SetSm S) :
  qb t N S B R () (K7p n) (K6k n) (K4j n) = some ((B.length : Int) + 1, N, S, B ++ [blkR n r S B t], R ++ [N], (), K7p n, K6k n, K4j n) := by
 have e1 : (K7p n).length = n := K6o _ _
 have hSl := hS.1
 have hnil : ([] : List Val) ++ S = S := rfl
 have hr := K2w (r := r) (S := S) hb h1 h2
 have hh := K2v hr32 S B t
 have hd1 := hdR_1 r S B t
 have w1 : w64 ((B.length : Int) + 1) = (B.length : Int) + 1 := w64_eq (by omega) (by omega)
 rw [K10, K26 (by omega), K26 (by omega), K26 (by omega)]
 by_cases c : B.length = 0
 ·rw [K26 (by omega), need_true (by simp only [List.length_nil]; omega), hN, K05, hnil, K79 S hS, K05, K05, w1]
  have hh0 : ((B.length : Int) + 1, t, r, setH S, setH S, List.replicate 32 (0 : UInt8), ()) = hdR r S B t := by
   unfold hdR; rw [if_pos c, c]; rfl
  rw [hh0, K63 _ hh, K05, ← K8n hr, e1, cg2 n hn _ N B R S _ S (by rw [w1, hd1]) (by omega) (by omega), K05]
  simp only
  have hB0 : B = [] := List.eq_nil_of_length_eq_zero c
  rw [need_true (by simp only [List.length_nil]; omega), need_true (by simp only [List.nil_append, List.length_cons, List.length_nil]; omega), need_true (by simp only [List.length_nil]; omega), need_true (by simp only [List.nil_append, List.length_cons, List.length_nil]; omega), w1]
  have hnow : nowS S B = S := by unfold nowS; rw [if_pos c]
  unfold blkR
  rw [hnow]
  rfl
 ·obtain ⟨g1, g2⟩ := hB.resolve_left c
  have hix : Int.toNat (w64 ((B.length : Int) - 1)) = B.length - 1 := by rw [w64_eq (by omega) (by omega)]; omega
  have hw : w64 ((B.length : Int) - 1) = (B.length : Int) - 1 := w64_eq (by omega) (by omega)
  have hl : B.getD (B.length - 1) zBlk = lastB B := rfl
  have h3 := h3 c
  rw [K2c (by omega), need_true (by omega), hix, hl, K26 (by omega), need_true (by simp only [List.length_nil]; omega), hN, K05, K63 _ g2, K05, K79 _ g1, K05, hnil, K79 S hS, K05, w1]
  have hh0 : ((B.length : Int) + 1, t, r, setH (lastB B).2.2.2.1, setH S, sha (72 :: bodyS (lastB B).1), ()) = hdR r S B t := by
   unfold hdR; rw [if_neg c]
  rw [hh0, K63 _ hh, K05, ← K8n hr, e1, cg1 n hn _ N B R S _ _ S (by rw [w1, hd1]) (by omega) (by omega), K05]
  simp only
  rw [need_true (by simp only [List.length_nil]; omega), need_true (by simp only [List.nil_append, List.length_cons, List.length_nil]; omega), need_true (by simp only [List.length_nil]; omega), need_true (by simp only [List.nil_append, List.length_cons, List.length_nil]; omega), w1]
  have hnow : nowS S B = (lastB B).2.2.2.1 := by unfold nowS; rw [if_neg c]
  unfold blkR
  rw [hnow]
  rfl
theorem K2i {n : Nat} {r : List UInt8} (hr : r.length = 32) {S : List Val} (hS : SetSm S) (B : List Block) (t : Int) : Good (B ++ [blkR n r S B t]) := by
 right
 rw [K3o]
 exact ⟨hS, K2v hr S B t⟩
noncomputable def blG (n : Nat) (r : Nat → List UInt8) (S : Nat → List Val) (f : Nat → Int) : Nat → List Block
 | 0 => []
 | k + 1 => blG n r S f k ++ [blkR n (r k) (S k) (blG n r S f k) (f k)]
noncomputable def hG (n : Nat) (r : Nat → List UInt8) (S : Nat → List Val) (f : Nat → Int) (j : Nat) : Hdr := hdR (r j) (S j) (blG n r S f j) (f j)
def preS (S : Nat → List Val) (j : Nat) : List Val := if j = 0 then S 0 else S (j - 1)
noncomputable def genB (n : Nat) (r : Nat → List UInt8) (S : Nat → List Val) (f : Nat → Int) (j : Nat) : Block := (hG n r S f j, sgJ (hG n r S f j) (List.range n), preS S j, S j, ())
theorem K0k (n : Nat) (r : Nat → List UInt8) (S : Nat → List Val) (f : Nat → Int) : ∀ k, (blG n r S f k).length = k
 | 0 => rfl
 | k + 1 => by rw [blG, List.length_append, K0k n r S f k]; rfl
theorem nowG (n : Nat) (r : Nat → List UInt8) (S : Nat → List Val) (f : Nat → Int) : ∀ k, nowS (S k) (blG n r S f k) = preS S k
 | 0 => rfl
 | k + 1 => by
  unfold nowS preS
  rw [K0k, if_neg (by omega), if_neg (by omega), blG, K3o]
  rfl
theorem K0i (n : Nat) (r : Nat → List UInt8) (S : Nat → List Val) (f : Nat → Int) : ∀ {k j : Nat}, j < k → (blG n r S f k).getD j zBlk = genB n r S f j
 | k + 1, j, h => by
  rw [blG]
  rcases Nat.lt_or_ge j k with c | c
  ·rw [List.getD_eq_getElem?_getD, List.getElem?_append_left (by rw [K0k]; exact c), ← List.getD_eq_getElem?_getD]
   exact K0i n r S f c
  ·have : j = k := by omega
   subst this
   rw [List.getD_eq_getElem?_getD, List.getElem?_append_right (by rw [K0k]; omega), K0k]
   simp only [Nat.sub_self, List.getElem?_cons_zero, Option.getD_some]
   unfold blkR
   rw [nowG]
   rfl
theorem K0j (n : Nat) {r r' : Nat → List UInt8} {S S' : Nat → List Val} {f f' : Nat → Int} : ∀ k, (∀ j, j < k → r j = r' j ∧ S j = S' j ∧ f j = f' j) → blG n r S f k = blG n r' S' f' k
 | 0, _ => rfl
 | k + 1, h => by
  obtain ⟨a, b, c⟩ := h k (Nat.lt_succ_self k)
  rw [blG, blG, K0j n k (fun j hj => h j (by omega)), a, b, c]
theorem hG_1 (n : Nat) (r : Nat → List UInt8) (S : Nat → List Val) (f : Nat → Int) (j : Nat) : (hG n r S f j).1 = (j : Int) + 1 := by unfold hG; rw [hdR_1, K0k]
theorem hG_t (n : Nat) (r : Nat → List UInt8) (S : Nat → List Val) (f : Nat → Int) (j : Nat) : (hG n r S f j).2.1 = f j := hdR_t _ _ _ _
theorem K2p (n : Nat) (r : Nat → List UInt8) (S : Nat → List Val) (f : Nat → Int) (j : Nat) : (hG n r S f j).2.2.2.2.1 = setH (S j) := hdR_next _ _ _ _
theorem K2r (n : Nat) (r : Nat → List UInt8) (S : Nat → List Val) (f : Nat → Int) (j : Nat) : (hG n r S f j).2.2.2.1 = setH (preS S j) := by unfold hG; rw [hdR_vals, nowG]
theorem K2o (n : Nat) {r : Nat → List UInt8} (S : Nat → List Val) (f : Nat → Int) {j : Nat} (hr : (r j).length = 32) : K00 (hG n r S f j) := K2v hr _ _ _
theorem K2q {n : Nat} {r : Nat → List UInt8} {S : Nat → List Val} {f : Nat → Int} {j : Nat} (hj : j < 16) (h1 : 0 ≤ f j) (h2 : f j ≤ 1073741824) : K65 (hG n r S f j) = true := K2w (by rw [K0k]; exact hj) h1 h2
theorem last_blG (n : Nat) (r : Nat → List UInt8) (S : Nat → List Val) (f : Nat → Int) (k : Nat) : lastB (blG n r S f (k + 1)) = genB n r S f k := by
 unfold lastB
 rw [K0k]
 exact K0i n r S f (by omega)
theorem good_blG (n : Nat) {r : Nat → List UInt8} {S : Nat → List Val} (f : Nat → Int) : ∀ k, (∀ j, j < k → (r j).length = 32 ∧ SetSm (S j)) → Good (blG n r S f k)
 | 0, _ => .inl rfl
 | k + 1, h => K2i (h k (by omega)).1 (h k (by omega)).2 _ _
theorem commitGk {n : Nat} (hn : n ≤ 4) {r : Nat → List UInt8} {S : Nat → List Val} {f : Nat → Int} (k : Nat) (hk : k < 16) (N : List PrR) (hN : qz N = some (r k)) (R : Rows) (hR : R.length ≤ 100) (hj : ∀ j, j ≤ k → (r j).length = 32 ∧ SetSm (S j)) (h0 : 0 ≤ f k ∧ f k ≤ 1000000000) (h1 : k ≠ 0 → f (k - 1) < f k) :
  qb (f k) N (S k) (blG n r S f k) R () (K7p n) (K6k n) (K4j n) = some ((k : Int) + 1, N, S k, blG n r S f (k + 1), R ++ [N], (), K7p n, K6k n, K4j n) := by
 have hl := K0k n r S f k
 rw [K0z n hn (f k) N (r k) hN (hj k (Nat.le_refl _)).1 (blG n r S f k) R (S k) (by omega) hR h0.1 (by omega) ?_ (good_blG n f k fun j hjk => hj j (by omega)) (hj k (Nat.le_refl _)).2, hl]
 ·rfl
 ·intro hne
  obtain ⟨q, rfl⟩ : ∃ q, k = q + 1 := ⟨k - 1, by omega⟩
  rw [last_blG]
  show (hG n r S f q).2.1 < _
  rw [hG_t]
  exact h1 (by omega)
theorem preR (P : Nat → Nat → Int) (n j : Nat) : preS (fun k => ringN (P k) n) j = ringN (if j = 0 then P 0 else P (j - 1)) n := by
 unfold preS; split <;> rfl
def RiseG (m : Nat) (f : Nat → Int) : Prop := (∀ i, i < m → 0 ≤ f i ∧ f i ≤ 1000000000) ∧ ∀ i, i + 1 < m → f i < f (i + 1)
theorem RiseG.lt {m : Nat} {f : Nat → Int} (h : RiseG m f) {i : Nat} : ∀ {j : Nat}, i < j → j < m → f i < f j
 | j + 1, hij, hj => by
  have := h.2 j hj
  rcases Nat.lt_or_ge i j with c | c
  ·have := h.lt c (by omega); omega
  ·have : i = j := by omega
   subst this; omega
noncomputable def sgB (n : Nat) (r : Nat → List UInt8) (P : Nat → Nat → Int) (f : Nat → Int) (j : Nat) (g : Nat → Bool) : Block := (hG n r (fun k => ringN (P k) n) f j, sgJ (hG n r (fun k => ringN (P k) n) f j) ((List.range n).filter g), preS (fun k => ringN (P k) n) j, ringN (P j) n, ())
def pB (P : Nat → Nat → Int) (j : Nat) : Nat → Int := if j = 0 then P 0 else P (j - 1)
theorem pB_ok {P : Nat → Nat → Int} (hP : ∀ j, PwOk (P j)) (j : Nat) : PwOk (pB P j) := by
 unfold pB; split <;> exact hP _
theorem sgB_ok {n : Nat} (hn : n ≤ 4) {r : Nat → List UInt8} (P : Nat → Nat → Int) (f : Nat → Int) {j : Nat} (hj : j < 16) (hr : (r j).length = 32) (g : Nat → Bool) : BlkOk (sgB n r P f j g) := by
 have hl : ∀ p, (ringN p n).length = n := fun p => by simp [ringN]
 have h1 := hG_1 n r (fun k => ringN (P k) n) f j
 refine ⟨K2o n _ f hr, sgJ_ok _ (by omega) (by omega) _, ?_, ?_, K6e _ n, ?_, ?_⟩
 ·show (sgJ _ _).length ≤ 1000000
  have := K1m g n
  rw [K7x]; omega
 ·show KeyOk (preS (fun k => ringN (P k) n) j)
  rw [preR]; exact K6e _ n
 ·show (preS (fun k => ringN (P k) n) j).length ≤ 1000000
  rw [preR, hl]; omega
 ·show (ringN (P j) n).length ≤ 1000000
  rw [hl]; omega
theorem K97 {n : Nat} (h1 : 1 ≤ n) (hn : n ≤ 4) {r : Nat → List UInt8} {P : Nat → Nat → Int} (hP : ∀ j, PwOk (P j)) {f : Nat → Int} {j : Nat} (hj : j < 16) (q1 : 0 ≤ f j) (q2 : f j ≤ 1073741824) (g : Nat → Bool) : K94 (sgB n r P f j g) = true := by
 have hfl := K1m g n
 unfold K94 sgB
 dsimp only
 rw [K2q hj q1 q2, preR, K6f (show PwOk (if j = 0 then P 0 else P (j - 1)) from pB_ok hP j) h1 hn, K6f (hP j) h1 hn, K2r, preR, K2p]
 show (true && (true && (true && (decide ((sgJ _ _).length ≤ 5) && (eqH (setH _) (setH _) && eqH (setH _) (setH _)))))) = true
 rw [decide_eq_true (by rw [K7x]; omega), show ∀ s, eqH (setH s) (setH s) = true from fun s => K0e _, show ∀ s, eqH (setH s) (setH s) = true from fun s => K0e _]
 rfl
theorem upd_sgB {n : Nat} (h1 : 1 ≤ n) (hn : n ≤ 4) {r : Nat → List UInt8} {P : Nat → Nat → Int} (hP : ∀ j, PwOk (P j)) {m : Nat} (hm : m ≤ 16) {f : Nat → Int} (hf : RiseG m f) {i j : Nat} (hij : i < j) (hj : j < m) {T : Int} {c : Cli}
  (hc : Knows (ringN (P i) n) T (hG n r (fun k => ringN (P k) n) f i) c) (now : Int) (g : Nat → Bool) (q2 : ¬ T < now - f i) (q3 : ¬ now < f j) :
  updS (sgB n r P f j g) now c = if ¬ pwJ (pB P j) (List.range n) * 2 < pwJ (pB P j) ((List.range n).filter g) * 3 then (9, c) else if j ≠ i + 1 ∧ ¬ pwJ (P i) (List.range n) * 1 < pwJ (P i) ((List.range n).filter g) * 3 then (9, c) else (0, (cut6 (c.1 ++ [hG n r (fun k => ringN (P k) n) f j]), ringN (P j) n, T, false, ())) := by
 obtain ⟨c1, c2, c3, c4, c5, c6⟩ := hc
 have fj := hf.1 j hj
 have fi := hf.1 i (by omega)
 have hlt := hf.lt hij hj
 have e1 := hG_1 n r (fun k => ringN (P k) n) f j
 have e2 := hG_1 n r (fun k => ringN (P k) n) f i
 have ea : ∀ p, enS (ringN p n) (hG n r (fun k => ringN (P k) n) f j) (sgJ (hG n r (fun k => ringN (P k) n) f j) ((List.range n).filter g)) = decide (pwJ p (List.range n) * 2 < pwJ p ((List.range n).filter g) * 3) := fun p => by
  unfold enS
  rw [K55 p hn _ (by omega) (by omega), K04]
 have es : ∀ p, soS (ringN p n) (hG n r (fun k => ringN (P k) n) f j) (sgJ (hG n r (fun k => ringN (P k) n) f j) ((List.range n).filter g)) = decide (pwJ p (List.range n) * 1 < pwJ p ((List.range n).filter g) * 3) := fun p => by
  unfold soS
  rw [K55 p hn _ (by omega) (by omega), K04]
 unfold updS
 rw [if_neg (by rw [c6]; simp), K97 h1 hn hP (by omega) fj.1 (by omega) g, if_neg (by simp), c3, e2, hG_t, K2p]
 show (if (hG n r (fun k => ringN (P k) n) f j).1 ≤ _ then _ else if (hG n r (fun k => ringN (P k) n) f j).2.1 ≤ _ then _ else _) = _
 rw [e1, hG_t, if_neg (by omega), if_neg (by omega), c5, if_neg q2]
 show (if now < (hG n r (fun k => ringN (P k) n) f j).2.1 then _ else if (hG n r (fun k => ringN (P k) n) f j).1 = _ ∧ eqH (hG n r (fun k => ringN (P k) n) f j).2.2.2.1 _ = false then _ else if enS (preS (fun k => ringN (P k) n) j) (hG n r (fun k => ringN (P k) n) f j) (sgJ (hG n r (fun k => ringN (P k) n) f j) ((List.range n).filter g)) = false then _ else if (hG n r (fun k => ringN (P k) n) f j).1 ≠ _ ∧ soS c.2.1 (hG n r (fun k => ringN (P k) n) f j) (sgJ (hG n r (fun k => ringN (P k) n) f j) ((List.range n).filter g)) = false then _ else (0, (cut6 (c.1 ++ [hG n r (fun k => ringN (P k) n) f j]), ringN (P j) n, T, c.2.2.2.1, ()))) = _
 rw [hG_t, if_neg q3, K2r, e1, preR, ea, c4, es, c6]
 have hv : ¬ ((j : Int) + 1 = (i : Int) + 1 + 1 ∧ eqH (setH (ringN (if j = 0 then P 0 else P (j - 1)) n)) (setH (ringN (P i) n)) = false) := by
  rintro ⟨a, b⟩
  rw [if_neg (by omega), show j - 1 = i from by omega, show eqH (setH (ringN (P i) n)) (setH (ringN (P i) n)) = true from K0e _] at b
  cases b
 rw [if_neg hv]
 show (if decide (pwJ (pB P j) (List.range n) * 2 < pwJ (pB P j) ((List.range n).filter g) * 3) = false then _ else _) = _
 by_cases k1 : pwJ (pB P j) (List.range n) * 2 < pwJ (pB P j) ((List.range n).filter g) * 3
 ·have n1 : ¬ ¬ pwJ (pB P j) (List.range n) * 2 < pwJ (pB P j) ((List.range n).filter g) * 3 := fun q => q k1
  rw [decide_eq_true k1, if_neg (show ¬ (true = false) by simp), if_neg n1]
  by_cases k2 : j ≠ i + 1 ∧ ¬ pwJ (P i) (List.range n) * 1 < pwJ (P i) ((List.range n).filter g) * 3
  ·have m2 : (j : Int) + 1 ≠ (i : Int) + 1 + 1 ∧ decide (pwJ (P i) (List.range n) * 1 < pwJ (P i) ((List.range n).filter g) * 3) = false := ⟨by omega, decide_eq_false k2.2⟩
   rw [if_pos k2, if_pos m2]
  ·have m2 : ¬ ((j : Int) + 1 ≠ (i : Int) + 1 + 1 ∧ decide (pwJ (P i) (List.range n) * 1 < pwJ (P i) ((List.range n).filter g) * 3) = false) := by
    rintro ⟨a, b⟩
    exact k2 ⟨by omega, of_decide_eq_false b⟩
   rw [if_neg k2, if_neg m2]
 ·rw [decide_eq_false k1, if_pos (show (false = false) from rfl), if_pos k1]
theorem cli_ok {n : Nat} (hn : n ≤ 4) {r : Nat → List UInt8} {P : Nat → Nat → Int} (hP : ∀ j, PwOk (P j)) {m : Nat} (hm : m ≤ 16) {f : Nat → Int} (hf : RiseG m f) {i : Nat} (hi : i < m) {T : Int} {c : Cli} (hc : Knows (ringN (P i) n) T (hG n r (fun k => ringN (P k) n) f i) c) : CliOk c := by
 obtain ⟨c1, c2, c3, c4, _, _⟩ := hc
 have := hf.1 i hi
 refine ⟨c1, by omega, by rw [c4]; exact K6i (hP i) hn, ?_, ?_⟩
 ·rw [c3, hG_1]; omega
 ·rw [c3, hG_t]; omega
theorem new_gen {n : Nat} (h1 : 1 ≤ n) (hn : n ≤ 4) {r : Nat → List UInt8} {P : Nat → Nat → Int} (hP : ∀ j, PwOk (P j)) {m : Nat} (hm : m ≤ 16) {f : Nat → Int} (hf : RiseG m f) {T : Int} (hT : 0 ≤ T ∧ T ≤ 1073741824) {j : Nat} (hj : j < m) :
  q3a (hG n r (fun k => ringN (P k) n) f j) (ringN (P j) n) T = some (.inr (0, ([hG n r (fun k => ringN (P k) n) f j], ringN (P j) n, T, false, ()))) := by
 have hl : (ringN (P j) n).length = n := by simp [ringN]
 have fj := hf.1 j hj
 rw [new_eq _ _ _ (K6e _ n) (by omega)]
 unfold newS
 rw [if_pos ⟨K2q (by omega) fj.1 (by omega), K6f (hP j) h1 hn, by rw [K2p]; exact K0e _, hT.1, hT.2⟩]
theorem genB_sg (n : Nat) (r : Nat → List UInt8) (P : Nat → Nat → Int) (f : Nat → Int) (j : Nat) : genB n r (fun k => ringN (P k) n) f j = sgB n r P f j (fun _ => true) := by
 unfold genB sgB
 rw [K1l]
def updP (p : Nat → Int) (j : Nat) (a : Int) : Nat → Int := fun k => if k = j then a else p k
theorem updP_ok {p : Nat → Int} (h : PwOk p) {j : Nat} {a : Int} (h1 : 1 ≤ a) (h2 : a ≤ 1000000) : PwOk (updP p j a) := fun i => by
 unfold updP
 split
 ·omega
 ·exact h i
theorem K6j (p : Nat → Int) {n j : Nat} (hj : j < n) (a : Int) : List.set (ringN p n) j (((ringN p n).getD j zVal).1, a, ((ringN p n).getD j zVal).2.2.1, ()) = ringN (updP p j a) n := by
 have hg : (ringN p n).getD j zVal = K4e p j := K2h _ _ hj
 rw [hg]
 apply List.ext_getElem
 ·simp [ringN]
 ·intro i h1 h2
  rw [List.getElem_set]
  simp only [ringN, List.getElem_map, List.getElem_range]
  unfold K4e updP
  by_cases e : j = i
  ·subst e; rw [if_pos rfl, if_pos rfl]
  ·rw [if_neg e, if_neg (Ne.symm e)]
theorem K19 (x0 : List Val) (x1 : Int) (x2 : Int) (x3 : List (List UInt8 × List UInt8 × Unit)) (x4 : List Val) (x5 : List Block) (x6 : Rows) (x7 : Unit) (x8 : List (List UInt8)) (x9 : List (List (List UInt8))) (x10 : List (List UInt8)) (x11 : Int × List UInt8 × List UInt8 × Int × Int × Unit) : qh_1_step x0 x1 x2 x3 x4 x5 x6 x7 x8 x9 x10 x11 =
  (fork (decide (x2 < x1)) (need (0 ≤ x2 ∧ x2 < (List.length x0 : Int)) (fork (decide ((List.getD x0 (Int.toNat x2) zVal).1 = x11.2.1)) (need (List.length ([] : List Val) + List.length x4 ≤ 2147483648) (need (0 ≤ x2 ∧ x2 < (List.length (([] : List Val) ++ x4) : Int)) (some (.inr (.inl ((0 : Int), x3, x5, x6, x7, x8, x9, x10, (List.set (([] : List Val) ++ x4) (Int.toNat x2) ((List.getD (([] : List Val) ++ x4) (Int.toNat x2) zVal).1, x11.2.2.2.1, (List.getD (([] : List Val) ++ x4) (Int.toNat x2) zVal).2.2.1, ())))))))) (some (.inl (w64 (x2 + (1 : Int))))))) (some (.inr (.inr (x3, x4, x5, x6, x7, x8, x9, x10)))) : Option ((Int) ⊕ ((Int × (List (List UInt8 × List UInt8 × Unit)) × (List Block) × (Rows) × Unit × List (List UInt8) × List (List (List UInt8)) × List (List UInt8) × List Val) ⊕ ((List (List UInt8 × List UInt8 × Unit)) × (List Val) × (List Block) × (Rows) × Unit × List (List UInt8) × List (List (List UInt8)) × List (List UInt8))))) := rfl
theorem K1a (a0 : Int × List UInt8 × List UInt8 × Int × Int × Unit) (a1 : List (List UInt8 × List UInt8 × Unit)) (a2 : List Val) (a3 : List Block) (a4 : Rows) (a5 : Unit) (a6 : List (List UInt8)) (a7 : List (List (List UInt8))) (a8 : List (List UInt8)) : qh a0 a1 a2 a3 a4 a5 a6 a7 a8 =
  (fork (decide (a0.1 = (1 : Int))) (andThen (q12 (a0.2.1, a0.2.2.1, ())) (fun u2 => fork (!u2) (some ((1 : Int), a1, a2, a3, a4, a5, a6, a7, a8)) (andThen (q17 a0.2.1) (fun u5 => fork u5 (some ((1 : Int), a1, a2, a3, a4, a5, a6, a7, a8)) (andThen (q2d a1 (a0.2.1, a0.2.2.1, ())) (fun u8 => fork (decide ((30 : Int) < (List.length u8 : Int))) (some ((7 : Int), a1, a2, a3, a4, a5, a6, a7, a8)) (some ((0 : Int), u8, a2, a3, a4, a5, a6, a7, a8)))))))) (fork (decide (a0.1 = (2 : Int))) (andThen (q17 a0.2.1) (fun u12 => fork u12 (some ((1 : Int), a1, a2, a3, a4, a5, a6, a7, a8)) (andThen (q2b a1 a0.2.1) (fun u15 => some ((0 : Int), u15, a2, a3, a4, a5, a6, a7, a8))))) (fork (decide (a0.1 = (3 : Int))) (andThen (q1b a1 (w64 ((w64 (a0.1 - (3 : Int))) + (1 : Int))) a0.2.1 a0.2.2.2.1 a0.2.2.2.2.1) (fun u18 => some (u18.2, u18.1, a2, a3, a4, a5, a6, a7, a8))) (fork (decide (a0.1 = (4 : Int))) (andThen (q1b a1 (w64 ((w64 (a0.1 - (3 : Int))) + (1 : Int))) a0.2.1 a0.2.2.2.1 a0.2.2.2.2.1) (fun u21 => some (u21.2, u21.1, a2, a3, a4, a5, a6, a7, a8))) (fork (decide (a0.1 = (5 : Int))) (andThen (q1b a1 (w64 ((w64 (a0.1 - (3 : Int))) + (1 : Int))) a0.2.1 a0.2.2.2.1 a0.2.2.2.2.1) (fun u24 => some (u24.2, u24.1, a2, a3, a4, a5, a6, a7, a8))) (fork (decide (a0.1 = (6 : Int))) (fork (decide (a0.2.2.2.1 < (1 : Int))) (some ((1 : Int), a1, a2, a3, a4, a5, a6, a7, a8)) (fork (decide ((1048576 : Int) < a0.2.2.2.1)) (some ((1 : Int), a1, a2, a3, a4, a5, a6, a7, a8)) (andThen (qh_1 a2 (List.length a2 : Int) (0 : Int) a1 a2 a3 a4 a5 a6 a7 a8 a0) (fun o35 => (match o35 with | .inl o37 => some (o37.1, o37.2.1, o37.2.2.2.2.2.2.2.2, o37.2.2.1, o37.2.2.2.1, o37.2.2.2.2.1, o37.2.2.2.2.2.1, o37.2.2.2.2.2.2.1, o37.2.2.2.2.2.2.2.1) | .inr o38 => some ((3 : Int), o38.1, o38.2.1, o38.2.2.1, o38.2.2.2.1, o38.2.2.2.2.1, o38.2.2.2.2.2.1, o38.2.2.2.2.2.2.1, o38.2.2.2.2.2.2.2)))))) (some ((1 : Int), a1, a2, a3, a4, a5, a6, a7, a8))))))) : Option (Int × (List (List UInt8 × List UInt8 × Unit)) × (List Val) × (List Block) × (Rows) × Unit × List (List UInt8) × List (List (List UInt8)) × List (List UInt8))) := rfl
theorem nm_one : ∀ i, i < 4 → ∀ j, j < 4 → nm i = nm j → i = j := by decide
theorem do6_eq (p : Nat → Int) {n : Nat} (hn : n ≤ 4) {j : Nat} (hj : j < 4) (t : Int × List UInt8 × List UInt8 × Int × Int × Unit) (h1 : t.1 = 6) (h2 : t.2.1 = nm j) (N : List PrR) (B : List Block) (R : Rows) (se : List (List UInt8)) (ri : List (List (List UInt8))) (na : List (List UInt8)) :
  qh t N (ringN p n) B R () se ri na = some (if t.2.2.2.1 < 1 ∨ 1048576 < t.2.2.2.1 then (1, N, ringN p n, B, R, (), se, ri, na) else if j < n then (0, N, ringN (updP p j t.2.2.2.1) n, B, R, (), se, ri, na) else (3, N, ringN p n, B, R, (), se, ri, na)) := by
 have hl : (ringN p n).length = n := by simp [ringN]
 rw [K1a, h1, K26 (by decide), K26 (by decide), K26 (by decide), K26 (by decide), K26 (by decide), K2c rfl]
 by_cases a1 : t.2.2.2.1 < 1
 ·rw [K2c a1, if_pos (.inl a1)]
 rw [K26 a1]
 by_cases a2 : 1048576 < t.2.2.2.1
 ·rw [K2c a2, if_pos (.inr a2)]
 rw [K26 a2, if_neg (by omega)]
 have m : qh_1 (ringN p n) ((ringN p n).length : Int) 0 N (ringN p n) B R () se ri na t = some (scan (fun i => if i = j then some (.inl (0, N, B, R, (), se, ri, na, ringN (updP p j t.2.2.2.1) n)) else none) (.inr (N, ringN p n, B, R, (), se, ri, na)) 0 n) := by
  rw [hl]
  unfold qh_1
  have hg : ∀ i, i < n → ((ringN p n).getD i zVal).1 = nm i := fun i hi => by rw [show (ringN p n).getD i zVal = K4e p i from K2h _ _ hi]; rfl
  refine K47 (step := fun (s : Int) => qh_1_step (ringN p n) (n : Int) s N (ringN p n) B R () se ri na t) (fun i => (i : Int)) _ _ n (fun i hi h => ?_) (fun i x hi h => ?_) ?_ n 0 (by omega)
  ·rw [K19, K2c (by omega), need_true (by omega), Int.toNat_natCast, hg i hi, h2, w64_eq (by omega) (by omega)]
   by_cases e : i = j
   ·rw [if_pos e] at h; cases h
   ·rw [K26 (fun q => e (nm_one i (by omega) j hj q))]; rfl
  ·rw [K19, K2c (by omega), need_true (by omega), Int.toNat_natCast, hg i hi, h2]
   by_cases e : i = j
   ·rw [if_pos e] at h; injection h with h; subst h; subst e
    rw [K2c rfl, need_true (by rw [List.length_nil]; omega), need_true (by rw [List.nil_append]; omega), List.nil_append, K6j p hi]
   ·rw [if_neg e] at h; cases h
  ·rw [K19, K26 (by omega)]
 rw [m, K05]
 by_cases c : j < n
 ·rw [K7j (bad := fun i => if i = j then some (Sum.inl (0, N, B, R, (), se, ri, na, ringN (updP p j t.2.2.2.1) n)) else none) n 0 j (Nat.zero_le _) (by omega) (fun j' _ h => if_neg (by omega)) (if_pos rfl), if_pos c]
 ·rw [K7i (bad := fun i => if i = j then some (Sum.inl (0, N, B, R, (), se, ri, na, ringN (updP p j t.2.2.2.1) n)) else none) n 0 (fun j' _ h => if_neg (by omega)), if_neg c]
def Tot {α : Type} (x : Option α) (Q : α → Prop) : Prop := ∃ r, x = some r ∧ Q r
theorem K8q {α : Type} {a : α} {Q : α → Prop} (h : Q a) : Tot (some a) Q := ⟨a, rfl, h⟩
theorem K8o {α : Type} {c : Bool} {a b : Option α} {Q : α → Prop} (h1 : c = true → Tot a Q) (h2 : c = false → Tot b Q) : Tot (fork c a b) Q := by
 cases c
 ·exact h2 rfl
 ·exact h1 rfl
theorem K8p {α : Type} {p : Prop} [Decidable p] {x : Option α} {Q : α → Prop} (hp : p) (h : Tot x Q) : Tot (need p x) Q := by
 rw [need_true hp]; exact h
theorem K8r {α β : Type} {x : Option α} {k : α → Option β} {P : α → Prop} {Q : β → Prop} (h : Tot x P) (h2 : ∀ r, P r → Tot (k r) Q) : Tot (andThen x k) Q := by
 obtain ⟨r, e, hr⟩ := h
 rw [e, K05]; exact h2 r hr
theorem K8i (k : List UInt8) : Tot (q17 k) fun _ => True := by
 unfold q17
 refine K8o (fun h => ?_) fun _ => K8q trivial
 rw [decide_eq_true_eq] at h
 exact K8p (by omega) (K8q trivial)
theorem K4s (x0 : List UInt8) (x1 : Int) (x2 : Int) : q18_1_step x0 x1 x2 =
  (fork (decide (x2 < (List.length x0 : Int))) (fork (decide (x2 < (6 : Int))) (need (0 ≤ x2 ∧ x2 < (List.length x0 : Int)) (need (0 ≤ (((UInt64.ofNat (Int.toNat ((w64 ((7 : Int) * x2)) % 18446744073709551616))).toNat : Nat) : Int)) (fork (decide ((List.getD x0 (Int.toNat x2) 0) < (128 : UInt8))) (fork (decide ((0 : Int) < x2)) (fork (decide ((List.getD x0 (Int.toNat x2) 0) = (0 : UInt8))) (some (.inr (.inl ((0 : Int), (0 : Int))))) (fork (decide ((1099511627775 : Int) < (bor x1 (ishl ((UInt8.toNat ((List.getD x0 (Int.toNat x2) 0) &&& (127 : UInt8)) : Nat) : Int) (Int.toNat (((UInt64.ofNat (Int.toNat ((w64 ((7 : Int) * x2)) % 18446744073709551616))).toNat : Nat) : Int)))))) (some (.inr (.inl ((0 : Int), (0 : Int))))) (some (.inr (.inl ((bor x1 (ishl ((UInt8.toNat ((List.getD x0 (Int.toNat x2) 0) &&& (127 : UInt8)) : Nat) : Int) (Int.toNat (((UInt64.ofNat (Int.toNat ((w64 ((7 : Int) * x2)) % 18446744073709551616))).toNat : Nat) : Int)))), (w64 (x2 + (1 : Int))))))))) (fork (decide ((1099511627775 : Int) < (bor x1 (ishl ((UInt8.toNat ((List.getD x0 (Int.toNat x2) 0) &&& (127 : UInt8)) : Nat) : Int) (Int.toNat (((UInt64.ofNat (Int.toNat ((w64 ((7 : Int) * x2)) % 18446744073709551616))).toNat : Nat) : Int)))))) (some (.inr (.inl ((0 : Int), (0 : Int))))) (some (.inr (.inl ((bor x1 (ishl ((UInt8.toNat ((List.getD x0 (Int.toNat x2) 0) &&& (127 : UInt8)) : Nat) : Int) (Int.toNat (((UInt64.ofNat (Int.toNat ((w64 ((7 : Int) * x2)) % 18446744073709551616))).toNat : Nat) : Int)))), (w64 (x2 + (1 : Int))))))))) (some (.inl ((bor x1 (ishl ((UInt8.toNat ((List.getD x0 (Int.toNat x2) 0) &&& (127 : UInt8)) : Nat) : Int) (Int.toNat (((UInt64.ofNat (Int.toNat ((w64 ((7 : Int) * x2)) % 18446744073709551616))).toNat : Nat) : Int)))), (w64 (x2 + (1 : Int))))))))) (some (.inr (.inr ())))) (some (.inr (.inr ()))) : Option ((Int × Int) ⊕ ((Int × Int) ⊕ (Unit)))) := rfl
def numQ (a : List UInt8) (r : (Int × Int) ⊕ Unit) : Prop := match r with
 | .inl r => 0 ≤ r.2 ∧ r.2 ≤ (a.length : Int)
 | .inr _ => True
theorem K4t (a : List UInt8) : Tot (q18 a) fun r => 0 ≤ r.2 ∧ r.2 ≤ (a.length : Int) := by
 have m : ∃ r, q18_1 a 0 0 = some r ∧ numQ a r := by
  unfold q18_1
  refine K45 (step := fun (s : Int × Int) => q18_1_step a s.1 s.2) (fun k s => ∃ i : Nat, s.2 = (i : Int) ∧ i + k = min a.length 6) (numQ a) (fun k s hs => ?_) (min a.length 6) ((0 : Int), (0 : Int)) ⟨0, rfl, by omega⟩
  obtain ⟨i, e, hk⟩ := hs
  obtain ⟨v, x⟩ := s
  dsimp only at e
  subst e
  by_cases c : i < a.length ∧ i < 6
  ·have hw : w64 ((i : Int) + 1) = ((i + 1 : Nat) : Int) := by rw [w64_eq (by omega) (by omega)]; omega
   have hs : q18_1_step a v (i : Int) = _ := K4s a v (i : Int)
   rw [K2c (by omega), K2c (by omega), need_true (by omega), need_true (by omega), hw] at hs
   simp only [K28] at hs
   have out : ∀ r, numQ a r → q18_1_step a v (i : Int) = some (.inr r) → (∃ r, q18_1_step a v (i : Int) = some (.inr r) ∧ numQ a r) ∨ ∃ j s', k = j + 1 ∧ q18_1_step a v (i : Int) = some (.inl s') ∧ ∃ i : Nat, s'.2 = (i : Int) ∧ i + j = min a.length 6 := fun r h1 h2 => .inl ⟨r, h2, h1⟩
   have z : numQ a (.inl ((0 : Int), (0 : Int))) := ⟨Int.le_refl _, by show (0 : Int) ≤ _; omega⟩
   have nx : ∀ v', numQ a (.inl (v', ((i + 1 : Nat) : Int))) := fun v' => ⟨by show (0 : Int) ≤ ((i + 1 : Nat) : Int); omega, by show ((i + 1 : Nat) : Int) ≤ _; omega⟩
   split at hs
   ·split at hs
    ·split at hs
     ·exact out _ z hs
     ·split at hs
      ·exact out _ z hs
      ·exact out _ (nx _) hs
    ·split at hs
     ·exact out _ z hs
     ·exact out _ (nx _) hs
   ·exact .inr ⟨k - 1, _, by omega, hs, i + 1, rfl, by omega⟩
  ·left
   refine ⟨.inr (), ?_, trivial⟩
   show q18_1_step a v (i : Int) = _
   rw [K4s]
   by_cases c1 : i < a.length
   ·rw [K2c (by omega), K26 (by omega)]
   ·rw [K26 (by omega)]
 obtain ⟨r, e, hr⟩ := m
 unfold q18
 rw [e, K05]
 match r, hr with
 | .inl r, hr => exact K8q hr
 | .inr _, _ => exact K8q ⟨Int.le_refl _, by show (0 : Int) ≤ _; omega⟩
theorem K5y (a : List UInt8) (ha : a.length ≤ 1000000) : Tot (qr a) fun _ => True := by
 unfold qr
 refine K8r (K4t a) fun r hr => K8o (fun _ => K8q trivial) fun _ => K8p ⟨hr.1, hr.2, Int.le_refl _⟩ (K8r (K4t _) fun s _ => ?_)
 repeat' first
  | exact K8q trivial
  | (refine K8o ?_ ?_ <;> intro _)
theorem K5z (a b : Int) : Tot (q19 a b) fun l => l.length ≤ 14 := by
 have h1 := K4v a
 have h2 := K4v b
 unfold q19
 rw [K74, K05, K74, K05]
 exact K8p (by omega) (K8q (by rw [List.length_append]; omega))
theorem bk_step (x0 : Int) (x1 : List Pr) (x2 : Int) (x3 : Int) : q16_1_step x0 x1 x2 x3 =
  (fork (decide (x3 < x2)) (need (0 ≤ x3 ∧ x3 < (List.length x1 : Int)) (andThen (q17 ((List.getD x1 (Int.toNat x3) zPr).1)) (fun u4 => fork (!u4) (some (.inl (x0, (w64 (x3 + (1 : Int)))))) (andThen (qr ((List.getD x1 (Int.toNat x3) zPr).2.1)) (fun u7 => fork (!u7.2.2) (some (.inr (.inl ((0 : Int), false)))) (some (.inl ((w64 ((w64 (x0 + u7.1)) + u7.2.1)), (w64 (x3 + (1 : Int))))))))))) (some (.inr (.inr x0))) : Option ((Int × Int) ⊕ ((Int × Bool) ⊕ (Int)))) := rfl
theorem K06 (l : List Pr) (h : l.length ≤ 1000 ∧ ∀ p ∈ l, p.2.1.length ≤ 1000000) : Tot (q16 l) fun _ => True := by
 have hl := h.1
 have m : ∃ r, q16_1 0 l (l.length : Int) 0 = some r ∧ True := by
  unfold q16_1
  refine K45 (step := fun (s : Int × Int) => q16_1_step s.1 l (l.length : Int) s.2) (fun k s => ∃ i : Nat, s.2 = (i : Int) ∧ i + k = l.length) (fun _ => True) (fun k s hs => ?_) l.length ((0 : Int), (0 : Int)) ⟨0, rfl, by omega⟩
  obtain ⟨i, e, hk⟩ := hs
  obtain ⟨v, x⟩ := s
  dsimp only at e
  subst e
  have hs : q16_1_step v l (l.length : Int) (i : Int) = _ := bk_step v l (l.length : Int) (i : Int)
  by_cases c : i < l.length
  ·have hw : w64 ((i : Int) + 1) = ((i + 1 : Nat) : Int) := by rw [w64_eq (by omega) (by omega)]; omega
   obtain ⟨b, eb, _⟩ := K8i (l.getD i zPr).1
   obtain ⟨rr, er, _⟩ := K5y (l.getD i zPr).2.1 (h.2 _ (K2g c))
   rw [K2c (by omega), need_true (by omega), Int.toNat_natCast, eb, K05, er, K05, hw] at hs
   simp only [K28] at hs
   split at hs
   ·exact .inr ⟨k - 1, _, by omega, hs, i + 1, rfl, by omega⟩
   ·split at hs
    ·exact .inl ⟨_, hs, trivial⟩
    ·exact .inr ⟨k - 1, _, by omega, hs, i + 1, rfl, by omega⟩
  ·rw [K26 (by omega)] at hs
   exact .inl ⟨_, hs, trivial⟩
 obtain ⟨r, e, _⟩ := m
 unfold q16
 rw [e, K05]
 match r with
 | .inl r => exact K8q trivial
 | .inr r =>
  exact K8o (fun _ => K8q trivial) fun _ => K8q trivial
theorem K71 (p : Pr) : q12 p = some (mayP p) := by
 have hne : decide ((1 : Int) ≤ (p.1.length : Int)) = !decide (p.1 = []) := by
  rw [Bool.eq_iff_iff, Bool.not_eq_true', decide_eq_true_eq, decide_eq_false_iff_not, ← List.length_eq_zero_iff]; omega
 unfold q12 mayP
 rw [hne]
 cases decide (p.1 = []) <;> cases decide ((p.1.length : Int) ≤ 16) <;> rfl
theorem mayP1_b {p : Pr} (h : mayP p = true) : p.1.length ≤ 16 ∧ p.2.1.length ≤ 24 := by
 unfold mayP at h
 simp only [Bool.and_eq_true, decide_eq_true_eq] at h
 omega
def SetP (l : List Pr) : Prop := l.length ≤ 31 ∧ (∀ p ∈ l, p.2.1.length ≤ 24) ∧ (l.length ≤ 30 → RowB l)
theorem K7w {l : List Pr} (h : RowB l) (p : Pr) (h1 : p.1.length ≤ 16) (h2 : p.2.1.length ≤ 24) : Tot (q2d l p) SetP := by
 have hl := h.2.1
 have hb : ∀ q ∈ putP l p, q.1.length ≤ 16 ∧ q.2.1.length ≤ 24 := fun q hq => by
  rcases putP_mem hq with rfl | hq
  ·exact ⟨h1, h2⟩
  ·exact h.2.2 q hq
 refine ⟨putP l p, rset1_eq l (by omega) p, by rw [putP_len]; split <;> omega, fun q hq => (hb q hq).2, fun hlen => ⟨K5l h.1 p, hlen, hb⟩⟩
theorem K7v {l : List Pr} (h : SetP l) (h2 : decide ((30 : Int) < (l.length : Int)) = false) : RowB l := h.2.2 (by rw [decide_eq_false_iff_not] at h2; omega)
theorem set_b {l : List Pr} (h : SetP l) : l.length ≤ 1000 ∧ ∀ p ∈ l, p.2.1.length ≤ 1000000 := ⟨by have := h.1; omega, fun p hp => by have := h.2.1 p hp; omega⟩
theorem K1q {l : List Pr} (h : RowB l) (k : List UInt8) : Tot (q1l l k) fun r => r = (K09 l k : Int) := ⟨_, K60 l (by have := h.2.1; omega) k, rfl⟩
theorem row_val {l : List Pr} (h : RowB l) (i : Nat) : (l.getD i zPr).2.1.length ≤ 1000000 := by
 by_cases c : i < l.length
 ·have := h.2.2 _ (K2g (z := zPr) c); omega
 ·rw [List.getD_eq_getElem?_getD, List.getElem?_eq_none (by omega)]; simp [zPr]
theorem K8h (a0 : List Pr) (h0 : RowB a0) (a1 : Int) (a2 : List UInt8) (ha : a2.length ≤ 1000) (a3 a4 : Int) : Tot (q1b a0 a1 a2 a3 a4) fun r => RowB r.1 := by
 unfold q1b
 refine K8p (by simp only [List.length_cons, List.length_nil]; omega) (K8o (fun _ => K8q h0) fun g1 => K8o (fun _ => K8q h0) fun g2 => ?_)
 have hk : (([115, 47] : List UInt8) ++ a2).length ≤ 16 := by rw [decide_eq_false_iff_not] at g2; omega
 generalize ([115, 47] : List UInt8) ++ a2 = key at hk
 clear g1 g2
 repeat' first
  | exact K8q h0
  | exact K8q (K7v (by assumption) (by assumption))
  | (refine K8o ?_ ?_ <;> intro _)
  | (refine K8r (K1q h0 _) fun u hu => ?_)
  | (refine K8r (K5y _ (row_val h0 _)) fun u hu => ?_)
  | (refine K8r (K5z _ _) fun u hu => ?_)
  | (refine K8r (K7w h0 _ hk (Nat.le_trans (by assumption) (by omega))) fun u hu => ?_)
  | (refine K8r (K06 _ (set_b (by assumption))) fun u hu => ?_)
  | (refine K8p (by simp only [decide_eq_false_iff_not, decide_eq_true_eq] at *; omega) ?_)
theorem do_tot (p : Nat → Int) (hp : PwOk p) {n : Nat} (hn : n ≤ 4) (t : Int × List UInt8 × List UInt8 × Int × Int × Unit) (hk : t.2.1.length ≤ 1000) (h6 : t.1 = 6 → ∃ j, j < 4 ∧ t.2.1 = nm j ∧ t.2.2.2.1 ≤ 1000000) (N : List Pr) (hN : RowB N) (B : List Block) (R : List (List Pr)) (se : List (List UInt8)) (ri : List (List (List UInt8))) (na : List (List UInt8)) :
  ∃ e N' p', qh t N (ringN p n) B R () se ri na = some (e, N', ringN p' n, B, R, (), se, ri, na) ∧ RowB N' ∧ PwOk p' ∧ (t.1 ≠ 6 → p' = p) := by
 by_cases c : t.1 = 6
 ·obtain ⟨j, hj, e2, ha⟩ := h6 c
  rw [do6_eq p hn hj t c e2 N B R se ri na]
  by_cases q : t.2.2.2.1 < 1 ∨ 1048576 < t.2.2.2.1
  ·rw [if_pos q]; exact ⟨_, N, p, rfl, hN, hp, fun _ => rfl⟩
  ·rw [if_neg q]
   by_cases q2 : j < n
   ·rw [if_pos q2]; exact ⟨_, N, _, rfl, hN, updP_ok hp (by omega) ha, fun h => absurd c h⟩
   ·rw [if_neg q2]; exact ⟨_, N, p, rfl, hN, hp, fun _ => rfl⟩
 ·have m : Tot (qh t N (ringN p n) B R () se ri na) fun o => ∃ e N', o = (e, N', ringN p n, B, R, (), se, ri, na) ∧ RowB N' := by
   rw [K1a, K26 (p := t.1 = (6 : Int)) c]
   have st := fun a => K8h N hN a t.2.1 hk t.2.2.2.1 t.2.2.2.2.1
   refine K8o (fun _ => ?_) fun _ => K8o (fun _ => ?_) fun _ => K8o (fun _ => K8r (st _) fun u hu => K8q ⟨_, _, rfl, hu⟩) fun _ => K8o (fun _ => K8r (st _) fun u hu => K8q ⟨_, _, rfl, hu⟩) fun _ => K8o (fun _ => K8r (st _) fun u hu => K8q ⟨_, _, rfl, hu⟩) fun _ => K8q ⟨_, _, rfl, hN⟩
   ·rw [K71, K05]
    refine K8o (fun _ => K8q ⟨_, _, rfl, hN⟩) fun hm => K8r (K8i _) fun u _ => K8o (fun _ => K8q ⟨_, _, rfl, hN⟩) fun _ => ?_
    have hb := mayP1_b (p := (t.2.1, t.2.2.1, ())) (by simpa using hm)
    refine K8r (K7w hN (t.2.1, t.2.2.1, ()) hb.1 hb.2) fun l hl => K8o (fun _ => K8q ⟨_, _, rfl, hN⟩) fun h30 => K8q ⟨_, _, rfl, K7v hl h30⟩
   ·refine K8r (K8i _) fun u _ => K8o (fun _ => K8q ⟨_, _, rfl, hN⟩) fun _ => K8r ⟨_, rdel1_eq N hN.1 (by have := hN.2.1; omega) t.2.1, rfl⟩ fun l (hl : cutP N t.2.1 = l) => K8q ⟨_, _, rfl, by rw [← hl]; exact cutP_row hN _⟩
  obtain ⟨_, e, x, N', rfl, hN'⟩ := m
  exact ⟨x, N', p, e, hN', hp, fun _ => rfl⟩
noncomputable def wi (w : Int) : Int := (q1c w 0 4).getD 0
theorem wi_eq (w : Int) : q1c w 0 4 = some (wi w) ∧ 0 ≤ wi w ∧ wi w ≤ 4 := by
 obtain ⟨r, e, a, b⟩ := K98 w 0 4 (by omega) (by omega) (by omega)
 unfold wi
 rw [e]
 exact ⟨rfl, a, b⟩
noncomputable def hitW (who : List Int) (i : Nat) : Bool := who.any fun w => decide (wi w = (i : Int))
noncomputable def reSig (h : Hdr) (x : List UInt8) (i : Nat) (s : K01) : K01 := (s.1, sigS (seedK i) h.1 x, ())
noncomputable def K1x (h : Hdr) (x : List UInt8) (i : Nat) (s : List K01) (b : Bool) : List K01 := if b = true then List.set s i (reSig h x i (s.getD i zSg)) else s
theorem K1y (h : Hdr) (x : List UInt8) (i : Nat) (s : List K01) (b : Bool) : (K1x h x i s b).length = s.length := by unfold K1x; split <;> simp
theorem K1j (x0 : List Int) (x1 x2 x3 : Int) (x4 : List Int) (x5 x6 : Int) (x7 : Hdr) (x8 : Unit) (x9 : Hdr) (x10 : List Val × List Val × Unit) (x11 : List K01) (x12 : List UInt8) : q1f_1_step x0 x1 x2 x3 x4 x5 x6 x7 x8 x9 x10 x11 x12 =
  (fork (decide (x6 < x5)) (need (0 ≤ x6 ∧ x6 < (List.length x4 : Int)) (andThen (q1c (List.getD x4 (Int.toNat x6) (0 : Int)) (0 : Int) (4 : Int)) (fun u12 => fork (decide (u12 = x1)) (andThen (q22 x1) (fun u15 => andThen (q1i u15 x9.1 x12) (fun u17 => need (0 ≤ x1 ∧ x1 < (List.length x11 : Int)) (some (.inl ((w64 (x6 + (1 : Int))), (List.set x11 (Int.toNat x1) ((List.getD x11 (Int.toNat x1) zSg).1, u17, ())))))))) (some (.inl ((w64 (x6 + (1 : Int))), x11)))))) (some (.inr (x0, x2, x3, x7, x8, x9, x10, x11, x12))) : Option ((Int × List K01) ⊕ (List Int × Int × Int × Hdr × Unit × Hdr × (List Val × List Val × Unit) × List K01 × List UInt8))) := rfl
theorem forged_1 (who : List Int) (hw : who.length ≤ 1152921504606846976) (i : Nat) (x2 x3 : Int) (x7 : Hdr) (h : Hdr) (h1 : 1 ≤ h.1) (h2 : h.1 ≤ 16) (x10 : List Val × List Val × Unit) (s : List K01) (hi : i < s.length) (hs : s.length ≤ 1000000) (x : List UInt8) (hx : x.length ≤ 1000) :
  q1f_1 who (i : Int) x2 x3 who (who.length : Int) 0 x7 () h x10 s x = some (who, x2, x3, x7, (), h, x10, K1x h x i s (hitW who i), x) := by
 unfold q1f_1
 have := K46 (step := fun (t : Int × List K01) => q1f_1_step who (i : Int) x2 x3 who (who.length : Int) t.1 x7 () h x10 t.2 x) (fun m (_ : Unit) => ((m : Int), K1x h x i s (hitW (who.take m) i))) (fun _ _ => ()) (fun _ => (who, x2, x3, x7, (), h, x10, K1x h x i s (hitW who i), x)) who.length (fun _ _ => True) (fun m w hm _ => ⟨?_, trivial⟩) (fun w _ => ?_) who.length 0 () (by omega) trivial
 ·exact this
 ·show q1f_1_step who (i : Int) x2 x3 who (who.length : Int) (m : Int) x7 () h x10 (K1x h x i s (hitW (who.take m) i)) x = _
  obtain ⟨e, a, b⟩ := wi_eq (who.getD m 0)
  have hl := K1y h x i s (hitW (who.take m) i)
  have ht : who.take (m + 1) = who.take m ++ [who.getD m 0] := by
   rw [List.take_add_one, List.getD_eq_getElem?_getD, List.getElem?_eq_getElem hm]; rfl
  have hn : hitW (who.take (m + 1)) i = (hitW (who.take m) i || decide (wi (who.getD m 0) = (i : Int))) := by
   unfold hitW; rw [ht, List.any_append]; simp
  rw [K1j, K2c (by omega), need_true (by omega), Int.toNat_natCast, e, K05, w64_eq (by omega) (by omega), hn]
  by_cases c : wi (who.getD m 0) = (i : Int)
  ·rw [K2c c, K3b, K05, K5q _ _ (K7n i) _ h1 h2 (by omega), K05, need_true (by omega), Int.toNat_natCast, decide_eq_true c, Bool.or_true]
   have : List.set (K1x h x i s (hitW (who.take m) i)) i (((K1x h x i s (hitW (who.take m) i)).getD i zSg).1, sigS (seedK i) h.1 x, ()) = K1x h x i s true := by
    cases hitW (who.take m) i
    ·rfl
    ·show List.set (List.set s i _) i (((List.set s i (reSig h x i (s.getD i zSg))).getD i zSg).1, _, ()) = List.set s i _
     rw [List.set_set, List.getD_eq_getElem?_getD, List.getElem?_set]
     simp only [hi, if_true, Option.getD_some]
     rfl
   rw [this]
   rfl
  ·rw [K26 c, decide_eq_false c, Bool.or_false]
   rfl
 ·show q1f_1_step who (i : Int) x2 x3 who (who.length : Int) (who.length : Int) x7 () h x10 (K1x h x i s (hitW (who.take who.length) i)) x = _
  rw [K1j, K26 (by omega), List.take_of_length_le (Nat.le_refl _)]
noncomputable def K1z (h : Hdr) (x : List UInt8) (who : List Int) (s : List K01) (k : Nat) : List K01 := (List.range s.length).map fun i => if i < k ∧ hitW who i = true then reSig h x i (s.getD i zSg) else s.getD i zSg
noncomputable def K23 (h : Hdr) (x : List UInt8) (who : List Int) (s : List K01) : List K01 := (List.range s.length).map fun i => if hitW who i = true then reSig h x i (s.getD i zSg) else s.getD i zSg
theorem K21 (h : Hdr) (x : List UInt8) (who : List Int) (s : List K01) (k : Nat) : (K1z h x who s k).length = s.length := by simp [K1z]
theorem forgeK_0 (h : Hdr) (x : List UInt8) (who : List Int) (s : List K01) : K1z h x who s 0 = s := by
 apply List.ext_getElem
 ·simp [K1z]
 ·intro i h1 h2
  simp only [K1z, List.getElem_map, List.getElem_range, Nat.not_lt_zero, false_and, if_false]
  rw [List.getD_eq_getElem?_getD, List.getElem?_eq_getElem h2]; rfl
theorem K20 (h : Hdr) (x : List UInt8) (who : List Int) (s : List K01) : K1z h x who s s.length = K23 h x who s := by
 unfold K1z K23
 apply List.map_congr_left
 intro i hi
 have hi := List.mem_range.1 hi
 by_cases c : hitW who i = true
 ·rw [if_pos ⟨hi, c⟩, if_pos c]
 ·rw [if_neg (fun h => c h.2), if_neg c]
theorem K22 (h : Hdr) (x : List UInt8) (who : List Int) (s : List K01) {k : Nat} (hk : k < s.length) : K1x h x k (K1z h x who s k) (hitW who k) = K1z h x who s (k + 1) := by
 have hg : (K1z h x who s k).getD k zSg = s.getD k zSg := by
  unfold K1z
  rw [K2h _ _ hk, if_neg (by omega)]
 unfold K1x
 rw [hg]
 have r : ∀ i h2, (K1z h x who s (k + 1))[i]'h2 = if i < k + 1 ∧ hitW who i = true then reSig h x i (s.getD i zSg) else s.getD i zSg := by intro i h2; simp [K1z]
 have l : ∀ i h3, (K1z h x who s k)[i]'h3 = if i < k ∧ hitW who i = true then reSig h x i (s.getD i zSg) else s.getD i zSg := by intro i h3; simp [K1z]
 have same : ∀ i, k ≠ i → (if i < k ∧ hitW who i = true then reSig h x i (s.getD i zSg) else s.getD i zSg) = if i < k + 1 ∧ hitW who i = true then reSig h x i (s.getD i zSg) else s.getD i zSg := by
  intro i e
  by_cases c2 : hitW who i = true
  ·by_cases c3 : i < k
   ·rw [if_pos ⟨c3, c2⟩, if_pos ⟨by omega, c2⟩]
   ·rw [if_neg (fun h => c3 h.1), if_neg (fun h => by omega)]
  ·rw [if_neg (fun h => c2 h.2), if_neg (fun h => c2 h.2)]
 by_cases c : hitW who k = true
 ·rw [if_pos c]
  apply List.ext_getElem
  ·simp [K1z]
  ·intro i h1 h2
   rw [r, List.getElem_set]
   by_cases e : k = i
   ·subst e; rw [if_pos rfl, if_pos ⟨by omega, c⟩]
   ·rw [if_neg e, l, same i e]
 ·rw [if_neg c]
  apply List.ext_getElem
  ·simp [K1z]
  ·intro i h1 h2
   rw [r, l]
   by_cases e : k = i
   ·subst e; rw [if_neg (by omega), if_neg (fun h => c h.2)]
   ·exact same i e
theorem forged_2 (who : List Int) (hw : who.length ≤ 1152921504606846976) (x7 : Hdr) (h : Hdr) (h1 : 1 ≤ h.1) (h2 : h.1 ≤ 16) (x10 : List Val × List Val × Unit) (s : List K01) (hs : s.length ≤ 1000000) (x : List UInt8) (hx : x.length ≤ 1000) :
  q1f_2 who (s.length : Int) 0 x7 () h x10 s x = some (x7, (), h, x10, K23 h x who s) := by
 unfold q1f_2
 have := K46 (step := fun (t : List Int × Int × Int × Hdr × Unit × Hdr × (List Val × List Val × Unit) × List K01 × List UInt8) => q1f_2_step t.1 t.2.1 t.2.2.1 t.2.2.2.1 t.2.2.2.2.1 t.2.2.2.2.2.1 t.2.2.2.2.2.2.1 t.2.2.2.2.2.2.2.1 t.2.2.2.2.2.2.2.2) (fun k (_ : Unit) => (who, (s.length : Int), (k : Int), x7, (), h, x10, K1z h x who s k, x)) (fun _ _ => ()) (fun _ => (x7, (), h, x10, K23 h x who s)) s.length (fun _ _ => True) (fun k w hk _ => ⟨?_, trivial⟩) (fun w _ => ?_) s.length 0 () (by omega) trivial
 ·rw [forgeK_0] at this
  exact this
 ·show q1f_2_step who (s.length : Int) (k : Int) x7 () h x10 (K1z h x who s k) x = _
  unfold q1f_2_step
  have hl := K21 h x who s k
  rw [K2c (by omega), forged_1 who hw k _ _ x7 h h1 h2 x10 _ (by omega) (by omega) x hx, K05, K22 h x who s hk]
  simp only
  rw [w64_eq (by omega) (by omega)]
  rfl
 ·show q1f_2_step who (s.length : Int) (s.length : Int) x7 () h x10 (K1z h x who s s.length) x = _
  unfold q1f_2_step
  rw [K26 (by omega), K20]
def turnH (h : Hdr) (r : Nat) : Hdr := (h.1, h.2.1, List.set h.2.2.1 r ((h.2.2.1.getD r 0) ^^^ 1), h.2.2.2.1, h.2.2.2.2.1, h.2.2.2.2.2.1, ())
theorem K8s {h : Hdr} (hh : K00 h) (r : Nat) : K00 (turnH h r) := ⟨by unfold turnH; simp only [List.length_set]; exact hh.1, hh.2.1, hh.2.2.1, hh.2.2.2⟩
theorem xor1_ne (a : UInt8) : a ^^^ 1 ≠ a := by
 intro e
 have := congrArg (fun z => z ^^^ a) e
 simp only [UInt8.xor_self] at this
 rw [UInt8.xor_comm a 1, UInt8.xor_assoc, UInt8.xor_self] at this
 exact absurd this (by decide)
theorem turnH_ne {h : Hdr} (hh : K00 h) {r : Nat} (hr : r < 32) : turnH h r ≠ h := by
 intro e
 have : (turnH h r).2.2.1 = h.2.2.1 := by rw [e]
 have h2 := congrArg (fun l => l.getD r 0) this
 unfold turnH at h2
 simp only at h2
 rw [List.getD_eq_getElem?_getD (l := List.set _ _ _), List.getElem?_set, if_pos rfl, if_pos (by rw [hh.1]; exact hr)] at h2
 exact xor1_ne _ h2
noncomputable def K1w (b : Block) (who : List Int) (r : Nat) : Block := (turnH b.1 r, K23 (turnH b.1 r) (sha (72 :: bodyS (turnH b.1 r))) who b.2.1, b.2.2.1, b.2.2.2.1, ())
theorem K25 (b : Block) (who : List Int) (hw : who.length ≤ 1152921504606846976) (how : Int) (hh : K00 b.1) (h1 : 1 ≤ b.1.1) (h2 : b.1.1 ≤ 16) (hs : b.2.1.length ≤ 1000000) : ∃ r, r < 32 ∧ q1f b who how = some (K1w b who r) := by
 obtain ⟨r, e, a, c⟩ := K98 how 0 31 (by omega) (by omega) (by omega)
 refine ⟨r.toNat, by omega, ?_⟩
 unfold q1f
 have hth := K8s hh r.toNat
 rw [e, K05, need_true (by omega)]
 show andThen (qv (turnH b.1 r.toNat)) _ = _
 rw [K63 _ hth, K05, need_true (by simp only [List.length_nil]; omega), List.nil_append]
 show andThen (q1f_2 who (b.2.1.length : Int) 0 _ () (turnH b.1 r.toNat) (b.2.2.1, b.2.2.2.1, ()) b.2.1 (sha (72 :: bodyS (turnH b.1 r.toNat)))) _ = _
 rw [forged_2 who hw _ (turnH b.1 r.toNat) h1 h2 _ _ hs _ (by rw [K7z]; omega), K05]
 rfl
abbrev HdT : Ty := .fld (.int .i64) (.fld (.int .i64) (.fld (.arr 32 (.int .u8)) (.fld (.arr 32 (.int .u8)) (.fld (.arr 32 (.int .u8)) (.fld (.arr 32 (.int .u8)) .unit)))))
abbrev eqHd (a b : Hdr) : Bool := Ty.beq HdT a b
theorem K1f (a b : Hdr) : eqHd a b = true ↔ a = b := Ty.beq_iff HdT rfl a b
theorem K1g (a : Hdr) : eqHd a a = true := (K1f a a).2 rfl
theorem eqHd_ne {a b : Hdr} (h : a ≠ b) : eqHd a b = false := by
 rw [← Bool.not_eq_true]; exact fun e => h ((K1f a b).1 e)
def misS (a b : Block) (c : Cli) : Int × Cli :=
 if c.2.2.2.1 = true then (5, c) else if K94 a = false then (1, c) else if K94 b = false then (1, c) else if a.1.1 ≠ b.1.1 then (1, c) else if eqHd a.1 b.1 = true then (1, c)
 else if enS a.2.2.1 a.1 a.2.1 = false ∨ soS c.2.1 a.1 a.2.1 = false then (9, c) else if enS b.2.2.1 b.1 b.2.1 = false ∨ soS c.2.1 b.1 b.2.1 = false then (9, c)
 else (0, (c.1, c.2.1, c.2.2.1, true, ()))
theorem K48 (n i : Int) (c : Cli) (l : List Block) : qf_1_step n i c l =
  (fork (decide (i < n)) (need (0 ≤ i ∧ i < (List.length l : Int)) (andThen (q2k (l.getD (Int.toNat i) zBlk).2.2.1 (l.getD (Int.toNat i) zBlk).1 (l.getD (Int.toNat i) zBlk).2.1) (fun u13 => fork (!u13) (some (.inr (.inl ((9 : Int), c)))) (andThen (q33 c.2.1 (l.getD (Int.toNat i) zBlk).1 (l.getD (Int.toNat i) zBlk).2.1) (fun u16 => fork (!u16) (some (.inr (.inl ((9 : Int), c)))) (some (.inl (w64 (i + (1 : Int)))))))))) (some (.inr (.inr c))) : Option (Int ⊕ ((Int × Cli) ⊕ Cli))) := rfl
theorem m_one (a b : Block) (c : Cli) (hb : BlkOk b) (hset : K02 b.2.2.1) (hn : K02 c.2.1) (i : Int) (hi : i = 0 ∨ i = 1) (l : List Block) (hl : l.length = 2) (hg : l.getD (Int.toNat i) zBlk = b) : qf_1_step 2 i c l =
  if enS b.2.2.1 b.1 b.2.1 = false ∨ soS c.2.1 b.1 b.2.1 = false then some (.inr (.inl (9, c))) else some (.inl (i + 1)) := by
 obtain ⟨b1, b2, b3, _⟩ := hb
 have en := K1e b.2.2.1 hset b.1 b1 b.2.1 b3 b2
 have so := K8c c.2.1 hn b.1 b1 b.2.1 b3 b2
 rw [show decide (allS b.2.2.1 * 2 < partS b.2.2.1 b.1 b.2.1 * 3) = enS b.2.2.1 b.1 b.2.1 from rfl] at en
 rw [show decide (allS c.2.1 * 1 < partS c.2.1 b.1 b.2.1 * 3) = soS c.2.1 b.1 b.2.1 from rfl] at so
 rw [K48, K2c (by omega), need_true (by omega), hg, en, K05]
 cases enS b.2.2.1 b.1 b.2.1 with
 | false => rw [if_pos (.inl rfl)]; rfl
 | true =>
  rw [Bool.not_true, K27, so, K05]
  cases soS c.2.1 b.1 b.2.1 with
  | false => rw [if_pos (.inr rfl)]; rfl
  | true => rw [if_neg (by simp), Bool.not_true, K27, w64_eq (by omega) (by omega)]
theorem mis_eq (a b : Block) (c : Cli) (ha : BlkOk a) (hb : BlkOk b) (hc : CliOk c) : qf a b c = some (misS a b c) := by
 obtain ⟨c1, c2, c3, _, _⟩ := hc
 have wa := K95 a ha
 have wb := K95 b hb
 unfold qf misS
 by_cases q1 : c.2.2.2.1 = true
 ·rw [q1, K2d, if_pos rfl]
 rw [if_neg q1]
 have q1 : c.2.2.2.1 = false := by simpa using q1
 rw [q1, K27, wa, K05]
 cases q2 : K94 a with
 | false => rw [if_pos rfl]; rfl
 | true =>
  rw [if_neg (by simp), Bool.not_true, K27, wb, K05]
  have sa : K02 a.2.2.1 := by
   unfold K94 at q2
   simp only [Bool.and_eq_true] at q2
   exact (K6c q2.2.1).1
  cases q3 : K94 b with
  | false => rw [if_pos rfl]; rfl
  | true =>
   have sb : K02 b.2.2.1 := by
    unfold K94 at q3
    simp only [Bool.and_eq_true] at q3
    exact (K6c q3.2.1).1
   rw [if_neg (by simp), Bool.not_true, K27]
   by_cases q4 : a.1.1 = b.1.1
   ·rw [K2b q4, if_neg (by simpa using q4)]
    show fork (eqHd a.1 b.1) _ _ = _
    cases q5 : eqHd a.1 b.1 with
    | true => rw [K2d, if_pos rfl]
    | false =>
     rw [K27, if_neg (by simp)]
     have s0 := m_one a a c ha sa c3 0 (.inl rfl) [a, b] rfl rfl
     have s1 := m_one a b c hb sb c3 1 (.inr rfl) [a, b] rfl rfl
     show andThen (qf_1 2 0 c [a, b]) _ = _
     unfold qf_1
     by_cases r1 : enS a.2.2.1 a.1 a.2.1 = false ∨ soS c.2.1 a.1 a.2.1 = false
     ·rw [if_pos r1] at s0
      rw [if_pos r1, loop_out s0]
      rfl
     ·rw [if_neg r1] at s0
      rw [if_neg r1, loop_next s0]
      by_cases r2 : enS b.2.2.1 b.1 b.2.1 = false ∨ soS c.2.1 b.1 b.2.1 = false
      ·rw [if_pos r2] at s1
       rw [if_pos r2, show (0 : Int) + 1 = 1 from rfl, loop_out s1]
       rfl
      ·rw [if_neg r2] at s1
       rw [if_neg r2, show (0 : Int) + 1 = 1 from rfl, loop_next s1]
       have s2 : qf_1_step 2 ((1 : Int) + 1) c [a, b] = some (.inr (.inr c)) := by rw [K48, K26 (by omega)]
       rw [loop_out s2]
       rfl
   ·rw [K29 q4, if_pos (by simpa using q4)]
def f10 (i : Nat) : Int := 10 * ((i : Int) + 1)
theorem K43 (n : Nat) (hn : n ≤ 4) (S : List Val) (hS : SetSm S) : qy_1 0 [] [] () (K7p n) (K6k n) (K4j n) S = some (blF n S f10 3, List.replicate 3 [], (), K7p n, K6k n, K4j n, S) := by
 unfold qy_1
 have := K46 (step := fun (t : Int × List Block × Rows × Unit × List (List UInt8) × List (List (List UInt8)) × List (List UInt8) × List Val) => qy_1_step t.1 t.2.1 t.2.2.1 t.2.2.2.1 t.2.2.2.2.1 t.2.2.2.2.2.1 t.2.2.2.2.2.2.1 t.2.2.2.2.2.2.2) (fun i (_ : Unit) => ((i : Int), blF n S f10 i, List.replicate i [], (), K7p n, K6k n, K4j n, S)) (fun _ _ => ()) (fun _ => (blF n S f10 3, List.replicate 3 [], (), K7p n, K6k n, K4j n, S)) 3 (fun _ _ => True) (fun i w hi _ => ⟨?_, trivial⟩) (fun w _ => ?_) 3 0 () (by omega) trivial
 ·exact this
 ·show qy_1_step (i : Int) (blF n S f10 i) (List.replicate i []) () (K7p n) (K6k n) (K4j n) S = _
  unfold qy_1_step
  have e : w64 (10 * w64 ((i : Int) + 1)) = f10 i := by rw [w64_eq (n := (i : Int) + 1) (by omega) (by omega), w64_eq (by omega) (by omega)]; rfl
  rw [K2c (by omega), e, commitF hn hS i (by omega) (by unfold f10; omega) (fun h => by unfold f10; omega), K05, w64_eq (by omega) (by omega)]
  rfl
 ·show qy_1_step 3 (blF n S f10 3) (List.replicate 3 []) () (K7p n) (K6k n) (K4j n) S = _
  unfold qy_1_step
  rw [K26 (by omega)]
theorem K1i : Rise f10 := ⟨fun i hi => by unfold f10; omega, fun i hi => by unfold f10; omega⟩
theorem K24 {n : Nat} {who : List Int} (hw : ∀ i, i < n → hitW who i = true) (h h' : Hdr) : K23 h' (textS h') who (sgJ h (List.range n)) = sgJ h' (List.range n) := by
 unfold K23
 rw [K7x, List.length_range]
 unfold sgJ
 apply List.map_congr_left
 intro i hi
 have hi := List.mem_range.1 hi
 rw [if_pos (hw i hi), K2h _ _ hi]
 rfl
theorem K3u : qy = some true := by
 have hp := pw_ok [1]
 have hn : setN [1] = 1 := rfl
 have hS := K6g (pw [1]) 1 (by omega)
 have hce := K0t [1] (by simp)
 rw [hn] at hce
 have hce : q1r [1] = some ((), K7p 1, K6k 1, K4j 1, ringN (pw [1]) 1) := hce
 generalize pw [1] = p at *
 have hl := K0h 1 (ringN p 1) f10 3
 have g0 : (blF 1 (ringN p 1) f10 3).getD 0 zBlk = honB 1 (ringN p 1) (hF 1 (ringN p 1) f10 0) := K0g _ _ _ (by omega)
 have g1 : (blF 1 (ringN p 1) f10 3).getD 1 zBlk = honB 1 (ringN p 1) (hF 1 (ringN p 1) f10 1) := K0g _ _ _ (by omega)
 have g2 : (blF 1 (ringN p 1) f10 3).getD 2 zBlk = honB 1 (ringN p 1) (hF 1 (ringN p 1) f10 2) := K0g _ _ _ (by omega)
 have hnew := new_hon hp (Nat.le_refl 1) (show 1 ≤ 4 by omega) K1i (P := 100) (by omega) (j := 0) (by omega)
 have k0 := K3h (ringN p 1) 100 (hF 1 (ringN p 1) f10 0)
 have u1 := K8z hp (Nat.le_refl 1) (show 1 ≤ 4 by omega) K1i (i := 0) (j := 1) (by omega) (by omega) k0 25
 rw [if_neg (by omega), if_neg (by unfold f10; omega)] at u1
 have k1 := K3i (h := hF 1 (ringN p 1) f10 1) k0 (by simp)
 have u2 := K8z hp (Nat.le_refl 1) (show 1 ≤ 4 by omega) K1i (i := 1) (j := 1) (by omega) (by omega) k1 25
 rw [if_pos (by omega)] at u2
 have o1 := K2k 1 (ringN p 1) f10 1
 have o2 := K2k 1 (ringN p 1) f10 2
 have e1 := hF_1 1 (ringN p 1) f10 1
 have e2 := hF_1 1 (ringN p 1) f10 2
 have r2 : K65 (hF 1 (ringN p 1) f10 2) = true := K2m (by omega) (by unfold f10; omega) (by unfold f10; omega)
 have v2 := K2n 1 (ringN p 1) f10 2
 have x2 := K2l 1 (ringN p 1) f10 2
 have c0 := K3j hp (show 1 ≤ 4 by omega) K1i (by omega) k0
 have c1 := K3j hp (show 1 ≤ 4 by omega) K1i (by omega) k1
 have b1 := K32 (show 1 ≤ 4 by omega) p o1 (by omega) (by omega)
 have b2 := K32 (show 1 ≤ 4 by omega) p o2 (by omega) (by omega)
 obtain ⟨r, hr, ef⟩ := K25 (honB 1 (ringN p 1) (hF 1 (ringN p 1) f10 2)) [0] (by simp) 5 o2 (by show 1 ≤ (hF 1 (ringN p 1) f10 2).1; omega) (by show (hF 1 (ringN p 1) f10 2).1 ≤ 16; omega) b2.2.2.1
 have hodd : K1w (honB 1 (ringN p 1) (hF 1 (ringN p 1) f10 2)) [0] r = honB 1 (ringN p 1) (turnH (hF 1 (ringN p 1) f10 2) r) := by
  unfold K1w honB
  simp only
  have hrt : K65 (turnH (hF 1 (ringN p 1) f10 2) r) = true := r2
  rw [← K8n hrt, K24]
  intro i hi
  have : i = 0 := by omega
  subst this
  unfold hitW
  rw [List.any_cons, List.any_nil, Bool.or_false, decide_eq_true_eq]
  obtain ⟨w, _, _⟩ := wi_eq 0
  have hw : q1c 0 0 4 = some 0 := by
   unfold q1c
   rfl
  rw [hw] at w
  injection w with w
 rw [hodd] at ef
 have ot := K8s o2 r
 have bt := K32 (show 1 ≤ 4 by omega) p ot (by show 1 ≤ (hF 1 (ringN p 1) f10 2).1; omega) (by show (hF 1 (ringN p 1) f10 2).1 ≤ 16; omega)
 have wb2 := K96 hp (Nat.le_refl 1) (show 1 ≤ 4 by omega) r2 v2 x2
 have wbt := K96 hp (Nat.le_refl 1) (show 1 ≤ 4 by omega) (h := turnH (hF 1 (ringN p 1) f10 2) r) r2 v2 x2
 have hm : misS (honB 1 (ringN p 1) (hF 1 (ringN p 1) f10 2)) (honB 1 (ringN p 1) (turnH (hF 1 (ringN p 1) f10 2) r)) (cut6 ([hF 1 (ringN p 1) f10 0] ++ [hF 1 (ringN p 1) f10 1]), ringN p 1, 100, false, ()) = (0, (cut6 ([hF 1 (ringN p 1) f10 0] ++ [hF 1 (ringN p 1) f10 1]), ringN p 1, 100, true, ())) := by
  unfold misS
  rw [if_neg (by simp), wb2, if_neg (by simp), wbt, if_neg (by simp), if_neg (by intro h; exact h rfl)]
  show (if eqHd (hF 1 (ringN p 1) f10 2) (turnH (hF 1 (ringN p 1) f10 2) r) = true then _ else if enS (ringN p 1) (hF 1 (ringN p 1) f10 2) (sgJ (hF 1 (ringN p 1) f10 2) (List.range 1)) = false ∨ soS (ringN p 1) (hF 1 (ringN p 1) f10 2) (sgJ (hF 1 (ringN p 1) f10 2) (List.range 1)) = false then _ else if enS (ringN p 1) (turnH (hF 1 (ringN p 1) f10 2) r) (sgJ (turnH (hF 1 (ringN p 1) f10 2) r) (List.range 1)) = false ∨ soS (ringN p 1) (turnH (hF 1 (ringN p 1) f10 2) r) (sgJ (turnH (hF 1 (ringN p 1) f10 2) r) (List.range 1)) = false then _ else _) = _
  have t1 : 1 ≤ (turnH (hF 1 (ringN p 1) f10 2) r).1 := by show 1 ≤ (hF 1 (ringN p 1) f10 2).1; omega
  have t2 : (turnH (hF 1 (ringN p 1) f10 2) r).1 ≤ 16 := by show (hF 1 (ringN p 1) f10 2).1 ≤ 16; omega
  rw [eqHd_ne (Ne.symm (turnH_ne o2 hr)), if_neg (by simp), K1d hp (Nat.le_refl 1) (by omega) _ (by omega) (by omega), K8b hp (Nat.le_refl 1) (by omega) _ (by omega) (by omega), if_neg (by simp), K1d hp (Nat.le_refl 1) (by omega) _ t1 t2, K8b hp (Nat.le_refl 1) (by omega) _ t1 t2, if_neg (by simp)]
 unfold qy
 rw [hce, K05, K43 1 (by omega) _ hS, K05]
 simp only
 show need _ (andThen (q3a ((blF 1 (ringN p 1) f10 3).getD (Int.toNat 0) zBlk).1 ((blF 1 (ringN p 1) f10 3).getD (Int.toNat 0) zBlk).2.2.2.1 100) (fun u10 => match u10 with | .inl u12 => none | .inr u13 => fork (!decide (u13.1 = (0 : Int))) none (need (0 ≤ (1 : Int) ∧ (1 : Int) < ((blF 1 (ringN p 1) f10 3).length : Int)) (andThen (qq ((blF 1 (ringN p 1) f10 3).getD (Int.toNat 1) zBlk) 25 u13.2) (fun u16 => andThen (qq ((blF 1 (ringN p 1) f10 3).getD (Int.toNat 1) zBlk) 25 u16.2) (fun u18 => need (0 ≤ (2 : Int) ∧ (2 : Int) < ((blF 1 (ringN p 1) f10 3).length : Int)) (andThen (q1f ((blF 1 (ringN p 1) f10 3).getD (Int.toNat 2) zBlk) [0] 5) (fun u21 => andThen (qf ((blF 1 (ringN p 1) f10 3).getD (Int.toNat 2) zBlk) u21 u18.2) (fun u23 => fork (decide (u16.1 = (0 : Int))) (fork (decide (u18.1 = (8 : Int))) (fork (decide (u23.1 = (0 : Int))) (andThen (qm u23.2) (fun u28 => fork u28 (andThen (qq ((blF 1 (ringN p 1) f10 3).getD (Int.toNat 2) zBlk) 35 u23.2) (fun u31 => some (decide (u31.1 = (5 : Int))))) none)) none) none) none))))))))) = _
 rw [need_true (by omega), show Int.toNat 0 = 0 from rfl, show Int.toNat 1 = 1 from rfl, show Int.toNat 2 = 2 from rfl, g0, g1, g2]
 show andThen (q3a (hF 1 (ringN p 1) f10 0) (ringN p 1) 100) _ = _
 rw [hnew, K05]
 simp only
 rw [K2b trivial, need_true (by omega), K8y _ _ _ b1 c0 (by omega), K05, u1]
 simp only
 rw [K8y _ _ _ b1 c1 (by omega), K05, u2, need_true (by omega), ef, K05]
 simp only
 rw [mis_eq _ _ _ b2 bt c1, K05, hm]
 simp only
 rw [K2c trivial, K2c trivial, K2c trivial]
 unfold qm
 rw [K05, K2d]
 have hz : CliOk (cut6 ([hF 1 (ringN p 1) f10 0] ++ [hF 1 (ringN p 1) f10 1]), ringN p 1, 100, true, ()) := c1
 rw [K8y _ _ _ b2 hz (by omega), K05]
 unfold updS
 rw [if_pos rfl]
 rfl
end Go.Ax.V
