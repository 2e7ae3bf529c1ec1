/-
  Rings of one-time keys: what the functions of ring compute.
-/
import Derived.Test.YtcfaippbnmmelaaGreatCLightSkipsLLam
import Derived.Test.YtcfaippbnmmelaaGreatCLightSkipsLTree2
namespace Go.Ax.V
open Go.Ax
set_option linter.unusedVariables false
set_option linter.unusedSimpArgs false
def seedS (seed : List UInt8) (h : Nat) : List UInt8 := sha (114 :: (seed ++ [UInt8.ofNat h]))
def keysN (seed : List UInt8) (n : Nat) : List (List UInt8) := (List.range n).map fun i => KeyS (seedS seed (i + 1))
def keysS (seed : List UInt8) : List (List UInt8) := keysN seed 16
noncomputable def identS (seed : List UInt8) : List UInt8 := rootS (keysS seed)
abbrev Sig := Int × One × List (List UInt8) × Unit
noncomputable def byS (keys : List (List UInt8)) (seed : List UInt8) (h : Int) (m : List UInt8) : Sig := (h, signS (seedS seed h.toNat) m, pathS keys (h - 1), ())
def noSig : Sig := (0, ([], [], ()), [], ())
def isH (h : Int) : Bool := decide (1 ≤ h) && decide (h ≤ 16)
def verS (id : List UInt8) (j : Int) (m : List UInt8) (s : Sig) : Bool :=
 isH j && (decide (s.1 = j) && ((whoS m s.2.1).2 && ((upS (whoS m s.2.1).1 (j - 1) 16 s.2.2.1).2 && Ty.beq (.arr 32 (.int .u8)) (upS (whoS m s.2.1).1 (j - 1) 16 s.2.2.1).1 id)))
theorem seedS_len (seed : List UInt8) (h : Nat) : (seedS seed h).length = 32 := sha_len _
theorem KeyS_len (seed : List UInt8) : (KeyS seed).length = 32 := keyS_len _
theorem keysN_len (seed : List UInt8) (n : Nat) : (keysN seed n).length = n := by simp [keysN]
theorem keysN_32 (seed : List UInt8) (n : Nat) : Len32 (keysN seed n) := by
 intro x hx
 obtain ⟨i, _, rfl⟩ := List.mem_map.1 hx
 exact KeyS_len _
theorem keysS_len (seed : List UInt8) : (keysS seed).length = 16 := keysN_len _ _
theorem keysS_small (seed : List UInt8) : Small (keysS seed) := fun x hx => by rw [keysN_32 seed 16 x hx]; omega
theorem keysS_at (seed : List UInt8) (i : Nat) (h : i < 16) : (keysS seed).getD i [] = KeyS (seedS seed (i + 1)) := by
 unfold keysS keysN
 rw [List.getD_eq_getElem?_getD, List.getElem?_map, List.getElem?_range h]; rfl
theorem isH_eq (h : Int) : q3d h = some (isH h) := by
 unfold q3d isH
 by_cases c : 1 ≤ h
 ·rw [fork_t c, decide_eq_true c]; rfl
 ·rw [fork_f c, decide_eq_false c]; rfl
theorem isH_t {h : Int} (h1 : 1 ≤ h) (h2 : h ≤ 16) : isH h = true := by unfold isH; rw [decide_eq_true h1, decide_eq_true h2]; rfl
theorem isH_iff {h : Int} : isH h = true ↔ 1 ≤ h ∧ h ≤ 16 := by unfold isH; rw [Bool.and_eq_true, decide_eq_true_eq, decide_eq_true_eq]
noncomputable def sigS (seed : List UInt8) (h : Int) (m : List UInt8) : Sig := byS (keysS seed) seed h m
theorem whoS_len (m : List UInt8) (x : One) : (whoS m x).1.length = 32 := by
 unfold whoS
 split
 ·exact keyS_len _
 ·rfl
def SigOk (s : Sig) : Prop := Len32 s.2.1.1 ∧ Len32 s.2.1.2.1 ∧ Len32 s.2.2.1 ∧ s.2.2.1.length ≤ 100000
theorem Ver_eq (id : List UInt8) (j : Int) (m : List UInt8) (hm : m.length ≤ 100000) (s : Sig) (hs : SigOk s) : q29 id j m s = some (verS id j m s) := by
 obtain ⟨s1, s2, s3, s4⟩ := hs
 unfold q29 verS
 rw [isH_eq, andThen_mk]
 cases hj : isH j with
 | false => rfl
 | true =>
  obtain ⟨j1, j2⟩ := isH_iff.1 hj
  rw [show (!true) = false from rfl, fork_ff, Bool.true_and]
  by_cases c : s.1 = j
  ·rw [fork_nt c, decide_eq_true c, Bool.true_and, who_eq m hm s.2.1 s1 s2, andThen_mk]
   cases (whoS m s.2.1).2 with
   | false => rfl
   | true =>
    rw [show (!true) = false from rfl, fork_ff, Bool.true_and, w64_eq (by omega) (by omega), up_eq _ (by rw [whoS_len]; omega) _ _ (by omega) _ s3 s4, andThen_mk]
    cases (upS (whoS m s.2.1).1 (j - 1) 16 s.2.2.1).2 <;> rfl
  ·rw [fork_nf c, decide_eq_false c]; rfl
theorem sides16 : ∀ i, i < 16 → (sidesF 16 i 16).length = 4 := by decide
theorem path16 (seed : List UInt8) (h : Int) (h1 : 1 ≤ h) (h2 : h ≤ 16) : pathS (keysS seed) (h - 1) = pathF 16 (keysS seed) (h - 1).toNat ∧ (pathS (keysS seed) (h - 1)).length = 4 ∧ Len32 (pathS (keysS seed) (h - 1)) := by
 have e : pathS (keysS seed) (h - 1) = pathF 16 (keysS seed) (h - 1).toNat := by
  unfold pathS
  rw [keysS_len, if_pos (by omega)]
 rw [e]
 refine ⟨rfl, ?_, pathF_32 _ _ _⟩
 rw [path_sides _ _ _ (by rw [keysS_len]; omega), keysS_len, sides16 _ (by omega)]
theorem sig_ok (seed : List UInt8) (h : Int) (h1 : 1 ≤ h) (h2 : h ≤ 16) (m : List UInt8) : SigOk (sigS seed h m) := by
 obtain ⟨_, _, a, b⟩ := sign_len (seedS seed h.toNat) m
 obtain ⟨_, p1, p2⟩ := path16 seed h h1 h2
 exact ⟨a, b, p2, by show (pathS (keysS seed) (h - 1)).length ≤ 100000; omega⟩
theorem noSig_ok : SigOk noSig := ⟨(fun x hx => nomatch hx), (fun x hx => nomatch hx), (fun x hx => nomatch hx), by show (0 : Nat) ≤ 100000; omega⟩
theorem ver_sig (id seed : List UInt8) (h : Int) (h1 : 1 ≤ h) (h2 : h ≤ 16) (m : List UInt8) : verS id h m (sigS seed h m) = Ty.beq (.arr 32 (.int .u8)) (identS seed) id := by
 obtain ⟨p0, p1, p2⟩ := path16 seed h h1 h2
 have hw : whoS m (sigS seed h m).2.1 = (KeyS (seedS seed h.toNat), true) := who_sign _ _
 have hk : KeyS (seedS seed h.toNat) = (keysS seed).getD (h - 1).toNat [] := by
  rw [keysS_at seed _ (by omega), show (h - 1).toNat + 1 = h.toNat from by omega]
 have hup : upS (KeyS (seedS seed h.toNat)) (h - 1) 16 (sigS seed h m).2.2.1 = (identS seed, true) := by
  show upS (KeyS (seedS seed h.toNat)) (h - 1) 16 (pathS (keysS seed) (h - 1)) = _
  unfold upS
  have e16 : (16 : Int).toNat = 16 := rfl
  rw [e16, if_pos ⟨(isS_iff _ _).2 (by omega), by rw [p1, sides16 _ (by omega)]⟩, p0, hk]
  have := path_up 16 (keysS seed) (h - 1).toNat (by rw [keysS_len]; omega) (by rw [keysS_len]; omega) (by rw [keysS_len]; omega)
  rw [keysS_len] at this
  rw [this]
  rfl
 unfold verS
 rw [hw, isH_t h1 h2]
 simp only
 rw [hup, decide_eq_true (show (sigS seed h m).1 = h from rfl)]
 rfl
end Go.Ax.V
