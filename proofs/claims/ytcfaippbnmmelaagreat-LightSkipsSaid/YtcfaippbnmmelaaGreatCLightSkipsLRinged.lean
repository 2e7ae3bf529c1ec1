/-
  Sets whose keys are their seeds' identities.
-/
import Derived.Test.YtcfaippbnmmelaaGreatCLightSkipsLRSeal
import Derived.Test.YtcfaippbnmmelaaGreatCLightSkipsLKeepHead
namespace Go.Ax.V
open Go.Ax
set_option linter.unusedVariables false
set_option linter.unusedSimpArgs false
def seedK (i : Nat) : List UInt8 := List.set (List.set (List.replicate 32 (0 : UInt8)) 0 (77 : UInt8)) 1 (UInt8.ofNat i)
theorem seedK_len (i : Nat) : (seedK i).length = 32 := by simp [seedK]
theorem keepSeed_eq (i : Nat) : q1v (i : Int) = some (seedK i) := by
 unfold q1v
 rw [u8_ofInt]
 rfl
noncomputable def mkRing (p : Nat → Int) (i : Nat) : Val := (nm i, p i, identS (seedK i), ())
noncomputable def ringN (p : Nat → Int) (n : Nat) : List Val := (List.range n).map (mkRing p)
noncomputable def ringS (ps : List Int) : List Val := ringN (pw ps) (setN ps)
noncomputable def midS (p : Nat → Int) (n i : Nat) : List Val := (List.range n).map fun j => if j < i then mkRing p j else mkVal p j
theorem mid_step (p : Nat → Int) (n i : Nat) (h : i < n) : List.set (midS p n i) i (((midS p n i).getD i zVal).1, ((midS p n i).getD i zVal).2.1, identS (seedK i), ()) = midS p n (i + 1) := by
 have hg : (midS p n i).getD i zVal = mkVal p i := by
  unfold midS
  rw [List.getD_eq_getElem?_getD, List.getElem?_map, List.getElem?_range h]
  simp
 rw [hg]
 unfold midS
 apply List.ext_getElem
 ·simp
 ·intro j h1 h2
  rw [List.getElem_set]
  simp only [List.getElem_map, List.getElem_range]
  by_cases e : i = j
  ·subst e; rw [if_pos rfl, if_pos (by omega)]; rfl
  ·rw [if_neg e]
   by_cases c : j < i
   ·rw [if_pos c, if_pos (by omega)]
   ·rw [if_neg c, if_neg (by omega)]
theorem setN_b (ps : List Int) : 1 ≤ setN ps ∧ setN ps ≤ 4 := by unfold setN; omega
theorem nm_inj : ∀ i, i < 4 → ∀ j, j < 4 → nm i = nm j → i = j := by decide
theorem nm_inc : ∀ i, i < 4 → ∀ j, j < 4 → i < j → sless (nm i) (nm j) = true := by decide
theorem ringN_dist (p : Nat → Int) (n : Nat) (h : n ≤ 4) : Dist (ringN p n) := by
 unfold Dist ringN
 rw [List.map_map]
 rw [List.nodup_iff_pairwise_ne, List.pairwise_map]
 refine List.Pairwise.imp_of_mem (fun {a b} ha hb hab e => hab (nm_inj a (by have := List.mem_range.1 ha; omega) b (by have := List.mem_range.1 hb; omega) e)) (List.nodup_iff_pairwise_ne.1 List.nodup_range)
theorem ringN_small (p : Nat → Int) (n : Nat) (h : n ≤ 4) (hp : ∀ i, 0 ≤ p i ∧ p i ≤ 2097152) : SmallV (ringN p n) := by
 refine ⟨by simp [ringN]; omega, fun v hv => ?_⟩
 obtain ⟨i, _, rfl⟩ := List.mem_map.1 hv
 exact hp i
theorem good_own (set : List Val) (hd : Dist set) (h : Hdr) (h1 : 1 ≤ h.1) (h2 : h.1 ≤ 16) (v : Val) (hv : v ∈ set) (seed : List UInt8) (hk : v.2.2.1 = identS seed) : goodS set h.1 (textS h) (sgS h v.1 seed) = true := by
 unfold goodS sgS
 simp only
 rw [find_in hd hv, hk, ver_sig _ _ _ h1 h2, beq_hash]
 rfl
theorem sgS_ok (h : Hdr) (h1 : 1 ≤ h.1) (h2 : h.1 ≤ 16) (n seed : List UInt8) : SigOk (sgS h n seed).2.1 := sig_ok seed h.1 h1 h2 _
end Go.Ax.V
