/-
  Headers in bytes, and read again.
-/
import Derived.Test.YtcfaippbnmmelaaGreatCLightSkipsLVint
namespace Go.Ax.V
open Go.Ax
set_option linter.unusedVariables false
set_option linter.unusedSimpArgs false
theorem putF_small {n : Nat} (h : n < 128) : ∀ f, putF f n = [UInt8.ofNat n]
 | 0 => rfl
 | f + 1 => by rw [putF, if_pos h]
abbrev Hdr := Int × Int × List UInt8 × List UInt8 × List UInt8 × List UInt8 × Unit
def rightHS (h : Hdr) : Bool := decide (1 ≤ h.1) && (decide (h.1 ≤ 16) && (decide (0 ≤ h.2.1) && decide (h.2.1 ≤ 1073741824)))
theorem rightH_eq (h : Hdr) : q2f h = some (rightHS h) := by
 unfold q2f rightHS
 simp only [fork_ite]
 cases decide (1 ≤ h.1) <;> cases decide (h.1 ≤ 16) <;> cases decide (0 ≤ h.2.1) <;> simp
theorem rightHS_iff (h : Hdr) : rightHS h = true ↔ (1 ≤ h.1 ∧ h.1 ≤ 16) ∧ 0 ≤ h.2.1 ∧ h.2.1 ≤ 1073741824 := by
 unfold rightHS
 simp only [Bool.and_eq_true, decide_eq_true_eq]
 exact ⟨fun ⟨a, b, c, d⟩ => ⟨⟨a, b⟩, c, d⟩, fun ⟨⟨a, b⟩, c, d⟩ => ⟨a, b, c, d⟩⟩
def Hashes (h : Hdr) : Prop := h.2.2.1.length = 32 ∧ h.2.2.2.1.length = 32 ∧ h.2.2.2.2.1.length = 32 ∧ h.2.2.2.2.2.1.length = 32
def bodyS (h : Hdr) : List UInt8 := oneS h.1 ++ (oneS h.2.1 ++ (h.2.2.1 ++ (h.2.2.2.1 ++ (h.2.2.2.2.1 ++ h.2.2.2.2.2.1))))
def bytesS (h : Hdr) : List UInt8 := if rightHS h then bodyS h else []
theorem bytes_eq (h : Hdr) (hh : Hashes h) : q2s h = some (bytesS h) := by
 obtain ⟨a, b, c, d⟩ := hh
 unfold q2s bytesS
 rw [rightH_eq, andThen_mk]
 cases rightHS h with
 | false => rfl
 | true =>
  rw [show (!true) = false from rfl, fork_ff, put_eq _ (by simp), andThen_mk, hash_eq _ (by simp) (by
   intro x hx
   simp only [List.mem_cons, List.not_mem_nil, or_false] at hx
   rcases hx with rfl | rfl | rfl | rfl <;> assumption), andThen_mk]
  have l1 := put_len [h.1, h.2.1]
  simp only [List.length_cons, List.length_nil] at l1
  rw [need_true (by simp; omega), if_pos rfl]
  congr 1
  simp [putS, bodyS, List.flatMap_cons]
theorem body_len (h : Hdr) (hh : Hashes h) : (bodyS h).length ≤ 142 := by
 obtain ⟨a, b, c, d⟩ := hh
 have := oneS_len h.1
 have := oneS_len h.2.1
 unfold bodyS
 simp only [List.length_append]; omega
def zHdr : Hdr := (0, 0, List.replicate 32 0, List.replicate 32 0, List.replicate 32 0, List.replicate 32 0, ())
end Go.Ax.V
