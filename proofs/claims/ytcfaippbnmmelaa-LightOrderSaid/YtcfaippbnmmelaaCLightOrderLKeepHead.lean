/-
  Headers that are drawn.
-/
import Derived.Test.YtcfaippbnmmelaaCLightOrderLHead
import Derived.Test.YtcfaippbnmmelaaCLightOrderLWithin
namespace Go.Ax.V
open Go.Ax
set_option linter.unusedVariables false
set_option linter.unusedSimpArgs false
def hashK (a : Int) : List UInt8 := List.set (List.set (List.replicate 32 (0 : UInt8)) 0 (UInt8.ofNat (Int.toNat (a % 256)))) 1 (UInt8.ofNat (Int.toNat ((ishr a (Int.toNat (8 : Int))) % 256)))
theorem hashK_eq (a : Int) : affiantkeep_hash a = some (hashK a) := rfl
theorem hashK_len (a : Int) : (hashK a).length = 32 := by simp [hashK]
theorem header_eq (k : Int × Int × Int × Int × Int × Int × Unit) : ∃ h : Hdr, affiantkeep_Head_Header k = some h ∧ Hashes h ∧ rightHS h = true ∧ h.2.1 ≤ 500 := by
 unfold affiantkeep_Head_Header
 obtain ⟨a, ha, a1, a2⟩ := within_eq k.1 1 16 (by omega) (by omega) (by omega)
 obtain ⟨b, hb, b1, b2⟩ := within_eq k.2.1 0 500 (by omega) (by omega) (by omega)
 rw [ha, andThen_mk, hb, andThen_mk, hashK_eq, andThen_mk, hashK_eq, andThen_mk, hashK_eq, andThen_mk, hashK_eq, andThen_mk]
 refine ⟨_, rfl, ⟨hashK_len _, hashK_len _, hashK_len _, hashK_len _⟩, ?_, b2⟩
 rw [rightHS_iff]
 simp only
 omega
end Go.Ax.V
