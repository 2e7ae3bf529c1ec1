/-
  Headers: lengths of their bytes.
-/
import Derived.Test.YtcdpooojocbakaaCHeadFieldsLHeadRuns
import Derived.Test.YtcdpooojocbakaaCHeadFieldsLKeepHead
import Derived.Test.YtcdpooojocbakaaCHeadFieldsLRHead
import Derived.Test.YtcdpooojocbakaaCHeadFieldsLSame
namespace Go.Ax.V
open Go.Ax
set_option linter.unusedVariables false
set_option linter.unusedSimpArgs false

abbrev hdrTy : Ty := .fld (.int .i64) (.fld (.int .i64) (.fld (.arr 32 (.int .u8)) (.fld (.arr 32 (.int .u8)) (.fld (.arr 32 (.int .u8)) (.fld (.arr 32 (.int .u8)) .unit)))))
theorem bytesS_len (h : Hdr) (hh : Hashes h) : (bytesS h).length ≤ 142 := by
  unfold bytesS; split
  · exact body_len h hh
  · simp
theorem bytes_pos' (h : Hdr) : decide ((0 : Int) < ((bytesS h).length : Int)) = rightHS h := by
  cases hr : rightHS h with
  | false => unfold bytesS; rw [if_neg (by rw [hr]; simp)]; rfl
  | true =>
    obtain ⟨⟨i1, i2⟩, _⟩ := (rightHS_iff h).1 hr
    apply decide_eq_true
    unfold bytesS
    rw [if_pos hr]
    unfold bodyS
    have : 1 ≤ (oneS h.1).length := by
      unfold oneS; rw [if_pos (by omega)]; exact putF_pos 6 _
    rw [List.length_append]; omega
end Go.Ax.V
