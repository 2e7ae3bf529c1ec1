/-
  Chapter 11: a header's hash is the tagged sum of its bytes; two headers that are the same have one.
-/
import Derived.Test.YtcdpooojocbakaaCHeadOrderLHeadRuns
import Derived.Test.YtcdpooojocbakaaCHeadOrderLKeepHead
import Derived.Test.YtcdpooojocbakaaCHeadOrderLRHead
namespace Go.Ax.V
open Go.Ax
set_option linter.unusedVariables false
set_option linter.unusedSimpArgs false

abbrev hdrTy : Ty := .fld (.int .i64) (.fld (.int .i64) (.fld (.arr 32 (.int .u8)) (.fld (.arr 32 (.int .u8)) (.fld (.arr 32 (.int .u8)) (.fld (.arr 32 (.int .u8)) .unit)))))
theorem bytesS_len (h : Hdr) (hh : Hashes h) : (bytesS h).length ≤ 142 := by
  unfold bytesS; split
  · exact body_len h hh
  · simp
theorem law_HeadOrder (y0 y1 : Int × Int × Int × Int × Int × Int × Unit) (w0 : Wf (.fld (.int .i64) (.fld (.int .i64) (.fld (.int .i64) (.fld (.int .i64) (.fld (.int .i64) (.fld (.int .i64) .unit)))))) y0) (w1 : Wf (.fld (.int .i64) (.fld (.int .i64) (.fld (.int .i64) (.fld (.int .i64) (.fld (.int .i64) (.fld (.int .i64) .unit)))))) y1) : affiantlaw11_HeadOrder y0 y1 = some true := by
  unfold affiantlaw11_HeadOrder
  obtain ⟨h, e1, hh, hr, _⟩ := header_eq y0
  obtain ⟨g, e2, hg, gr, _⟩ := header_eq y1
  have lh := bytesS_len h hh
  have lg := bytesS_len g hg
  have f1 : ∀ x : List UInt8, [x].flatten = x := by intro x; simp
  rw [e1, andThen_mk, e2, andThen_mk, headHash_eq h hh, andThen_mk, headHash_eq g hg, andThen_mk, bytes_eq h hh, andThen_mk, rtagged_eq _ _ (by rw [f1]; omega) (by simp), andThen_mk, f1, beq_hash, fork_tt, bytes_eq g hg, andThen_mk,
    rtagged_eq _ _ (by rw [f1]; omega) (by simp), andThen_mk, f1, beq_hash, fork_tt]
  simp only [andThen_mk, beq_hash, fork_tt, law_HeadRuns]
  cases hb : Ty.beq hdrTy h g with
  | false => rfl
  | true =>
    have e := (Ty.beq_iff hdrTy rfl h g).1 hb
    subst e
    rw [show (!true) = false from rfl, fork_ff, beq_hash, fork_tt]
end Go.Ax.V
