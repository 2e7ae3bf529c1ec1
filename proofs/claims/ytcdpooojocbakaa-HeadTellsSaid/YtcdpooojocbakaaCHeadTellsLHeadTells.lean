/-
  Chapter 11: any header: may it be; its bytes, its hash; it comes back; two have the same bytes just if they are the same.
-/
import Derived.Test.YtcdpooojocbakaaCHeadTellsLHeadRuns
import Derived.Test.YtcdpooojocbakaaCHeadTellsLKeepHead
import Derived.Test.YtcdpooojocbakaaCHeadTellsLRHead
import Derived.Test.YtcdpooojocbakaaCHeadTellsLSame
namespace Go.Ax.V
open Go.Ax
set_option linter.unusedVariables false
set_option linter.unusedSimpArgs false

abbrev hdrTy : Ty := .fld (.int .i64) (.fld (.int .i64) (.fld (.arr 32 (.int .u8)) (.fld (.arr 32 (.int .u8)) (.fld (.arr 32 (.int .u8)) (.fld (.arr 32 (.int .u8)) .unit)))))
theorem bytesS_len (h : Hdr) (hh : Hashes h) : (bytesS h).length ≤ 142 := by
  unfold bytesS; split
  · exact body_len h hh
  · simp
theorem bytes_pos' (h : Hdr) : decide ((0 : Int) < ((bytesS h).length : Int)) = rightHS h := by
  cases hr : rightHS h with
  | false => unfold bytesS; rw [if_neg (by rw [hr]; simp)]; rfl
  | true =>
    obtain ⟨⟨i1, i2⟩, _⟩ := (rightHS_iff h).1 hr
    apply decide_eq_true
    unfold bytesS
    rw [if_pos hr]
    unfold bodyS
    have : 1 ≤ (oneS h.1).length := by
      unfold oneS; rw [if_pos (by omega)]; exact putF_pos 6 _
    rw [List.length_append]; omega
theorem law_HeadTells (y0 : Int × Int × List UInt8 × List UInt8 × List UInt8 × List UInt8 × Unit) (y1 y2 : Int × Int × Int × Int × Int × Int × Unit) (y3 : Bool) (w0 : Wf (.fld (.int .i64) (.fld (.int .i64) (.fld (.arr 32 (.int .u8)) (.fld (.arr 32 (.int .u8)) (.fld (.arr 32 (.int .u8)) (.fld (.arr 32 (.int .u8)) .unit)))))) y0)
    (w1 : Wf (.fld (.int .i64) (.fld (.int .i64) (.fld (.int .i64) (.fld (.int .i64) (.fld (.int .i64) (.fld (.int .i64) .unit)))))) y1) (w2 : Wf (.fld (.int .i64) (.fld (.int .i64) (.fld (.int .i64) (.fld (.int .i64) (.fld (.int .i64) (.fld (.int .i64) .unit)))))) y2) (w3 : Wf .bool y3) : affiantlaw11_HeadTells y0 y1 y2 y3 = some true := by
  unfold affiantlaw11_HeadTells
  obtain ⟨h, e1, hh1, hr, _⟩ := header_eq y1
  obtain ⟨g, e2, hg, gr, _⟩ := header_eq y2
  have hh0 : Hashes y0 := ⟨w0.2.2.1.1, w0.2.2.2.1.1, w0.2.2.2.2.1.1, w0.2.2.2.2.2.1.1⟩
  have lg := bytesS_len g hg
  clear w0 w1 w2 w3
  cases y3
  · rw [fork_ff]
    revert hh0
    generalize y0 = h
    intro hh
    have lh := bytesS_len h hh
    have lb := body_len h hh
    rw [rright_eq, andThen_mk, bytes_eq h hh, andThen_mk, rightH_eq, andThen_mk, bytes_pos' h, law_HeadRuns]
    cases hr : rightHS h with
    | false => rfl
    | true =>
      have eb : bytesS h = bodyS h := by unfold bytesS; rw [if_pos hr]
      simp only [beq_self_eq_true, Bool.not_true, fork_ff, andThen_mk]
      rw [read_bytes h hh hr, andThen_mk, e2, andThen_mk, rbytes_eq h hh, andThen_mk, same_eq _ _ (by omega) (by omega), andThen_mk, decide_eq_true eb, fork_tt, headHash_eq h hh, andThen_mk, rheadHash_eq h hh, andThen_mk, eb, beq_hash, fork_tt, fork_t rfl, beq_self hdrTy rfl h, fork_tt,
        bytes_eq g hg, andThen_mk, same_eq _ _ (by omega) (by omega), andThen_mk]
      have : (decide (bodyS h = bytesS g) == Ty.beq hdrTy h g) = true := by
        rw [← eb]
        cases hb : Ty.beq hdrTy h g with
        | true => have e := (Ty.beq_iff hdrTy rfl h g).1 hb; subst e; simp
        | false =>
          rw [decide_eq_false (fun e => by
            have e := bytes_inj h g hh hg hr gr e
            rw [(Ty.beq_iff hdrTy rfl h g).2 e] at hb; cases hb)]; rfl
      rw [this, fork_tt]
  · rw [fork_tt, e1, andThen_mk]
    have hh := hh1
    have lh := bytesS_len h hh
    have lb := body_len h hh
    rw [rright_eq, andThen_mk, bytes_eq h hh, andThen_mk, rightH_eq, andThen_mk, bytes_pos' h, law_HeadRuns, hr]
    have eb : bytesS h = bodyS h := by unfold bytesS; rw [if_pos hr]
    simp only [beq_self_eq_true, Bool.not_true, fork_ff, andThen_mk]
    rw [read_bytes h hh hr, andThen_mk, e2, andThen_mk, rbytes_eq h hh, andThen_mk, same_eq _ _ (by omega) (by omega), andThen_mk, decide_eq_true eb, fork_tt, headHash_eq h hh, andThen_mk, rheadHash_eq h hh, andThen_mk, eb, beq_hash, fork_tt, fork_t rfl, beq_self hdrTy rfl h, fork_tt,
      bytes_eq g hg, andThen_mk, same_eq _ _ (by omega) (by omega), andThen_mk]
    have : (decide (bodyS h = bytesS g) == Ty.beq hdrTy h g) = true := by
      rw [← eb]
      cases hb : Ty.beq hdrTy h g with
      | true => have e := (Ty.beq_iff hdrTy rfl h g).1 hb; subst e; simp
      | false =>
        rw [decide_eq_false (fun e => by
          have e := bytes_inj h g hh hg hr gr e
          rw [(Ty.beq_iff hdrTy rfl h g).2 e] at hb; cases hb)]; rfl
    rw [this, fork_tt]
end Go.Ax.V
