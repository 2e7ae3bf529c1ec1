/-
  Chapter 11: what is read has just those bytes.
-/
import Derived.Test.YtbpcajicbklkcaaCHeadOnlyLHeadRuns
import Derived.Test.YtbpcajicbklkcaaCHeadOnlyLKeepHead
import Derived.Test.YtbpcajicbklkcaaCHeadOnlyLSame
namespace Go.Ax.V
open Go.Ax
set_option linter.unusedVariables false
set_option linter.unusedSimpArgs false

theorem bytes_pos (h : Hdr) (hr : rightHS h = true) : 1 ≤ (bytesS h).length := by
  obtain ⟨⟨i1, i2⟩, _⟩ := (rightHS_iff h).1 hr
  unfold bytesS
  rw [if_pos hr]
  unfold bodyS
  have : 1 ≤ (oneS h.1).length := by
    unfold oneS; rw [if_pos (by omega)]; exact putF_pos 6 _
  rw [List.length_append]; omega
theorem tailH (b : List UInt8) (hb : b.length ≤ 1000) : andThen (head_Read b) (fun u11 => fork (!decide (u11.2 = (0 : Int))) (fork (decide (u11.2 = (1 : Int))) (fork (Ty.beq (.fld (.int .i64) (.fld (.int .i64) (.fld (.arr 32 (.int .u8)) (.fld (.arr 32 (.int .u8)) (.fld (.arr 32 (.int .u8)) (.fld (.arr 32 (.int .u8)) .unit)))))) u11.1 ((0 : Int), (0 : Int), (List.replicate 32 (0 : UInt8)), (List.replicate 32 (0 : UInt8)), (List.replicate 32 (0 : UInt8)), (List.replicate 32 (0 : UInt8)), ())) (andThen (affiantlaw11_HeadRuns) (fun u16 => some u16)) (none)) (none)) (andThen (head_Bytes u11.1) (fun u18 => andThen (affiantbook_Same_byte u18 b) (fun u20 => fork u20 (andThen (head_Right u11.1) (fun u23 => fork u23 (andThen (affiantlaw11_HeadRuns) (fun u26 => some u26)) (none))) (none))))) = some true := by
  rcases read_cases b (by omega) with h | ⟨h, h1, h2, h3, h4⟩
  · rw [h, andThen_mk]
    simp only
    rw [fork_nf (by decide), fork_t trivial, law_HeadRuns]
    have : Ty.beq (.fld (.int .i64) (.fld (.int .i64) (.fld (.arr 32 (.int .u8)) (.fld (.arr 32 (.int .u8)) (.fld (.arr 32 (.int .u8)) (.fld (.arr 32 (.int .u8)) .unit)))))) zHdr ((0 : Int), (0 : Int), (List.replicate 32 (0 : UInt8)), (List.replicate 32 (0 : UInt8)), (List.replicate 32 (0 : UInt8)), (List.replicate 32 (0 : UInt8)), ()) = true := beq_self _ rfl _
    rw [this]
    rfl
  · rw [h1, andThen_mk]
    simp only
    rw [fork_nt trivial, bytes_eq h h3, andThen_mk, h4, same_refl b (by omega), andThen_mk, fork_tt, rightH_eq, h2, law_HeadRuns]
    rfl
theorem law_HeadOnly (y0 : Int × Int × Int × Int × Int × Int × Unit) (y1 : List UInt8) (y2 : Int) (y3 : UInt8) (y4 : Int) (w0 : Wf (.fld (.int .i64) (.fld (.int .i64) (.fld (.int .i64) (.fld (.int .i64) (.fld (.int .i64) (.fld (.int .i64) .unit)))))) y0) (w1 : Wf (.slice (.int .u8)) y1) (w2 : Wf (.int .i64) y2) (w3 : Wf (.int .u8) y3) (w4 : Wf (.int .i64) y4) : affiantlaw11_HeadOnly y0 y1 y2 y3 y4 = some true := by
  unfold affiantlaw11_HeadOnly
  obtain ⟨h, e1, hh, hr, _⟩ := header_eq y0
  have hl : (bytesS h).length ≤ 142 := by unfold bytesS; rw [if_pos hr]; exact body_len h hh
  have hp := bytes_pos h hr
  rw [e1, andThen_mk, bytes_eq h hh, andThen_mk]
  simp only [List.nil_append]
  generalize bytesS h = b at hl hp
  obtain ⟨i, e2, i1, i2⟩ := within_eq y2 0 (w64 ((b.length : Int) - 1)) (by rw [w64_eq] <;> omega) (by omega) (by rw [w64_eq] <;> omega)
  rw [w64_eq (by omega) (by omega)] at i2
  rw [need_true (by simp; omega), fork_f (by omega), e2, andThen_mk]
  have c5 := cut_len y1 0 (min (y1.length : Int) 5) (by omega) (by omega) (by omega)
  have c140 := cut_len y1 0 (min (y1.length : Int) 140) (by omega) (by omega) (by omega)
  by_cases k0 : band y4 3 = 0
  · rw [fork_t k0, need_true (by omega)]
    exact tailH _ (by rw [List.length_set]; omega)
  · rw [fork_f k0]
    by_cases k1 : band y4 3 = 1
    · rw [fork_t k1, need_true (by omega)]
      have := cut_len b 0 i (by omega) (by omega) (by omega)
      exact tailH _ (by omega)
    · rw [fork_f k1]
      by_cases k2 : band y4 3 = 2
      · rw [fork_t k2, need_true (by omega), need_true (by omega)]
        exact tailH _ (by rw [List.length_append]; omega)
      · rw [fork_f k2, need_true (by omega), need_true (by simp; omega)]
        exact tailH _ (by omega)
end Go.Ax.V
