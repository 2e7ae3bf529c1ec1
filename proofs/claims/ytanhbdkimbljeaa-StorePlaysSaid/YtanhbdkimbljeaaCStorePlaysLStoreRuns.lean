/-
  Chapter 7's runs hold.
-/
import Derived.Test.YtanhbdkimbljeaaCStorePlaysLStore
namespace Go.Ax.V
open Go.Ax
set_option linter.unusedVariables false
set_option linter.unusedSimpArgs false
def s1 : Stt := ((setP [] ([97], [], ())).1, 0, [], ())
def s2 : Stt := (commitS s1).2
def s3 : Stt := (cutP s2.1 [97], s2.2.1, s2.2.2.1, ())
def s4 : Stt := (commitS s3).2
theorem law_StoreRuns : affiantlaw7_StoreRuns = some true := by
 have k1 : StOk s1 := st_set st_new _
 have k2 : StOk s2 := st_commit k1
 have k3 : StOk s3 := st_del k2 _
 have k4 : StOk s4 := st_commit k3
 have e1 : store_Store_Set_fb44 ([97], [], ()) ([], 0, [], ()) = some ((setP [] ([97], [], ())).2, s1) := stSet_eq _ st_new _
 have e2 : store_Store_Commit_57df s1 = some ((commitS s1).1, s2) := stCommit_eq s1 k1
 have e3 : store_Store_Del_71d6 [97] s2 = some s3 := stDel_eq s2 k2 _
 have e4 : store_Store_Commit_57df s3 = some ((commitS s3).1, s4) := stCommit_eq s3 k3
 have c1 : (commitS s1).1 = 1 := by decide
 have c2 : (commitS s3).1 = 2 := by decide
 have a1 : (atS s4 1).1.length = 1 ∧ (atS s4 1).2 = true := by decide
 have a2 : (atS s4 2).1.length = 0 ∧ (atS s4 2).2 = true := by decide
 have h4 : store_Store_Height_57df s4 = some 2 := by
  have : s4.2.1 = 2 := by decide
  exact congrArg some this
 unfold affiantlaw7_StoreRuns store_New
 rw [andThen_mk, e1, andThen_mk]
 dsimp only
 rw [e2, andThen_mk]
 dsimp only
 rw [e3, andThen_mk, e4, andThen_mk]
 dsimp only
 rw [stAt_eq s4 k4, andThen_mk, stAt_eq s4 k4, andThen_mk, fork_t c1, fork_t c2, fork_t (by omega), a1.2, fork_tt, fork_t (by omega), a2.2, fork_tt, h4, andThen_mk]
 rfl
end Go.Ax.V
