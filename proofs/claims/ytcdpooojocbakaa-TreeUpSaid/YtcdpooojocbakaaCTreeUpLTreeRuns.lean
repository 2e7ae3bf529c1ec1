/-
  Chapter 4's runs hold.
-/
import Derived.Test.YtcdpooojocbakaaCTreeUpLTree2
namespace Go.Ax.V
open Go.Ax
set_option linter.unusedVariables false
set_option linter.unusedSimpArgs false

def l123 : List (List UInt8) := [[1], [2], [3]]
theorem law_TreeRuns : affiantlaw4_TreeRuns = some true := by
  unfold affiantlaw4_TreeRuns
  have hs : Small l123 := by intro x hx; simp only [l123, List.mem_cons, List.not_mem_nil, or_false] at hx; rcases hx with rfl | rfl | rfl <;> simp
  have p2 : pathS l123 2 = pathF 3 l123 2 := rfl
  have p0 : pathS l123 0 = pathF 3 l123 0 := rfl
  have u := path_up 3 l123 2 (by decide) (by decide) (by decide)
  have e2 : (pathF 3 l123 2).length = 1 := by kernel_rfl
  have e0 : (pathF 3 l123 0).length = 2 := by kernel_rfl
  have hup : upS [3] 2 3 (pathF 3 l123 2) = (rootS l123, true) := by
    unfold upS
    rw [if_pos ⟨rfl, by rw [e2]; kernel_rfl⟩]
    have : climb (sidesF 3 2 3).reverse (pathF 3 l123 2) (leafS [3]) = rootS l123 := u
    exact congrArg (fun x => (x, true)) this
  have d0 : tree_Depth 0 3 = some 2 := (depth_eq 0 3 (by omega)).trans (by kernel_rfl)
  have r := root_eq l123 (by decide) hs
  have k2 := path_eq l123 2 (by decide) hs
  have k0 := path_eq l123 0 (by decide) hs
  rw [p2] at k2
  rw [p0] at k0
  have ku := up_eq [3] (by simp) 2 3 (by omega) (pathF 3 l123 2) (pathF_32 3 l123 2) (by omega)
  rw [hup] at ku
  show andThen (tree_Path l123 2) (fun u1 => andThen (tree_Up [3] 2 3 u1) (fun u3 => fork (decide ((List.length u1 : Int) = (1 : Int))) (andThen (tree_Path l123 0) (fun u6 => fork (decide ((List.length u6 : Int) = (2 : Int))) (andThen (tree_Cost (3 : Int)) (fun u9 => fork (decide (u9 = (5 : Int))) (fork u3.2 (andThen (tree_Root l123) (fun u13 => fork (Ty.beq (.arr 32 (.int .u8)) u3.1 u13) (andThen (tree_Depth (0 : Int) (3 : Int)) (fun u16 => some (decide (u16 = (2 : Int))))) (none))) (none)) (none))) (none))) (none))) = some true
  rw [k2, andThen_mk, ku, andThen_mk, fork_t (by omega), k0, andThen_mk, fork_t (by omega), cost_eq 3 (by omega) (by omega), andThen_mk, r, d0]
  simp only [andThen_mk, fork_tt, beq_hash]
  rfl
end Go.Ax.V
