/-
  No cell of these rows narrows 'for every input' (looked for: loops, veiled, ifaces, maps, wideKeys, modest, calm, conditions, laid).
  DERIVED. THE GIVEN ROWS OF THIS SEAT. 6 by the template 'for every input the law returns true; each argument reads behind the call as it read before'; 0 by the template 'total and deterministic' (their statements: YtcfaippbnmmelaaTotals.lean).
  GIVEN WITH THE SEED: the statements are not yours to turn. If you find one false, say at which input.
  Laid BY PROGRAM, IN A SANDBOX (cutbox-rows.mjs): the forced cells as the released guide's own fill.sh prints them over the translation 4db8662cf0226d2b… (all of the seat's roots in one cut). By AI agents, Wed Nov 11 2026. No macro, syntax, notation, axiom, sorry.
-/
import Derived.Test.YtcfaippbnmmelaaChecked
import GoSem.Claim
import GoSem.ClaimJoined
import GoSem.ClaimMapViews
import Derived.JoinedTies
import Derived.KernelRfl
namespace Go.Proofs.Ytcfaippbnmmelaa
/- THE CELL 'sum', in the pinned program and in every row, IS THE sha256 OF THE DUMP (.gsa) THAT YtcfaippbnmmelaaProg.lean LOADS. Nothing in Lean hashes anything: it is a label: what it is worth is what the hold of that sum in a sandbox is worth. -/
noncomputable def Try.pinned : Pinned := { name := "ytcfaippbnmmelaa", sum := "4db8662cf0226d2b493dff16e8b7aecda26d3d90a3b69466ba8e56ea5ae69f11", checked := Try.checked }
namespace Rows
def none {H : Type} : Left H := { results := [], args := [] }

/-- 'affiantlaw12.SealMore': WHATEVER THE INPUT: true; the input reads as it did. -/
def sealMoreSpec : ChangeSpec := { name := "sealMore", fn := fun _ => fun
  | [d1, d2, d3, d4] => { results := [.lit (.bool true)], args := [d1, d2, d3, d4] }
  | _ => none }
def sealMoreRow : OpenClaim := { program := "ytcfaippbnmmelaa", sum := "4db8662cf0226d2b493dff16e8b7aecda26d3d90a3b69466ba8e56ea5ae69f11", func := "affiant/affiantlaw12.SealMore", spec := "sealMore", recurses := true, apart := false }
def SealMoreSaid : Prop := sealMoreRow.holds Try.pinned (OpenSpec.ofChange sealMoreSpec)

/-- ITS FALSE NEIGHBOUR: 'it returns false'. Refute it at one input. -/
def sealMoreWrong : ChangeSpec := { name := "sealMore", fn := fun _ => fun
  | [d1, d2, d3, d4] => { results := [.lit (.bool false)], args := [d1, d2, d3, d4] }
  | _ => none }
def SealMoreWrongFalsely : Prop := sealMoreRow.holds Try.pinned (OpenSpec.ofChange sealMoreWrong)

/-- 'affiantlaw12.SealForms': WHATEVER THE INPUT: true; the input reads as it did. -/
def sealFormsSpec : ChangeSpec := { name := "sealForms", fn := fun _ => fun
  | [d1, d2, d3] => { results := [.lit (.bool true)], args := [d1, d2, d3] }
  | _ => none }
def sealFormsRow : OpenClaim := { program := "ytcfaippbnmmelaa", sum := "4db8662cf0226d2b493dff16e8b7aecda26d3d90a3b69466ba8e56ea5ae69f11", func := "affiant/affiantlaw12.SealForms", spec := "sealForms", recurses := true, apart := false }
def SealFormsSaid : Prop := sealFormsRow.holds Try.pinned (OpenSpec.ofChange sealFormsSpec)

/-- ITS FALSE NEIGHBOUR: 'it returns false'. Refute it at one input. -/
def sealFormsWrong : ChangeSpec := { name := "sealForms", fn := fun _ => fun
  | [d1, d2, d3] => { results := [.lit (.bool false)], args := [d1, d2, d3] }
  | _ => none }
def SealFormsWrongFalsely : Prop := sealFormsRow.holds Try.pinned (OpenSpec.ofChange sealFormsWrong)

/-- 'affiantlaw13.LightRuns': WHATEVER THE INPUT: true; the input reads as it did. -/
def lightRunsSpec : ChangeSpec := { name := "lightRuns", fn := fun _ => fun
  | [] => { results := [.lit (.bool true)], args := [] }
  | _ => none }
def lightRunsRow : OpenClaim := { program := "ytcfaippbnmmelaa", sum := "4db8662cf0226d2b493dff16e8b7aecda26d3d90a3b69466ba8e56ea5ae69f11", func := "affiant/affiantlaw13.LightRuns", spec := "lightRuns", recurses := true, apart := false }
def LightRunsSaid : Prop := lightRunsRow.holds Try.pinned (OpenSpec.ofChange lightRunsSpec)

/-- ITS FALSE NEIGHBOUR: 'it returns false'. Refute it at one input. -/
def lightRunsWrong : ChangeSpec := { name := "lightRuns", fn := fun _ => fun
  | [] => { results := [.lit (.bool false)], args := [] }
  | _ => none }
def LightRunsWrongFalsely : Prop := lightRunsRow.holds Try.pinned (OpenSpec.ofChange lightRunsWrong)

/-- 'affiantlaw13.LightTrust': WHATEVER THE INPUT: true; the input reads as it did. -/
def lightTrustSpec : ChangeSpec := { name := "lightTrust", fn := fun _ => fun
  | [d1, d2, d3] => { results := [.lit (.bool true)], args := [d1, d2, d3] }
  | _ => none }
def lightTrustRow : OpenClaim := { program := "ytcfaippbnmmelaa", sum := "4db8662cf0226d2b493dff16e8b7aecda26d3d90a3b69466ba8e56ea5ae69f11", func := "affiant/affiantlaw13.LightTrust", spec := "lightTrust", recurses := true, apart := false }
def LightTrustSaid : Prop := lightTrustRow.holds Try.pinned (OpenSpec.ofChange lightTrustSpec)

/-- ITS FALSE NEIGHBOUR: 'it returns false'. Refute it at one input. -/
def lightTrustWrong : ChangeSpec := { name := "lightTrust", fn := fun _ => fun
  | [d1, d2, d3] => { results := [.lit (.bool false)], args := [d1, d2, d3] }
  | _ => none }
def LightTrustWrongFalsely : Prop := lightTrustRow.holds Try.pinned (OpenSpec.ofChange lightTrustWrong)

/-- 'affiantlaw13.LightTimes': WHATEVER THE INPUT: true; the input reads as it did. -/
def lightTimesSpec : ChangeSpec := { name := "lightTimes", fn := fun _ => fun
  | [d1, d2, d3] => { results := [.lit (.bool true)], args := [d1, d2, d3] }
  | _ => none }
def lightTimesRow : OpenClaim := { program := "ytcfaippbnmmelaa", sum := "4db8662cf0226d2b493dff16e8b7aecda26d3d90a3b69466ba8e56ea5ae69f11", func := "affiant/affiantlaw13.LightTimes", spec := "lightTimes", recurses := true, apart := false }
def LightTimesSaid : Prop := lightTimesRow.holds Try.pinned (OpenSpec.ofChange lightTimesSpec)

/-- ITS FALSE NEIGHBOUR: 'it returns false'. Refute it at one input. -/
def lightTimesWrong : ChangeSpec := { name := "lightTimes", fn := fun _ => fun
  | [d1, d2, d3] => { results := [.lit (.bool false)], args := [d1, d2, d3] }
  | _ => none }
def LightTimesWrongFalsely : Prop := lightTimesRow.holds Try.pinned (OpenSpec.ofChange lightTimesWrong)

/-- 'affiantlaw13.LightOrder': WHATEVER THE INPUT: true; the input reads as it did. -/
def lightOrderSpec : ChangeSpec := { name := "lightOrder", fn := fun _ => fun
  | [d1, d2] => { results := [.lit (.bool true)], args := [d1, d2] }
  | _ => none }
def lightOrderRow : OpenClaim := { program := "ytcfaippbnmmelaa", sum := "4db8662cf0226d2b493dff16e8b7aecda26d3d90a3b69466ba8e56ea5ae69f11", func := "affiant/affiantlaw13.LightOrder", spec := "lightOrder", recurses := true, apart := false }
def LightOrderSaid : Prop := lightOrderRow.holds Try.pinned (OpenSpec.ofChange lightOrderSpec)

/-- ITS FALSE NEIGHBOUR: 'it returns false'. Refute it at one input. -/
def lightOrderWrong : ChangeSpec := { name := "lightOrder", fn := fun _ => fun
  | [d1, d2] => { results := [.lit (.bool false)], args := [d1, d2] }
  | _ => none }
def LightOrderWrongFalsely : Prop := lightOrderRow.holds Try.pinned (OpenSpec.ofChange lightOrderWrong)

/- THE SECOND FORM. 'bulk': how many values and letters a reading holds, each counted each time it is reached (what is shared counts as often as it is met; a slice's spare places count too). A statement '..UptoSaid' is the law's where the arguments, and the package variables that the reading takes, are together of bulk at most 1048576: NARROWER than '..Said'. Prove '..Said' where nothing that the law and all that it calls make is longer than what came in: it says more and counts as full. Else prove '..UptoSaid'. A law counts once. -/
mutual
def uptoBulk {H : Type} : DataW H → Nat
  | .lit (.string bytes) => bytes.length + 1
  | .lit _ => 1
  | .nil => 1
  | .ptr d => uptoBulk d + 1
  | .slice elems spare => uptoBulkAll elems + uptoBulkAll spare + 1
  | .agg parts => uptoBulkAll parts + 1
  | .iface _ d => uptoBulk d + 1
  | .map entries => uptoBulkEntries entries + 1
  | .held _ => 1
def uptoBulkAll {H : Type} : List (DataW H) → Nat
  | [] => 0
  | d :: r => uptoBulk d + uptoBulkAll r
def uptoBulkEntries {H : Type} : List (Lit × DataW H) → Nat
  | [] => 0
  | x :: r => uptoBulkEntry x + uptoBulkEntries r
def uptoBulkEntry {H : Type} : Lit × DataW H → Nat
  | (.string bytes, d) => bytes.length + uptoBulk d + 1
  | (_, d) => uptoBulk d + 1
 end
def uptoSmall : (H : Type) → List (DataW H) → Bool := fun _ ds => decide (uptoBulkAll ds ≤ 1048576)
def OpenSpec.upto (s : _root_.Go.ChangeSpec) : _root_.Go.OpenSpec := { _root_.Go.OpenSpec.ofChange s with cond := some uptoSmall }

/-- 'affiantlaw12.SealMore', WHERE WHAT IT READS IS OF BULK AT MOST 1048576: true; the input reads as it did. -/
def sealMoreUptoRow : OpenClaim := { program := "ytcfaippbnmmelaa", sum := "4db8662cf0226d2b493dff16e8b7aecda26d3d90a3b69466ba8e56ea5ae69f11", func := "affiant/affiantlaw12.SealMore", spec := "sealMore", recurses := true, apart := false, narrowed := true }
def SealMoreUptoSaid : Prop := sealMoreUptoRow.holds Try.pinned (OpenSpec.upto sealMoreSpec)

/-- 'affiantlaw12.SealForms', WHERE WHAT IT READS IS OF BULK AT MOST 1048576: true; the input reads as it did. -/
def sealFormsUptoRow : OpenClaim := { program := "ytcfaippbnmmelaa", sum := "4db8662cf0226d2b493dff16e8b7aecda26d3d90a3b69466ba8e56ea5ae69f11", func := "affiant/affiantlaw12.SealForms", spec := "sealForms", recurses := true, apart := false, narrowed := true }
def SealFormsUptoSaid : Prop := sealFormsUptoRow.holds Try.pinned (OpenSpec.upto sealFormsSpec)

/-- 'affiantlaw13.LightRuns', WHERE WHAT IT READS IS OF BULK AT MOST 1048576: true; the input reads as it did. -/
def lightRunsUptoRow : OpenClaim := { program := "ytcfaippbnmmelaa", sum := "4db8662cf0226d2b493dff16e8b7aecda26d3d90a3b69466ba8e56ea5ae69f11", func := "affiant/affiantlaw13.LightRuns", spec := "lightRuns", recurses := true, apart := false, narrowed := true }
def LightRunsUptoSaid : Prop := lightRunsUptoRow.holds Try.pinned (OpenSpec.upto lightRunsSpec)

/-- 'affiantlaw13.LightTrust', WHERE WHAT IT READS IS OF BULK AT MOST 1048576: true; the input reads as it did. -/
def lightTrustUptoRow : OpenClaim := { program := "ytcfaippbnmmelaa", sum := "4db8662cf0226d2b493dff16e8b7aecda26d3d90a3b69466ba8e56ea5ae69f11", func := "affiant/affiantlaw13.LightTrust", spec := "lightTrust", recurses := true, apart := false, narrowed := true }
def LightTrustUptoSaid : Prop := lightTrustUptoRow.holds Try.pinned (OpenSpec.upto lightTrustSpec)

/-- 'affiantlaw13.LightTimes', WHERE WHAT IT READS IS OF BULK AT MOST 1048576: true; the input reads as it did. -/
def lightTimesUptoRow : OpenClaim := { program := "ytcfaippbnmmelaa", sum := "4db8662cf0226d2b493dff16e8b7aecda26d3d90a3b69466ba8e56ea5ae69f11", func := "affiant/affiantlaw13.LightTimes", spec := "lightTimes", recurses := true, apart := false, narrowed := true }
def LightTimesUptoSaid : Prop := lightTimesUptoRow.holds Try.pinned (OpenSpec.upto lightTimesSpec)

/-- 'affiantlaw13.LightOrder', WHERE WHAT IT READS IS OF BULK AT MOST 1048576: true; the input reads as it did. -/
def lightOrderUptoRow : OpenClaim := { program := "ytcfaippbnmmelaa", sum := "4db8662cf0226d2b493dff16e8b7aecda26d3d90a3b69466ba8e56ea5ae69f11", func := "affiant/affiantlaw13.LightOrder", spec := "lightOrder", recurses := true, apart := false, narrowed := true }
def LightOrderUptoSaid : Prop := lightOrderUptoRow.holds Try.pinned (OpenSpec.upto lightOrderSpec)

end Rows
end Go.Proofs.Ytcfaippbnmmelaa
