/-
  No cell of these rows narrows 'for every input' (looked for: loops, veiled, ifaces, maps, wideKeys, modest, calm, conditions, laid).
  DERIVED. THE GIVEN ROWS OF THIS SEAT. 7 by the template 'for every input the law returns true; each argument reads behind the call as it read before'; 0 by the template 'total and deterministic' (their statements: YtanhbdkimbljeaaTotals.lean).
  GIVEN WITH THE SEED: the statements are not yours to turn. If you find one false, say at which input.
  Laid BY PROGRAM, IN A SANDBOX (cutbox-rows.mjs): the forced cells as the released guide's own fill.sh prints them over the translation f9bcae01e8fc2155… (all of the seat's roots in one cut). By AI agents, Wed Nov 11 2026. No macro, syntax, notation, axiom, sorry.
-/
import Derived.Test.YtanhbdkimbljeaaChecked
import GoSem.Claim
import GoSem.ClaimJoined
import GoSem.ClaimMapViews
import Derived.JoinedTies
import Derived.KernelRfl
namespace Go.Proofs.Ytanhbdkimbljeaa
/- THE CELL 'sum', in the pinned program and in every row, IS THE sha256 OF THE DUMP (.gsa) THAT YtanhbdkimbljeaaProg.lean LOADS. Nothing in Lean hashes anything: it is a label: what it is worth is what the hold of that sum in a sandbox is worth. -/
noncomputable def Try.pinned : Pinned := { name := "ytanhbdkimbljeaa", sum := "f9bcae01e8fc2155b7e779cff811a207919971e89f9b1f4e65788c1e5ca5a81e", checked := Try.checked }
namespace Rows
def none {H : Type} : Left H := { results := [], args := [] }

/-- 'affiantlaw7.StoreRoots': WHATEVER THE INPUT: true; the input reads as it did. -/
def storeRootsSpec : ChangeSpec := { name := "storeRoots", fn := fun _ => fun
  | [d1, d2] => { results := [.lit (.bool true)], args := [d1, d2] }
  | _ => none }
def storeRootsRow : OpenClaim := { program := "ytanhbdkimbljeaa", sum := "f9bcae01e8fc2155b7e779cff811a207919971e89f9b1f4e65788c1e5ca5a81e", func := "affiant/affiantlaw7.StoreRoots", spec := "storeRoots", inPlace := ["internal/bytealg.abigen_runtime_cmpstring"], unfollowed := true, recurses := true, apart := false }
def StoreRootsSaid : Prop := storeRootsRow.holds Try.pinned (OpenSpec.ofChange storeRootsSpec)

/-- ITS FALSE NEIGHBOUR: 'it returns false'. Refute it at one input. -/
def storeRootsWrong : ChangeSpec := { name := "storeRoots", fn := fun _ => fun
  | [d1, d2] => { results := [.lit (.bool false)], args := [d1, d2] }
  | _ => none }
def StoreRootsWrongFalsely : Prop := storeRootsRow.holds Try.pinned (OpenSpec.ofChange storeRootsWrong)

/-- 'affiantlaw7.StoreFull': WHATEVER THE INPUT: true; the input reads as it did. -/
def storeFullSpec : ChangeSpec := { name := "storeFull", fn := fun _ => fun
  | [d] => { results := [.lit (.bool true)], args := [d] }
  | _ => none }
def storeFullRow : OpenClaim := { program := "ytanhbdkimbljeaa", sum := "f9bcae01e8fc2155b7e779cff811a207919971e89f9b1f4e65788c1e5ca5a81e", func := "affiant/affiantlaw7.StoreFull", spec := "storeFull", inPlace := ["internal/bytealg.abigen_runtime_cmpstring"], unfollowed := true, recurses := true, apart := false }
def StoreFullSaid : Prop := storeFullRow.holds Try.pinned (OpenSpec.ofChange storeFullSpec)

/-- ITS FALSE NEIGHBOUR: 'it returns false'. Refute it at one input. -/
def storeFullWrong : ChangeSpec := { name := "storeFull", fn := fun _ => fun
  | [d] => { results := [.lit (.bool false)], args := [d] }
  | _ => none }
def StoreFullWrongFalsely : Prop := storeFullRow.holds Try.pinned (OpenSpec.ofChange storeFullWrong)

/-- 'affiantlaw7.StoreOld': WHATEVER THE INPUT: true; the input reads as it did. -/
def storeOldSpec : ChangeSpec := { name := "storeOld", fn := fun _ => fun
  | [d1, d2] => { results := [.lit (.bool true)], args := [d1, d2] }
  | _ => none }
def storeOldRow : OpenClaim := { program := "ytanhbdkimbljeaa", sum := "f9bcae01e8fc2155b7e779cff811a207919971e89f9b1f4e65788c1e5ca5a81e", func := "affiant/affiantlaw7.StoreOld", spec := "storeOld", inPlace := ["internal/bytealg.abigen_runtime_cmpstring"], unfollowed := true, recurses := true, apart := false }
def StoreOldSaid : Prop := storeOldRow.holds Try.pinned (OpenSpec.ofChange storeOldSpec)

/-- ITS FALSE NEIGHBOUR: 'it returns false'. Refute it at one input. -/
def storeOldWrong : ChangeSpec := { name := "storeOld", fn := fun _ => fun
  | [d1, d2] => { results := [.lit (.bool false)], args := [d1, d2] }
  | _ => none }
def StoreOldWrongFalsely : Prop := storeOldRow.holds Try.pinned (OpenSpec.ofChange storeOldWrong)

/-- 'affiantlaw7.StorePlays': WHATEVER THE INPUT: true; the input reads as it did. -/
def storePlaysSpec : ChangeSpec := { name := "storePlays", fn := fun _ => fun
  | [d] => { results := [.lit (.bool true)], args := [d] }
  | _ => none }
def storePlaysRow : OpenClaim := { program := "ytanhbdkimbljeaa", sum := "f9bcae01e8fc2155b7e779cff811a207919971e89f9b1f4e65788c1e5ca5a81e", func := "affiant/affiantlaw7.StorePlays", spec := "storePlays", inPlace := ["internal/bytealg.abigen_runtime_cmpstring"], unfollowed := true, recurses := true, apart := false }
def StorePlaysSaid : Prop := storePlaysRow.holds Try.pinned (OpenSpec.ofChange storePlaysSpec)

/-- ITS FALSE NEIGHBOUR: 'it returns false'. Refute it at one input. -/
def storePlaysWrong : ChangeSpec := { name := "storePlays", fn := fun _ => fun
  | [d] => { results := [.lit (.bool false)], args := [d] }
  | _ => none }
def StorePlaysWrongFalsely : Prop := storePlaysRow.holds Try.pinned (OpenSpec.ofChange storePlaysWrong)

/-- 'affiantlaw17.AdmitRuns': WHATEVER THE INPUT: true; the input reads as it did. -/
def admitRunsSpec : ChangeSpec := { name := "admitRuns", fn := fun _ => fun
  | [] => { results := [.lit (.bool true)], args := [] }
  | _ => none }
def admitRunsRow : OpenClaim := { program := "ytanhbdkimbljeaa", sum := "f9bcae01e8fc2155b7e779cff811a207919971e89f9b1f4e65788c1e5ca5a81e", func := "affiant/affiantlaw17.AdmitRuns", spec := "admitRuns", inPlace := ["internal/bytealg.abigen_runtime_cmpstring"], unfollowed := true, recurses := true, apart := false }
def AdmitRunsSaid : Prop := admitRunsRow.holds Try.pinned (OpenSpec.ofChange admitRunsSpec)

/-- ITS FALSE NEIGHBOUR: 'it returns false'. Refute it at one input. -/
def admitRunsWrong : ChangeSpec := { name := "admitRuns", fn := fun _ => fun
  | [] => { results := [.lit (.bool false)], args := [] }
  | _ => none }
def AdmitRunsWrongFalsely : Prop := admitRunsRow.holds Try.pinned (OpenSpec.ofChange admitRunsWrong)

/-- 'affiantlaw9.CheckRuns': WHATEVER THE INPUT: true; the input reads as it did. -/
def checkRunsSpec : ChangeSpec := { name := "checkRuns", fn := fun _ => fun
  | [] => { results := [.lit (.bool true)], args := [] }
  | _ => none }
def checkRunsRow : OpenClaim := { program := "ytanhbdkimbljeaa", sum := "f9bcae01e8fc2155b7e779cff811a207919971e89f9b1f4e65788c1e5ca5a81e", func := "affiant/affiantlaw9.CheckRuns", spec := "checkRuns", inPlace := ["internal/bytealg.abigen_runtime_cmpstring"], unfollowed := true, recurses := true, apart := false }
def CheckRunsSaid : Prop := checkRunsRow.holds Try.pinned (OpenSpec.ofChange checkRunsSpec)

/-- ITS FALSE NEIGHBOUR: 'it returns false'. Refute it at one input. -/
def checkRunsWrong : ChangeSpec := { name := "checkRuns", fn := fun _ => fun
  | [] => { results := [.lit (.bool false)], args := [] }
  | _ => none }
def CheckRunsWrongFalsely : Prop := checkRunsRow.holds Try.pinned (OpenSpec.ofChange checkRunsWrong)

/-- 'affiantlaw17.AdmitForms': WHATEVER THE INPUT: true; the input reads as it did. -/
def admitFormsSpec : ChangeSpec := { name := "admitForms", fn := fun _ => fun
  | [d1, d2, d3, d4] => { results := [.lit (.bool true)], args := [d1, d2, d3, d4] }
  | _ => none }
def admitFormsRow : OpenClaim := { program := "ytanhbdkimbljeaa", sum := "f9bcae01e8fc2155b7e779cff811a207919971e89f9b1f4e65788c1e5ca5a81e", func := "affiant/affiantlaw17.AdmitForms", spec := "admitForms", inPlace := ["internal/bytealg.abigen_runtime_cmpstring"], unfollowed := true, recurses := true, apart := false }
def AdmitFormsSaid : Prop := admitFormsRow.holds Try.pinned (OpenSpec.ofChange admitFormsSpec)

/-- ITS FALSE NEIGHBOUR: 'it returns false'. Refute it at one input. -/
def admitFormsWrong : ChangeSpec := { name := "admitForms", fn := fun _ => fun
  | [d1, d2, d3, d4] => { results := [.lit (.bool false)], args := [d1, d2, d3, d4] }
  | _ => none }
def AdmitFormsWrongFalsely : Prop := admitFormsRow.holds Try.pinned (OpenSpec.ofChange admitFormsWrong)

/- THE SECOND FORM. 'bulk': how many values and letters a reading holds, each counted each time it is reached (what is shared counts as often as it is met; a slice's spare places count too). A statement '..UptoSaid' is the law's where the arguments, and the package variables that the reading takes, are together of bulk at most 1048576: NARROWER than '..Said'. Prove '..Said' where nothing that the law and all that it calls make is longer than what came in: it says more and counts as full. Else prove '..UptoSaid'. A law counts once. -/
mutual
def uptoBulk {H : Type} : DataW H → Nat
  | .lit (.string bytes) => bytes.length + 1
  | .lit _ => 1
  | .nil => 1
  | .ptr d => uptoBulk d + 1
  | .slice elems spare => uptoBulkAll elems + uptoBulkAll spare + 1
  | .agg parts => uptoBulkAll parts + 1
  | .iface _ d => uptoBulk d + 1
  | .map entries => uptoBulkEntries entries + 1
  | .held _ => 1
def uptoBulkAll {H : Type} : List (DataW H) → Nat
  | [] => 0
  | d :: r => uptoBulk d + uptoBulkAll r
def uptoBulkEntries {H : Type} : List (Lit × DataW H) → Nat
  | [] => 0
  | x :: r => uptoBulkEntry x + uptoBulkEntries r
def uptoBulkEntry {H : Type} : Lit × DataW H → Nat
  | (.string bytes, d) => bytes.length + uptoBulk d + 1
  | (_, d) => uptoBulk d + 1
 end
def uptoSmall : (H : Type) → List (DataW H) → Bool := fun _ ds => decide (uptoBulkAll ds ≤ 1048576)
def OpenSpec.upto (s : _root_.Go.ChangeSpec) : _root_.Go.OpenSpec := { _root_.Go.OpenSpec.ofChange s with cond := some uptoSmall }

/-- 'affiantlaw7.StoreRoots', WHERE WHAT IT READS IS OF BULK AT MOST 1048576: true; the input reads as it did. -/
def storeRootsUptoRow : OpenClaim := { program := "ytanhbdkimbljeaa", sum := "f9bcae01e8fc2155b7e779cff811a207919971e89f9b1f4e65788c1e5ca5a81e", func := "affiant/affiantlaw7.StoreRoots", spec := "storeRoots", inPlace := ["internal/bytealg.abigen_runtime_cmpstring"], unfollowed := true, recurses := true, apart := false, narrowed := true }
def StoreRootsUptoSaid : Prop := storeRootsUptoRow.holds Try.pinned (OpenSpec.upto storeRootsSpec)

/-- 'affiantlaw7.StoreFull', WHERE WHAT IT READS IS OF BULK AT MOST 1048576: true; the input reads as it did. -/
def storeFullUptoRow : OpenClaim := { program := "ytanhbdkimbljeaa", sum := "f9bcae01e8fc2155b7e779cff811a207919971e89f9b1f4e65788c1e5ca5a81e", func := "affiant/affiantlaw7.StoreFull", spec := "storeFull", inPlace := ["internal/bytealg.abigen_runtime_cmpstring"], unfollowed := true, recurses := true, apart := false, narrowed := true }
def StoreFullUptoSaid : Prop := storeFullUptoRow.holds Try.pinned (OpenSpec.upto storeFullSpec)

/-- 'affiantlaw7.StoreOld', WHERE WHAT IT READS IS OF BULK AT MOST 1048576: true; the input reads as it did. -/
def storeOldUptoRow : OpenClaim := { program := "ytanhbdkimbljeaa", sum := "f9bcae01e8fc2155b7e779cff811a207919971e89f9b1f4e65788c1e5ca5a81e", func := "affiant/affiantlaw7.StoreOld", spec := "storeOld", inPlace := ["internal/bytealg.abigen_runtime_cmpstring"], unfollowed := true, recurses := true, apart := false, narrowed := true }
def StoreOldUptoSaid : Prop := storeOldUptoRow.holds Try.pinned (OpenSpec.upto storeOldSpec)

/-- 'affiantlaw7.StorePlays', WHERE WHAT IT READS IS OF BULK AT MOST 1048576: true; the input reads as it did. -/
def storePlaysUptoRow : OpenClaim := { program := "ytanhbdkimbljeaa", sum := "f9bcae01e8fc2155b7e779cff811a207919971e89f9b1f4e65788c1e5ca5a81e", func := "affiant/affiantlaw7.StorePlays", spec := "storePlays", inPlace := ["internal/bytealg.abigen_runtime_cmpstring"], unfollowed := true, recurses := true, apart := false, narrowed := true }
def StorePlaysUptoSaid : Prop := storePlaysUptoRow.holds Try.pinned (OpenSpec.upto storePlaysSpec)

/-- 'affiantlaw17.AdmitRuns', WHERE WHAT IT READS IS OF BULK AT MOST 1048576: true; the input reads as it did. -/
def admitRunsUptoRow : OpenClaim := { program := "ytanhbdkimbljeaa", sum := "f9bcae01e8fc2155b7e779cff811a207919971e89f9b1f4e65788c1e5ca5a81e", func := "affiant/affiantlaw17.AdmitRuns", spec := "admitRuns", inPlace := ["internal/bytealg.abigen_runtime_cmpstring"], unfollowed := true, recurses := true, apart := false, narrowed := true }
def AdmitRunsUptoSaid : Prop := admitRunsUptoRow.holds Try.pinned (OpenSpec.upto admitRunsSpec)

/-- 'affiantlaw9.CheckRuns', WHERE WHAT IT READS IS OF BULK AT MOST 1048576: true; the input reads as it did. -/
def checkRunsUptoRow : OpenClaim := { program := "ytanhbdkimbljeaa", sum := "f9bcae01e8fc2155b7e779cff811a207919971e89f9b1f4e65788c1e5ca5a81e", func := "affiant/affiantlaw9.CheckRuns", spec := "checkRuns", inPlace := ["internal/bytealg.abigen_runtime_cmpstring"], unfollowed := true, recurses := true, apart := false, narrowed := true }
def CheckRunsUptoSaid : Prop := checkRunsUptoRow.holds Try.pinned (OpenSpec.upto checkRunsSpec)

/-- 'affiantlaw17.AdmitForms', WHERE WHAT IT READS IS OF BULK AT MOST 1048576: true; the input reads as it did. -/
def admitFormsUptoRow : OpenClaim := { program := "ytanhbdkimbljeaa", sum := "f9bcae01e8fc2155b7e779cff811a207919971e89f9b1f4e65788c1e5ca5a81e", func := "affiant/affiantlaw17.AdmitForms", spec := "admitForms", inPlace := ["internal/bytealg.abigen_runtime_cmpstring"], unfollowed := true, recurses := true, apart := false, narrowed := true }
def AdmitFormsUptoSaid : Prop := admitFormsUptoRow.holds Try.pinned (OpenSpec.upto admitFormsSpec)

end Rows
end Go.Proofs.Ytanhbdkimbljeaa
