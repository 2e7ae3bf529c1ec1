/-
  No cell of these rows narrows 'for every input' (looked for: loops, veiled, ifaces, maps, wideKeys, modest, calm, conditions, laid).
  DERIVED. THE GIVEN ROWS OF THIS SEAT. 8 by the template 'for every input the law returns true; each argument reads behind the call as it read before'; 0 by the template 'total and deterministic' (their statements: YtdiacaflcfiomaaTotals.lean).
  GIVEN WITH THE SEED: the statements are not yours to turn. If you find one false, say at which input.
  Laid BY PROGRAM, IN A SANDBOX (cutbox-rows.mjs): the forced cells as the released guide's own fill.sh prints them over the translation dc77e37e3504f88d… (all of the seat's roots in one cut). By AI agents, Wed Nov 11 2026. No macro, syntax, notation, axiom, sorry.
-/
import Derived.Test.YtdiacaflcfiomaaChecked
import GoSem.Claim
import GoSem.ClaimJoined
import GoSem.ClaimMapViews
import Derived.JoinedTies
import Derived.KernelRfl
namespace Go.Proofs.Ytdiacaflcfiomaa
/- THE CELL 'sum', in the pinned program and in every row, IS THE sha256 OF THE DUMP (.gsa) THAT YtdiacaflcfiomaaProg.lean LOADS. Nothing in Lean hashes anything: it is a label: what it is worth is what the hold of that sum in a sandbox is worth. -/
noncomputable def Try.pinned : Pinned := { name := "ytdiacaflcfiomaa", sum := "dc77e37e3504f88d1a70432cdca5e6a0dd04da23d90c0df0232b06879f3402fa", checked := Try.checked }
namespace Rows
def none {H : Type} : Left H := { results := [], args := [] }

/-- 'affiantlaw7.StoreRuns': WHATEVER THE INPUT: true; the input reads as it did. -/
def storeRunsSpec : ChangeSpec := { name := "storeRuns", fn := fun _ => fun
  | [] => { results := [.lit (.bool true)], args := [] }
  | _ => none }
def storeRunsRow : OpenClaim := { program := "ytdiacaflcfiomaa", sum := "dc77e37e3504f88d1a70432cdca5e6a0dd04da23d90c0df0232b06879f3402fa", func := "affiant/affiantlaw7.StoreRuns", spec := "storeRuns", inPlace := ["internal/bytealg.abigen_runtime_cmpstring"], unfollowed := true, recurses := true, apart := false }
def StoreRunsSaid : Prop := storeRunsRow.holds Try.pinned (OpenSpec.ofChange storeRunsSpec)

/-- ITS FALSE NEIGHBOUR: 'it returns false'. Refute it at one input. -/
def storeRunsWrong : ChangeSpec := { name := "storeRuns", fn := fun _ => fun
  | [] => { results := [.lit (.bool false)], args := [] }
  | _ => none }
def StoreRunsWrongFalsely : Prop := storeRunsRow.holds Try.pinned (OpenSpec.ofChange storeRunsWrong)

/-- 'affiantlaw10.ValsTells': WHATEVER THE INPUT: true; the input reads as it did. -/
def valsTellsSpec : ChangeSpec := { name := "valsTells", fn := fun _ => fun
  | [d1, d2, d3, d4, d5, d6] => { results := [.lit (.bool true)], args := [d1, d2, d3, d4, d5, d6] }
  | _ => none }
def valsTellsRow : OpenClaim := { program := "ytdiacaflcfiomaa", sum := "dc77e37e3504f88d1a70432cdca5e6a0dd04da23d90c0df0232b06879f3402fa", func := "affiant/affiantlaw10.ValsTells", spec := "valsTells", recurses := true, apart := false }
def ValsTellsSaid : Prop := valsTellsRow.holds Try.pinned (OpenSpec.ofChange valsTellsSpec)

/-- ITS FALSE NEIGHBOUR: 'it returns false'. Refute it at one input. -/
def valsTellsWrong : ChangeSpec := { name := "valsTells", fn := fun _ => fun
  | [d1, d2, d3, d4, d5, d6] => { results := [.lit (.bool false)], args := [d1, d2, d3, d4, d5, d6] }
  | _ => none }
def ValsTellsWrongFalsely : Prop := valsTellsRow.holds Try.pinned (OpenSpec.ofChange valsTellsWrong)

/-- 'affiantlaw10.ValsSame': WHATEVER THE INPUT: true; the input reads as it did. -/
def valsSameSpec : ChangeSpec := { name := "valsSame", fn := fun _ => fun
  | [d1, d2, d3, d4] => { results := [.lit (.bool true)], args := [d1, d2, d3, d4] }
  | _ => none }
def valsSameRow : OpenClaim := { program := "ytdiacaflcfiomaa", sum := "dc77e37e3504f88d1a70432cdca5e6a0dd04da23d90c0df0232b06879f3402fa", func := "affiant/affiantlaw10.ValsSame", spec := "valsSame", recurses := true, apart := false }
def ValsSameSaid : Prop := valsSameRow.holds Try.pinned (OpenSpec.ofChange valsSameSpec)

/-- ITS FALSE NEIGHBOUR: 'it returns false'. Refute it at one input. -/
def valsSameWrong : ChangeSpec := { name := "valsSame", fn := fun _ => fun
  | [d1, d2, d3, d4] => { results := [.lit (.bool false)], args := [d1, d2, d3, d4] }
  | _ => none }
def ValsSameWrongFalsely : Prop := valsSameRow.holds Try.pinned (OpenSpec.ofChange valsSameWrong)

/-- 'affiantlaw8.ProveRuns': WHATEVER THE INPUT: true; the input reads as it did. -/
def proveRunsSpec : ChangeSpec := { name := "proveRuns", fn := fun _ => fun
  | [] => { results := [.lit (.bool true)], args := [] }
  | _ => none }
def proveRunsRow : OpenClaim := { program := "ytdiacaflcfiomaa", sum := "dc77e37e3504f88d1a70432cdca5e6a0dd04da23d90c0df0232b06879f3402fa", func := "affiant/affiantlaw8.ProveRuns", spec := "proveRuns", inPlace := ["internal/bytealg.abigen_runtime_cmpstring"], unfollowed := true, recurses := true, apart := false }
def ProveRunsSaid : Prop := proveRunsRow.holds Try.pinned (OpenSpec.ofChange proveRunsSpec)

/-- ITS FALSE NEIGHBOUR: 'it returns false'. Refute it at one input. -/
def proveRunsWrong : ChangeSpec := { name := "proveRuns", fn := fun _ => fun
  | [] => { results := [.lit (.bool false)], args := [] }
  | _ => none }
def ProveRunsWrongFalsely : Prop := proveRunsRow.holds Try.pinned (OpenSpec.ofChange proveRunsWrong)

/-- 'affiantlaw8.ProveHolds': WHATEVER THE INPUT: true; the input reads as it did. -/
def proveHoldsSpec : ChangeSpec := { name := "proveHolds", fn := fun _ => fun
  | [d1, d2, d3] => { results := [.lit (.bool true)], args := [d1, d2, d3] }
  | _ => none }
def proveHoldsRow : OpenClaim := { program := "ytdiacaflcfiomaa", sum := "dc77e37e3504f88d1a70432cdca5e6a0dd04da23d90c0df0232b06879f3402fa", func := "affiant/affiantlaw8.ProveHolds", spec := "proveHolds", inPlace := ["internal/bytealg.abigen_runtime_cmpstring"], unfollowed := true, recurses := true, apart := false }
def ProveHoldsSaid : Prop := proveHoldsRow.holds Try.pinned (OpenSpec.ofChange proveHoldsSpec)

/-- ITS FALSE NEIGHBOUR: 'it returns false'. Refute it at one input. -/
def proveHoldsWrong : ChangeSpec := { name := "proveHolds", fn := fun _ => fun
  | [d1, d2, d3] => { results := [.lit (.bool false)], args := [d1, d2, d3] }
  | _ => none }
def ProveHoldsWrongFalsely : Prop := proveHoldsRow.holds Try.pinned (OpenSpec.ofChange proveHoldsWrong)

/-- 'affiantlaw8.ProveParts': WHATEVER THE INPUT: true; the input reads as it did. -/
def provePartsSpec : ChangeSpec := { name := "proveParts", fn := fun _ => fun
  | [d1, d2, d3] => { results := [.lit (.bool true)], args := [d1, d2, d3] }
  | _ => none }
def provePartsRow : OpenClaim := { program := "ytdiacaflcfiomaa", sum := "dc77e37e3504f88d1a70432cdca5e6a0dd04da23d90c0df0232b06879f3402fa", func := "affiant/affiantlaw8.ProveParts", spec := "proveParts", inPlace := ["internal/bytealg.abigen_runtime_cmpstring"], unfollowed := true, recurses := true, apart := false }
def ProvePartsSaid : Prop := provePartsRow.holds Try.pinned (OpenSpec.ofChange provePartsSpec)

/-- ITS FALSE NEIGHBOUR: 'it returns false'. Refute it at one input. -/
def provePartsWrong : ChangeSpec := { name := "proveParts", fn := fun _ => fun
  | [d1, d2, d3] => { results := [.lit (.bool false)], args := [d1, d2, d3] }
  | _ => none }
def ProvePartsWrongFalsely : Prop := provePartsRow.holds Try.pinned (OpenSpec.ofChange provePartsWrong)

/-- 'affiantlaw8.ProveTells': WHATEVER THE INPUT: true; the input reads as it did. -/
def proveTellsSpec : ChangeSpec := { name := "proveTells", fn := fun _ => fun
  | [d1, d2, d3, d4, d5] => { results := [.lit (.bool true)], args := [d1, d2, d3, d4, d5] }
  | _ => none }
def proveTellsRow : OpenClaim := { program := "ytdiacaflcfiomaa", sum := "dc77e37e3504f88d1a70432cdca5e6a0dd04da23d90c0df0232b06879f3402fa", func := "affiant/affiantlaw8.ProveTells", spec := "proveTells", inPlace := ["internal/bytealg.abigen_runtime_cmpstring"], unfollowed := true, recurses := true, apart := false }
def ProveTellsSaid : Prop := proveTellsRow.holds Try.pinned (OpenSpec.ofChange proveTellsSpec)

/-- ITS FALSE NEIGHBOUR: 'it returns false'. Refute it at one input. -/
def proveTellsWrong : ChangeSpec := { name := "proveTells", fn := fun _ => fun
  | [d1, d2, d3, d4, d5] => { results := [.lit (.bool false)], args := [d1, d2, d3, d4, d5] }
  | _ => none }
def ProveTellsWrongFalsely : Prop := proveTellsRow.holds Try.pinned (OpenSpec.ofChange proveTellsWrong)

/-- 'affiantlaw8.ProveNone': WHATEVER THE INPUT: true; the input reads as it did. -/
def proveNoneSpec : ChangeSpec := { name := "proveNone", fn := fun _ => fun
  | [d1, d2, d3] => { results := [.lit (.bool true)], args := [d1, d2, d3] }
  | _ => none }
def proveNoneRow : OpenClaim := { program := "ytdiacaflcfiomaa", sum := "dc77e37e3504f88d1a70432cdca5e6a0dd04da23d90c0df0232b06879f3402fa", func := "affiant/affiantlaw8.ProveNone", spec := "proveNone", inPlace := ["internal/bytealg.abigen_runtime_cmpstring"], unfollowed := true, recurses := true, apart := false }
def ProveNoneSaid : Prop := proveNoneRow.holds Try.pinned (OpenSpec.ofChange proveNoneSpec)

/-- ITS FALSE NEIGHBOUR: 'it returns false'. Refute it at one input. -/
def proveNoneWrong : ChangeSpec := { name := "proveNone", fn := fun _ => fun
  | [d1, d2, d3] => { results := [.lit (.bool false)], args := [d1, d2, d3] }
  | _ => none }
def ProveNoneWrongFalsely : Prop := proveNoneRow.holds Try.pinned (OpenSpec.ofChange proveNoneWrong)

/- THE SECOND FORM. 'bulk': how many values and letters a reading holds, each counted each time it is reached (what is shared counts as often as it is met; a slice's spare places count too). A statement '..UptoSaid' is the law's where the arguments, and the package variables that the reading takes, are together of bulk at most 1048576: NARROWER than '..Said'. Prove '..Said' where nothing that the law and all that it calls make is longer than what came in: it says more and counts as full. Else prove '..UptoSaid'. A law counts once. -/
mutual
def uptoBulk {H : Type} : DataW H → Nat
  | .lit (.string bytes) => bytes.length + 1
  | .lit _ => 1
  | .nil => 1
  | .ptr d => uptoBulk d + 1
  | .slice elems spare => uptoBulkAll elems + uptoBulkAll spare + 1
  | .agg parts => uptoBulkAll parts + 1
  | .iface _ d => uptoBulk d + 1
  | .map entries => uptoBulkEntries entries + 1
  | .held _ => 1
def uptoBulkAll {H : Type} : List (DataW H) → Nat
  | [] => 0
  | d :: r => uptoBulk d + uptoBulkAll r
def uptoBulkEntries {H : Type} : List (Lit × DataW H) → Nat
  | [] => 0
  | x :: r => uptoBulkEntry x + uptoBulkEntries r
def uptoBulkEntry {H : Type} : Lit × DataW H → Nat
  | (.string bytes, d) => bytes.length + uptoBulk d + 1
  | (_, d) => uptoBulk d + 1
 end
def uptoSmall : (H : Type) → List (DataW H) → Bool := fun _ ds => decide (uptoBulkAll ds ≤ 1048576)
def OpenSpec.upto (s : _root_.Go.ChangeSpec) : _root_.Go.OpenSpec := { _root_.Go.OpenSpec.ofChange s with cond := some uptoSmall }

/-- 'affiantlaw7.StoreRuns', WHERE WHAT IT READS IS OF BULK AT MOST 1048576: true; the input reads as it did. -/
def storeRunsUptoRow : OpenClaim := { program := "ytdiacaflcfiomaa", sum := "dc77e37e3504f88d1a70432cdca5e6a0dd04da23d90c0df0232b06879f3402fa", func := "affiant/affiantlaw7.StoreRuns", spec := "storeRuns", inPlace := ["internal/bytealg.abigen_runtime_cmpstring"], unfollowed := true, recurses := true, apart := false, narrowed := true }
def StoreRunsUptoSaid : Prop := storeRunsUptoRow.holds Try.pinned (OpenSpec.upto storeRunsSpec)

/-- 'affiantlaw10.ValsTells', WHERE WHAT IT READS IS OF BULK AT MOST 1048576: true; the input reads as it did. -/
def valsTellsUptoRow : OpenClaim := { program := "ytdiacaflcfiomaa", sum := "dc77e37e3504f88d1a70432cdca5e6a0dd04da23d90c0df0232b06879f3402fa", func := "affiant/affiantlaw10.ValsTells", spec := "valsTells", recurses := true, apart := false, narrowed := true }
def ValsTellsUptoSaid : Prop := valsTellsUptoRow.holds Try.pinned (OpenSpec.upto valsTellsSpec)

/-- 'affiantlaw10.ValsSame', WHERE WHAT IT READS IS OF BULK AT MOST 1048576: true; the input reads as it did. -/
def valsSameUptoRow : OpenClaim := { program := "ytdiacaflcfiomaa", sum := "dc77e37e3504f88d1a70432cdca5e6a0dd04da23d90c0df0232b06879f3402fa", func := "affiant/affiantlaw10.ValsSame", spec := "valsSame", recurses := true, apart := false, narrowed := true }
def ValsSameUptoSaid : Prop := valsSameUptoRow.holds Try.pinned (OpenSpec.upto valsSameSpec)

/-- 'affiantlaw8.ProveRuns', WHERE WHAT IT READS IS OF BULK AT MOST 1048576: true; the input reads as it did. -/
def proveRunsUptoRow : OpenClaim := { program := "ytdiacaflcfiomaa", sum := "dc77e37e3504f88d1a70432cdca5e6a0dd04da23d90c0df0232b06879f3402fa", func := "affiant/affiantlaw8.ProveRuns", spec := "proveRuns", inPlace := ["internal/bytealg.abigen_runtime_cmpstring"], unfollowed := true, recurses := true, apart := false, narrowed := true }
def ProveRunsUptoSaid : Prop := proveRunsUptoRow.holds Try.pinned (OpenSpec.upto proveRunsSpec)

/-- 'affiantlaw8.ProveHolds', WHERE WHAT IT READS IS OF BULK AT MOST 1048576: true; the input reads as it did. -/
def proveHoldsUptoRow : OpenClaim := { program := "ytdiacaflcfiomaa", sum := "dc77e37e3504f88d1a70432cdca5e6a0dd04da23d90c0df0232b06879f3402fa", func := "affiant/affiantlaw8.ProveHolds", spec := "proveHolds", inPlace := ["internal/bytealg.abigen_runtime_cmpstring"], unfollowed := true, recurses := true, apart := false, narrowed := true }
def ProveHoldsUptoSaid : Prop := proveHoldsUptoRow.holds Try.pinned (OpenSpec.upto proveHoldsSpec)

/-- 'affiantlaw8.ProveParts', WHERE WHAT IT READS IS OF BULK AT MOST 1048576: true; the input reads as it did. -/
def provePartsUptoRow : OpenClaim := { program := "ytdiacaflcfiomaa", sum := "dc77e37e3504f88d1a70432cdca5e6a0dd04da23d90c0df0232b06879f3402fa", func := "affiant/affiantlaw8.ProveParts", spec := "proveParts", inPlace := ["internal/bytealg.abigen_runtime_cmpstring"], unfollowed := true, recurses := true, apart := false, narrowed := true }
def ProvePartsUptoSaid : Prop := provePartsUptoRow.holds Try.pinned (OpenSpec.upto provePartsSpec)

/-- 'affiantlaw8.ProveTells', WHERE WHAT IT READS IS OF BULK AT MOST 1048576: true; the input reads as it did. -/
def proveTellsUptoRow : OpenClaim := { program := "ytdiacaflcfiomaa", sum := "dc77e37e3504f88d1a70432cdca5e6a0dd04da23d90c0df0232b06879f3402fa", func := "affiant/affiantlaw8.ProveTells", spec := "proveTells", inPlace := ["internal/bytealg.abigen_runtime_cmpstring"], unfollowed := true, recurses := true, apart := false, narrowed := true }
def ProveTellsUptoSaid : Prop := proveTellsUptoRow.holds Try.pinned (OpenSpec.upto proveTellsSpec)

/-- 'affiantlaw8.ProveNone', WHERE WHAT IT READS IS OF BULK AT MOST 1048576: true; the input reads as it did. -/
def proveNoneUptoRow : OpenClaim := { program := "ytdiacaflcfiomaa", sum := "dc77e37e3504f88d1a70432cdca5e6a0dd04da23d90c0df0232b06879f3402fa", func := "affiant/affiantlaw8.ProveNone", spec := "proveNone", inPlace := ["internal/bytealg.abigen_runtime_cmpstring"], unfollowed := true, recurses := true, apart := false, narrowed := true }
def ProveNoneUptoSaid : Prop := proveNoneUptoRow.holds Try.pinned (OpenSpec.upto proveNoneSpec)

end Rows
end Go.Proofs.Ytdiacaflcfiomaa
