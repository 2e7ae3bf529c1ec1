/-
  No cell of these rows narrows 'for every input' (looked for: loops, veiled, ifaces, maps, wideKeys, modest, calm, conditions, laid).
  DERIVED. THE GIVEN ROWS OF THIS SEAT. 8 by the template 'for every input the law returns true; each argument reads behind the call as it read before'; 0 by the template 'total and deterministic' (their statements: YtoemjkbemenjhaaTotals.lean).
  GIVEN WITH THE SEED: the statements are not yours to turn. If you find one false, say at which input.
  Laid BY PROGRAM, IN A SANDBOX (cutbox-rows.mjs): the forced cells as the released guide's own fill.sh prints them over the translation e6083530d896e157… (all of the seat's roots in one cut). By AI agents, Wed Nov 11 2026. No macro, syntax, notation, axiom, sorry.
-/
import Derived.Test.YtoemjkbemenjhaaChecked
import GoSem.Claim
import GoSem.ClaimJoined
import GoSem.ClaimMapViews
import Derived.JoinedTies
import Derived.KernelRfl
namespace Go.Proofs.Ytoemjkbemenjhaa
/- THE CELL 'sum', in the pinned program and in every row, IS THE sha256 OF THE DUMP (.gsa) THAT YtoemjkbemenjhaaProg.lean LOADS. Nothing in Lean hashes anything: it is a label: what it is worth is what the hold of that sum in a sandbox is worth. -/
noncomputable def Try.pinned : Pinned := { name := "ytoemjkbemenjhaa", sum := "e6083530d896e157c29aef8b8d2dab23f83ffed8ba753b9edf1c9712966445e6", checked := Try.checked }
namespace Rows
def none {H : Type} : Left H := { results := [], args := [] }

/-- 'affiantlaw10.ValsRuns': WHATEVER THE INPUT: true; the input reads as it did. -/
def valsRunsSpec : ChangeSpec := { name := "valsRuns", fn := fun _ => fun
  | [] => { results := [.lit (.bool true)], args := [] }
  | _ => none }
def valsRunsRow : OpenClaim := { program := "ytoemjkbemenjhaa", sum := "e6083530d896e157c29aef8b8d2dab23f83ffed8ba753b9edf1c9712966445e6", func := "affiant/affiantlaw10.ValsRuns", spec := "valsRuns", apart := false }
def ValsRunsSaid : Prop := valsRunsRow.holds Try.pinned (OpenSpec.ofChange valsRunsSpec)

/-- ITS FALSE NEIGHBOUR: 'it returns false'. Refute it at one input. -/
def valsRunsWrong : ChangeSpec := { name := "valsRuns", fn := fun _ => fun
  | [] => { results := [.lit (.bool false)], args := [] }
  | _ => none }
def ValsRunsWrongFalsely : Prop := valsRunsRow.holds Try.pinned (OpenSpec.ofChange valsRunsWrong)

/-- 'affiantlaw10.ValsEdges': WHATEVER THE INPUT: true; the input reads as it did. -/
def valsEdgesSpec : ChangeSpec := { name := "valsEdges", fn := fun _ => fun
  | [d1, d2, d3] => { results := [.lit (.bool true)], args := [d1, d2, d3] }
  | _ => none }
def valsEdgesRow : OpenClaim := { program := "ytoemjkbemenjhaa", sum := "e6083530d896e157c29aef8b8d2dab23f83ffed8ba753b9edf1c9712966445e6", func := "affiant/affiantlaw10.ValsEdges", spec := "valsEdges", unfollowed := true, recurses := true, apart := false }
def ValsEdgesSaid : Prop := valsEdgesRow.holds Try.pinned (OpenSpec.ofChange valsEdgesSpec)

/-- ITS FALSE NEIGHBOUR: 'it returns false'. Refute it at one input. -/
def valsEdgesWrong : ChangeSpec := { name := "valsEdges", fn := fun _ => fun
  | [d1, d2, d3] => { results := [.lit (.bool false)], args := [d1, d2, d3] }
  | _ => none }
def ValsEdgesWrongFalsely : Prop := valsEdgesRow.holds Try.pinned (OpenSpec.ofChange valsEdgesWrong)

/-- 'affiantlaw10.ValsLaws': WHATEVER THE INPUT: true; the input reads as it did. -/
def valsLawsSpec : ChangeSpec := { name := "valsLaws", fn := fun _ => fun
  | [d1, d2, d3] => { results := [.lit (.bool true)], args := [d1, d2, d3] }
  | _ => none }
def valsLawsRow : OpenClaim := { program := "ytoemjkbemenjhaa", sum := "e6083530d896e157c29aef8b8d2dab23f83ffed8ba753b9edf1c9712966445e6", func := "affiant/affiantlaw10.ValsLaws", spec := "valsLaws", apart := false }
def ValsLawsSaid : Prop := valsLawsRow.holds Try.pinned (OpenSpec.ofChange valsLawsSpec)

/-- ITS FALSE NEIGHBOUR: 'it returns false'. Refute it at one input. -/
def valsLawsWrong : ChangeSpec := { name := "valsLaws", fn := fun _ => fun
  | [d1, d2, d3] => { results := [.lit (.bool false)], args := [d1, d2, d3] }
  | _ => none }
def ValsLawsWrongFalsely : Prop := valsLawsRow.holds Try.pinned (OpenSpec.ofChange valsLawsWrong)

/-- 'affiantlaw2.ShaRuns': WHATEVER THE INPUT: true; the input reads as it did. -/
def shaRunsSpec : ChangeSpec := { name := "shaRuns", fn := fun _ => fun
  | [] => { results := [.lit (.bool true)], args := [] }
  | _ => none }
def shaRunsRow : OpenClaim := { program := "ytoemjkbemenjhaa", sum := "e6083530d896e157c29aef8b8d2dab23f83ffed8ba753b9edf1c9712966445e6", func := "affiant/affiantlaw2.ShaRuns", spec := "shaRuns", apart := false }
def ShaRunsSaid : Prop := shaRunsRow.holds Try.pinned (OpenSpec.ofChange shaRunsSpec)

/-- ITS FALSE NEIGHBOUR: 'it returns false'. Refute it at one input. -/
def shaRunsWrong : ChangeSpec := { name := "shaRuns", fn := fun _ => fun
  | [] => { results := [.lit (.bool false)], args := [] }
  | _ => none }
def ShaRunsWrongFalsely : Prop := shaRunsRow.holds Try.pinned (OpenSpec.ofChange shaRunsWrong)

/-- 'affiantlaw2.ShaBlocks': WHATEVER THE INPUT: true; the input reads as it did. -/
def shaBlocksSpec : ChangeSpec := { name := "shaBlocks", fn := fun _ => fun
  | [d1, d2] => { results := [.lit (.bool true)], args := [d1, d2] }
  | _ => none }
def shaBlocksRow : OpenClaim := { program := "ytoemjkbemenjhaa", sum := "e6083530d896e157c29aef8b8d2dab23f83ffed8ba753b9edf1c9712966445e6", func := "affiant/affiantlaw2.ShaBlocks", spec := "shaBlocks", apart := false }
def ShaBlocksSaid : Prop := shaBlocksRow.holds Try.pinned (OpenSpec.ofChange shaBlocksSpec)

/-- ITS FALSE NEIGHBOUR: 'it returns false'. Refute it at one input. -/
def shaBlocksWrong : ChangeSpec := { name := "shaBlocks", fn := fun _ => fun
  | [d1, d2] => { results := [.lit (.bool false)], args := [d1, d2] }
  | _ => none }
def ShaBlocksWrongFalsely : Prop := shaBlocksRow.holds Try.pinned (OpenSpec.ofChange shaBlocksWrong)

/-- 'affiantlaw2.ShaTells': WHATEVER THE INPUT: true; the input reads as it did. -/
def shaTellsSpec : ChangeSpec := { name := "shaTells", fn := fun _ => fun
  | [d1, d2, d3] => { results := [.lit (.bool true)], args := [d1, d2, d3] }
  | _ => none }
def shaTellsRow : OpenClaim := { program := "ytoemjkbemenjhaa", sum := "e6083530d896e157c29aef8b8d2dab23f83ffed8ba753b9edf1c9712966445e6", func := "affiant/affiantlaw2.ShaTells", spec := "shaTells", apart := false }
def ShaTellsSaid : Prop := shaTellsRow.holds Try.pinned (OpenSpec.ofChange shaTellsSpec)

/-- ITS FALSE NEIGHBOUR: 'it returns false'. Refute it at one input. -/
def shaTellsWrong : ChangeSpec := { name := "shaTells", fn := fun _ => fun
  | [d1, d2, d3] => { results := [.lit (.bool false)], args := [d1, d2, d3] }
  | _ => none }
def ShaTellsWrongFalsely : Prop := shaTellsRow.holds Try.pinned (OpenSpec.ofChange shaTellsWrong)

/-- 'affiantlaw2.ShaLong': WHATEVER THE INPUT: true; the input reads as it did. -/
def shaLongSpec : ChangeSpec := { name := "shaLong", fn := fun _ => fun
  | [d1, d2] => { results := [.lit (.bool true)], args := [d1, d2] }
  | _ => none }
def shaLongRow : OpenClaim := { program := "ytoemjkbemenjhaa", sum := "e6083530d896e157c29aef8b8d2dab23f83ffed8ba753b9edf1c9712966445e6", func := "affiant/affiantlaw2.ShaLong", spec := "shaLong", apart := false }
def ShaLongSaid : Prop := shaLongRow.holds Try.pinned (OpenSpec.ofChange shaLongSpec)

/-- ITS FALSE NEIGHBOUR: 'it returns false'. Refute it at one input. -/
def shaLongWrong : ChangeSpec := { name := "shaLong", fn := fun _ => fun
  | [d1, d2] => { results := [.lit (.bool false)], args := [d1, d2] }
  | _ => none }
def ShaLongWrongFalsely : Prop := shaLongRow.holds Try.pinned (OpenSpec.ofChange shaLongWrong)

/-- 'affiantlaw2.ShaParts': WHATEVER THE INPUT: true; the input reads as it did. -/
def shaPartsSpec : ChangeSpec := { name := "shaParts", fn := fun _ => fun
  | [d1, d2] => { results := [.lit (.bool true)], args := [d1, d2] }
  | _ => none }
def shaPartsRow : OpenClaim := { program := "ytoemjkbemenjhaa", sum := "e6083530d896e157c29aef8b8d2dab23f83ffed8ba753b9edf1c9712966445e6", func := "affiant/affiantlaw2.ShaParts", spec := "shaParts", apart := false }
def ShaPartsSaid : Prop := shaPartsRow.holds Try.pinned (OpenSpec.ofChange shaPartsSpec)

/-- ITS FALSE NEIGHBOUR: 'it returns false'. Refute it at one input. -/
def shaPartsWrong : ChangeSpec := { name := "shaParts", fn := fun _ => fun
  | [d1, d2] => { results := [.lit (.bool false)], args := [d1, d2] }
  | _ => none }
def ShaPartsWrongFalsely : Prop := shaPartsRow.holds Try.pinned (OpenSpec.ofChange shaPartsWrong)

/- THE SECOND FORM. 'bulk': how many values and letters a reading holds, each counted each time it is reached (what is shared counts as often as it is met; a slice's spare places count too). A statement '..UptoSaid' is the law's where the arguments, and the package variables that the reading takes, are together of bulk at most 1048576: NARROWER than '..Said'. Prove '..Said' where nothing that the law and all that it calls make is longer than what came in: it says more and counts as full. Else prove '..UptoSaid'. A law counts once. -/
mutual
def uptoBulk {H : Type} : DataW H → Nat
  | .lit (.string bytes) => bytes.length + 1
  | .lit _ => 1
  | .nil => 1
  | .ptr d => uptoBulk d + 1
  | .slice elems spare => uptoBulkAll elems + uptoBulkAll spare + 1
  | .agg parts => uptoBulkAll parts + 1
  | .iface _ d => uptoBulk d + 1
  | .map entries => uptoBulkEntries entries + 1
  | .held _ => 1
def uptoBulkAll {H : Type} : List (DataW H) → Nat
  | [] => 0
  | d :: r => uptoBulk d + uptoBulkAll r
def uptoBulkEntries {H : Type} : List (Lit × DataW H) → Nat
  | [] => 0
  | x :: r => uptoBulkEntry x + uptoBulkEntries r
def uptoBulkEntry {H : Type} : Lit × DataW H → Nat
  | (.string bytes, d) => bytes.length + uptoBulk d + 1
  | (_, d) => uptoBulk d + 1
 end
def uptoSmall : (H : Type) → List (DataW H) → Bool := fun _ ds => decide (uptoBulkAll ds ≤ 1048576)
def OpenSpec.upto (s : _root_.Go.ChangeSpec) : _root_.Go.OpenSpec := { _root_.Go.OpenSpec.ofChange s with cond := some uptoSmall }

/-- 'affiantlaw10.ValsRuns', WHERE WHAT IT READS IS OF BULK AT MOST 1048576: true; the input reads as it did. -/
def valsRunsUptoRow : OpenClaim := { program := "ytoemjkbemenjhaa", sum := "e6083530d896e157c29aef8b8d2dab23f83ffed8ba753b9edf1c9712966445e6", func := "affiant/affiantlaw10.ValsRuns", spec := "valsRuns", apart := false, narrowed := true }
def ValsRunsUptoSaid : Prop := valsRunsUptoRow.holds Try.pinned (OpenSpec.upto valsRunsSpec)

/-- 'affiantlaw10.ValsEdges', WHERE WHAT IT READS IS OF BULK AT MOST 1048576: true; the input reads as it did. -/
def valsEdgesUptoRow : OpenClaim := { program := "ytoemjkbemenjhaa", sum := "e6083530d896e157c29aef8b8d2dab23f83ffed8ba753b9edf1c9712966445e6", func := "affiant/affiantlaw10.ValsEdges", spec := "valsEdges", unfollowed := true, recurses := true, apart := false, narrowed := true }
def ValsEdgesUptoSaid : Prop := valsEdgesUptoRow.holds Try.pinned (OpenSpec.upto valsEdgesSpec)

/-- 'affiantlaw10.ValsLaws', WHERE WHAT IT READS IS OF BULK AT MOST 1048576: true; the input reads as it did. -/
def valsLawsUptoRow : OpenClaim := { program := "ytoemjkbemenjhaa", sum := "e6083530d896e157c29aef8b8d2dab23f83ffed8ba753b9edf1c9712966445e6", func := "affiant/affiantlaw10.ValsLaws", spec := "valsLaws", apart := false, narrowed := true }
def ValsLawsUptoSaid : Prop := valsLawsUptoRow.holds Try.pinned (OpenSpec.upto valsLawsSpec)

/-- 'affiantlaw2.ShaRuns', WHERE WHAT IT READS IS OF BULK AT MOST 1048576: true; the input reads as it did. -/
def shaRunsUptoRow : OpenClaim := { program := "ytoemjkbemenjhaa", sum := "e6083530d896e157c29aef8b8d2dab23f83ffed8ba753b9edf1c9712966445e6", func := "affiant/affiantlaw2.ShaRuns", spec := "shaRuns", apart := false, narrowed := true }
def ShaRunsUptoSaid : Prop := shaRunsUptoRow.holds Try.pinned (OpenSpec.upto shaRunsSpec)

/-- 'affiantlaw2.ShaBlocks', WHERE WHAT IT READS IS OF BULK AT MOST 1048576: true; the input reads as it did. -/
def shaBlocksUptoRow : OpenClaim := { program := "ytoemjkbemenjhaa", sum := "e6083530d896e157c29aef8b8d2dab23f83ffed8ba753b9edf1c9712966445e6", func := "affiant/affiantlaw2.ShaBlocks", spec := "shaBlocks", apart := false, narrowed := true }
def ShaBlocksUptoSaid : Prop := shaBlocksUptoRow.holds Try.pinned (OpenSpec.upto shaBlocksSpec)

/-- 'affiantlaw2.ShaTells', WHERE WHAT IT READS IS OF BULK AT MOST 1048576: true; the input reads as it did. -/
def shaTellsUptoRow : OpenClaim := { program := "ytoemjkbemenjhaa", sum := "e6083530d896e157c29aef8b8d2dab23f83ffed8ba753b9edf1c9712966445e6", func := "affiant/affiantlaw2.ShaTells", spec := "shaTells", apart := false, narrowed := true }
def ShaTellsUptoSaid : Prop := shaTellsUptoRow.holds Try.pinned (OpenSpec.upto shaTellsSpec)

/-- 'affiantlaw2.ShaLong', WHERE WHAT IT READS IS OF BULK AT MOST 1048576: true; the input reads as it did. -/
def shaLongUptoRow : OpenClaim := { program := "ytoemjkbemenjhaa", sum := "e6083530d896e157c29aef8b8d2dab23f83ffed8ba753b9edf1c9712966445e6", func := "affiant/affiantlaw2.ShaLong", spec := "shaLong", apart := false, narrowed := true }
def ShaLongUptoSaid : Prop := shaLongUptoRow.holds Try.pinned (OpenSpec.upto shaLongSpec)

/-- 'affiantlaw2.ShaParts', WHERE WHAT IT READS IS OF BULK AT MOST 1048576: true; the input reads as it did. -/
def shaPartsUptoRow : OpenClaim := { program := "ytoemjkbemenjhaa", sum := "e6083530d896e157c29aef8b8d2dab23f83ffed8ba753b9edf1c9712966445e6", func := "affiant/affiantlaw2.ShaParts", spec := "shaParts", apart := false, narrowed := true }
def ShaPartsUptoSaid : Prop := shaPartsUptoRow.holds Try.pinned (OpenSpec.upto shaPartsSpec)

end Rows
end Go.Proofs.Ytoemjkbemenjhaa
