/-
  No cell of these rows narrows 'for every input' (looked for: loops, veiled, ifaces, maps, wideKeys, modest, calm, conditions, laid).
  DERIVED. THE GIVEN ROWS OF THIS SEAT. 8 by the template 'for every input the law returns true; each argument reads behind the call as it read before'; 0 by the template 'total and deterministic' (their statements: YtgjebofbjdfdhaaTotals.lean).
  GIVEN WITH THE SEED: the statements are not yours to turn. If you find one false, say at which input.
  Laid BY PROGRAM, IN A SANDBOX (cutbox-rows.mjs): the forced cells as the released guide's own fill.sh prints them over the translation 8ba863939ab36d22… (all of the seat's roots in one cut). By AI agents, Wed Nov 11 2026. No macro, syntax, notation, axiom, sorry.
-/
import Derived.Test.YtgjebofbjdfdhaaChecked
import GoSem.Claim
import GoSem.ClaimJoined
import GoSem.ClaimMapViews
import Derived.JoinedTies
import Derived.KernelRfl
namespace Go.Proofs.Ytgjebofbjdfdhaa
/- THE CELL 'sum', in the pinned program and in every row, IS THE sha256 OF THE DUMP (.gsa) THAT YtgjebofbjdfdhaaProg.lean LOADS. Nothing in Lean hashes anything: it is a label: what it is worth is what the hold of that sum in a sandbox is worth. -/
noncomputable def Try.pinned : Pinned := { name := "ytgjebofbjdfdhaa", sum := "8ba863939ab36d2245f38d9c5a90d8e5fa5fc6df622a9cd17f0fda99efeb571f", checked := Try.checked }
namespace Rows
def none {H : Type} : Left H := { results := [], args := [] }

/-- 'affiantlaw5.RingRuns': WHATEVER THE INPUT: true; the input reads as it did. -/
def ringRunsSpec : ChangeSpec := { name := "ringRuns", fn := fun _ => fun
  | [] => { results := [.lit (.bool true)], args := [] }
  | _ => none }
def ringRunsRow : OpenClaim := { program := "ytgjebofbjdfdhaa", sum := "8ba863939ab36d2245f38d9c5a90d8e5fa5fc6df622a9cd17f0fda99efeb571f", func := "affiant/affiantlaw5.RingRuns", spec := "ringRuns", recurses := true, apart := false }
def RingRunsSaid : Prop := ringRunsRow.holds Try.pinned (OpenSpec.ofChange ringRunsSpec)

/-- ITS FALSE NEIGHBOUR: 'it returns false'. Refute it at one input. -/
def ringRunsWrong : ChangeSpec := { name := "ringRuns", fn := fun _ => fun
  | [] => { results := [.lit (.bool false)], args := [] }
  | _ => none }
def RingRunsWrongFalsely : Prop := ringRunsRow.holds Try.pinned (OpenSpec.ofChange ringRunsWrong)

/-- 'affiantlaw5.RingTells': WHATEVER THE INPUT: true; the input reads as it did. -/
def ringTellsSpec : ChangeSpec := { name := "ringTells", fn := fun _ => fun
  | [d1, d2, d3, d4] => { results := [.lit (.bool true)], args := [d1, d2, d3, d4] }
  | _ => none }
def ringTellsRow : OpenClaim := { program := "ytgjebofbjdfdhaa", sum := "8ba863939ab36d2245f38d9c5a90d8e5fa5fc6df622a9cd17f0fda99efeb571f", func := "affiant/affiantlaw5.RingTells", spec := "ringTells", recurses := true, apart := false }
def RingTellsSaid : Prop := ringTellsRow.holds Try.pinned (OpenSpec.ofChange ringTellsSpec)

/-- ITS FALSE NEIGHBOUR: 'it returns false'. Refute it at one input. -/
def ringTellsWrong : ChangeSpec := { name := "ringTells", fn := fun _ => fun
  | [d1, d2, d3, d4] => { results := [.lit (.bool false)], args := [d1, d2, d3, d4] }
  | _ => none }
def RingTellsWrongFalsely : Prop := ringTellsRow.holds Try.pinned (OpenSpec.ofChange ringTellsWrong)

/-- 'affiantlaw5.RingTurned': WHATEVER THE INPUT: true; the input reads as it did. -/
def ringTurnedSpec : ChangeSpec := { name := "ringTurned", fn := fun _ => fun
  | [d1, d2, d3, d4, d5] => { results := [.lit (.bool true)], args := [d1, d2, d3, d4, d5] }
  | _ => none }
def ringTurnedRow : OpenClaim := { program := "ytgjebofbjdfdhaa", sum := "8ba863939ab36d2245f38d9c5a90d8e5fa5fc6df622a9cd17f0fda99efeb571f", func := "affiant/affiantlaw5.RingTurned", spec := "ringTurned", recurses := true, apart := false }
def RingTurnedSaid : Prop := ringTurnedRow.holds Try.pinned (OpenSpec.ofChange ringTurnedSpec)

/-- ITS FALSE NEIGHBOUR: 'it returns false'. Refute it at one input. -/
def ringTurnedWrong : ChangeSpec := { name := "ringTurned", fn := fun _ => fun
  | [d1, d2, d3, d4, d5] => { results := [.lit (.bool false)], args := [d1, d2, d3, d4, d5] }
  | _ => none }
def RingTurnedWrongFalsely : Prop := ringTurnedRow.holds Try.pinned (OpenSpec.ofChange ringTurnedWrong)

/-- 'affiantlaw5.RingHeights': WHATEVER THE INPUT: true; the input reads as it did. -/
def ringHeightsSpec : ChangeSpec := { name := "ringHeights", fn := fun _ => fun
  | [d1, d2, d3, d4] => { results := [.lit (.bool true)], args := [d1, d2, d3, d4] }
  | _ => none }
def ringHeightsRow : OpenClaim := { program := "ytgjebofbjdfdhaa", sum := "8ba863939ab36d2245f38d9c5a90d8e5fa5fc6df622a9cd17f0fda99efeb571f", func := "affiant/affiantlaw5.RingHeights", spec := "ringHeights", recurses := true, apart := false }
def RingHeightsSaid : Prop := ringHeightsRow.holds Try.pinned (OpenSpec.ofChange ringHeightsSpec)

/-- ITS FALSE NEIGHBOUR: 'it returns false'. Refute it at one input. -/
def ringHeightsWrong : ChangeSpec := { name := "ringHeights", fn := fun _ => fun
  | [d1, d2, d3, d4] => { results := [.lit (.bool false)], args := [d1, d2, d3, d4] }
  | _ => none }
def RingHeightsWrongFalsely : Prop := ringHeightsRow.holds Try.pinned (OpenSpec.ofChange ringHeightsWrong)

/-- 'affiantlaw5.RingSeeds': WHATEVER THE INPUT: true; the input reads as it did. -/
def ringSeedsSpec : ChangeSpec := { name := "ringSeeds", fn := fun _ => fun
  | [d1, d2] => { results := [.lit (.bool true)], args := [d1, d2] }
  | _ => none }
def ringSeedsRow : OpenClaim := { program := "ytgjebofbjdfdhaa", sum := "8ba863939ab36d2245f38d9c5a90d8e5fa5fc6df622a9cd17f0fda99efeb571f", func := "affiant/affiantlaw5.RingSeeds", spec := "ringSeeds", recurses := true, apart := false }
def RingSeedsSaid : Prop := ringSeedsRow.holds Try.pinned (OpenSpec.ofChange ringSeedsSpec)

/-- ITS FALSE NEIGHBOUR: 'it returns false'. Refute it at one input. -/
def ringSeedsWrong : ChangeSpec := { name := "ringSeeds", fn := fun _ => fun
  | [d1, d2] => { results := [.lit (.bool false)], args := [d1, d2] }
  | _ => none }
def RingSeedsWrongFalsely : Prop := ringSeedsRow.holds Try.pinned (OpenSpec.ofChange ringSeedsWrong)

/-- 'affiantlaw12.SealRuns': WHATEVER THE INPUT: true; the input reads as it did. -/
def sealRunsSpec : ChangeSpec := { name := "sealRuns", fn := fun _ => fun
  | [] => { results := [.lit (.bool true)], args := [] }
  | _ => none }
def sealRunsRow : OpenClaim := { program := "ytgjebofbjdfdhaa", sum := "8ba863939ab36d2245f38d9c5a90d8e5fa5fc6df622a9cd17f0fda99efeb571f", func := "affiant/affiantlaw12.SealRuns", spec := "sealRuns", recurses := true, apart := false }
def SealRunsSaid : Prop := sealRunsRow.holds Try.pinned (OpenSpec.ofChange sealRunsSpec)

/-- ITS FALSE NEIGHBOUR: 'it returns false'. Refute it at one input. -/
def sealRunsWrong : ChangeSpec := { name := "sealRuns", fn := fun _ => fun
  | [] => { results := [.lit (.bool false)], args := [] }
  | _ => none }
def SealRunsWrongFalsely : Prop := sealRunsRow.holds Try.pinned (OpenSpec.ofChange sealRunsWrong)

/-- 'affiantlaw12.SealTells': WHATEVER THE INPUT: true; the input reads as it did. -/
def sealTellsSpec : ChangeSpec := { name := "sealTells", fn := fun _ => fun
  | [d1, d2, d3, d4, d5] => { results := [.lit (.bool true)], args := [d1, d2, d3, d4, d5] }
  | _ => none }
def sealTellsRow : OpenClaim := { program := "ytgjebofbjdfdhaa", sum := "8ba863939ab36d2245f38d9c5a90d8e5fa5fc6df622a9cd17f0fda99efeb571f", func := "affiant/affiantlaw12.SealTells", spec := "sealTells", recurses := true, apart := false }
def SealTellsSaid : Prop := sealTellsRow.holds Try.pinned (OpenSpec.ofChange sealTellsSpec)

/-- ITS FALSE NEIGHBOUR: 'it returns false'. Refute it at one input. -/
def sealTellsWrong : ChangeSpec := { name := "sealTells", fn := fun _ => fun
  | [d1, d2, d3, d4, d5] => { results := [.lit (.bool false)], args := [d1, d2, d3, d4, d5] }
  | _ => none }
def SealTellsWrongFalsely : Prop := sealTellsRow.holds Try.pinned (OpenSpec.ofChange sealTellsWrong)

/-- 'affiantlaw12.SealHonest': WHATEVER THE INPUT: true; the input reads as it did. -/
def sealHonestSpec : ChangeSpec := { name := "sealHonest", fn := fun _ => fun
  | [d1, d2, d3] => { results := [.lit (.bool true)], args := [d1, d2, d3] }
  | _ => none }
def sealHonestRow : OpenClaim := { program := "ytgjebofbjdfdhaa", sum := "8ba863939ab36d2245f38d9c5a90d8e5fa5fc6df622a9cd17f0fda99efeb571f", func := "affiant/affiantlaw12.SealHonest", spec := "sealHonest", recurses := true, apart := false }
def SealHonestSaid : Prop := sealHonestRow.holds Try.pinned (OpenSpec.ofChange sealHonestSpec)

/-- ITS FALSE NEIGHBOUR: 'it returns false'. Refute it at one input. -/
def sealHonestWrong : ChangeSpec := { name := "sealHonest", fn := fun _ => fun
  | [d1, d2, d3] => { results := [.lit (.bool false)], args := [d1, d2, d3] }
  | _ => none }
def SealHonestWrongFalsely : Prop := sealHonestRow.holds Try.pinned (OpenSpec.ofChange sealHonestWrong)

/- THE SECOND FORM. 'bulk': how many values and letters a reading holds, each counted each time it is reached (what is shared counts as often as it is met; a slice's spare places count too). A statement '..UptoSaid' is the law's where the arguments, and the package variables that the reading takes, are together of bulk at most 1048576: NARROWER than '..Said'. Prove '..Said' where nothing that the law and all that it calls make is longer than what came in: it says more and counts as full. Else prove '..UptoSaid'. A law counts once. -/
mutual
def uptoBulk {H : Type} : DataW H → Nat
  | .lit (.string bytes) => bytes.length + 1
  | .lit _ => 1
  | .nil => 1
  | .ptr d => uptoBulk d + 1
  | .slice elems spare => uptoBulkAll elems + uptoBulkAll spare + 1
  | .agg parts => uptoBulkAll parts + 1
  | .iface _ d => uptoBulk d + 1
  | .map entries => uptoBulkEntries entries + 1
  | .held _ => 1
def uptoBulkAll {H : Type} : List (DataW H) → Nat
  | [] => 0
  | d :: r => uptoBulk d + uptoBulkAll r
def uptoBulkEntries {H : Type} : List (Lit × DataW H) → Nat
  | [] => 0
  | x :: r => uptoBulkEntry x + uptoBulkEntries r
def uptoBulkEntry {H : Type} : Lit × DataW H → Nat
  | (.string bytes, d) => bytes.length + uptoBulk d + 1
  | (_, d) => uptoBulk d + 1
 end
def uptoSmall : (H : Type) → List (DataW H) → Bool := fun _ ds => decide (uptoBulkAll ds ≤ 1048576)
def OpenSpec.upto (s : _root_.Go.ChangeSpec) : _root_.Go.OpenSpec := { _root_.Go.OpenSpec.ofChange s with cond := some uptoSmall }

/-- 'affiantlaw5.RingRuns', WHERE WHAT IT READS IS OF BULK AT MOST 1048576: true; the input reads as it did. -/
def ringRunsUptoRow : OpenClaim := { program := "ytgjebofbjdfdhaa", sum := "8ba863939ab36d2245f38d9c5a90d8e5fa5fc6df622a9cd17f0fda99efeb571f", func := "affiant/affiantlaw5.RingRuns", spec := "ringRuns", recurses := true, apart := false, narrowed := true }
def RingRunsUptoSaid : Prop := ringRunsUptoRow.holds Try.pinned (OpenSpec.upto ringRunsSpec)

/-- 'affiantlaw5.RingTells', WHERE WHAT IT READS IS OF BULK AT MOST 1048576: true; the input reads as it did. -/
def ringTellsUptoRow : OpenClaim := { program := "ytgjebofbjdfdhaa", sum := "8ba863939ab36d2245f38d9c5a90d8e5fa5fc6df622a9cd17f0fda99efeb571f", func := "affiant/affiantlaw5.RingTells", spec := "ringTells", recurses := true, apart := false, narrowed := true }
def RingTellsUptoSaid : Prop := ringTellsUptoRow.holds Try.pinned (OpenSpec.upto ringTellsSpec)

/-- 'affiantlaw5.RingTurned', WHERE WHAT IT READS IS OF BULK AT MOST 1048576: true; the input reads as it did. -/
def ringTurnedUptoRow : OpenClaim := { program := "ytgjebofbjdfdhaa", sum := "8ba863939ab36d2245f38d9c5a90d8e5fa5fc6df622a9cd17f0fda99efeb571f", func := "affiant/affiantlaw5.RingTurned", spec := "ringTurned", recurses := true, apart := false, narrowed := true }
def RingTurnedUptoSaid : Prop := ringTurnedUptoRow.holds Try.pinned (OpenSpec.upto ringTurnedSpec)

/-- 'affiantlaw5.RingHeights', WHERE WHAT IT READS IS OF BULK AT MOST 1048576: true; the input reads as it did. -/
def ringHeightsUptoRow : OpenClaim := { program := "ytgjebofbjdfdhaa", sum := "8ba863939ab36d2245f38d9c5a90d8e5fa5fc6df622a9cd17f0fda99efeb571f", func := "affiant/affiantlaw5.RingHeights", spec := "ringHeights", recurses := true, apart := false, narrowed := true }
def RingHeightsUptoSaid : Prop := ringHeightsUptoRow.holds Try.pinned (OpenSpec.upto ringHeightsSpec)

/-- 'affiantlaw5.RingSeeds', WHERE WHAT IT READS IS OF BULK AT MOST 1048576: true; the input reads as it did. -/
def ringSeedsUptoRow : OpenClaim := { program := "ytgjebofbjdfdhaa", sum := "8ba863939ab36d2245f38d9c5a90d8e5fa5fc6df622a9cd17f0fda99efeb571f", func := "affiant/affiantlaw5.RingSeeds", spec := "ringSeeds", recurses := true, apart := false, narrowed := true }
def RingSeedsUptoSaid : Prop := ringSeedsUptoRow.holds Try.pinned (OpenSpec.upto ringSeedsSpec)

/-- 'affiantlaw12.SealRuns', WHERE WHAT IT READS IS OF BULK AT MOST 1048576: true; the input reads as it did. -/
def sealRunsUptoRow : OpenClaim := { program := "ytgjebofbjdfdhaa", sum := "8ba863939ab36d2245f38d9c5a90d8e5fa5fc6df622a9cd17f0fda99efeb571f", func := "affiant/affiantlaw12.SealRuns", spec := "sealRuns", recurses := true, apart := false, narrowed := true }
def SealRunsUptoSaid : Prop := sealRunsUptoRow.holds Try.pinned (OpenSpec.upto sealRunsSpec)

/-- 'affiantlaw12.SealTells', WHERE WHAT IT READS IS OF BULK AT MOST 1048576: true; the input reads as it did. -/
def sealTellsUptoRow : OpenClaim := { program := "ytgjebofbjdfdhaa", sum := "8ba863939ab36d2245f38d9c5a90d8e5fa5fc6df622a9cd17f0fda99efeb571f", func := "affiant/affiantlaw12.SealTells", spec := "sealTells", recurses := true, apart := false, narrowed := true }
def SealTellsUptoSaid : Prop := sealTellsUptoRow.holds Try.pinned (OpenSpec.upto sealTellsSpec)

/-- 'affiantlaw12.SealHonest', WHERE WHAT IT READS IS OF BULK AT MOST 1048576: true; the input reads as it did. -/
def sealHonestUptoRow : OpenClaim := { program := "ytgjebofbjdfdhaa", sum := "8ba863939ab36d2245f38d9c5a90d8e5fa5fc6df622a9cd17f0fda99efeb571f", func := "affiant/affiantlaw12.SealHonest", spec := "sealHonest", recurses := true, apart := false, narrowed := true }
def SealHonestUptoSaid : Prop := sealHonestUptoRow.holds Try.pinned (OpenSpec.upto sealHonestSpec)

end Rows
end Go.Proofs.Ytgjebofbjdfdhaa
