/-
  No cell of these rows narrows 'for every input' (looked for: loops, veiled, ifaces, maps, wideKeys, modest, calm, conditions, laid).
  DERIVED. THE GIVEN ROWS OF THIS SEAT. 8 by the template 'for every input the law returns true; each argument reads behind the call as it read before'; 0 by the template 'total and deterministic' (their statements: YtbpcajicbklkcaaTotals.lean).
  GIVEN WITH THE SEED: the statements are not yours to turn. If you find one false, say at which input.
  Laid BY PROGRAM, IN A SANDBOX (cutbox-rows.mjs): the forced cells as the released guide's own fill.sh prints them over the translation 9ad0f8b7934408ad… (all of the seat's roots in one cut). By AI agents, Wed Nov 11 2026. No macro, syntax, notation, axiom, sorry.
-/
import Derived.Test.YtbpcajicbklkcaaChecked
import GoSem.Claim
import GoSem.ClaimJoined
import GoSem.ClaimMapViews
import Derived.JoinedTies
import Derived.KernelRfl
namespace Go.Proofs.Ytbpcajicbklkcaa
/- THE CELL 'sum', in the pinned program and in every row, IS THE sha256 OF THE DUMP (.gsa) THAT YtbpcajicbklkcaaProg.lean LOADS. Nothing in Lean hashes anything: it is a label: what it is worth is what the hold of that sum in a sandbox is worth. -/
noncomputable def Try.pinned : Pinned := { name := "ytbpcajicbklkcaa", sum := "9ad0f8b7934408adb02cd122ad29f8135c1f49e5e33c3beb62148a52d952a210", checked := Try.checked }
namespace Rows
def none {H : Type} : Left H := { results := [], args := [] }

/-- 'affiantlaw11.HeadRuns': WHATEVER THE INPUT: true; the input reads as it did. -/
def headRunsSpec : ChangeSpec := { name := "headRuns", fn := fun _ => fun
  | [] => { results := [.lit (.bool true)], args := [] }
  | _ => none }
def headRunsRow : OpenClaim := { program := "ytbpcajicbklkcaa", sum := "9ad0f8b7934408adb02cd122ad29f8135c1f49e5e33c3beb62148a52d952a210", func := "affiant/affiantlaw11.HeadRuns", spec := "headRuns", apart := false }
def HeadRunsSaid : Prop := headRunsRow.holds Try.pinned (OpenSpec.ofChange headRunsSpec)

/-- ITS FALSE NEIGHBOUR: 'it returns false'. Refute it at one input. -/
def headRunsWrong : ChangeSpec := { name := "headRuns", fn := fun _ => fun
  | [] => { results := [.lit (.bool false)], args := [] }
  | _ => none }
def HeadRunsWrongFalsely : Prop := headRunsRow.holds Try.pinned (OpenSpec.ofChange headRunsWrong)

/-- 'affiantlaw11.HeadOnly': WHATEVER THE INPUT: true; the input reads as it did. -/
def headOnlySpec : ChangeSpec := { name := "headOnly", fn := fun _ => fun
  | [d1, d2, d3, d4, d5] => { results := [.lit (.bool true)], args := [d1, d2, d3, d4, d5] }
  | _ => none }
def headOnlyRow : OpenClaim := { program := "ytbpcajicbklkcaa", sum := "9ad0f8b7934408adb02cd122ad29f8135c1f49e5e33c3beb62148a52d952a210", func := "affiant/affiantlaw11.HeadOnly", spec := "headOnly", apart := false }
def HeadOnlySaid : Prop := headOnlyRow.holds Try.pinned (OpenSpec.ofChange headOnlySpec)

/-- ITS FALSE NEIGHBOUR: 'it returns false'. Refute it at one input. -/
def headOnlyWrong : ChangeSpec := { name := "headOnly", fn := fun _ => fun
  | [d1, d2, d3, d4, d5] => { results := [.lit (.bool false)], args := [d1, d2, d3, d4, d5] }
  | _ => none }
def HeadOnlyWrongFalsely : Prop := headOnlyRow.holds Try.pinned (OpenSpec.ofChange headOnlyWrong)

/-- 'affiantlaw7.StoreRuns': WHATEVER THE INPUT: true; the input reads as it did. -/
def storeRunsSpec : ChangeSpec := { name := "storeRuns", fn := fun _ => fun
  | [] => { results := [.lit (.bool true)], args := [] }
  | _ => none }
def storeRunsRow : OpenClaim := { program := "ytbpcajicbklkcaa", sum := "9ad0f8b7934408adb02cd122ad29f8135c1f49e5e33c3beb62148a52d952a210", func := "affiant/affiantlaw7.StoreRuns", spec := "storeRuns", inPlace := ["internal/bytealg.abigen_runtime_cmpstring"], unfollowed := true, recurses := true, apart := false }
def StoreRunsSaid : Prop := storeRunsRow.holds Try.pinned (OpenSpec.ofChange storeRunsSpec)

/-- ITS FALSE NEIGHBOUR: 'it returns false'. Refute it at one input. -/
def storeRunsWrong : ChangeSpec := { name := "storeRuns", fn := fun _ => fun
  | [] => { results := [.lit (.bool false)], args := [] }
  | _ => none }
def StoreRunsWrongFalsely : Prop := storeRunsRow.holds Try.pinned (OpenSpec.ofChange storeRunsWrong)

/-- 'affiantlaw3.LamRuns': WHATEVER THE INPUT: true; the input reads as it did. -/
def lamRunsSpec : ChangeSpec := { name := "lamRuns", fn := fun _ => fun
  | [] => { results := [.lit (.bool true)], args := [] }
  | _ => none }
def lamRunsRow : OpenClaim := { program := "ytbpcajicbklkcaa", sum := "9ad0f8b7934408adb02cd122ad29f8135c1f49e5e33c3beb62148a52d952a210", func := "affiant/affiantlaw3.LamRuns", spec := "lamRuns", apart := false }
def LamRunsSaid : Prop := lamRunsRow.holds Try.pinned (OpenSpec.ofChange lamRunsSpec)

/-- ITS FALSE NEIGHBOUR: 'it returns false'. Refute it at one input. -/
def lamRunsWrong : ChangeSpec := { name := "lamRuns", fn := fun _ => fun
  | [] => { results := [.lit (.bool false)], args := [] }
  | _ => none }
def LamRunsWrongFalsely : Prop := lamRunsRow.holds Try.pinned (OpenSpec.ofChange lamRunsWrong)

/-- 'affiantlaw3.LamSizes': WHATEVER THE INPUT: true; the input reads as it did. -/
def lamSizesSpec : ChangeSpec := { name := "lamSizes", fn := fun _ => fun
  | [d1, d2, d3, d4] => { results := [.lit (.bool true)], args := [d1, d2, d3, d4] }
  | _ => none }
def lamSizesRow : OpenClaim := { program := "ytbpcajicbklkcaa", sum := "9ad0f8b7934408adb02cd122ad29f8135c1f49e5e33c3beb62148a52d952a210", func := "affiant/affiantlaw3.LamSizes", spec := "lamSizes", apart := false }
def LamSizesSaid : Prop := lamSizesRow.holds Try.pinned (OpenSpec.ofChange lamSizesSpec)

/-- ITS FALSE NEIGHBOUR: 'it returns false'. Refute it at one input. -/
def lamSizesWrong : ChangeSpec := { name := "lamSizes", fn := fun _ => fun
  | [d1, d2, d3, d4] => { results := [.lit (.bool false)], args := [d1, d2, d3, d4] }
  | _ => none }
def LamSizesWrongFalsely : Prop := lamSizesRow.holds Try.pinned (OpenSpec.ofChange lamSizesWrong)

/-- 'affiantlaw3.LamTells': WHATEVER THE INPUT: true; the input reads as it did. -/
def lamTellsSpec : ChangeSpec := { name := "lamTells", fn := fun _ => fun
  | [d1, d2, d3] => { results := [.lit (.bool true)], args := [d1, d2, d3] }
  | _ => none }
def lamTellsRow : OpenClaim := { program := "ytbpcajicbklkcaa", sum := "9ad0f8b7934408adb02cd122ad29f8135c1f49e5e33c3beb62148a52d952a210", func := "affiant/affiantlaw3.LamTells", spec := "lamTells", apart := false }
def LamTellsSaid : Prop := lamTellsRow.holds Try.pinned (OpenSpec.ofChange lamTellsSpec)

/-- ITS FALSE NEIGHBOUR: 'it returns false'. Refute it at one input. -/
def lamTellsWrong : ChangeSpec := { name := "lamTells", fn := fun _ => fun
  | [d1, d2, d3] => { results := [.lit (.bool false)], args := [d1, d2, d3] }
  | _ => none }
def LamTellsWrongFalsely : Prop := lamTellsRow.holds Try.pinned (OpenSpec.ofChange lamTellsWrong)

/-- 'affiantlaw3.LamTurned': WHATEVER THE INPUT: true; the input reads as it did. -/
def lamTurnedSpec : ChangeSpec := { name := "lamTurned", fn := fun _ => fun
  | [d1, d2, d3, d4, d5, d6, d7] => { results := [.lit (.bool true)], args := [d1, d2, d3, d4, d5, d6, d7] }
  | _ => none }
def lamTurnedRow : OpenClaim := { program := "ytbpcajicbklkcaa", sum := "9ad0f8b7934408adb02cd122ad29f8135c1f49e5e33c3beb62148a52d952a210", func := "affiant/affiantlaw3.LamTurned", spec := "lamTurned", apart := false }
def LamTurnedSaid : Prop := lamTurnedRow.holds Try.pinned (OpenSpec.ofChange lamTurnedSpec)

/-- ITS FALSE NEIGHBOUR: 'it returns false'. Refute it at one input. -/
def lamTurnedWrong : ChangeSpec := { name := "lamTurned", fn := fun _ => fun
  | [d1, d2, d3, d4, d5, d6, d7] => { results := [.lit (.bool false)], args := [d1, d2, d3, d4, d5, d6, d7] }
  | _ => none }
def LamTurnedWrongFalsely : Prop := lamTurnedRow.holds Try.pinned (OpenSpec.ofChange lamTurnedWrong)

/-- 'affiantlaw3.LamOpens': WHATEVER THE INPUT: true; the input reads as it did. -/
def lamOpensSpec : ChangeSpec := { name := "lamOpens", fn := fun _ => fun
  | [d1, d2, d3] => { results := [.lit (.bool true)], args := [d1, d2, d3] }
  | _ => none }
def lamOpensRow : OpenClaim := { program := "ytbpcajicbklkcaa", sum := "9ad0f8b7934408adb02cd122ad29f8135c1f49e5e33c3beb62148a52d952a210", func := "affiant/affiantlaw3.LamOpens", spec := "lamOpens", apart := false }
def LamOpensSaid : Prop := lamOpensRow.holds Try.pinned (OpenSpec.ofChange lamOpensSpec)

/-- ITS FALSE NEIGHBOUR: 'it returns false'. Refute it at one input. -/
def lamOpensWrong : ChangeSpec := { name := "lamOpens", fn := fun _ => fun
  | [d1, d2, d3] => { results := [.lit (.bool false)], args := [d1, d2, d3] }
  | _ => none }
def LamOpensWrongFalsely : Prop := lamOpensRow.holds Try.pinned (OpenSpec.ofChange lamOpensWrong)

/- THE SECOND FORM. 'bulk': how many values and letters a reading holds, each counted each time it is reached (what is shared counts as often as it is met; a slice's spare places count too). A statement '..UptoSaid' is the law's where the arguments, and the package variables that the reading takes, are together of bulk at most 1048576: NARROWER than '..Said'. Prove '..Said' where nothing that the law and all that it calls make is longer than what came in: it says more and counts as full. Else prove '..UptoSaid'. A law counts once. -/
mutual
def uptoBulk {H : Type} : DataW H → Nat
  | .lit (.string bytes) => bytes.length + 1
  | .lit _ => 1
  | .nil => 1
  | .ptr d => uptoBulk d + 1
  | .slice elems spare => uptoBulkAll elems + uptoBulkAll spare + 1
  | .agg parts => uptoBulkAll parts + 1
  | .iface _ d => uptoBulk d + 1
  | .map entries => uptoBulkEntries entries + 1
  | .held _ => 1
def uptoBulkAll {H : Type} : List (DataW H) → Nat
  | [] => 0
  | d :: r => uptoBulk d + uptoBulkAll r
def uptoBulkEntries {H : Type} : List (Lit × DataW H) → Nat
  | [] => 0
  | x :: r => uptoBulkEntry x + uptoBulkEntries r
def uptoBulkEntry {H : Type} : Lit × DataW H → Nat
  | (.string bytes, d) => bytes.length + uptoBulk d + 1
  | (_, d) => uptoBulk d + 1
 end
def uptoSmall : (H : Type) → List (DataW H) → Bool := fun _ ds => decide (uptoBulkAll ds ≤ 1048576)
def OpenSpec.upto (s : _root_.Go.ChangeSpec) : _root_.Go.OpenSpec := { _root_.Go.OpenSpec.ofChange s with cond := some uptoSmall }

/-- 'affiantlaw11.HeadRuns', WHERE WHAT IT READS IS OF BULK AT MOST 1048576: true; the input reads as it did. -/
def headRunsUptoRow : OpenClaim := { program := "ytbpcajicbklkcaa", sum := "9ad0f8b7934408adb02cd122ad29f8135c1f49e5e33c3beb62148a52d952a210", func := "affiant/affiantlaw11.HeadRuns", spec := "headRuns", apart := false, narrowed := true }
def HeadRunsUptoSaid : Prop := headRunsUptoRow.holds Try.pinned (OpenSpec.upto headRunsSpec)

/-- 'affiantlaw11.HeadOnly', WHERE WHAT IT READS IS OF BULK AT MOST 1048576: true; the input reads as it did. -/
def headOnlyUptoRow : OpenClaim := { program := "ytbpcajicbklkcaa", sum := "9ad0f8b7934408adb02cd122ad29f8135c1f49e5e33c3beb62148a52d952a210", func := "affiant/affiantlaw11.HeadOnly", spec := "headOnly", apart := false, narrowed := true }
def HeadOnlyUptoSaid : Prop := headOnlyUptoRow.holds Try.pinned (OpenSpec.upto headOnlySpec)

/-- 'affiantlaw7.StoreRuns', WHERE WHAT IT READS IS OF BULK AT MOST 1048576: true; the input reads as it did. -/
def storeRunsUptoRow : OpenClaim := { program := "ytbpcajicbklkcaa", sum := "9ad0f8b7934408adb02cd122ad29f8135c1f49e5e33c3beb62148a52d952a210", func := "affiant/affiantlaw7.StoreRuns", spec := "storeRuns", inPlace := ["internal/bytealg.abigen_runtime_cmpstring"], unfollowed := true, recurses := true, apart := false, narrowed := true }
def StoreRunsUptoSaid : Prop := storeRunsUptoRow.holds Try.pinned (OpenSpec.upto storeRunsSpec)

/-- 'affiantlaw3.LamRuns', WHERE WHAT IT READS IS OF BULK AT MOST 1048576: true; the input reads as it did. -/
def lamRunsUptoRow : OpenClaim := { program := "ytbpcajicbklkcaa", sum := "9ad0f8b7934408adb02cd122ad29f8135c1f49e5e33c3beb62148a52d952a210", func := "affiant/affiantlaw3.LamRuns", spec := "lamRuns", apart := false, narrowed := true }
def LamRunsUptoSaid : Prop := lamRunsUptoRow.holds Try.pinned (OpenSpec.upto lamRunsSpec)

/-- 'affiantlaw3.LamSizes', WHERE WHAT IT READS IS OF BULK AT MOST 1048576: true; the input reads as it did. -/
def lamSizesUptoRow : OpenClaim := { program := "ytbpcajicbklkcaa", sum := "9ad0f8b7934408adb02cd122ad29f8135c1f49e5e33c3beb62148a52d952a210", func := "affiant/affiantlaw3.LamSizes", spec := "lamSizes", apart := false, narrowed := true }
def LamSizesUptoSaid : Prop := lamSizesUptoRow.holds Try.pinned (OpenSpec.upto lamSizesSpec)

/-- 'affiantlaw3.LamTells', WHERE WHAT IT READS IS OF BULK AT MOST 1048576: true; the input reads as it did. -/
def lamTellsUptoRow : OpenClaim := { program := "ytbpcajicbklkcaa", sum := "9ad0f8b7934408adb02cd122ad29f8135c1f49e5e33c3beb62148a52d952a210", func := "affiant/affiantlaw3.LamTells", spec := "lamTells", apart := false, narrowed := true }
def LamTellsUptoSaid : Prop := lamTellsUptoRow.holds Try.pinned (OpenSpec.upto lamTellsSpec)

/-- 'affiantlaw3.LamTurned', WHERE WHAT IT READS IS OF BULK AT MOST 1048576: true; the input reads as it did. -/
def lamTurnedUptoRow : OpenClaim := { program := "ytbpcajicbklkcaa", sum := "9ad0f8b7934408adb02cd122ad29f8135c1f49e5e33c3beb62148a52d952a210", func := "affiant/affiantlaw3.LamTurned", spec := "lamTurned", apart := false, narrowed := true }
def LamTurnedUptoSaid : Prop := lamTurnedUptoRow.holds Try.pinned (OpenSpec.upto lamTurnedSpec)

/-- 'affiantlaw3.LamOpens', WHERE WHAT IT READS IS OF BULK AT MOST 1048576: true; the input reads as it did. -/
def lamOpensUptoRow : OpenClaim := { program := "ytbpcajicbklkcaa", sum := "9ad0f8b7934408adb02cd122ad29f8135c1f49e5e33c3beb62148a52d952a210", func := "affiant/affiantlaw3.LamOpens", spec := "lamOpens", apart := false, narrowed := true }
def LamOpensUptoSaid : Prop := lamOpensUptoRow.holds Try.pinned (OpenSpec.upto lamOpensSpec)

end Rows
end Go.Proofs.Ytbpcajicbklkcaa
