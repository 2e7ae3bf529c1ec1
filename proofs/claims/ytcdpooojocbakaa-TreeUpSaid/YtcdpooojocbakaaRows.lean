/-
  No cell of these rows narrows 'for every input' (looked for: loops, veiled, ifaces, maps, wideKeys, modest, calm, conditions, laid).
  DERIVED. THE GIVEN ROWS OF THIS SEAT. 8 by the template 'for every input the law returns true; each argument reads behind the call as it read before'; 0 by the template 'total and deterministic' (their statements: YtcdpooojocbakaaTotals.lean).
  GIVEN WITH THE SEED: the statements are not yours to turn. If you find one false, say at which input.
  Laid BY PROGRAM, IN A SANDBOX (cutbox-rows.mjs): the forced cells as the released guide's own fill.sh prints them over the translation 2e753a73d6bd6581… (all of the seat's roots in one cut). By AI agents, Wed Nov 11 2026. No macro, syntax, notation, axiom, sorry.
-/
import Derived.Test.YtcdpooojocbakaaChecked
import GoSem.Claim
import GoSem.ClaimJoined
import GoSem.ClaimMapViews
import Derived.JoinedTies
import Derived.KernelRfl
namespace Go.Proofs.Ytcdpooojocbakaa
/- THE CELL 'sum', in the pinned program and in every row, IS THE sha256 OF THE DUMP (.gsa) THAT YtcdpooojocbakaaProg.lean LOADS. Nothing in Lean hashes anything: it is a label: what it is worth is what the hold of that sum in a sandbox is worth. -/
noncomputable def Try.pinned : Pinned := { name := "ytcdpooojocbakaa", sum := "2e753a73d6bd6581bdc32bb248b2b0b933220531e21abe4ce26df08684190afa", checked := Try.checked }
namespace Rows
def none {H : Type} : Left H := { results := [], args := [] }

/-- 'affiantlaw11.HeadTells': WHATEVER THE INPUT: true; the input reads as it did. -/
def headTellsSpec : ChangeSpec := { name := "headTells", fn := fun _ => fun
  | [d1, d2, d3, d4] => { results := [.lit (.bool true)], args := [d1, d2, d3, d4] }
  | _ => none }
def headTellsRow : OpenClaim := { program := "ytcdpooojocbakaa", sum := "2e753a73d6bd6581bdc32bb248b2b0b933220531e21abe4ce26df08684190afa", func := "affiant/affiantlaw11.HeadTells", spec := "headTells", recurses := true, apart := false }
def HeadTellsSaid : Prop := headTellsRow.holds Try.pinned (OpenSpec.ofChange headTellsSpec)

/-- ITS FALSE NEIGHBOUR: 'it returns false'. Refute it at one input. -/
def headTellsWrong : ChangeSpec := { name := "headTells", fn := fun _ => fun
  | [d1, d2, d3, d4] => { results := [.lit (.bool false)], args := [d1, d2, d3, d4] }
  | _ => none }
def HeadTellsWrongFalsely : Prop := headTellsRow.holds Try.pinned (OpenSpec.ofChange headTellsWrong)

/-- 'affiantlaw11.HeadFields': WHATEVER THE INPUT: true; the input reads as it did. -/
def headFieldsSpec : ChangeSpec := { name := "headFields", fn := fun _ => fun
  | [d1, d2, d3, d4, d5] => { results := [.lit (.bool true)], args := [d1, d2, d3, d4, d5] }
  | _ => none }
def headFieldsRow : OpenClaim := { program := "ytcdpooojocbakaa", sum := "2e753a73d6bd6581bdc32bb248b2b0b933220531e21abe4ce26df08684190afa", func := "affiant/affiantlaw11.HeadFields", spec := "headFields", recurses := true, apart := false }
def HeadFieldsSaid : Prop := headFieldsRow.holds Try.pinned (OpenSpec.ofChange headFieldsSpec)

/-- ITS FALSE NEIGHBOUR: 'it returns false'. Refute it at one input. -/
def headFieldsWrong : ChangeSpec := { name := "headFields", fn := fun _ => fun
  | [d1, d2, d3, d4, d5] => { results := [.lit (.bool false)], args := [d1, d2, d3, d4, d5] }
  | _ => none }
def HeadFieldsWrongFalsely : Prop := headFieldsRow.holds Try.pinned (OpenSpec.ofChange headFieldsWrong)

/-- 'affiantlaw11.HeadOrder': WHATEVER THE INPUT: true; the input reads as it did. -/
def headOrderSpec : ChangeSpec := { name := "headOrder", fn := fun _ => fun
  | [d1, d2] => { results := [.lit (.bool true)], args := [d1, d2] }
  | _ => none }
def headOrderRow : OpenClaim := { program := "ytcdpooojocbakaa", sum := "2e753a73d6bd6581bdc32bb248b2b0b933220531e21abe4ce26df08684190afa", func := "affiant/affiantlaw11.HeadOrder", spec := "headOrder", apart := false }
def HeadOrderSaid : Prop := headOrderRow.holds Try.pinned (OpenSpec.ofChange headOrderSpec)

/-- ITS FALSE NEIGHBOUR: 'it returns false'. Refute it at one input. -/
def headOrderWrong : ChangeSpec := { name := "headOrder", fn := fun _ => fun
  | [d1, d2] => { results := [.lit (.bool false)], args := [d1, d2] }
  | _ => none }
def HeadOrderWrongFalsely : Prop := headOrderRow.holds Try.pinned (OpenSpec.ofChange headOrderWrong)

/-- 'affiantlaw4.TreeRuns': WHATEVER THE INPUT: true; the input reads as it did. -/
def treeRunsSpec : ChangeSpec := { name := "treeRuns", fn := fun _ => fun
  | [] => { results := [.lit (.bool true)], args := [] }
  | _ => none }
def treeRunsRow : OpenClaim := { program := "ytcdpooojocbakaa", sum := "2e753a73d6bd6581bdc32bb248b2b0b933220531e21abe4ce26df08684190afa", func := "affiant/affiantlaw4.TreeRuns", spec := "treeRuns", recurses := true, apart := false }
def TreeRunsSaid : Prop := treeRunsRow.holds Try.pinned (OpenSpec.ofChange treeRunsSpec)

/-- ITS FALSE NEIGHBOUR: 'it returns false'. Refute it at one input. -/
def treeRunsWrong : ChangeSpec := { name := "treeRuns", fn := fun _ => fun
  | [] => { results := [.lit (.bool false)], args := [] }
  | _ => none }
def TreeRunsWrongFalsely : Prop := treeRunsRow.holds Try.pinned (OpenSpec.ofChange treeRunsWrong)

/-- 'affiantlaw4.TreeTells': WHATEVER THE INPUT: true; the input reads as it did. -/
def treeTellsSpec : ChangeSpec := { name := "treeTells", fn := fun _ => fun
  | [d1, d2, d3, d4, d5] => { results := [.lit (.bool true)], args := [d1, d2, d3, d4, d5] }
  | _ => none }
def treeTellsRow : OpenClaim := { program := "ytcdpooojocbakaa", sum := "2e753a73d6bd6581bdc32bb248b2b0b933220531e21abe4ce26df08684190afa", func := "affiant/affiantlaw4.TreeTells", spec := "treeTells", recurses := true, apart := false }
def TreeTellsSaid : Prop := treeTellsRow.holds Try.pinned (OpenSpec.ofChange treeTellsSpec)

/-- ITS FALSE NEIGHBOUR: 'it returns false'. Refute it at one input. -/
def treeTellsWrong : ChangeSpec := { name := "treeTells", fn := fun _ => fun
  | [d1, d2, d3, d4, d5] => { results := [.lit (.bool false)], args := [d1, d2, d3, d4, d5] }
  | _ => none }
def TreeTellsWrongFalsely : Prop := treeTellsRow.holds Try.pinned (OpenSpec.ofChange treeTellsWrong)

/-- 'affiantlaw4.TreeUp': WHATEVER THE INPUT: true; the input reads as it did. -/
def treeUpSpec : ChangeSpec := { name := "treeUp", fn := fun _ => fun
  | [d1, d2, d3, d4, d5] => { results := [.lit (.bool true)], args := [d1, d2, d3, d4, d5] }
  | _ => none }
def treeUpRow : OpenClaim := { program := "ytcdpooojocbakaa", sum := "2e753a73d6bd6581bdc32bb248b2b0b933220531e21abe4ce26df08684190afa", func := "affiant/affiantlaw4.TreeUp", spec := "treeUp", recurses := true, apart := false }
def TreeUpSaid : Prop := treeUpRow.holds Try.pinned (OpenSpec.ofChange treeUpSpec)

/-- ITS FALSE NEIGHBOUR: 'it returns false'. Refute it at one input. -/
def treeUpWrong : ChangeSpec := { name := "treeUp", fn := fun _ => fun
  | [d1, d2, d3, d4, d5] => { results := [.lit (.bool false)], args := [d1, d2, d3, d4, d5] }
  | _ => none }
def TreeUpWrongFalsely : Prop := treeUpRow.holds Try.pinned (OpenSpec.ofChange treeUpWrong)

/-- 'affiantlaw4.TreeParts': WHATEVER THE INPUT: true; the input reads as it did. -/
def treePartsSpec : ChangeSpec := { name := "treeParts", fn := fun _ => fun
  | [d1, d2, d3] => { results := [.lit (.bool true)], args := [d1, d2, d3] }
  | _ => none }
def treePartsRow : OpenClaim := { program := "ytcdpooojocbakaa", sum := "2e753a73d6bd6581bdc32bb248b2b0b933220531e21abe4ce26df08684190afa", func := "affiant/affiantlaw4.TreeParts", spec := "treeParts", recurses := true, apart := false }
def TreePartsSaid : Prop := treePartsRow.holds Try.pinned (OpenSpec.ofChange treePartsSpec)

/-- ITS FALSE NEIGHBOUR: 'it returns false'. Refute it at one input. -/
def treePartsWrong : ChangeSpec := { name := "treeParts", fn := fun _ => fun
  | [d1, d2, d3] => { results := [.lit (.bool false)], args := [d1, d2, d3] }
  | _ => none }
def TreePartsWrongFalsely : Prop := treePartsRow.holds Try.pinned (OpenSpec.ofChange treePartsWrong)

/-- 'affiantlaw4.TreeDepths': WHATEVER THE INPUT: true; the input reads as it did. -/
def treeDepthsSpec : ChangeSpec := { name := "treeDepths", fn := fun _ => fun
  | [d1, d2] => { results := [.lit (.bool true)], args := [d1, d2] }
  | _ => none }
def treeDepthsRow : OpenClaim := { program := "ytcdpooojocbakaa", sum := "2e753a73d6bd6581bdc32bb248b2b0b933220531e21abe4ce26df08684190afa", func := "affiant/affiantlaw4.TreeDepths", spec := "treeDepths", recurses := true, apart := false }
def TreeDepthsSaid : Prop := treeDepthsRow.holds Try.pinned (OpenSpec.ofChange treeDepthsSpec)

/-- ITS FALSE NEIGHBOUR: 'it returns false'. Refute it at one input. -/
def treeDepthsWrong : ChangeSpec := { name := "treeDepths", fn := fun _ => fun
  | [d1, d2] => { results := [.lit (.bool false)], args := [d1, d2] }
  | _ => none }
def TreeDepthsWrongFalsely : Prop := treeDepthsRow.holds Try.pinned (OpenSpec.ofChange treeDepthsWrong)

/- THE SECOND FORM. 'bulk': how many values and letters a reading holds, each counted each time it is reached (what is shared counts as often as it is met; a slice's spare places count too). A statement '..UptoSaid' is the law's where the arguments, and the package variables that the reading takes, are together of bulk at most 1048576: NARROWER than '..Said'. Prove '..Said' where nothing that the law and all that it calls make is longer than what came in: it says more and counts as full. Else prove '..UptoSaid'. A law counts once. -/
mutual
def uptoBulk {H : Type} : DataW H → Nat
  | .lit (.string bytes) => bytes.length + 1
  | .lit _ => 1
  | .nil => 1
  | .ptr d => uptoBulk d + 1
  | .slice elems spare => uptoBulkAll elems + uptoBulkAll spare + 1
  | .agg parts => uptoBulkAll parts + 1
  | .iface _ d => uptoBulk d + 1
  | .map entries => uptoBulkEntries entries + 1
  | .held _ => 1
def uptoBulkAll {H : Type} : List (DataW H) → Nat
  | [] => 0
  | d :: r => uptoBulk d + uptoBulkAll r
def uptoBulkEntries {H : Type} : List (Lit × DataW H) → Nat
  | [] => 0
  | x :: r => uptoBulkEntry x + uptoBulkEntries r
def uptoBulkEntry {H : Type} : Lit × DataW H → Nat
  | (.string bytes, d) => bytes.length + uptoBulk d + 1
  | (_, d) => uptoBulk d + 1
 end
def uptoSmall : (H : Type) → List (DataW H) → Bool := fun _ ds => decide (uptoBulkAll ds ≤ 1048576)
def OpenSpec.upto (s : _root_.Go.ChangeSpec) : _root_.Go.OpenSpec := { _root_.Go.OpenSpec.ofChange s with cond := some uptoSmall }

/-- 'affiantlaw11.HeadTells', WHERE WHAT IT READS IS OF BULK AT MOST 1048576: true; the input reads as it did. -/
def headTellsUptoRow : OpenClaim := { program := "ytcdpooojocbakaa", sum := "2e753a73d6bd6581bdc32bb248b2b0b933220531e21abe4ce26df08684190afa", func := "affiant/affiantlaw11.HeadTells", spec := "headTells", recurses := true, apart := false, narrowed := true }
def HeadTellsUptoSaid : Prop := headTellsUptoRow.holds Try.pinned (OpenSpec.upto headTellsSpec)

/-- 'affiantlaw11.HeadFields', WHERE WHAT IT READS IS OF BULK AT MOST 1048576: true; the input reads as it did. -/
def headFieldsUptoRow : OpenClaim := { program := "ytcdpooojocbakaa", sum := "2e753a73d6bd6581bdc32bb248b2b0b933220531e21abe4ce26df08684190afa", func := "affiant/affiantlaw11.HeadFields", spec := "headFields", recurses := true, apart := false, narrowed := true }
def HeadFieldsUptoSaid : Prop := headFieldsUptoRow.holds Try.pinned (OpenSpec.upto headFieldsSpec)

/-- 'affiantlaw11.HeadOrder', WHERE WHAT IT READS IS OF BULK AT MOST 1048576: true; the input reads as it did. -/
def headOrderUptoRow : OpenClaim := { program := "ytcdpooojocbakaa", sum := "2e753a73d6bd6581bdc32bb248b2b0b933220531e21abe4ce26df08684190afa", func := "affiant/affiantlaw11.HeadOrder", spec := "headOrder", apart := false, narrowed := true }
def HeadOrderUptoSaid : Prop := headOrderUptoRow.holds Try.pinned (OpenSpec.upto headOrderSpec)

/-- 'affiantlaw4.TreeRuns', WHERE WHAT IT READS IS OF BULK AT MOST 1048576: true; the input reads as it did. -/
def treeRunsUptoRow : OpenClaim := { program := "ytcdpooojocbakaa", sum := "2e753a73d6bd6581bdc32bb248b2b0b933220531e21abe4ce26df08684190afa", func := "affiant/affiantlaw4.TreeRuns", spec := "treeRuns", recurses := true, apart := false, narrowed := true }
def TreeRunsUptoSaid : Prop := treeRunsUptoRow.holds Try.pinned (OpenSpec.upto treeRunsSpec)

/-- 'affiantlaw4.TreeTells', WHERE WHAT IT READS IS OF BULK AT MOST 1048576: true; the input reads as it did. -/
def treeTellsUptoRow : OpenClaim := { program := "ytcdpooojocbakaa", sum := "2e753a73d6bd6581bdc32bb248b2b0b933220531e21abe4ce26df08684190afa", func := "affiant/affiantlaw4.TreeTells", spec := "treeTells", recurses := true, apart := false, narrowed := true }
def TreeTellsUptoSaid : Prop := treeTellsUptoRow.holds Try.pinned (OpenSpec.upto treeTellsSpec)

/-- 'affiantlaw4.TreeUp', WHERE WHAT IT READS IS OF BULK AT MOST 1048576: true; the input reads as it did. -/
def treeUpUptoRow : OpenClaim := { program := "ytcdpooojocbakaa", sum := "2e753a73d6bd6581bdc32bb248b2b0b933220531e21abe4ce26df08684190afa", func := "affiant/affiantlaw4.TreeUp", spec := "treeUp", recurses := true, apart := false, narrowed := true }
def TreeUpUptoSaid : Prop := treeUpUptoRow.holds Try.pinned (OpenSpec.upto treeUpSpec)

/-- 'affiantlaw4.TreeParts', WHERE WHAT IT READS IS OF BULK AT MOST 1048576: true; the input reads as it did. -/
def treePartsUptoRow : OpenClaim := { program := "ytcdpooojocbakaa", sum := "2e753a73d6bd6581bdc32bb248b2b0b933220531e21abe4ce26df08684190afa", func := "affiant/affiantlaw4.TreeParts", spec := "treeParts", recurses := true, apart := false, narrowed := true }
def TreePartsUptoSaid : Prop := treePartsUptoRow.holds Try.pinned (OpenSpec.upto treePartsSpec)

/-- 'affiantlaw4.TreeDepths', WHERE WHAT IT READS IS OF BULK AT MOST 1048576: true; the input reads as it did. -/
def treeDepthsUptoRow : OpenClaim := { program := "ytcdpooojocbakaa", sum := "2e753a73d6bd6581bdc32bb248b2b0b933220531e21abe4ce26df08684190afa", func := "affiant/affiantlaw4.TreeDepths", spec := "treeDepths", recurses := true, apart := false, narrowed := true }
def TreeDepthsUptoSaid : Prop := treeDepthsUptoRow.holds Try.pinned (OpenSpec.upto treeDepthsSpec)

end Rows
end Go.Proofs.Ytcdpooojocbakaa
