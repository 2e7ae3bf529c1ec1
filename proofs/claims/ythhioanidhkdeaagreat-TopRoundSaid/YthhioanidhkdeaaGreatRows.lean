/-
  No cell of these rows narrows 'for every input' (looked for: loops, veiled, ifaces, maps, wideKeys, modest, calm, conditions, laid).
  DERIVED. THE GIVEN ROWS OF THIS SEAT. 8 by the template 'for every input the law returns true; each argument reads behind the call as it read before'; 0 by the template 'total and deterministic' (their statements: YthhioanidhkdeaaGreatTotals.lean).
  GIVEN WITH THE SEED: the statements are not yours to turn. If you find one false, say at which input.
  Laid BY PROGRAM, IN A SANDBOX (cutbox-rows.mjs): the forced cells as the released guide's own fill.sh prints them over the translation 8118fbcedcdda542… (all of the seat's roots in one cut). By AI agents, Wed Nov 11 2026. No macro, syntax, notation, axiom, sorry.
-/
import Derived.Test.YthhioanidhkdeaaGreatChecked
import GoSem.Claim
import GoSem.ClaimJoined
import GoSem.ClaimMapViews
import Derived.JoinedTies
import Derived.KernelRfl
namespace Go.Proofs.YthhioanidhkdeaaGreat
/- THE CELL 'sum', in the pinned program and in every row, IS THE sha256 OF THE DUMP (.gsa) THAT YthhioanidhkdeaaGreatProg.lean LOADS. Nothing in Lean hashes anything: it is a label: what it is worth is what the hold of that sum in a sandbox is worth. -/
noncomputable def Tryz.pinned : Pinned := { name := "ythhioanidhkdeaagreat", sum := "8118fbcedcdda54286b28f5b588ac7889e89807e535a96931523537ba8ddfb60", checked := Tryz.checked }
namespace Rows
def none {H : Type} : Left H := { results := [], args := [] }

/-- 'affianttop.TopProofs': WHATEVER THE INPUT: true; the input reads as it did. -/
def topProofsSpec : ChangeSpec := { name := "topProofs", fn := fun _ => fun
  | [d1, d2, d3, d4] => { results := [.lit (.bool true)], args := [d1, d2, d3, d4] }
  | _ => none }
def topProofsRow : OpenClaim := { program := "ythhioanidhkdeaagreat", sum := "8118fbcedcdda54286b28f5b588ac7889e89807e535a96931523537ba8ddfb60", func := "affiant/affianttop.TopProofs", spec := "topProofs", inPlace := ["internal/bytealg.abigen_runtime_cmpstring", "maps.clone"], unfollowed := true, recurses := true, plainKeys := false, apart := false }
def TopProofsSaid : Prop := topProofsRow.holds Tryz.pinned (OpenSpec.ofChange topProofsSpec)

/-- ITS FALSE NEIGHBOUR: 'it returns false'. Refute it at one input. -/
def topProofsWrong : ChangeSpec := { name := "topProofs", fn := fun _ => fun
  | [d1, d2, d3, d4] => { results := [.lit (.bool false)], args := [d1, d2, d3, d4] }
  | _ => none }
def TopProofsWrongFalsely : Prop := topProofsRow.holds Tryz.pinned (OpenSpec.ofChange topProofsWrong)

/-- 'affianttop.TopAbsent': WHATEVER THE INPUT: true; the input reads as it did. -/
def topAbsentSpec : ChangeSpec := { name := "topAbsent", fn := fun _ => fun
  | [d1, d2] => { results := [.lit (.bool true)], args := [d1, d2] }
  | _ => none }
def topAbsentRow : OpenClaim := { program := "ythhioanidhkdeaagreat", sum := "8118fbcedcdda54286b28f5b588ac7889e89807e535a96931523537ba8ddfb60", func := "affiant/affianttop.TopAbsent", spec := "topAbsent", inPlace := ["internal/bytealg.abigen_runtime_cmpstring", "maps.clone"], unfollowed := true, recurses := true, plainKeys := false, apart := false }
def TopAbsentSaid : Prop := topAbsentRow.holds Tryz.pinned (OpenSpec.ofChange topAbsentSpec)

/-- ITS FALSE NEIGHBOUR: 'it returns false'. Refute it at one input. -/
def topAbsentWrong : ChangeSpec := { name := "topAbsent", fn := fun _ => fun
  | [d1, d2] => { results := [.lit (.bool false)], args := [d1, d2] }
  | _ => none }
def TopAbsentWrongFalsely : Prop := topAbsentRow.holds Tryz.pinned (OpenSpec.ofChange topAbsentWrong)

/-- 'affianttop.TopKept': WHATEVER THE INPUT: true; the input reads as it did. -/
def topKeptSpec : ChangeSpec := { name := "topKept", fn := fun _ => fun
  | [d1, d2] => { results := [.lit (.bool true)], args := [d1, d2] }
  | _ => none }
def topKeptRow : OpenClaim := { program := "ythhioanidhkdeaagreat", sum := "8118fbcedcdda54286b28f5b588ac7889e89807e535a96931523537ba8ddfb60", func := "affiant/affianttop.TopKept", spec := "topKept", inPlace := ["internal/bytealg.abigen_runtime_cmpstring", "maps.clone"], unfollowed := true, recurses := true, plainKeys := false, apart := false }
def TopKeptSaid : Prop := topKeptRow.holds Tryz.pinned (OpenSpec.ofChange topKeptSpec)

/-- ITS FALSE NEIGHBOUR: 'it returns false'. Refute it at one input. -/
def topKeptWrong : ChangeSpec := { name := "topKept", fn := fun _ => fun
  | [d1, d2] => { results := [.lit (.bool false)], args := [d1, d2] }
  | _ => none }
def TopKeptWrongFalsely : Prop := topKeptRow.holds Tryz.pinned (OpenSpec.ofChange topKeptWrong)

/-- 'affianttop.TopUsers': WHATEVER THE INPUT: true; the input reads as it did. -/
def topUsersSpec : ChangeSpec := { name := "topUsers", fn := fun _ => fun
  | [d1, d2, d3] => { results := [.lit (.bool true)], args := [d1, d2, d3] }
  | _ => none }
def topUsersRow : OpenClaim := { program := "ythhioanidhkdeaagreat", sum := "8118fbcedcdda54286b28f5b588ac7889e89807e535a96931523537ba8ddfb60", func := "affiant/affianttop.TopUsers", spec := "topUsers", inPlace := ["internal/bytealg.abigen_runtime_cmpstring", "maps.clone"], unfollowed := true, recurses := true, plainKeys := false, apart := false }
def TopUsersSaid : Prop := topUsersRow.holds Tryz.pinned (OpenSpec.ofChange topUsersSpec)

/-- ITS FALSE NEIGHBOUR: 'it returns false'. Refute it at one input. -/
def topUsersWrong : ChangeSpec := { name := "topUsers", fn := fun _ => fun
  | [d1, d2, d3] => { results := [.lit (.bool false)], args := [d1, d2, d3] }
  | _ => none }
def TopUsersWrongFalsely : Prop := topUsersRow.holds Tryz.pinned (OpenSpec.ofChange topUsersWrong)

/-- 'affianttop.TopSlash': WHATEVER THE INPUT: true; the input reads as it did. -/
def topSlashSpec : ChangeSpec := { name := "topSlash", fn := fun _ => fun
  | [d1, d2, d3, d4] => { results := [.lit (.bool true)], args := [d1, d2, d3, d4] }
  | _ => none }
def topSlashRow : OpenClaim := { program := "ythhioanidhkdeaagreat", sum := "8118fbcedcdda54286b28f5b588ac7889e89807e535a96931523537ba8ddfb60", func := "affiant/affianttop.TopSlash", spec := "topSlash", inPlace := ["internal/bytealg.abigen_runtime_cmpstring", "maps.clone"], unfollowed := true, recurses := true, plainKeys := false, apart := false }
def TopSlashSaid : Prop := topSlashRow.holds Tryz.pinned (OpenSpec.ofChange topSlashSpec)

/-- ITS FALSE NEIGHBOUR: 'it returns false'. Refute it at one input. -/
def topSlashWrong : ChangeSpec := { name := "topSlash", fn := fun _ => fun
  | [d1, d2, d3, d4] => { results := [.lit (.bool false)], args := [d1, d2, d3, d4] }
  | _ => none }
def TopSlashWrongFalsely : Prop := topSlashRow.holds Tryz.pinned (OpenSpec.ofChange topSlashWrong)

/-- 'affianttop.TopRound': WHATEVER THE INPUT: true; the input reads as it did. -/
def topRoundSpec : ChangeSpec := { name := "topRound", fn := fun _ => fun
  | [d1, d2] => { results := [.lit (.bool true)], args := [d1, d2] }
  | _ => none }
def topRoundRow : OpenClaim := { program := "ythhioanidhkdeaagreat", sum := "8118fbcedcdda54286b28f5b588ac7889e89807e535a96931523537ba8ddfb60", func := "affiant/affianttop.TopRound", spec := "topRound", inPlace := ["maps.clone", "internal/bytealg.abigen_runtime_cmpstring"], unfollowed := true, recurses := true, plainKeys := false, apart := false }
def TopRoundSaid : Prop := topRoundRow.holds Tryz.pinned (OpenSpec.ofChange topRoundSpec)

/-- ITS FALSE NEIGHBOUR: 'it returns false'. Refute it at one input. -/
def topRoundWrong : ChangeSpec := { name := "topRound", fn := fun _ => fun
  | [d1, d2] => { results := [.lit (.bool false)], args := [d1, d2] }
  | _ => none }
def TopRoundWrongFalsely : Prop := topRoundRow.holds Tryz.pinned (OpenSpec.ofChange topRoundWrong)

/-- 'affianttop.TopChain': WHATEVER THE INPUT: true; the input reads as it did. -/
def topChainSpec : ChangeSpec := { name := "topChain", fn := fun _ => fun
  | [d1, d2] => { results := [.lit (.bool true)], args := [d1, d2] }
  | _ => none }
def topChainRow : OpenClaim := { program := "ythhioanidhkdeaagreat", sum := "8118fbcedcdda54286b28f5b588ac7889e89807e535a96931523537ba8ddfb60", func := "affiant/affianttop.TopChain", spec := "topChain", inPlace := ["internal/bytealg.abigen_runtime_cmpstring", "maps.clone"], unfollowed := true, recurses := true, plainKeys := false, apart := false }
def TopChainSaid : Prop := topChainRow.holds Tryz.pinned (OpenSpec.ofChange topChainSpec)

/-- ITS FALSE NEIGHBOUR: 'it returns false'. Refute it at one input. -/
def topChainWrong : ChangeSpec := { name := "topChain", fn := fun _ => fun
  | [d1, d2] => { results := [.lit (.bool false)], args := [d1, d2] }
  | _ => none }
def TopChainWrongFalsely : Prop := topChainRow.holds Tryz.pinned (OpenSpec.ofChange topChainWrong)

/-- 'affianttop.TopMany': WHATEVER THE INPUT: true; the input reads as it did. -/
def topManySpec : ChangeSpec := { name := "topMany", fn := fun _ => fun
  | [d1, d2] => { results := [.lit (.bool true)], args := [d1, d2] }
  | _ => none }
def topManyRow : OpenClaim := { program := "ythhioanidhkdeaagreat", sum := "8118fbcedcdda54286b28f5b588ac7889e89807e535a96931523537ba8ddfb60", func := "affiant/affianttop.TopMany", spec := "topMany", inPlace := ["internal/bytealg.abigen_runtime_cmpstring", "maps.clone"], unfollowed := true, recurses := true, plainKeys := false, apart := false }
def TopManySaid : Prop := topManyRow.holds Tryz.pinned (OpenSpec.ofChange topManySpec)

/-- ITS FALSE NEIGHBOUR: 'it returns false'. Refute it at one input. -/
def topManyWrong : ChangeSpec := { name := "topMany", fn := fun _ => fun
  | [d1, d2] => { results := [.lit (.bool false)], args := [d1, d2] }
  | _ => none }
def TopManyWrongFalsely : Prop := topManyRow.holds Tryz.pinned (OpenSpec.ofChange topManyWrong)

/- THE SECOND FORM. 'bulk': how many values and letters a reading holds, each counted each time it is reached (what is shared counts as often as it is met; a slice's spare places count too). A statement '..UptoSaid' is the law's where the arguments, and the package variables that the reading takes, are together of bulk at most 1048576: NARROWER than '..Said'. Prove '..Said' where nothing that the law and all that it calls make is longer than what came in: it says more and counts as full. Else prove '..UptoSaid'. A law counts once. -/
mutual
def uptoBulk {H : Type} : DataW H → Nat
  | .lit (.string bytes) => bytes.length + 1
  | .lit _ => 1
  | .nil => 1
  | .ptr d => uptoBulk d + 1
  | .slice elems spare => uptoBulkAll elems + uptoBulkAll spare + 1
  | .agg parts => uptoBulkAll parts + 1
  | .iface _ d => uptoBulk d + 1
  | .map entries => uptoBulkEntries entries + 1
  | .held _ => 1
def uptoBulkAll {H : Type} : List (DataW H) → Nat
  | [] => 0
  | d :: r => uptoBulk d + uptoBulkAll r
def uptoBulkEntries {H : Type} : List (Lit × DataW H) → Nat
  | [] => 0
  | x :: r => uptoBulkEntry x + uptoBulkEntries r
def uptoBulkEntry {H : Type} : Lit × DataW H → Nat
  | (.string bytes, d) => bytes.length + uptoBulk d + 1
  | (_, d) => uptoBulk d + 1
 end
def uptoSmall : (H : Type) → List (DataW H) → Bool := fun _ ds => decide (uptoBulkAll ds ≤ 1048576)
def OpenSpec.upto (s : _root_.Go.ChangeSpec) : _root_.Go.OpenSpec := { _root_.Go.OpenSpec.ofChange s with cond := some uptoSmall }

/-- 'affianttop.TopProofs', WHERE WHAT IT READS IS OF BULK AT MOST 1048576: true; the input reads as it did. -/
def topProofsUptoRow : OpenClaim := { program := "ythhioanidhkdeaagreat", sum := "8118fbcedcdda54286b28f5b588ac7889e89807e535a96931523537ba8ddfb60", func := "affiant/affianttop.TopProofs", spec := "topProofs", inPlace := ["internal/bytealg.abigen_runtime_cmpstring", "maps.clone"], unfollowed := true, recurses := true, plainKeys := false, apart := false, narrowed := true }
def TopProofsUptoSaid : Prop := topProofsUptoRow.holds Tryz.pinned (OpenSpec.upto topProofsSpec)

/-- 'affianttop.TopAbsent', WHERE WHAT IT READS IS OF BULK AT MOST 1048576: true; the input reads as it did. -/
def topAbsentUptoRow : OpenClaim := { program := "ythhioanidhkdeaagreat", sum := "8118fbcedcdda54286b28f5b588ac7889e89807e535a96931523537ba8ddfb60", func := "affiant/affianttop.TopAbsent", spec := "topAbsent", inPlace := ["internal/bytealg.abigen_runtime_cmpstring", "maps.clone"], unfollowed := true, recurses := true, plainKeys := false, apart := false, narrowed := true }
def TopAbsentUptoSaid : Prop := topAbsentUptoRow.holds Tryz.pinned (OpenSpec.upto topAbsentSpec)

/-- 'affianttop.TopKept', WHERE WHAT IT READS IS OF BULK AT MOST 1048576: true; the input reads as it did. -/
def topKeptUptoRow : OpenClaim := { program := "ythhioanidhkdeaagreat", sum := "8118fbcedcdda54286b28f5b588ac7889e89807e535a96931523537ba8ddfb60", func := "affiant/affianttop.TopKept", spec := "topKept", inPlace := ["internal/bytealg.abigen_runtime_cmpstring", "maps.clone"], unfollowed := true, recurses := true, plainKeys := false, apart := false, narrowed := true }
def TopKeptUptoSaid : Prop := topKeptUptoRow.holds Tryz.pinned (OpenSpec.upto topKeptSpec)

/-- 'affianttop.TopUsers', WHERE WHAT IT READS IS OF BULK AT MOST 1048576: true; the input reads as it did. -/
def topUsersUptoRow : OpenClaim := { program := "ythhioanidhkdeaagreat", sum := "8118fbcedcdda54286b28f5b588ac7889e89807e535a96931523537ba8ddfb60", func := "affiant/affianttop.TopUsers", spec := "topUsers", inPlace := ["internal/bytealg.abigen_runtime_cmpstring", "maps.clone"], unfollowed := true, recurses := true, plainKeys := false, apart := false, narrowed := true }
def TopUsersUptoSaid : Prop := topUsersUptoRow.holds Tryz.pinned (OpenSpec.upto topUsersSpec)

/-- 'affianttop.TopSlash', WHERE WHAT IT READS IS OF BULK AT MOST 1048576: true; the input reads as it did. -/
def topSlashUptoRow : OpenClaim := { program := "ythhioanidhkdeaagreat", sum := "8118fbcedcdda54286b28f5b588ac7889e89807e535a96931523537ba8ddfb60", func := "affiant/affianttop.TopSlash", spec := "topSlash", inPlace := ["internal/bytealg.abigen_runtime_cmpstring", "maps.clone"], unfollowed := true, recurses := true, plainKeys := false, apart := false, narrowed := true }
def TopSlashUptoSaid : Prop := topSlashUptoRow.holds Tryz.pinned (OpenSpec.upto topSlashSpec)

/-- 'affianttop.TopRound', WHERE WHAT IT READS IS OF BULK AT MOST 1048576: true; the input reads as it did. -/
def topRoundUptoRow : OpenClaim := { program := "ythhioanidhkdeaagreat", sum := "8118fbcedcdda54286b28f5b588ac7889e89807e535a96931523537ba8ddfb60", func := "affiant/affianttop.TopRound", spec := "topRound", inPlace := ["maps.clone", "internal/bytealg.abigen_runtime_cmpstring"], unfollowed := true, recurses := true, plainKeys := false, apart := false, narrowed := true }
def TopRoundUptoSaid : Prop := topRoundUptoRow.holds Tryz.pinned (OpenSpec.upto topRoundSpec)

/-- 'affianttop.TopChain', WHERE WHAT IT READS IS OF BULK AT MOST 1048576: true; the input reads as it did. -/
def topChainUptoRow : OpenClaim := { program := "ythhioanidhkdeaagreat", sum := "8118fbcedcdda54286b28f5b588ac7889e89807e535a96931523537ba8ddfb60", func := "affiant/affianttop.TopChain", spec := "topChain", inPlace := ["internal/bytealg.abigen_runtime_cmpstring", "maps.clone"], unfollowed := true, recurses := true, plainKeys := false, apart := false, narrowed := true }
def TopChainUptoSaid : Prop := topChainUptoRow.holds Tryz.pinned (OpenSpec.upto topChainSpec)

/-- 'affianttop.TopMany', WHERE WHAT IT READS IS OF BULK AT MOST 1048576: true; the input reads as it did. -/
def topManyUptoRow : OpenClaim := { program := "ythhioanidhkdeaagreat", sum := "8118fbcedcdda54286b28f5b588ac7889e89807e535a96931523537ba8ddfb60", func := "affiant/affianttop.TopMany", spec := "topMany", inPlace := ["internal/bytealg.abigen_runtime_cmpstring", "maps.clone"], unfollowed := true, recurses := true, plainKeys := false, apart := false, narrowed := true }
def TopManyUptoSaid : Prop := topManyUptoRow.holds Tryz.pinned (OpenSpec.upto topManySpec)

end Rows
end Go.Proofs.YthhioanidhkdeaaGreat
