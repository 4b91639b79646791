/-
  No cell of these rows narrows 'for every input' (looked for: loops, veiled, ifaces, maps, wideKeys, modest, calm, conditions, laid).
  DERIVED. THE GIVEN ROWS OF THIS SEAT. 6 by the template 'for every input the law returns true; each argument reads behind the call as it read before'; 0 by the template 'total and deterministic' (their statements: YtihmkdjambdfjaaTotals.lean).
  GIVEN WITH THE SEED: the statements are not yours to turn. If you find one false, say at which input.
  Laid BY PROGRAM, IN A SANDBOX (cutbox-rows.mjs): the forced cells as the released guide's own fill.sh prints them over the translation 9e029ab4044b4e88… (all of the seat's roots in one cut). By AI agents, Wed Nov 11 2026. No macro, syntax, notation, axiom, sorry.
-/
import Derived.Test.YtihmkdjambdfjaaChecked
import GoSem.Claim
import GoSem.ClaimJoined
import GoSem.ClaimMapViews
import Derived.JoinedTies
import Derived.KernelRfl
namespace Go.Proofs.Ytihmkdjambdfjaa
/- THE CELL 'sum', in the pinned program and in every row, IS THE sha256 OF THE DUMP (.gsa) THAT YtihmkdjambdfjaaProg.lean LOADS. Nothing in Lean hashes anything: it is a label: what it is worth is what the hold of that sum in a sandbox is worth. -/
noncomputable def Try.pinned : Pinned := { name := "ytihmkdjambdfjaa", sum := "9e029ab4044b4e88cbe64fcc5364fefdb8ffb36e8f19701597b8cedbc40dfd78", checked := Try.checked }
namespace Rows
def none {H : Type} : Left H := { results := [], args := [] }

/-- 'rowlocklaw10.LeafCompare': WHATEVER THE INPUT: true; the input reads as it did. -/
def leafCompareSpec : ChangeSpec := { name := "leafCompare", fn := fun _ => fun
  | [d1, d2, d3] => { results := [.lit (.bool true)], args := [d1, d2, d3] }
  | _ => none }
def leafCompareRow : OpenClaim := { program := "ytihmkdjambdfjaa", sum := "9e029ab4044b4e88cbe64fcc5364fefdb8ffb36e8f19701597b8cedbc40dfd78", func := "rowlock/rowlocklaw10.LeafCompare", spec := "leafCompare", inPlace := ["internal/bytealg.abigen_runtime_cmpstring"], unfollowed := true, recurses := true, apart := false }
def LeafCompareSaid : Prop := leafCompareRow.holds Try.pinned (OpenSpec.ofChange leafCompareSpec)

/-- ITS FALSE NEIGHBOUR: 'it returns false'. Refute it at one input. -/
def leafCompareWrong : ChangeSpec := { name := "leafCompare", fn := fun _ => fun
  | [d1, d2, d3] => { results := [.lit (.bool false)], args := [d1, d2, d3] }
  | _ => none }
def LeafCompareWrongFalsely : Prop := leafCompareRow.holds Try.pinned (OpenSpec.ofChange leafCompareWrong)

/-- 'rowlocklaw10.LeafChild': WHATEVER THE INPUT: true; the input reads as it did. -/
def leafChildSpec : ChangeSpec := { name := "leafChild", fn := fun _ => fun
  | [d1, d2] => { results := [.lit (.bool true)], args := [d1, d2] }
  | _ => none }
def leafChildRow : OpenClaim := { program := "ytihmkdjambdfjaa", sum := "9e029ab4044b4e88cbe64fcc5364fefdb8ffb36e8f19701597b8cedbc40dfd78", func := "rowlock/rowlocklaw10.LeafChild", spec := "leafChild", inPlace := ["internal/bytealg.abigen_runtime_cmpstring"], unfollowed := true, recurses := true, apart := false }
def LeafChildSaid : Prop := leafChildRow.holds Try.pinned (OpenSpec.ofChange leafChildSpec)

/-- ITS FALSE NEIGHBOUR: 'it returns false'. Refute it at one input. -/
def leafChildWrong : ChangeSpec := { name := "leafChild", fn := fun _ => fun
  | [d1, d2] => { results := [.lit (.bool false)], args := [d1, d2] }
  | _ => none }
def LeafChildWrongFalsely : Prop := leafChildRow.holds Try.pinned (OpenSpec.ofChange leafChildWrong)

/-- 'rowlocklaw10.LeafPuts': WHATEVER THE INPUT: true; the input reads as it did. -/
def leafPutsSpec : ChangeSpec := { name := "leafPuts", fn := fun _ => fun
  | [d1, d2] => { results := [.lit (.bool true)], args := [d1, d2] }
  | _ => none }
def leafPutsRow : OpenClaim := { program := "ytihmkdjambdfjaa", sum := "9e029ab4044b4e88cbe64fcc5364fefdb8ffb36e8f19701597b8cedbc40dfd78", func := "rowlock/rowlocklaw10.LeafPuts", spec := "leafPuts", inPlace := ["internal/bytealg.abigen_runtime_cmpstring"], unfollowed := true, recurses := true, apart := false }
def LeafPutsSaid : Prop := leafPutsRow.holds Try.pinned (OpenSpec.ofChange leafPutsSpec)

/-- ITS FALSE NEIGHBOUR: 'it returns false'. Refute it at one input. -/
def leafPutsWrong : ChangeSpec := { name := "leafPuts", fn := fun _ => fun
  | [d1, d2] => { results := [.lit (.bool false)], args := [d1, d2] }
  | _ => none }
def LeafPutsWrongFalsely : Prop := leafPutsRow.holds Try.pinned (OpenSpec.ofChange leafPutsWrong)

/-- 'rowlocklaw10.LeafInner': WHATEVER THE INPUT: true; the input reads as it did. -/
def leafInnerSpec : ChangeSpec := { name := "leafInner", fn := fun _ => fun
  | [d1, d2, d3] => { results := [.lit (.bool true)], args := [d1, d2, d3] }
  | _ => none }
def leafInnerRow : OpenClaim := { program := "ytihmkdjambdfjaa", sum := "9e029ab4044b4e88cbe64fcc5364fefdb8ffb36e8f19701597b8cedbc40dfd78", func := "rowlock/rowlocklaw10.LeafInner", spec := "leafInner", inPlace := ["internal/bytealg.abigen_runtime_cmpstring"], unfollowed := true, recurses := true, apart := false }
def LeafInnerSaid : Prop := leafInnerRow.holds Try.pinned (OpenSpec.ofChange leafInnerSpec)

/-- ITS FALSE NEIGHBOUR: 'it returns false'. Refute it at one input. -/
def leafInnerWrong : ChangeSpec := { name := "leafInner", fn := fun _ => fun
  | [d1, d2, d3] => { results := [.lit (.bool false)], args := [d1, d2, d3] }
  | _ => none }
def LeafInnerWrongFalsely : Prop := leafInnerRow.holds Try.pinned (OpenSpec.ofChange leafInnerWrong)

/-- 'rowlocklaw10.LeafGets': WHATEVER THE INPUT: true; the input reads as it did. -/
def leafGetsSpec : ChangeSpec := { name := "leafGets", fn := fun _ => fun
  | [d1, d2, d3, d4, d5] => { results := [.lit (.bool true)], args := [d1, d2, d3, d4, d5] }
  | _ => none }
def leafGetsRow : OpenClaim := { program := "ytihmkdjambdfjaa", sum := "9e029ab4044b4e88cbe64fcc5364fefdb8ffb36e8f19701597b8cedbc40dfd78", func := "rowlock/rowlocklaw10.LeafGets", spec := "leafGets", inPlace := ["internal/bytealg.abigen_runtime_cmpstring"], unfollowed := true, recurses := true, apart := false }
def LeafGetsSaid : Prop := leafGetsRow.holds Try.pinned (OpenSpec.ofChange leafGetsSpec)

/-- ITS FALSE NEIGHBOUR: 'it returns false'. Refute it at one input. -/
def leafGetsWrong : ChangeSpec := { name := "leafGets", fn := fun _ => fun
  | [d1, d2, d3, d4, d5] => { results := [.lit (.bool false)], args := [d1, d2, d3, d4, d5] }
  | _ => none }
def LeafGetsWrongFalsely : Prop := leafGetsRow.holds Try.pinned (OpenSpec.ofChange leafGetsWrong)

/-- 'rowlocklaw11.BtreeBuilds': WHATEVER THE INPUT: true; the input reads as it did. -/
def btreeBuildsSpec : ChangeSpec := { name := "btreeBuilds", fn := fun _ => fun
  | [d1, d2, d3, d4] => { results := [.lit (.bool true)], args := [d1, d2, d3, d4] }
  | _ => none }
def btreeBuildsRow : OpenClaim := { program := "ytihmkdjambdfjaa", sum := "9e029ab4044b4e88cbe64fcc5364fefdb8ffb36e8f19701597b8cedbc40dfd78", func := "rowlock/rowlocklaw11.BtreeBuilds", spec := "btreeBuilds", inPlace := ["internal/bytealg.abigen_runtime_cmpstring", "sync/atomic.AddUint64"], unfollowed := true, recurses := true, apart := false }
def BtreeBuildsSaid : Prop := btreeBuildsRow.holds Try.pinned (OpenSpec.ofChange btreeBuildsSpec)

/-- ITS FALSE NEIGHBOUR: 'it returns false'. Refute it at one input. -/
def btreeBuildsWrong : ChangeSpec := { name := "btreeBuilds", fn := fun _ => fun
  | [d1, d2, d3, d4] => { results := [.lit (.bool false)], args := [d1, d2, d3, d4] }
  | _ => none }
def BtreeBuildsWrongFalsely : Prop := btreeBuildsRow.holds Try.pinned (OpenSpec.ofChange btreeBuildsWrong)

/- THE SECOND FORM. 'bulk': how many values and letters a reading holds, each counted each time it is reached (what is shared counts as often as it is met; a slice's spare places count too). A statement '..UptoSaid' is the law's where the arguments, and the package variables that the reading takes, are together of bulk at most 1048576: NARROWER than '..Said'. Prove '..Said' where nothing that the law and all that it calls make is longer than what came in: it says more and counts as full. Else prove '..UptoSaid'. A law counts once. -/
mutual
def uptoBulk {H : Type} : DataW H → Nat
  | .lit (.string bytes) => bytes.length + 1
  | .lit _ => 1
  | .nil => 1
  | .ptr d => uptoBulk d + 1
  | .slice elems spare => uptoBulkAll elems + uptoBulkAll spare + 1
  | .agg parts => uptoBulkAll parts + 1
  | .iface _ d => uptoBulk d + 1
  | .map entries => uptoBulkEntries entries + 1
  | .held _ => 1
def uptoBulkAll {H : Type} : List (DataW H) → Nat
  | [] => 0
  | d :: r => uptoBulk d + uptoBulkAll r
def uptoBulkEntries {H : Type} : List (Lit × DataW H) → Nat
  | [] => 0
  | x :: r => uptoBulkEntry x + uptoBulkEntries r
def uptoBulkEntry {H : Type} : Lit × DataW H → Nat
  | (.string bytes, d) => bytes.length + uptoBulk d + 1
  | (_, d) => uptoBulk d + 1
 end
def uptoSmall : (H : Type) → List (DataW H) → Bool := fun _ ds => decide (uptoBulkAll ds ≤ 1048576)
def OpenSpec.upto (s : _root_.Go.ChangeSpec) : _root_.Go.OpenSpec := { _root_.Go.OpenSpec.ofChange s with cond := some uptoSmall }

/-- 'rowlocklaw10.LeafCompare', WHERE WHAT IT READS IS OF BULK AT MOST 1048576: true; the input reads as it did. -/
def leafCompareUptoRow : OpenClaim := { program := "ytihmkdjambdfjaa", sum := "9e029ab4044b4e88cbe64fcc5364fefdb8ffb36e8f19701597b8cedbc40dfd78", func := "rowlock/rowlocklaw10.LeafCompare", spec := "leafCompare", inPlace := ["internal/bytealg.abigen_runtime_cmpstring"], unfollowed := true, recurses := true, apart := false, narrowed := true }
def LeafCompareUptoSaid : Prop := leafCompareUptoRow.holds Try.pinned (OpenSpec.upto leafCompareSpec)

/-- 'rowlocklaw10.LeafChild', WHERE WHAT IT READS IS OF BULK AT MOST 1048576: true; the input reads as it did. -/
def leafChildUptoRow : OpenClaim := { program := "ytihmkdjambdfjaa", sum := "9e029ab4044b4e88cbe64fcc5364fefdb8ffb36e8f19701597b8cedbc40dfd78", func := "rowlock/rowlocklaw10.LeafChild", spec := "leafChild", inPlace := ["internal/bytealg.abigen_runtime_cmpstring"], unfollowed := true, recurses := true, apart := false, narrowed := true }
def LeafChildUptoSaid : Prop := leafChildUptoRow.holds Try.pinned (OpenSpec.upto leafChildSpec)

/-- 'rowlocklaw10.LeafPuts', WHERE WHAT IT READS IS OF BULK AT MOST 1048576: true; the input reads as it did. -/
def leafPutsUptoRow : OpenClaim := { program := "ytihmkdjambdfjaa", sum := "9e029ab4044b4e88cbe64fcc5364fefdb8ffb36e8f19701597b8cedbc40dfd78", func := "rowlock/rowlocklaw10.LeafPuts", spec := "leafPuts", inPlace := ["internal/bytealg.abigen_runtime_cmpstring"], unfollowed := true, recurses := true, apart := false, narrowed := true }
def LeafPutsUptoSaid : Prop := leafPutsUptoRow.holds Try.pinned (OpenSpec.upto leafPutsSpec)

/-- 'rowlocklaw10.LeafInner', WHERE WHAT IT READS IS OF BULK AT MOST 1048576: true; the input reads as it did. -/
def leafInnerUptoRow : OpenClaim := { program := "ytihmkdjambdfjaa", sum := "9e029ab4044b4e88cbe64fcc5364fefdb8ffb36e8f19701597b8cedbc40dfd78", func := "rowlock/rowlocklaw10.LeafInner", spec := "leafInner", inPlace := ["internal/bytealg.abigen_runtime_cmpstring"], unfollowed := true, recurses := true, apart := false, narrowed := true }
def LeafInnerUptoSaid : Prop := leafInnerUptoRow.holds Try.pinned (OpenSpec.upto leafInnerSpec)

/-- 'rowlocklaw10.LeafGets', WHERE WHAT IT READS IS OF BULK AT MOST 1048576: true; the input reads as it did. -/
def leafGetsUptoRow : OpenClaim := { program := "ytihmkdjambdfjaa", sum := "9e029ab4044b4e88cbe64fcc5364fefdb8ffb36e8f19701597b8cedbc40dfd78", func := "rowlock/rowlocklaw10.LeafGets", spec := "leafGets", inPlace := ["internal/bytealg.abigen_runtime_cmpstring"], unfollowed := true, recurses := true, apart := false, narrowed := true }
def LeafGetsUptoSaid : Prop := leafGetsUptoRow.holds Try.pinned (OpenSpec.upto leafGetsSpec)

/-- 'rowlocklaw11.BtreeBuilds', WHERE WHAT IT READS IS OF BULK AT MOST 1048576: true; the input reads as it did. -/
def btreeBuildsUptoRow : OpenClaim := { program := "ytihmkdjambdfjaa", sum := "9e029ab4044b4e88cbe64fcc5364fefdb8ffb36e8f19701597b8cedbc40dfd78", func := "rowlock/rowlocklaw11.BtreeBuilds", spec := "btreeBuilds", inPlace := ["internal/bytealg.abigen_runtime_cmpstring", "sync/atomic.AddUint64"], unfollowed := true, recurses := true, apart := false, narrowed := true }
def BtreeBuildsUptoSaid : Prop := btreeBuildsUptoRow.holds Try.pinned (OpenSpec.upto btreeBuildsSpec)

end Rows
end Go.Proofs.Ytihmkdjambdfjaa
