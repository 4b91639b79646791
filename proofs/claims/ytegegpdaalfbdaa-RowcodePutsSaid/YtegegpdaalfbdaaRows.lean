/-
  No cell of these rows narrows 'for every input' (looked for: loops, veiled, ifaces, maps, wideKeys, modest, calm, conditions, laid).
  DERIVED. THE GIVEN ROWS OF THIS SEAT. 8 by the template 'for every input the law returns true; each argument reads behind the call as it read before'; 0 by the template 'total and deterministic' (their statements: YtegegpdaalfbdaaTotals.lean).
  GIVEN WITH THE SEED: the statements are not yours to turn. If you find one false, say at which input.
  Laid BY PROGRAM, IN A SANDBOX (cutbox-rows.mjs): the forced cells as the released guide's own fill.sh prints them over the translation 025eaa983f51362a… (all of the seat's roots in one cut). By AI agents, Wed Nov 11 2026. No macro, syntax, notation, axiom, sorry.
-/
import Derived.Test.YtegegpdaalfbdaaChecked
import GoSem.Claim
import GoSem.ClaimJoined
import GoSem.ClaimMapViews
import Derived.JoinedTies
import Derived.KernelRfl
namespace Go.Proofs.Ytegegpdaalfbdaa
/- THE CELL 'sum', in the pinned program and in every row, IS THE sha256 OF THE DUMP (.gsa) THAT YtegegpdaalfbdaaProg.lean LOADS. Nothing in Lean hashes anything: it is a label: what it is worth is what the hold of that sum in a sandbox is worth. -/
noncomputable def Try.pinned : Pinned := { name := "ytegegpdaalfbdaa", sum := "025eaa983f51362a9968bae614bcccd3dabb43dfa3077088486308a1150a6d34", checked := Try.checked }
namespace Rows
def none {H : Type} : Left H := { results := [], args := [] }

/-- 'rowlocklaw02.LogicIs': WHATEVER THE INPUT: true; the input reads as it did. -/
def logicIsSpec : ChangeSpec := { name := "logicIs", fn := fun _ => fun
  | [d1, d2] => { results := [.lit (.bool true)], args := [d1, d2] }
  | _ => none }
def logicIsRow : OpenClaim := { program := "ytegegpdaalfbdaa", sum := "025eaa983f51362a9968bae614bcccd3dabb43dfa3077088486308a1150a6d34", func := "rowlock/rowlocklaw02.LogicIs", spec := "logicIs", apart := false }
def LogicIsSaid : Prop := logicIsRow.holds Try.pinned (OpenSpec.ofChange logicIsSpec)

/-- ITS FALSE NEIGHBOUR: 'it returns false'. Refute it at one input. -/
def logicIsWrong : ChangeSpec := { name := "logicIs", fn := fun _ => fun
  | [d1, d2] => { results := [.lit (.bool false)], args := [d1, d2] }
  | _ => none }
def LogicIsWrongFalsely : Prop := logicIsRow.holds Try.pinned (OpenSpec.ofChange logicIsWrong)

/-- 'rowlocklaw02.LogicOrder': WHATEVER THE INPUT: true; the input reads as it did. -/
def logicOrderSpec : ChangeSpec := { name := "logicOrder", fn := fun _ => fun
  | [d1, d2] => { results := [.lit (.bool true)], args := [d1, d2] }
  | _ => none }
def logicOrderRow : OpenClaim := { program := "ytegegpdaalfbdaa", sum := "025eaa983f51362a9968bae614bcccd3dabb43dfa3077088486308a1150a6d34", func := "rowlock/rowlocklaw02.LogicOrder", spec := "logicOrder", apart := false }
def LogicOrderSaid : Prop := logicOrderRow.holds Try.pinned (OpenSpec.ofChange logicOrderSpec)

/-- ITS FALSE NEIGHBOUR: 'it returns false'. Refute it at one input. -/
def logicOrderWrong : ChangeSpec := { name := "logicOrder", fn := fun _ => fun
  | [d1, d2] => { results := [.lit (.bool false)], args := [d1, d2] }
  | _ => none }
def LogicOrderWrongFalsely : Prop := logicOrderRow.holds Try.pinned (OpenSpec.ofChange logicOrderWrong)

/-- 'rowlocklaw02.LogicTurned': WHATEVER THE INPUT: true; the input reads as it did. -/
def logicTurnedSpec : ChangeSpec := { name := "logicTurned", fn := fun _ => fun
  | [d] => { results := [.lit (.bool true)], args := [d] }
  | _ => none }
def logicTurnedRow : OpenClaim := { program := "ytegegpdaalfbdaa", sum := "025eaa983f51362a9968bae614bcccd3dabb43dfa3077088486308a1150a6d34", func := "rowlock/rowlocklaw02.LogicTurned", spec := "logicTurned", apart := false }
def LogicTurnedSaid : Prop := logicTurnedRow.holds Try.pinned (OpenSpec.ofChange logicTurnedSpec)

/-- ITS FALSE NEIGHBOUR: 'it returns false'. Refute it at one input. -/
def logicTurnedWrong : ChangeSpec := { name := "logicTurned", fn := fun _ => fun
  | [d] => { results := [.lit (.bool false)], args := [d] }
  | _ => none }
def LogicTurnedWrongFalsely : Prop := logicTurnedRow.holds Try.pinned (OpenSpec.ofChange logicTurnedWrong)

/-- 'rowlocklaw02.LogicValues': WHATEVER THE INPUT: true; the input reads as it did. -/
def logicValuesSpec : ChangeSpec := { name := "logicValues", fn := fun _ => fun
  | [d1, d2] => { results := [.lit (.bool true)], args := [d1, d2] }
  | _ => none }
def logicValuesRow : OpenClaim := { program := "ytegegpdaalfbdaa", sum := "025eaa983f51362a9968bae614bcccd3dabb43dfa3077088486308a1150a6d34", func := "rowlock/rowlocklaw02.LogicValues", spec := "logicValues", apart := false }
def LogicValuesSaid : Prop := logicValuesRow.holds Try.pinned (OpenSpec.ofChange logicValuesSpec)

/-- ITS FALSE NEIGHBOUR: 'it returns false'. Refute it at one input. -/
def logicValuesWrong : ChangeSpec := { name := "logicValues", fn := fun _ => fun
  | [d1, d2] => { results := [.lit (.bool false)], args := [d1, d2] }
  | _ => none }
def LogicValuesWrongFalsely : Prop := logicValuesRow.holds Try.pinned (OpenSpec.ofChange logicValuesWrong)

/-- 'rowlocklaw02.LogicTest': WHATEVER THE INPUT: true; the input reads as it did. -/
def logicTestSpec : ChangeSpec := { name := "logicTest", fn := fun _ => fun
  | [d1, d2, d3] => { results := [.lit (.bool true)], args := [d1, d2, d3] }
  | _ => none }
def logicTestRow : OpenClaim := { program := "ytegegpdaalfbdaa", sum := "025eaa983f51362a9968bae614bcccd3dabb43dfa3077088486308a1150a6d34", func := "rowlock/rowlocklaw02.LogicTest", spec := "logicTest", inPlace := ["internal/bytealg.abigen_runtime_cmpstring"], apart := false }
def LogicTestSaid : Prop := logicTestRow.holds Try.pinned (OpenSpec.ofChange logicTestSpec)

/-- ITS FALSE NEIGHBOUR: 'it returns false'. Refute it at one input. -/
def logicTestWrong : ChangeSpec := { name := "logicTest", fn := fun _ => fun
  | [d1, d2, d3] => { results := [.lit (.bool false)], args := [d1, d2, d3] }
  | _ => none }
def LogicTestWrongFalsely : Prop := logicTestRow.holds Try.pinned (OpenSpec.ofChange logicTestWrong)

/-- 'rowlocklaw04.RowcodeFits': WHATEVER THE INPUT: true; the input reads as it did. -/
def rowcodeFitsSpec : ChangeSpec := { name := "rowcodeFits", fn := fun _ => fun
  | [d1, d2] => { results := [.lit (.bool true)], args := [d1, d2] }
  | _ => none }
def rowcodeFitsRow : OpenClaim := { program := "ytegegpdaalfbdaa", sum := "025eaa983f51362a9968bae614bcccd3dabb43dfa3077088486308a1150a6d34", func := "rowlock/rowlocklaw04.RowcodeFits", spec := "rowcodeFits", unfollowed := true, recurses := true, apart := false }
def RowcodeFitsSaid : Prop := rowcodeFitsRow.holds Try.pinned (OpenSpec.ofChange rowcodeFitsSpec)

/-- ITS FALSE NEIGHBOUR: 'it returns false'. Refute it at one input. -/
def rowcodeFitsWrong : ChangeSpec := { name := "rowcodeFits", fn := fun _ => fun
  | [d1, d2] => { results := [.lit (.bool false)], args := [d1, d2] }
  | _ => none }
def RowcodeFitsWrongFalsely : Prop := rowcodeFitsRow.holds Try.pinned (OpenSpec.ofChange rowcodeFitsWrong)

/-- 'rowlocklaw04.RowcodeGets': WHATEVER THE INPUT: true; the input reads as it did. -/
def rowcodeGetsSpec : ChangeSpec := { name := "rowcodeGets", fn := fun _ => fun
  | [d] => { results := [.lit (.bool true)], args := [d] }
  | _ => none }
def rowcodeGetsRow : OpenClaim := { program := "ytegegpdaalfbdaa", sum := "025eaa983f51362a9968bae614bcccd3dabb43dfa3077088486308a1150a6d34", func := "rowlock/rowlocklaw04.RowcodeGets", spec := "rowcodeGets", unfollowed := true, recurses := true, apart := false }
def RowcodeGetsSaid : Prop := rowcodeGetsRow.holds Try.pinned (OpenSpec.ofChange rowcodeGetsSpec)

/-- ITS FALSE NEIGHBOUR: 'it returns false'. Refute it at one input. -/
def rowcodeGetsWrong : ChangeSpec := { name := "rowcodeGets", fn := fun _ => fun
  | [d] => { results := [.lit (.bool false)], args := [d] }
  | _ => none }
def RowcodeGetsWrongFalsely : Prop := rowcodeGetsRow.holds Try.pinned (OpenSpec.ofChange rowcodeGetsWrong)

/-- 'rowlocklaw04.RowcodePuts': WHATEVER THE INPUT: true; the input reads as it did. -/
def rowcodePutsSpec : ChangeSpec := { name := "rowcodePuts", fn := fun _ => fun
  | [d] => { results := [.lit (.bool true)], args := [d] }
  | _ => none }
def rowcodePutsRow : OpenClaim := { program := "ytegegpdaalfbdaa", sum := "025eaa983f51362a9968bae614bcccd3dabb43dfa3077088486308a1150a6d34", func := "rowlock/rowlocklaw04.RowcodePuts", spec := "rowcodePuts", unfollowed := true, recurses := true, apart := false }
def RowcodePutsSaid : Prop := rowcodePutsRow.holds Try.pinned (OpenSpec.ofChange rowcodePutsSpec)

/-- ITS FALSE NEIGHBOUR: 'it returns false'. Refute it at one input. -/
def rowcodePutsWrong : ChangeSpec := { name := "rowcodePuts", fn := fun _ => fun
  | [d] => { results := [.lit (.bool false)], args := [d] }
  | _ => none }
def RowcodePutsWrongFalsely : Prop := rowcodePutsRow.holds Try.pinned (OpenSpec.ofChange rowcodePutsWrong)

/- THE SECOND FORM. 'bulk': how many values and letters a reading holds, each counted each time it is reached (what is shared counts as often as it is met; a slice's spare places count too). A statement '..UptoSaid' is the law's where the arguments, and the package variables that the reading takes, are together of bulk at most 1048576: NARROWER than '..Said'. Prove '..Said' where nothing that the law and all that it calls make is longer than what came in: it says more and counts as full. Else prove '..UptoSaid'. A law counts once. -/
mutual
def uptoBulk {H : Type} : DataW H → Nat
  | .lit (.string bytes) => bytes.length + 1
  | .lit _ => 1
  | .nil => 1
  | .ptr d => uptoBulk d + 1
  | .slice elems spare => uptoBulkAll elems + uptoBulkAll spare + 1
  | .agg parts => uptoBulkAll parts + 1
  | .iface _ d => uptoBulk d + 1
  | .map entries => uptoBulkEntries entries + 1
  | .held _ => 1
def uptoBulkAll {H : Type} : List (DataW H) → Nat
  | [] => 0
  | d :: r => uptoBulk d + uptoBulkAll r
def uptoBulkEntries {H : Type} : List (Lit × DataW H) → Nat
  | [] => 0
  | x :: r => uptoBulkEntry x + uptoBulkEntries r
def uptoBulkEntry {H : Type} : Lit × DataW H → Nat
  | (.string bytes, d) => bytes.length + uptoBulk d + 1
  | (_, d) => uptoBulk d + 1
 end
def uptoSmall : (H : Type) → List (DataW H) → Bool := fun _ ds => decide (uptoBulkAll ds ≤ 1048576)
def OpenSpec.upto (s : _root_.Go.ChangeSpec) : _root_.Go.OpenSpec := { _root_.Go.OpenSpec.ofChange s with cond := some uptoSmall }

/-- 'rowlocklaw02.LogicIs', WHERE WHAT IT READS IS OF BULK AT MOST 1048576: true; the input reads as it did. -/
def logicIsUptoRow : OpenClaim := { program := "ytegegpdaalfbdaa", sum := "025eaa983f51362a9968bae614bcccd3dabb43dfa3077088486308a1150a6d34", func := "rowlock/rowlocklaw02.LogicIs", spec := "logicIs", apart := false, narrowed := true }
def LogicIsUptoSaid : Prop := logicIsUptoRow.holds Try.pinned (OpenSpec.upto logicIsSpec)

/-- 'rowlocklaw02.LogicOrder', WHERE WHAT IT READS IS OF BULK AT MOST 1048576: true; the input reads as it did. -/
def logicOrderUptoRow : OpenClaim := { program := "ytegegpdaalfbdaa", sum := "025eaa983f51362a9968bae614bcccd3dabb43dfa3077088486308a1150a6d34", func := "rowlock/rowlocklaw02.LogicOrder", spec := "logicOrder", apart := false, narrowed := true }
def LogicOrderUptoSaid : Prop := logicOrderUptoRow.holds Try.pinned (OpenSpec.upto logicOrderSpec)

/-- 'rowlocklaw02.LogicTurned', WHERE WHAT IT READS IS OF BULK AT MOST 1048576: true; the input reads as it did. -/
def logicTurnedUptoRow : OpenClaim := { program := "ytegegpdaalfbdaa", sum := "025eaa983f51362a9968bae614bcccd3dabb43dfa3077088486308a1150a6d34", func := "rowlock/rowlocklaw02.LogicTurned", spec := "logicTurned", apart := false, narrowed := true }
def LogicTurnedUptoSaid : Prop := logicTurnedUptoRow.holds Try.pinned (OpenSpec.upto logicTurnedSpec)

/-- 'rowlocklaw02.LogicValues', WHERE WHAT IT READS IS OF BULK AT MOST 1048576: true; the input reads as it did. -/
def logicValuesUptoRow : OpenClaim := { program := "ytegegpdaalfbdaa", sum := "025eaa983f51362a9968bae614bcccd3dabb43dfa3077088486308a1150a6d34", func := "rowlock/rowlocklaw02.LogicValues", spec := "logicValues", apart := false, narrowed := true }
def LogicValuesUptoSaid : Prop := logicValuesUptoRow.holds Try.pinned (OpenSpec.upto logicValuesSpec)

/-- 'rowlocklaw02.LogicTest', WHERE WHAT IT READS IS OF BULK AT MOST 1048576: true; the input reads as it did. -/
def logicTestUptoRow : OpenClaim := { program := "ytegegpdaalfbdaa", sum := "025eaa983f51362a9968bae614bcccd3dabb43dfa3077088486308a1150a6d34", func := "rowlock/rowlocklaw02.LogicTest", spec := "logicTest", inPlace := ["internal/bytealg.abigen_runtime_cmpstring"], apart := false, narrowed := true }
def LogicTestUptoSaid : Prop := logicTestUptoRow.holds Try.pinned (OpenSpec.upto logicTestSpec)

/-- 'rowlocklaw04.RowcodeFits', WHERE WHAT IT READS IS OF BULK AT MOST 1048576: true; the input reads as it did. -/
def rowcodeFitsUptoRow : OpenClaim := { program := "ytegegpdaalfbdaa", sum := "025eaa983f51362a9968bae614bcccd3dabb43dfa3077088486308a1150a6d34", func := "rowlock/rowlocklaw04.RowcodeFits", spec := "rowcodeFits", unfollowed := true, recurses := true, apart := false, narrowed := true }
def RowcodeFitsUptoSaid : Prop := rowcodeFitsUptoRow.holds Try.pinned (OpenSpec.upto rowcodeFitsSpec)

/-- 'rowlocklaw04.RowcodeGets', WHERE WHAT IT READS IS OF BULK AT MOST 1048576: true; the input reads as it did. -/
def rowcodeGetsUptoRow : OpenClaim := { program := "ytegegpdaalfbdaa", sum := "025eaa983f51362a9968bae614bcccd3dabb43dfa3077088486308a1150a6d34", func := "rowlock/rowlocklaw04.RowcodeGets", spec := "rowcodeGets", unfollowed := true, recurses := true, apart := false, narrowed := true }
def RowcodeGetsUptoSaid : Prop := rowcodeGetsUptoRow.holds Try.pinned (OpenSpec.upto rowcodeGetsSpec)

/-- 'rowlocklaw04.RowcodePuts', WHERE WHAT IT READS IS OF BULK AT MOST 1048576: true; the input reads as it did. -/
def rowcodePutsUptoRow : OpenClaim := { program := "ytegegpdaalfbdaa", sum := "025eaa983f51362a9968bae614bcccd3dabb43dfa3077088486308a1150a6d34", func := "rowlock/rowlocklaw04.RowcodePuts", spec := "rowcodePuts", unfollowed := true, recurses := true, apart := false, narrowed := true }
def RowcodePutsUptoSaid : Prop := rowcodePutsUptoRow.holds Try.pinned (OpenSpec.upto rowcodePutsSpec)

end Rows
end Go.Proofs.Ytegegpdaalfbdaa
