/-
  No cell of these rows narrows 'for every input' (looked for: loops, veiled, ifaces, maps, wideKeys, modest, calm, conditions, laid).
  DERIVED. THE GIVEN ROWS OF THIS SEAT. 7 by the template 'for every input the law returns true; each argument reads behind the call as it read before'; 0 by the template 'total and deterministic' (their statements: YtpfegfkniilobaaTotals.lean).
  GIVEN WITH THE SEED: the statements are not yours to turn. If you find one false, say at which input.
  Laid BY PROGRAM, IN A SANDBOX (cutbox-rows.mjs): the forced cells as the released guide's own fill.sh prints them over the translation 8bc41b644bf997c8… (all of the seat's roots in one cut). By AI agents, Wed Nov 11 2026. No macro, syntax, notation, axiom, sorry.
-/
import Derived.Test.YtpfegfkniilobaaChecked
import GoSem.Claim
import GoSem.ClaimJoined
import GoSem.ClaimMapViews
import Derived.JoinedTies
import Derived.KernelRfl
namespace Go.Proofs.Ytpfegfkniilobaa
/- THE CELL 'sum', in the pinned program and in every row, IS THE sha256 OF THE DUMP (.gsa) THAT YtpfegfkniilobaaProg.lean LOADS. Nothing in Lean hashes anything: it is a label: what it is worth is what the hold of that sum in a sandbox is worth. -/
noncomputable def Try.pinned : Pinned := { name := "ytpfegfkniilobaa", sum := "8bc41b644bf997c8fcffd9462a0a7f0fbf395ceba4e34e47391434fa6e99ae0f", checked := Try.checked }
namespace Rows
def none {H : Type} : Left H := { results := [], args := [] }

/-- 'rowlocklaw09.HeapFills': WHATEVER THE INPUT: true; the input reads as it did. -/
def heapFillsSpec : ChangeSpec := { name := "heapFills", fn := fun _ => fun
  | [d1, d2, d3] => { results := [.lit (.bool true)], args := [d1, d2, d3] }
  | _ => none }
def heapFillsRow : OpenClaim := { program := "ytpfegfkniilobaa", sum := "8bc41b644bf997c8fcffd9462a0a7f0fbf395ceba4e34e47391434fa6e99ae0f", func := "rowlock/rowlocklaw09.HeapFills", spec := "heapFills", apart := false }
def HeapFillsSaid : Prop := heapFillsRow.holds Try.pinned (OpenSpec.ofChange heapFillsSpec)

/-- ITS FALSE NEIGHBOUR: 'it returns false'. Refute it at one input. -/
def heapFillsWrong : ChangeSpec := { name := "heapFills", fn := fun _ => fun
  | [d1, d2, d3] => { results := [.lit (.bool false)], args := [d1, d2, d3] }
  | _ => none }
def HeapFillsWrongFalsely : Prop := heapFillsRow.holds Try.pinned (OpenSpec.ofChange heapFillsWrong)

/-- 'rowlocklaw09.HeapRaw': WHATEVER THE INPUT: true; the input reads as it did. -/
def heapRawSpec : ChangeSpec := { name := "heapRaw", fn := fun _ => fun
  | [d1, d2, d3, d4] => { results := [.lit (.bool true)], args := [d1, d2, d3, d4] }
  | _ => none }
def heapRawRow : OpenClaim := { program := "ytpfegfkniilobaa", sum := "8bc41b644bf997c8fcffd9462a0a7f0fbf395ceba4e34e47391434fa6e99ae0f", func := "rowlock/rowlocklaw09.HeapRaw", spec := "heapRaw", inPlace := ["sync/atomic.AddUint64"], unfollowed := true, recurses := true, apart := false }
def HeapRawSaid : Prop := heapRawRow.holds Try.pinned (OpenSpec.ofChange heapRawSpec)

/-- ITS FALSE NEIGHBOUR: 'it returns false'. Refute it at one input. -/
def heapRawWrong : ChangeSpec := { name := "heapRaw", fn := fun _ => fun
  | [d1, d2, d3, d4] => { results := [.lit (.bool false)], args := [d1, d2, d3, d4] }
  | _ => none }
def HeapRawWrongFalsely : Prop := heapRawRow.holds Try.pinned (OpenSpec.ofChange heapRawWrong)

/-- 'rowlocklaw09.HeapBack': WHATEVER THE INPUT: true; the input reads as it did. -/
def heapBackSpec : ChangeSpec := { name := "heapBack", fn := fun _ => fun
  | [d1, d2, d3] => { results := [.lit (.bool true)], args := [d1, d2, d3] }
  | _ => none }
def heapBackRow : OpenClaim := { program := "ytpfegfkniilobaa", sum := "8bc41b644bf997c8fcffd9462a0a7f0fbf395ceba4e34e47391434fa6e99ae0f", func := "rowlock/rowlocklaw09.HeapBack", spec := "heapBack", inPlace := ["sync/atomic.AddUint64"], unfollowed := true, recurses := true, apart := false }
def HeapBackSaid : Prop := heapBackRow.holds Try.pinned (OpenSpec.ofChange heapBackSpec)

/-- ITS FALSE NEIGHBOUR: 'it returns false'. Refute it at one input. -/
def heapBackWrong : ChangeSpec := { name := "heapBack", fn := fun _ => fun
  | [d1, d2, d3] => { results := [.lit (.bool false)], args := [d1, d2, d3] }
  | _ => none }
def HeapBackWrongFalsely : Prop := heapBackRow.holds Try.pinned (OpenSpec.ofChange heapBackWrong)

/-- 'rowlocklaw12.SchemaFinds': WHATEVER THE INPUT: true; the input reads as it did. -/
def schemaFindsSpec : ChangeSpec := { name := "schemaFinds", fn := fun _ => fun
  | [d1, d2] => { results := [.lit (.bool true)], args := [d1, d2] }
  | _ => none }
def schemaFindsRow : OpenClaim := { program := "ytpfegfkniilobaa", sum := "8bc41b644bf997c8fcffd9462a0a7f0fbf395ceba4e34e47391434fa6e99ae0f", func := "rowlock/rowlocklaw12.SchemaFinds", spec := "schemaFinds", unfollowed := true, recurses := true, apart := false }
def SchemaFindsSaid : Prop := schemaFindsRow.holds Try.pinned (OpenSpec.ofChange schemaFindsSpec)

/-- ITS FALSE NEIGHBOUR: 'it returns false'. Refute it at one input. -/
def schemaFindsWrong : ChangeSpec := { name := "schemaFinds", fn := fun _ => fun
  | [d1, d2] => { results := [.lit (.bool false)], args := [d1, d2] }
  | _ => none }
def SchemaFindsWrongFalsely : Prop := schemaFindsRow.holds Try.pinned (OpenSpec.ofChange schemaFindsWrong)

/-- 'rowlocklaw12.SchemaSame': WHATEVER THE INPUT: true; the input reads as it did. -/
def schemaSameSpec : ChangeSpec := { name := "schemaSame", fn := fun _ => fun
  | [d1, d2] => { results := [.lit (.bool true)], args := [d1, d2] }
  | _ => none }
def schemaSameRow : OpenClaim := { program := "ytpfegfkniilobaa", sum := "8bc41b644bf997c8fcffd9462a0a7f0fbf395ceba4e34e47391434fa6e99ae0f", func := "rowlock/rowlocklaw12.SchemaSame", spec := "schemaSame", unfollowed := true, recurses := true, apart := false }
def SchemaSameSaid : Prop := schemaSameRow.holds Try.pinned (OpenSpec.ofChange schemaSameSpec)

/-- ITS FALSE NEIGHBOUR: 'it returns false'. Refute it at one input. -/
def schemaSameWrong : ChangeSpec := { name := "schemaSame", fn := fun _ => fun
  | [d1, d2] => { results := [.lit (.bool false)], args := [d1, d2] }
  | _ => none }
def SchemaSameWrongFalsely : Prop := schemaSameRow.holds Try.pinned (OpenSpec.ofChange schemaSameWrong)

/-- 'rowlocklaw12.SchemaPuts': WHATEVER THE INPUT: true; the input reads as it did. -/
def schemaPutsSpec : ChangeSpec := { name := "schemaPuts", fn := fun _ => fun
  | [d1, d2] => { results := [.lit (.bool true)], args := [d1, d2] }
  | _ => none }
def schemaPutsRow : OpenClaim := { program := "ytpfegfkniilobaa", sum := "8bc41b644bf997c8fcffd9462a0a7f0fbf395ceba4e34e47391434fa6e99ae0f", func := "rowlock/rowlocklaw12.SchemaPuts", spec := "schemaPuts", unfollowed := true, recurses := true, apart := false }
def SchemaPutsSaid : Prop := schemaPutsRow.holds Try.pinned (OpenSpec.ofChange schemaPutsSpec)

/-- ITS FALSE NEIGHBOUR: 'it returns false'. Refute it at one input. -/
def schemaPutsWrong : ChangeSpec := { name := "schemaPuts", fn := fun _ => fun
  | [d1, d2] => { results := [.lit (.bool false)], args := [d1, d2] }
  | _ => none }
def SchemaPutsWrongFalsely : Prop := schemaPutsRow.holds Try.pinned (OpenSpec.ofChange schemaPutsWrong)

/-- 'rowlocklaw12.SchemaGets': WHATEVER THE INPUT: true; the input reads as it did. -/
def schemaGetsSpec : ChangeSpec := { name := "schemaGets", fn := fun _ => fun
  | [d] => { results := [.lit (.bool true)], args := [d] }
  | _ => none }
def schemaGetsRow : OpenClaim := { program := "ytpfegfkniilobaa", sum := "8bc41b644bf997c8fcffd9462a0a7f0fbf395ceba4e34e47391434fa6e99ae0f", func := "rowlock/rowlocklaw12.SchemaGets", spec := "schemaGets", unfollowed := true, recurses := true, apart := false }
def SchemaGetsSaid : Prop := schemaGetsRow.holds Try.pinned (OpenSpec.ofChange schemaGetsSpec)

/-- ITS FALSE NEIGHBOUR: 'it returns false'. Refute it at one input. -/
def schemaGetsWrong : ChangeSpec := { name := "schemaGets", fn := fun _ => fun
  | [d] => { results := [.lit (.bool false)], args := [d] }
  | _ => none }
def SchemaGetsWrongFalsely : Prop := schemaGetsRow.holds Try.pinned (OpenSpec.ofChange schemaGetsWrong)

/- THE SECOND FORM. 'bulk': how many values and letters a reading holds, each counted each time it is reached (what is shared counts as often as it is met; a slice's spare places count too). A statement '..UptoSaid' is the law's where the arguments, and the package variables that the reading takes, are together of bulk at most 1048576: NARROWER than '..Said'. Prove '..Said' where nothing that the law and all that it calls make is longer than what came in: it says more and counts as full. Else prove '..UptoSaid'. A law counts once. -/
mutual
def uptoBulk {H : Type} : DataW H → Nat
  | .lit (.string bytes) => bytes.length + 1
  | .lit _ => 1
  | .nil => 1
  | .ptr d => uptoBulk d + 1
  | .slice elems spare => uptoBulkAll elems + uptoBulkAll spare + 1
  | .agg parts => uptoBulkAll parts + 1
  | .iface _ d => uptoBulk d + 1
  | .map entries => uptoBulkEntries entries + 1
  | .held _ => 1
def uptoBulkAll {H : Type} : List (DataW H) → Nat
  | [] => 0
  | d :: r => uptoBulk d + uptoBulkAll r
def uptoBulkEntries {H : Type} : List (Lit × DataW H) → Nat
  | [] => 0
  | x :: r => uptoBulkEntry x + uptoBulkEntries r
def uptoBulkEntry {H : Type} : Lit × DataW H → Nat
  | (.string bytes, d) => bytes.length + uptoBulk d + 1
  | (_, d) => uptoBulk d + 1
 end
def uptoSmall : (H : Type) → List (DataW H) → Bool := fun _ ds => decide (uptoBulkAll ds ≤ 1048576)
def OpenSpec.upto (s : _root_.Go.ChangeSpec) : _root_.Go.OpenSpec := { _root_.Go.OpenSpec.ofChange s with cond := some uptoSmall }

/-- 'rowlocklaw09.HeapFills', WHERE WHAT IT READS IS OF BULK AT MOST 1048576: true; the input reads as it did. -/
def heapFillsUptoRow : OpenClaim := { program := "ytpfegfkniilobaa", sum := "8bc41b644bf997c8fcffd9462a0a7f0fbf395ceba4e34e47391434fa6e99ae0f", func := "rowlock/rowlocklaw09.HeapFills", spec := "heapFills", apart := false, narrowed := true }
def HeapFillsUptoSaid : Prop := heapFillsUptoRow.holds Try.pinned (OpenSpec.upto heapFillsSpec)

/-- 'rowlocklaw09.HeapRaw', WHERE WHAT IT READS IS OF BULK AT MOST 1048576: true; the input reads as it did. -/
def heapRawUptoRow : OpenClaim := { program := "ytpfegfkniilobaa", sum := "8bc41b644bf997c8fcffd9462a0a7f0fbf395ceba4e34e47391434fa6e99ae0f", func := "rowlock/rowlocklaw09.HeapRaw", spec := "heapRaw", inPlace := ["sync/atomic.AddUint64"], unfollowed := true, recurses := true, apart := false, narrowed := true }
def HeapRawUptoSaid : Prop := heapRawUptoRow.holds Try.pinned (OpenSpec.upto heapRawSpec)

/-- 'rowlocklaw09.HeapBack', WHERE WHAT IT READS IS OF BULK AT MOST 1048576: true; the input reads as it did. -/
def heapBackUptoRow : OpenClaim := { program := "ytpfegfkniilobaa", sum := "8bc41b644bf997c8fcffd9462a0a7f0fbf395ceba4e34e47391434fa6e99ae0f", func := "rowlock/rowlocklaw09.HeapBack", spec := "heapBack", inPlace := ["sync/atomic.AddUint64"], unfollowed := true, recurses := true, apart := false, narrowed := true }
def HeapBackUptoSaid : Prop := heapBackUptoRow.holds Try.pinned (OpenSpec.upto heapBackSpec)

/-- 'rowlocklaw12.SchemaFinds', WHERE WHAT IT READS IS OF BULK AT MOST 1048576: true; the input reads as it did. -/
def schemaFindsUptoRow : OpenClaim := { program := "ytpfegfkniilobaa", sum := "8bc41b644bf997c8fcffd9462a0a7f0fbf395ceba4e34e47391434fa6e99ae0f", func := "rowlock/rowlocklaw12.SchemaFinds", spec := "schemaFinds", unfollowed := true, recurses := true, apart := false, narrowed := true }
def SchemaFindsUptoSaid : Prop := schemaFindsUptoRow.holds Try.pinned (OpenSpec.upto schemaFindsSpec)

/-- 'rowlocklaw12.SchemaSame', WHERE WHAT IT READS IS OF BULK AT MOST 1048576: true; the input reads as it did. -/
def schemaSameUptoRow : OpenClaim := { program := "ytpfegfkniilobaa", sum := "8bc41b644bf997c8fcffd9462a0a7f0fbf395ceba4e34e47391434fa6e99ae0f", func := "rowlock/rowlocklaw12.SchemaSame", spec := "schemaSame", unfollowed := true, recurses := true, apart := false, narrowed := true }
def SchemaSameUptoSaid : Prop := schemaSameUptoRow.holds Try.pinned (OpenSpec.upto schemaSameSpec)

/-- 'rowlocklaw12.SchemaPuts', WHERE WHAT IT READS IS OF BULK AT MOST 1048576: true; the input reads as it did. -/
def schemaPutsUptoRow : OpenClaim := { program := "ytpfegfkniilobaa", sum := "8bc41b644bf997c8fcffd9462a0a7f0fbf395ceba4e34e47391434fa6e99ae0f", func := "rowlock/rowlocklaw12.SchemaPuts", spec := "schemaPuts", unfollowed := true, recurses := true, apart := false, narrowed := true }
def SchemaPutsUptoSaid : Prop := schemaPutsUptoRow.holds Try.pinned (OpenSpec.upto schemaPutsSpec)

/-- 'rowlocklaw12.SchemaGets', WHERE WHAT IT READS IS OF BULK AT MOST 1048576: true; the input reads as it did. -/
def schemaGetsUptoRow : OpenClaim := { program := "ytpfegfkniilobaa", sum := "8bc41b644bf997c8fcffd9462a0a7f0fbf395ceba4e34e47391434fa6e99ae0f", func := "rowlock/rowlocklaw12.SchemaGets", spec := "schemaGets", unfollowed := true, recurses := true, apart := false, narrowed := true }
def SchemaGetsUptoSaid : Prop := schemaGetsUptoRow.holds Try.pinned (OpenSpec.upto schemaGetsSpec)

end Rows
end Go.Proofs.Ytpfegfkniilobaa
