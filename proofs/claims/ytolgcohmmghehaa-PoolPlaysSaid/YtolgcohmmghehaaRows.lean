/-
  No cell of these rows narrows 'for every input' (looked for: loops, veiled, ifaces, maps, wideKeys, modest, calm, conditions, laid).
  DERIVED. THE GIVEN ROWS OF THIS SEAT. 12 by the template 'for every input the law returns true; each argument reads behind the call as it read before'; 0 by the template 'total and deterministic' (their statements: YtolgcohmmghehaaTotals.lean).
  GIVEN WITH THE SEED: the statements are not yours to turn. If you find one false, say at which input.
  Laid BY PROGRAM, IN A SANDBOX (cutbox-rows.mjs): the forced cells as the released guide's own fill.sh prints them over the translation 3beb778a545d62f0… (all of the seat's roots in one cut). By AI agents, Wed Nov 11 2026. No macro, syntax, notation, axiom, sorry.
-/
import Derived.Test.YtolgcohmmghehaaChecked
import GoSem.Claim
import GoSem.ClaimJoined
import GoSem.ClaimMapViews
import Derived.JoinedTies
import Derived.KernelRfl
namespace Go.Proofs.Ytolgcohmmghehaa
/- THE CELL 'sum', in the pinned program and in every row, IS THE sha256 OF THE DUMP (.gsa) THAT YtolgcohmmghehaaProg.lean LOADS. Nothing in Lean hashes anything: it is a label: what it is worth is what the hold of that sum in a sandbox is worth. -/
noncomputable def Try.pinned : Pinned := { name := "ytolgcohmmghehaa", sum := "3beb778a545d62f0282afae9db1dc567f9441b7710e5eb7f3efb4128cfbb9dcc", checked := Try.checked }
namespace Rows
def none {H : Type} : Left H := { results := [], args := [] }

/-- 'rowlocklaw06.DiskHeads': WHATEVER THE INPUT: true; the input reads as it did. -/
def diskHeadsSpec : ChangeSpec := { name := "diskHeads", fn := fun _ => fun
  | [d1, d2, d3] => { results := [.lit (.bool true)], args := [d1, d2, d3] }
  | _ => none }
def diskHeadsRow : OpenClaim := { program := "ytolgcohmmghehaa", sum := "3beb778a545d62f0282afae9db1dc567f9441b7710e5eb7f3efb4128cfbb9dcc", func := "rowlock/rowlocklaw06.DiskHeads", spec := "diskHeads", apart := false }
def DiskHeadsSaid : Prop := diskHeadsRow.holds Try.pinned (OpenSpec.ofChange diskHeadsSpec)

/-- ITS FALSE NEIGHBOUR: 'it returns false'. Refute it at one input. -/
def diskHeadsWrong : ChangeSpec := { name := "diskHeads", fn := fun _ => fun
  | [d1, d2, d3] => { results := [.lit (.bool false)], args := [d1, d2, d3] }
  | _ => none }
def DiskHeadsWrongFalsely : Prop := diskHeadsRow.holds Try.pinned (OpenSpec.ofChange diskHeadsWrong)

/-- 'rowlocklaw06.DiskApart': WHATEVER THE INPUT: true; the input reads as it did. -/
def diskApartSpec : ChangeSpec := { name := "diskApart", fn := fun _ => fun
  | [d1, d2, d3, d4] => { results := [.lit (.bool true)], args := [d1, d2, d3, d4] }
  | _ => none }
def diskApartRow : OpenClaim := { program := "ytolgcohmmghehaa", sum := "3beb778a545d62f0282afae9db1dc567f9441b7710e5eb7f3efb4128cfbb9dcc", func := "rowlock/rowlocklaw06.DiskApart", spec := "diskApart", apart := false }
def DiskApartSaid : Prop := diskApartRow.holds Try.pinned (OpenSpec.ofChange diskApartSpec)

/-- ITS FALSE NEIGHBOUR: 'it returns false'. Refute it at one input. -/
def diskApartWrong : ChangeSpec := { name := "diskApart", fn := fun _ => fun
  | [d1, d2, d3, d4] => { results := [.lit (.bool false)], args := [d1, d2, d3, d4] }
  | _ => none }
def DiskApartWrongFalsely : Prop := diskApartRow.holds Try.pinned (OpenSpec.ofChange diskApartWrong)

/-- 'rowlocklaw06.DiskLoads': WHATEVER THE INPUT: true; the input reads as it did. -/
def diskLoadsSpec : ChangeSpec := { name := "diskLoads", fn := fun _ => fun
  | [d1, d2, d3] => { results := [.lit (.bool true)], args := [d1, d2, d3] }
  | _ => none }
def diskLoadsRow : OpenClaim := { program := "ytolgcohmmghehaa", sum := "3beb778a545d62f0282afae9db1dc567f9441b7710e5eb7f3efb4128cfbb9dcc", func := "rowlock/rowlocklaw06.DiskLoads", spec := "diskLoads", apart := false }
def DiskLoadsSaid : Prop := diskLoadsRow.holds Try.pinned (OpenSpec.ofChange diskLoadsSpec)

/-- ITS FALSE NEIGHBOUR: 'it returns false'. Refute it at one input. -/
def diskLoadsWrong : ChangeSpec := { name := "diskLoads", fn := fun _ => fun
  | [d1, d2, d3] => { results := [.lit (.bool false)], args := [d1, d2, d3] }
  | _ => none }
def DiskLoadsWrongFalsely : Prop := diskLoadsRow.holds Try.pinned (OpenSpec.ofChange diskLoadsWrong)

/-- 'rowlocklaw06.DiskPlays': WHATEVER THE INPUT: true; the input reads as it did. -/
def diskPlaysSpec : ChangeSpec := { name := "diskPlays", fn := fun _ => fun
  | [d1, d2] => { results := [.lit (.bool true)], args := [d1, d2] }
  | _ => none }
def diskPlaysRow : OpenClaim := { program := "ytolgcohmmghehaa", sum := "3beb778a545d62f0282afae9db1dc567f9441b7710e5eb7f3efb4128cfbb9dcc", func := "rowlock/rowlocklaw06.DiskPlays", spec := "diskPlays", apart := false }
def DiskPlaysSaid : Prop := diskPlaysRow.holds Try.pinned (OpenSpec.ofChange diskPlaysSpec)

/-- ITS FALSE NEIGHBOUR: 'it returns false'. Refute it at one input. -/
def diskPlaysWrong : ChangeSpec := { name := "diskPlays", fn := fun _ => fun
  | [d1, d2] => { results := [.lit (.bool false)], args := [d1, d2] }
  | _ => none }
def DiskPlaysWrongFalsely : Prop := diskPlaysRow.holds Try.pinned (OpenSpec.ofChange diskPlaysWrong)

/-- 'rowlocklaw06.DiskNil': WHATEVER THE INPUT: true; the input reads as it did. -/
def diskNilSpec : ChangeSpec := { name := "diskNil", fn := fun _ => fun
  | [d] => { results := [.lit (.bool true)], args := [d] }
  | _ => none }
def diskNilRow : OpenClaim := { program := "ytolgcohmmghehaa", sum := "3beb778a545d62f0282afae9db1dc567f9441b7710e5eb7f3efb4128cfbb9dcc", func := "rowlock/rowlocklaw06.DiskNil", spec := "diskNil", apart := false }
def DiskNilSaid : Prop := diskNilRow.holds Try.pinned (OpenSpec.ofChange diskNilSpec)

/-- ITS FALSE NEIGHBOUR: 'it returns false'. Refute it at one input. -/
def diskNilWrong : ChangeSpec := { name := "diskNil", fn := fun _ => fun
  | [d] => { results := [.lit (.bool false)], args := [d] }
  | _ => none }
def DiskNilWrongFalsely : Prop := diskNilRow.holds Try.pinned (OpenSpec.ofChange diskNilWrong)

/-- 'rowlocklaw07.PoolSizes': WHATEVER THE INPUT: true; the input reads as it did. -/
def poolSizesSpec : ChangeSpec := { name := "poolSizes", fn := fun _ => fun
  | [d1, d2, d3, d4] => { results := [.lit (.bool true)], args := [d1, d2, d3, d4] }
  | _ => none }
def poolSizesRow : OpenClaim := { program := "ytolgcohmmghehaa", sum := "3beb778a545d62f0282afae9db1dc567f9441b7710e5eb7f3efb4128cfbb9dcc", func := "rowlock/rowlocklaw07.PoolSizes", spec := "poolSizes", inPlace := ["sync/atomic.AddUint64", "sync/atomic.LoadUint64"], unfollowed := true, recurses := true, apart := false }
def PoolSizesSaid : Prop := poolSizesRow.holds Try.pinned (OpenSpec.ofChange poolSizesSpec)

/-- ITS FALSE NEIGHBOUR: 'it returns false'. Refute it at one input. -/
def poolSizesWrong : ChangeSpec := { name := "poolSizes", fn := fun _ => fun
  | [d1, d2, d3, d4] => { results := [.lit (.bool false)], args := [d1, d2, d3, d4] }
  | _ => none }
def PoolSizesWrongFalsely : Prop := poolSizesRow.holds Try.pinned (OpenSpec.ofChange poolSizesWrong)

/-- 'rowlocklaw07.PoolAgain': WHATEVER THE INPUT: true; the input reads as it did. -/
def poolAgainSpec : ChangeSpec := { name := "poolAgain", fn := fun _ => fun
  | [d1, d2, d3, d4] => { results := [.lit (.bool true)], args := [d1, d2, d3, d4] }
  | _ => none }
def poolAgainRow : OpenClaim := { program := "ytolgcohmmghehaa", sum := "3beb778a545d62f0282afae9db1dc567f9441b7710e5eb7f3efb4128cfbb9dcc", func := "rowlock/rowlocklaw07.PoolAgain", spec := "poolAgain", inPlace := ["sync/atomic.AddUint64", "sync/atomic.LoadUint64", "sync/atomic.StoreUint64"], unfollowed := true, recurses := true, apart := false }
def PoolAgainSaid : Prop := poolAgainRow.holds Try.pinned (OpenSpec.ofChange poolAgainSpec)

/-- ITS FALSE NEIGHBOUR: 'it returns false'. Refute it at one input. -/
def poolAgainWrong : ChangeSpec := { name := "poolAgain", fn := fun _ => fun
  | [d1, d2, d3, d4] => { results := [.lit (.bool false)], args := [d1, d2, d3, d4] }
  | _ => none }
def PoolAgainWrongFalsely : Prop := poolAgainRow.holds Try.pinned (OpenSpec.ofChange poolAgainWrong)

/-- 'rowlocklaw07.PoolPlays': WHATEVER THE INPUT: true; the input reads as it did. -/
def poolPlaysSpec : ChangeSpec := { name := "poolPlays", fn := fun _ => fun
  | [d1, d2, d3, d4] => { results := [.lit (.bool true)], args := [d1, d2, d3, d4] }
  | _ => none }
def poolPlaysRow : OpenClaim := { program := "ytolgcohmmghehaa", sum := "3beb778a545d62f0282afae9db1dc567f9441b7710e5eb7f3efb4128cfbb9dcc", func := "rowlock/rowlocklaw07.PoolPlays", spec := "poolPlays", inPlace := ["sync/atomic.AddUint64", "sync/atomic.LoadUint64", "sync/atomic.StoreUint64"], unfollowed := true, recurses := true, apart := false }
def PoolPlaysSaid : Prop := poolPlaysRow.holds Try.pinned (OpenSpec.ofChange poolPlaysSpec)

/-- ITS FALSE NEIGHBOUR: 'it returns false'. Refute it at one input. -/
def poolPlaysWrong : ChangeSpec := { name := "poolPlays", fn := fun _ => fun
  | [d1, d2, d3, d4] => { results := [.lit (.bool false)], args := [d1, d2, d3, d4] }
  | _ => none }
def PoolPlaysWrongFalsely : Prop := poolPlaysRow.holds Try.pinned (OpenSpec.ofChange poolPlaysWrong)

/-- 'rowlocklaw07.PoolHeads': WHATEVER THE INPUT: true; the input reads as it did. -/
def poolHeadsSpec : ChangeSpec := { name := "poolHeads", fn := fun _ => fun
  | [d1, d2, d3, d4] => { results := [.lit (.bool true)], args := [d1, d2, d3, d4] }
  | _ => none }
def poolHeadsRow : OpenClaim := { program := "ytolgcohmmghehaa", sum := "3beb778a545d62f0282afae9db1dc567f9441b7710e5eb7f3efb4128cfbb9dcc", func := "rowlock/rowlocklaw07.PoolHeads", spec := "poolHeads", inPlace := ["sync/atomic.AddUint64", "sync/atomic.LoadUint64"], unfollowed := true, recurses := true, apart := false }
def PoolHeadsSaid : Prop := poolHeadsRow.holds Try.pinned (OpenSpec.ofChange poolHeadsSpec)

/-- ITS FALSE NEIGHBOUR: 'it returns false'. Refute it at one input. -/
def poolHeadsWrong : ChangeSpec := { name := "poolHeads", fn := fun _ => fun
  | [d1, d2, d3, d4] => { results := [.lit (.bool false)], args := [d1, d2, d3, d4] }
  | _ => none }
def PoolHeadsWrongFalsely : Prop := poolHeadsRow.holds Try.pinned (OpenSpec.ofChange poolHeadsWrong)

/-- 'rowlocklaw07.PoolNil': WHATEVER THE INPUT: true; the input reads as it did. -/
def poolNilSpec : ChangeSpec := { name := "poolNil", fn := fun _ => fun
  | [d1, d2] => { results := [.lit (.bool true)], args := [d1, d2] }
  | _ => none }
def poolNilRow : OpenClaim := { program := "ytolgcohmmghehaa", sum := "3beb778a545d62f0282afae9db1dc567f9441b7710e5eb7f3efb4128cfbb9dcc", func := "rowlock/rowlocklaw07.PoolNil", spec := "poolNil", inPlace := ["sync/atomic.AddUint64", "sync/atomic.StoreUint64", "sync/atomic.LoadUint64"], unfollowed := true, recurses := true, apart := false }
def PoolNilSaid : Prop := poolNilRow.holds Try.pinned (OpenSpec.ofChange poolNilSpec)

/-- ITS FALSE NEIGHBOUR: 'it returns false'. Refute it at one input. -/
def poolNilWrong : ChangeSpec := { name := "poolNil", fn := fun _ => fun
  | [d1, d2] => { results := [.lit (.bool false)], args := [d1, d2] }
  | _ => none }
def PoolNilWrongFalsely : Prop := poolNilRow.holds Try.pinned (OpenSpec.ofChange poolNilWrong)

/-- 'rowlocklaw08.SlotsPlays': WHATEVER THE INPUT: true; the input reads as it did. -/
def slotsPlaysSpec : ChangeSpec := { name := "slotsPlays", fn := fun _ => fun
  | [d1, d2, d3] => { results := [.lit (.bool true)], args := [d1, d2, d3] }
  | _ => none }
def slotsPlaysRow : OpenClaim := { program := "ytolgcohmmghehaa", sum := "3beb778a545d62f0282afae9db1dc567f9441b7710e5eb7f3efb4128cfbb9dcc", func := "rowlock/rowlocklaw08.SlotsPlays", spec := "slotsPlays", apart := false }
def SlotsPlaysSaid : Prop := slotsPlaysRow.holds Try.pinned (OpenSpec.ofChange slotsPlaysSpec)

/-- ITS FALSE NEIGHBOUR: 'it returns false'. Refute it at one input. -/
def slotsPlaysWrong : ChangeSpec := { name := "slotsPlays", fn := fun _ => fun
  | [d1, d2, d3] => { results := [.lit (.bool false)], args := [d1, d2, d3] }
  | _ => none }
def SlotsPlaysWrongFalsely : Prop := slotsPlaysRow.holds Try.pinned (OpenSpec.ofChange slotsPlaysWrong)

/-- 'rowlocklaw08.SlotsMay': WHATEVER THE INPUT: true; the input reads as it did. -/
def slotsMaySpec : ChangeSpec := { name := "slotsMay", fn := fun _ => fun
  | [d1, d2, d3, d4, d5] => { results := [.lit (.bool true)], args := [d1, d2, d3, d4, d5] }
  | _ => none }
def slotsMayRow : OpenClaim := { program := "ytolgcohmmghehaa", sum := "3beb778a545d62f0282afae9db1dc567f9441b7710e5eb7f3efb4128cfbb9dcc", func := "rowlock/rowlocklaw08.SlotsMay", spec := "slotsMay", apart := false }
def SlotsMaySaid : Prop := slotsMayRow.holds Try.pinned (OpenSpec.ofChange slotsMaySpec)

/-- ITS FALSE NEIGHBOUR: 'it returns false'. Refute it at one input. -/
def slotsMayWrong : ChangeSpec := { name := "slotsMay", fn := fun _ => fun
  | [d1, d2, d3, d4, d5] => { results := [.lit (.bool false)], args := [d1, d2, d3, d4, d5] }
  | _ => none }
def SlotsMayWrongFalsely : Prop := slotsMayRow.holds Try.pinned (OpenSpec.ofChange slotsMayWrong)

/- THE SECOND FORM. 'bulk': how many values and letters a reading holds, each counted each time it is reached (what is shared counts as often as it is met; a slice's spare places count too). A statement '..UptoSaid' is the law's where the arguments, and the package variables that the reading takes, are together of bulk at most 1048576: NARROWER than '..Said'. Prove '..Said' where nothing that the law and all that it calls make is longer than what came in: it says more and counts as full. Else prove '..UptoSaid'. A law counts once. -/
mutual
def uptoBulk {H : Type} : DataW H → Nat
  | .lit (.string bytes) => bytes.length + 1
  | .lit _ => 1
  | .nil => 1
  | .ptr d => uptoBulk d + 1
  | .slice elems spare => uptoBulkAll elems + uptoBulkAll spare + 1
  | .agg parts => uptoBulkAll parts + 1
  | .iface _ d => uptoBulk d + 1
  | .map entries => uptoBulkEntries entries + 1
  | .held _ => 1
def uptoBulkAll {H : Type} : List (DataW H) → Nat
  | [] => 0
  | d :: r => uptoBulk d + uptoBulkAll r
def uptoBulkEntries {H : Type} : List (Lit × DataW H) → Nat
  | [] => 0
  | x :: r => uptoBulkEntry x + uptoBulkEntries r
def uptoBulkEntry {H : Type} : Lit × DataW H → Nat
  | (.string bytes, d) => bytes.length + uptoBulk d + 1
  | (_, d) => uptoBulk d + 1
 end
def uptoSmall : (H : Type) → List (DataW H) → Bool := fun _ ds => decide (uptoBulkAll ds ≤ 1048576)
def OpenSpec.upto (s : _root_.Go.ChangeSpec) : _root_.Go.OpenSpec := { _root_.Go.OpenSpec.ofChange s with cond := some uptoSmall }

/-- 'rowlocklaw06.DiskHeads', WHERE WHAT IT READS IS OF BULK AT MOST 1048576: true; the input reads as it did. -/
def diskHeadsUptoRow : OpenClaim := { program := "ytolgcohmmghehaa", sum := "3beb778a545d62f0282afae9db1dc567f9441b7710e5eb7f3efb4128cfbb9dcc", func := "rowlock/rowlocklaw06.DiskHeads", spec := "diskHeads", apart := false, narrowed := true }
def DiskHeadsUptoSaid : Prop := diskHeadsUptoRow.holds Try.pinned (OpenSpec.upto diskHeadsSpec)

/-- 'rowlocklaw06.DiskApart', WHERE WHAT IT READS IS OF BULK AT MOST 1048576: true; the input reads as it did. -/
def diskApartUptoRow : OpenClaim := { program := "ytolgcohmmghehaa", sum := "3beb778a545d62f0282afae9db1dc567f9441b7710e5eb7f3efb4128cfbb9dcc", func := "rowlock/rowlocklaw06.DiskApart", spec := "diskApart", apart := false, narrowed := true }
def DiskApartUptoSaid : Prop := diskApartUptoRow.holds Try.pinned (OpenSpec.upto diskApartSpec)

/-- 'rowlocklaw06.DiskLoads', WHERE WHAT IT READS IS OF BULK AT MOST 1048576: true; the input reads as it did. -/
def diskLoadsUptoRow : OpenClaim := { program := "ytolgcohmmghehaa", sum := "3beb778a545d62f0282afae9db1dc567f9441b7710e5eb7f3efb4128cfbb9dcc", func := "rowlock/rowlocklaw06.DiskLoads", spec := "diskLoads", apart := false, narrowed := true }
def DiskLoadsUptoSaid : Prop := diskLoadsUptoRow.holds Try.pinned (OpenSpec.upto diskLoadsSpec)

/-- 'rowlocklaw06.DiskPlays', WHERE WHAT IT READS IS OF BULK AT MOST 1048576: true; the input reads as it did. -/
def diskPlaysUptoRow : OpenClaim := { program := "ytolgcohmmghehaa", sum := "3beb778a545d62f0282afae9db1dc567f9441b7710e5eb7f3efb4128cfbb9dcc", func := "rowlock/rowlocklaw06.DiskPlays", spec := "diskPlays", apart := false, narrowed := true }
def DiskPlaysUptoSaid : Prop := diskPlaysUptoRow.holds Try.pinned (OpenSpec.upto diskPlaysSpec)

/-- 'rowlocklaw06.DiskNil', WHERE WHAT IT READS IS OF BULK AT MOST 1048576: true; the input reads as it did. -/
def diskNilUptoRow : OpenClaim := { program := "ytolgcohmmghehaa", sum := "3beb778a545d62f0282afae9db1dc567f9441b7710e5eb7f3efb4128cfbb9dcc", func := "rowlock/rowlocklaw06.DiskNil", spec := "diskNil", apart := false, narrowed := true }
def DiskNilUptoSaid : Prop := diskNilUptoRow.holds Try.pinned (OpenSpec.upto diskNilSpec)

/-- 'rowlocklaw07.PoolSizes', WHERE WHAT IT READS IS OF BULK AT MOST 1048576: true; the input reads as it did. -/
def poolSizesUptoRow : OpenClaim := { program := "ytolgcohmmghehaa", sum := "3beb778a545d62f0282afae9db1dc567f9441b7710e5eb7f3efb4128cfbb9dcc", func := "rowlock/rowlocklaw07.PoolSizes", spec := "poolSizes", inPlace := ["sync/atomic.AddUint64", "sync/atomic.LoadUint64"], unfollowed := true, recurses := true, apart := false, narrowed := true }
def PoolSizesUptoSaid : Prop := poolSizesUptoRow.holds Try.pinned (OpenSpec.upto poolSizesSpec)

/-- 'rowlocklaw07.PoolAgain', WHERE WHAT IT READS IS OF BULK AT MOST 1048576: true; the input reads as it did. -/
def poolAgainUptoRow : OpenClaim := { program := "ytolgcohmmghehaa", sum := "3beb778a545d62f0282afae9db1dc567f9441b7710e5eb7f3efb4128cfbb9dcc", func := "rowlock/rowlocklaw07.PoolAgain", spec := "poolAgain", inPlace := ["sync/atomic.AddUint64", "sync/atomic.LoadUint64", "sync/atomic.StoreUint64"], unfollowed := true, recurses := true, apart := false, narrowed := true }
def PoolAgainUptoSaid : Prop := poolAgainUptoRow.holds Try.pinned (OpenSpec.upto poolAgainSpec)

/-- 'rowlocklaw07.PoolPlays', WHERE WHAT IT READS IS OF BULK AT MOST 1048576: true; the input reads as it did. -/
def poolPlaysUptoRow : OpenClaim := { program := "ytolgcohmmghehaa", sum := "3beb778a545d62f0282afae9db1dc567f9441b7710e5eb7f3efb4128cfbb9dcc", func := "rowlock/rowlocklaw07.PoolPlays", spec := "poolPlays", inPlace := ["sync/atomic.AddUint64", "sync/atomic.LoadUint64", "sync/atomic.StoreUint64"], unfollowed := true, recurses := true, apart := false, narrowed := true }
def PoolPlaysUptoSaid : Prop := poolPlaysUptoRow.holds Try.pinned (OpenSpec.upto poolPlaysSpec)

/-- 'rowlocklaw07.PoolHeads', WHERE WHAT IT READS IS OF BULK AT MOST 1048576: true; the input reads as it did. -/
def poolHeadsUptoRow : OpenClaim := { program := "ytolgcohmmghehaa", sum := "3beb778a545d62f0282afae9db1dc567f9441b7710e5eb7f3efb4128cfbb9dcc", func := "rowlock/rowlocklaw07.PoolHeads", spec := "poolHeads", inPlace := ["sync/atomic.AddUint64", "sync/atomic.LoadUint64"], unfollowed := true, recurses := true, apart := false, narrowed := true }
def PoolHeadsUptoSaid : Prop := poolHeadsUptoRow.holds Try.pinned (OpenSpec.upto poolHeadsSpec)

/-- 'rowlocklaw07.PoolNil', WHERE WHAT IT READS IS OF BULK AT MOST 1048576: true; the input reads as it did. -/
def poolNilUptoRow : OpenClaim := { program := "ytolgcohmmghehaa", sum := "3beb778a545d62f0282afae9db1dc567f9441b7710e5eb7f3efb4128cfbb9dcc", func := "rowlock/rowlocklaw07.PoolNil", spec := "poolNil", inPlace := ["sync/atomic.AddUint64", "sync/atomic.StoreUint64", "sync/atomic.LoadUint64"], unfollowed := true, recurses := true, apart := false, narrowed := true }
def PoolNilUptoSaid : Prop := poolNilUptoRow.holds Try.pinned (OpenSpec.upto poolNilSpec)

/-- 'rowlocklaw08.SlotsPlays', WHERE WHAT IT READS IS OF BULK AT MOST 1048576: true; the input reads as it did. -/
def slotsPlaysUptoRow : OpenClaim := { program := "ytolgcohmmghehaa", sum := "3beb778a545d62f0282afae9db1dc567f9441b7710e5eb7f3efb4128cfbb9dcc", func := "rowlock/rowlocklaw08.SlotsPlays", spec := "slotsPlays", apart := false, narrowed := true }
def SlotsPlaysUptoSaid : Prop := slotsPlaysUptoRow.holds Try.pinned (OpenSpec.upto slotsPlaysSpec)

/-- 'rowlocklaw08.SlotsMay', WHERE WHAT IT READS IS OF BULK AT MOST 1048576: true; the input reads as it did. -/
def slotsMayUptoRow : OpenClaim := { program := "ytolgcohmmghehaa", sum := "3beb778a545d62f0282afae9db1dc567f9441b7710e5eb7f3efb4128cfbb9dcc", func := "rowlock/rowlocklaw08.SlotsMay", spec := "slotsMay", apart := false, narrowed := true }
def SlotsMayUptoSaid : Prop := slotsMayUptoRow.holds Try.pinned (OpenSpec.upto slotsMaySpec)

end Rows
end Go.Proofs.Ytolgcohmmghehaa
