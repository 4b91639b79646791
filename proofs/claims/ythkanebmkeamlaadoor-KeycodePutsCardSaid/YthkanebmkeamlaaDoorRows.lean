/-
  NARROWER THAN 'FOR EVERY INPUT', by the rows' own cells (each row's printed sentence says how): KeycodeOrder: laid · KeycodeLeast: laid · KeycodeBehind: laid · KeycodeRanges: laid · KeycodePuts: laid · KeycodeGets: laid.
  DERIVED. THE GIVEN ROWS OF THIS SEAT. 6 by the template 'for every input the law returns true; each argument reads behind the call as it read before'; 0 by the template 'total and deterministic' (their statements: YthkanebmkeamlaaDoorTotals.lean).
  GIVEN WITH THE SEED: the statements are not yours to turn. If you find one false, say at which input.
  Laid BY PROGRAM, IN A SANDBOX (cutbox-rows.mjs): the forced cells as the released guide's own fill.sh prints them over the translation fc649c18bd275e15… (all of the seat's roots in one cut). By AI agents, Wed Nov 11 2026. No macro, syntax, notation, axiom, sorry.
-/
import Derived.Test.YthkanebmkeamlaaDoorChecked
import GoSem.PinnedTables
import GoSem.Claim
import GoSem.ClaimJoined
import GoSem.ClaimMapViews
import Derived.JoinedTies
import Derived.KernelRfl
namespace Go.Proofs.YthkanebmkeamlaaDoor
/- THE CELL 'sum', in the pinned program and in every row, IS THE sha256 OF THE DUMP (.gsa) THAT YthkanebmkeamlaaDoorProg.lean LOADS. Nothing in Lean hashes anything: it is a label: what it is worth is what the hold of that sum in a sandbox is worth. -/
noncomputable def Tryd.pinned : Pinned := { name := "ythkanebmkeamlaadoor", sum := "fc649c18bd275e15ecadbafe896bb0ce1d82527216df7a14acf2bea2d112cd7c", checked := Tryd.checked }
namespace Rows
def none {H : Type} : Left H := { results := [], args := [] }

/- WHAT THE LISTED PACKAGE-LEVEL VARIABLES READ AS WHEN THE CALL BEGINS. Each datum BY PROGRAM (the guide's laid-datum.mjs) off the statement by which the dump's own 'gosem.cut.vars' lays the variable. In a bare row this is a premise. The card (YthkanebmkeamlaaDoorCards.lean) ties it to the program's text. -/
def laid_unicode_utf8_acceptRanges {H : Type} : DataW H := .agg [.agg [.lit (.int .u8 128), .lit (.int .u8 191)], .agg [.lit (.int .u8 160), .lit (.int .u8 191)], .agg [.lit (.int .u8 128), .lit (.int .u8 159)], .agg [.lit (.int .u8 144), .lit (.int .u8 191)], .agg [.lit (.int .u8 128), .lit (.int .u8 143)], .agg [.lit (.int .u8 0), .lit (.int .u8 0)], .agg [.lit (.int .u8 0), .lit (.int .u8 0)], .agg [.lit (.int .u8 0), .lit (.int .u8 0)], .agg [.lit (.int .u8 0), .lit (.int .u8 0)], .agg [.lit (.int .u8 0), .lit (.int .u8 0)], .agg [.lit (.int .u8 0), .lit (.int .u8 0)], .agg [.lit (.int .u8 0), .lit (.int .u8 0)], .agg [.lit (.int .u8 0), .lit (.int .u8 0)], .agg [.lit (.int .u8 0), .lit (.int .u8 0)], .agg [.lit (.int .u8 0), .lit (.int .u8 0)], .agg [.lit (.int .u8 0), .lit (.int .u8 0)]]
/-- One of Go's own tables, pinned by name: the form's constant. -/
def laid_unicode_utf8_first : DataW Unit := Go.Pinned.utf8First

/-- 'rowlocklaw05.KeycodeOrder': WHATEVER THE INPUT: true; the input reads as it did. -/
def keycodeOrderSpec : ChangeSpec := { name := "keycodeOrder", fn := fun _ => fun
  | [d1, d2] => { results := [.lit (.bool true)], args := [d1, d2] }
  | _ => none }
def keycodeOrderRow : OpenClaim := { program := "ythkanebmkeamlaadoor", sum := "fc649c18bd275e15ecadbafe896bb0ce1d82527216df7a14acf2bea2d112cd7c", func := "rowlock/rowlocklaw05.KeycodeOrder", spec := "keycodeOrder", inPlace := ["internal/bytealg.CountString", "internal/bytealg.IndexByteString", "internal/bytealg.IndexString", "internal/abi.NoEscape", "internal/bytealg.MakeNoZero"], named := ["internal/bytealg.MaxLen", "unicode/utf8.first", "unicode/utf8.acceptRanges"], apart := false, laid := [("unicode/utf8.acceptRanges", laid_unicode_utf8_acceptRanges), ("unicode/utf8.first", laid_unicode_utf8_first)] }
def KeycodeOrderSaid : Prop := keycodeOrderRow.holds Tryd.pinned (OpenSpec.ofChange keycodeOrderSpec)

/-- ITS FALSE NEIGHBOUR: 'it returns false'. Refute it at one input. -/
def keycodeOrderWrong : ChangeSpec := { name := "keycodeOrder", fn := fun _ => fun
  | [d1, d2] => { results := [.lit (.bool false)], args := [d1, d2] }
  | _ => none }
def KeycodeOrderWrongFalsely : Prop := keycodeOrderRow.holds Tryd.pinned (OpenSpec.ofChange keycodeOrderWrong)

/-- 'rowlocklaw05.KeycodeLeast': WHATEVER THE INPUT: true; the input reads as it did. -/
def keycodeLeastSpec : ChangeSpec := { name := "keycodeLeast", fn := fun _ => fun
  | [d1, d2] => { results := [.lit (.bool true)], args := [d1, d2] }
  | _ => none }
def keycodeLeastRow : OpenClaim := { program := "ythkanebmkeamlaadoor", sum := "fc649c18bd275e15ecadbafe896bb0ce1d82527216df7a14acf2bea2d112cd7c", func := "rowlock/rowlocklaw05.KeycodeLeast", spec := "keycodeLeast", inPlace := ["internal/bytealg.CountString", "internal/bytealg.IndexByteString", "internal/bytealg.IndexString", "internal/abi.NoEscape", "internal/bytealg.MakeNoZero"], named := ["internal/bytealg.MaxLen", "unicode/utf8.first", "unicode/utf8.acceptRanges"], apart := false, laid := [("unicode/utf8.acceptRanges", laid_unicode_utf8_acceptRanges), ("unicode/utf8.first", laid_unicode_utf8_first)] }
def KeycodeLeastSaid : Prop := keycodeLeastRow.holds Tryd.pinned (OpenSpec.ofChange keycodeLeastSpec)

/-- ITS FALSE NEIGHBOUR: 'it returns false'. Refute it at one input. -/
def keycodeLeastWrong : ChangeSpec := { name := "keycodeLeast", fn := fun _ => fun
  | [d1, d2] => { results := [.lit (.bool false)], args := [d1, d2] }
  | _ => none }
def KeycodeLeastWrongFalsely : Prop := keycodeLeastRow.holds Tryd.pinned (OpenSpec.ofChange keycodeLeastWrong)

/-- 'rowlocklaw05.KeycodeBehind': WHATEVER THE INPUT: true; the input reads as it did. -/
def keycodeBehindSpec : ChangeSpec := { name := "keycodeBehind", fn := fun _ => fun
  | [d1, d2] => { results := [.lit (.bool true)], args := [d1, d2] }
  | _ => none }
def keycodeBehindRow : OpenClaim := { program := "ythkanebmkeamlaadoor", sum := "fc649c18bd275e15ecadbafe896bb0ce1d82527216df7a14acf2bea2d112cd7c", func := "rowlock/rowlocklaw05.KeycodeBehind", spec := "keycodeBehind", inPlace := ["internal/bytealg.CountString", "internal/bytealg.IndexByteString", "internal/bytealg.IndexString", "internal/abi.NoEscape", "internal/bytealg.MakeNoZero"], named := ["internal/bytealg.MaxLen", "unicode/utf8.first", "unicode/utf8.acceptRanges"], apart := false, laid := [("unicode/utf8.acceptRanges", laid_unicode_utf8_acceptRanges), ("unicode/utf8.first", laid_unicode_utf8_first)] }
def KeycodeBehindSaid : Prop := keycodeBehindRow.holds Tryd.pinned (OpenSpec.ofChange keycodeBehindSpec)

/-- ITS FALSE NEIGHBOUR: 'it returns false'. Refute it at one input. -/
def keycodeBehindWrong : ChangeSpec := { name := "keycodeBehind", fn := fun _ => fun
  | [d1, d2] => { results := [.lit (.bool false)], args := [d1, d2] }
  | _ => none }
def KeycodeBehindWrongFalsely : Prop := keycodeBehindRow.holds Tryd.pinned (OpenSpec.ofChange keycodeBehindWrong)

/-- 'rowlocklaw05.KeycodeRanges': WHATEVER THE INPUT: true; the input reads as it did. -/
def keycodeRangesSpec : ChangeSpec := { name := "keycodeRanges", fn := fun _ => fun
  | [d1, d2] => { results := [.lit (.bool true)], args := [d1, d2] }
  | _ => none }
def keycodeRangesRow : OpenClaim := { program := "ythkanebmkeamlaadoor", sum := "fc649c18bd275e15ecadbafe896bb0ce1d82527216df7a14acf2bea2d112cd7c", func := "rowlock/rowlocklaw05.KeycodeRanges", spec := "keycodeRanges", inPlace := ["internal/bytealg.CountString", "internal/bytealg.IndexByteString", "internal/bytealg.IndexString", "internal/abi.NoEscape", "internal/bytealg.MakeNoZero"], named := ["internal/bytealg.MaxLen", "unicode/utf8.first", "unicode/utf8.acceptRanges"], apart := false, laid := [("unicode/utf8.acceptRanges", laid_unicode_utf8_acceptRanges), ("unicode/utf8.first", laid_unicode_utf8_first)] }
def KeycodeRangesSaid : Prop := keycodeRangesRow.holds Tryd.pinned (OpenSpec.ofChange keycodeRangesSpec)

/-- ITS FALSE NEIGHBOUR: 'it returns false'. Refute it at one input. -/
def keycodeRangesWrong : ChangeSpec := { name := "keycodeRanges", fn := fun _ => fun
  | [d1, d2] => { results := [.lit (.bool false)], args := [d1, d2] }
  | _ => none }
def KeycodeRangesWrongFalsely : Prop := keycodeRangesRow.holds Tryd.pinned (OpenSpec.ofChange keycodeRangesWrong)

/-- 'rowlocklaw05.KeycodePuts': WHATEVER THE INPUT: true; the input reads as it did. -/
def keycodePutsSpec : ChangeSpec := { name := "keycodePuts", fn := fun _ => fun
  | [d] => { results := [.lit (.bool true)], args := [d] }
  | _ => none }
def keycodePutsRow : OpenClaim := { program := "ythkanebmkeamlaadoor", sum := "fc649c18bd275e15ecadbafe896bb0ce1d82527216df7a14acf2bea2d112cd7c", func := "rowlock/rowlocklaw05.KeycodePuts", spec := "keycodePuts", inPlace := ["internal/bytealg.CountString", "internal/bytealg.IndexByteString", "internal/bytealg.IndexString", "internal/abi.NoEscape", "internal/bytealg.MakeNoZero"], named := ["internal/bytealg.MaxLen", "unicode/utf8.first", "unicode/utf8.acceptRanges"], apart := false, laid := [("unicode/utf8.acceptRanges", laid_unicode_utf8_acceptRanges), ("unicode/utf8.first", laid_unicode_utf8_first)] }
def KeycodePutsSaid : Prop := keycodePutsRow.holds Tryd.pinned (OpenSpec.ofChange keycodePutsSpec)

/-- ITS FALSE NEIGHBOUR: 'it returns false'. Refute it at one input. -/
def keycodePutsWrong : ChangeSpec := { name := "keycodePuts", fn := fun _ => fun
  | [d] => { results := [.lit (.bool false)], args := [d] }
  | _ => none }
def KeycodePutsWrongFalsely : Prop := keycodePutsRow.holds Tryd.pinned (OpenSpec.ofChange keycodePutsWrong)

/-- 'rowlocklaw05.KeycodeGets': WHATEVER THE INPUT: true; the input reads as it did. -/
def keycodeGetsSpec : ChangeSpec := { name := "keycodeGets", fn := fun _ => fun
  | [d] => { results := [.lit (.bool true)], args := [d] }
  | _ => none }
def keycodeGetsRow : OpenClaim := { program := "ythkanebmkeamlaadoor", sum := "fc649c18bd275e15ecadbafe896bb0ce1d82527216df7a14acf2bea2d112cd7c", func := "rowlock/rowlocklaw05.KeycodeGets", spec := "keycodeGets", inPlace := ["internal/bytealg.CountString", "internal/bytealg.IndexByteString", "internal/bytealg.IndexString", "internal/abi.NoEscape", "internal/bytealg.MakeNoZero"], named := ["internal/bytealg.MaxLen", "unicode/utf8.first", "unicode/utf8.acceptRanges"], apart := false, laid := [("unicode/utf8.acceptRanges", laid_unicode_utf8_acceptRanges), ("unicode/utf8.first", laid_unicode_utf8_first)] }
def KeycodeGetsSaid : Prop := keycodeGetsRow.holds Tryd.pinned (OpenSpec.ofChange keycodeGetsSpec)

/-- ITS FALSE NEIGHBOUR: 'it returns false'. Refute it at one input. -/
def keycodeGetsWrong : ChangeSpec := { name := "keycodeGets", fn := fun _ => fun
  | [d] => { results := [.lit (.bool false)], args := [d] }
  | _ => none }
def KeycodeGetsWrongFalsely : Prop := keycodeGetsRow.holds Tryd.pinned (OpenSpec.ofChange keycodeGetsWrong)

/- THE SECOND FORM. 'bulk': how many values and letters a reading holds, each counted each time it is reached (what is shared counts as often as it is met; a slice's spare places count too). A statement '..UptoSaid' is the law's where the arguments, and the package variables that the reading takes, are together of bulk at most 1048576: NARROWER than '..Said'. Prove '..Said' where nothing that the law and all that it calls make is longer than what came in: it says more and counts as full. Else prove '..UptoSaid'. A law counts once. -/
mutual
def uptoBulk {H : Type} : DataW H → Nat
  | .lit (.string bytes) => bytes.length + 1
  | .lit _ => 1
  | .nil => 1
  | .ptr d => uptoBulk d + 1
  | .slice elems spare => uptoBulkAll elems + uptoBulkAll spare + 1
  | .agg parts => uptoBulkAll parts + 1
  | .iface _ d => uptoBulk d + 1
  | .map entries => uptoBulkEntries entries + 1
  | .held _ => 1
def uptoBulkAll {H : Type} : List (DataW H) → Nat
  | [] => 0
  | d :: r => uptoBulk d + uptoBulkAll r
def uptoBulkEntries {H : Type} : List (Lit × DataW H) → Nat
  | [] => 0
  | x :: r => uptoBulkEntry x + uptoBulkEntries r
def uptoBulkEntry {H : Type} : Lit × DataW H → Nat
  | (.string bytes, d) => bytes.length + uptoBulk d + 1
  | (_, d) => uptoBulk d + 1
 end
def uptoSmall : (H : Type) → List (DataW H) → Bool := fun _ ds => decide (uptoBulkAll ds ≤ 1048576)
def OpenSpec.upto (s : _root_.Go.ChangeSpec) : _root_.Go.OpenSpec := { _root_.Go.OpenSpec.ofChange s with cond := some uptoSmall }

/-- 'rowlocklaw05.KeycodeOrder', WHERE WHAT IT READS IS OF BULK AT MOST 1048576: true; the input reads as it did. -/
def keycodeOrderUptoRow : OpenClaim := { program := "ythkanebmkeamlaadoor", sum := "fc649c18bd275e15ecadbafe896bb0ce1d82527216df7a14acf2bea2d112cd7c", func := "rowlock/rowlocklaw05.KeycodeOrder", spec := "keycodeOrder", inPlace := ["internal/bytealg.CountString", "internal/bytealg.IndexByteString", "internal/bytealg.IndexString", "internal/abi.NoEscape", "internal/bytealg.MakeNoZero"], named := ["internal/bytealg.MaxLen", "unicode/utf8.first", "unicode/utf8.acceptRanges"], apart := false, laid := [("unicode/utf8.acceptRanges", laid_unicode_utf8_acceptRanges), ("unicode/utf8.first", laid_unicode_utf8_first)], narrowed := true }
def KeycodeOrderUptoSaid : Prop := keycodeOrderUptoRow.holds Tryd.pinned (OpenSpec.upto keycodeOrderSpec)

/-- 'rowlocklaw05.KeycodeLeast', WHERE WHAT IT READS IS OF BULK AT MOST 1048576: true; the input reads as it did. -/
def keycodeLeastUptoRow : OpenClaim := { program := "ythkanebmkeamlaadoor", sum := "fc649c18bd275e15ecadbafe896bb0ce1d82527216df7a14acf2bea2d112cd7c", func := "rowlock/rowlocklaw05.KeycodeLeast", spec := "keycodeLeast", inPlace := ["internal/bytealg.CountString", "internal/bytealg.IndexByteString", "internal/bytealg.IndexString", "internal/abi.NoEscape", "internal/bytealg.MakeNoZero"], named := ["internal/bytealg.MaxLen", "unicode/utf8.first", "unicode/utf8.acceptRanges"], apart := false, laid := [("unicode/utf8.acceptRanges", laid_unicode_utf8_acceptRanges), ("unicode/utf8.first", laid_unicode_utf8_first)], narrowed := true }
def KeycodeLeastUptoSaid : Prop := keycodeLeastUptoRow.holds Tryd.pinned (OpenSpec.upto keycodeLeastSpec)

/-- 'rowlocklaw05.KeycodeBehind', WHERE WHAT IT READS IS OF BULK AT MOST 1048576: true; the input reads as it did. -/
def keycodeBehindUptoRow : OpenClaim := { program := "ythkanebmkeamlaadoor", sum := "fc649c18bd275e15ecadbafe896bb0ce1d82527216df7a14acf2bea2d112cd7c", func := "rowlock/rowlocklaw05.KeycodeBehind", spec := "keycodeBehind", inPlace := ["internal/bytealg.CountString", "internal/bytealg.IndexByteString", "internal/bytealg.IndexString", "internal/abi.NoEscape", "internal/bytealg.MakeNoZero"], named := ["internal/bytealg.MaxLen", "unicode/utf8.first", "unicode/utf8.acceptRanges"], apart := false, laid := [("unicode/utf8.acceptRanges", laid_unicode_utf8_acceptRanges), ("unicode/utf8.first", laid_unicode_utf8_first)], narrowed := true }
def KeycodeBehindUptoSaid : Prop := keycodeBehindUptoRow.holds Tryd.pinned (OpenSpec.upto keycodeBehindSpec)

/-- 'rowlocklaw05.KeycodeRanges', WHERE WHAT IT READS IS OF BULK AT MOST 1048576: true; the input reads as it did. -/
def keycodeRangesUptoRow : OpenClaim := { program := "ythkanebmkeamlaadoor", sum := "fc649c18bd275e15ecadbafe896bb0ce1d82527216df7a14acf2bea2d112cd7c", func := "rowlock/rowlocklaw05.KeycodeRanges", spec := "keycodeRanges", inPlace := ["internal/bytealg.CountString", "internal/bytealg.IndexByteString", "internal/bytealg.IndexString", "internal/abi.NoEscape", "internal/bytealg.MakeNoZero"], named := ["internal/bytealg.MaxLen", "unicode/utf8.first", "unicode/utf8.acceptRanges"], apart := false, laid := [("unicode/utf8.acceptRanges", laid_unicode_utf8_acceptRanges), ("unicode/utf8.first", laid_unicode_utf8_first)], narrowed := true }
def KeycodeRangesUptoSaid : Prop := keycodeRangesUptoRow.holds Tryd.pinned (OpenSpec.upto keycodeRangesSpec)

/-- 'rowlocklaw05.KeycodePuts', WHERE WHAT IT READS IS OF BULK AT MOST 1048576: true; the input reads as it did. -/
def keycodePutsUptoRow : OpenClaim := { program := "ythkanebmkeamlaadoor", sum := "fc649c18bd275e15ecadbafe896bb0ce1d82527216df7a14acf2bea2d112cd7c", func := "rowlock/rowlocklaw05.KeycodePuts", spec := "keycodePuts", inPlace := ["internal/bytealg.CountString", "internal/bytealg.IndexByteString", "internal/bytealg.IndexString", "internal/abi.NoEscape", "internal/bytealg.MakeNoZero"], named := ["internal/bytealg.MaxLen", "unicode/utf8.first", "unicode/utf8.acceptRanges"], apart := false, laid := [("unicode/utf8.acceptRanges", laid_unicode_utf8_acceptRanges), ("unicode/utf8.first", laid_unicode_utf8_first)], narrowed := true }
def KeycodePutsUptoSaid : Prop := keycodePutsUptoRow.holds Tryd.pinned (OpenSpec.upto keycodePutsSpec)

/-- 'rowlocklaw05.KeycodeGets', WHERE WHAT IT READS IS OF BULK AT MOST 1048576: true; the input reads as it did. -/
def keycodeGetsUptoRow : OpenClaim := { program := "ythkanebmkeamlaadoor", sum := "fc649c18bd275e15ecadbafe896bb0ce1d82527216df7a14acf2bea2d112cd7c", func := "rowlock/rowlocklaw05.KeycodeGets", spec := "keycodeGets", inPlace := ["internal/bytealg.CountString", "internal/bytealg.IndexByteString", "internal/bytealg.IndexString", "internal/abi.NoEscape", "internal/bytealg.MakeNoZero"], named := ["internal/bytealg.MaxLen", "unicode/utf8.first", "unicode/utf8.acceptRanges"], apart := false, laid := [("unicode/utf8.acceptRanges", laid_unicode_utf8_acceptRanges), ("unicode/utf8.first", laid_unicode_utf8_first)], narrowed := true }
def KeycodeGetsUptoSaid : Prop := keycodeGetsUptoRow.holds Tryd.pinned (OpenSpec.upto keycodeGetsSpec)

end Rows
end Go.Proofs.YthkanebmkeamlaaDoor
