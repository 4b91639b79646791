/-
  DERIVED. GIVEN WITH THE SEED: THE CARDS: each row of YthkanebmkeamlaaDoorRows.lean that lists a variable, with what it lists TIED to the program's text (the seventh form; the later family's looks); each row that meets fmt, with fmt's text TOLD by the authors' own Lean function (tested against real Go, not proved from fmt's source: count such statements apart). THE CARD IS WHAT COUNTS. Prove the row's statement (the work); the ties are given (YthkanebmkeamlaaDoorTie.lean); close each card by the builder's one call (the guide's Derived/Test/ToyasCard.lean, 'card_holds'). Laid BY PROGRAM, IN A SANDBOX (cutbox-door.mjs). By AI agents, Wed Nov 11 2026. No macro, syntax, notation, axiom, sorry.
-/
import Derived.Test.YthkanebmkeamlaaDoorRows
import GoSem.ClaimSeven
namespace Go.Proofs.YthkanebmkeamlaaDoor
namespace Rows

/-- THE TIED CARD OF 'rowlocklaw05.KeycodeOrder'. -/
def keycodeOrderCard : Claim7 := { stood := { row := keycodeOrderRow, standIns := [], harness := (true, "3c6c76d3d8d0d8218643d8fa9001b1fc6a3d0bcf219755dc30d6d33e52c6d796"), looks := false }, kinds := [], alts := [], laidByText := true, laidKinds := [.data, .pinned], laidTests := true, laidLooks := .later }
def KeycodeOrderCardSaid : Prop := Claim7.holds Tryd.pinned (.plain (OpenSpec.ofChange keycodeOrderSpec)) keycodeOrderCard

/-- THE TIED CARD OF 'rowlocklaw05.KeycodeLeast'. -/
def keycodeLeastCard : Claim7 := { stood := { row := keycodeLeastRow, standIns := [], harness := (true, "3c6c76d3d8d0d8218643d8fa9001b1fc6a3d0bcf219755dc30d6d33e52c6d796"), looks := false }, kinds := [], alts := [], laidByText := true, laidKinds := [.data, .pinned], laidTests := true, laidLooks := .later }
def KeycodeLeastCardSaid : Prop := Claim7.holds Tryd.pinned (.plain (OpenSpec.ofChange keycodeLeastSpec)) keycodeLeastCard

/-- THE TIED CARD OF 'rowlocklaw05.KeycodeBehind'. -/
def keycodeBehindCard : Claim7 := { stood := { row := keycodeBehindRow, standIns := [], harness := (true, "3c6c76d3d8d0d8218643d8fa9001b1fc6a3d0bcf219755dc30d6d33e52c6d796"), looks := false }, kinds := [], alts := [], laidByText := true, laidKinds := [.data, .pinned], laidTests := true, laidLooks := .later }
def KeycodeBehindCardSaid : Prop := Claim7.holds Tryd.pinned (.plain (OpenSpec.ofChange keycodeBehindSpec)) keycodeBehindCard

/-- THE TIED CARD OF 'rowlocklaw05.KeycodeRanges'. -/
def keycodeRangesCard : Claim7 := { stood := { row := keycodeRangesRow, standIns := [], harness := (true, "3c6c76d3d8d0d8218643d8fa9001b1fc6a3d0bcf219755dc30d6d33e52c6d796"), looks := false }, kinds := [], alts := [], laidByText := true, laidKinds := [.data, .pinned], laidTests := true, laidLooks := .later }
def KeycodeRangesCardSaid : Prop := Claim7.holds Tryd.pinned (.plain (OpenSpec.ofChange keycodeRangesSpec)) keycodeRangesCard

/-- THE TIED CARD OF 'rowlocklaw05.KeycodePuts'. -/
def keycodePutsCard : Claim7 := { stood := { row := keycodePutsRow, standIns := [], harness := (true, "3c6c76d3d8d0d8218643d8fa9001b1fc6a3d0bcf219755dc30d6d33e52c6d796"), looks := false }, kinds := [], alts := [], laidByText := true, laidKinds := [.data, .pinned], laidTests := true, laidLooks := .later }
def KeycodePutsCardSaid : Prop := Claim7.holds Tryd.pinned (.plain (OpenSpec.ofChange keycodePutsSpec)) keycodePutsCard

/-- THE TIED CARD OF 'rowlocklaw05.KeycodeGets'. -/
def keycodeGetsCard : Claim7 := { stood := { row := keycodeGetsRow, standIns := [], harness := (true, "3c6c76d3d8d0d8218643d8fa9001b1fc6a3d0bcf219755dc30d6d33e52c6d796"), looks := false }, kinds := [], alts := [], laidByText := true, laidKinds := [.data, .pinned], laidTests := true, laidLooks := .later }
def KeycodeGetsCardSaid : Prop := Claim7.holds Tryd.pinned (.plain (OpenSpec.ofChange keycodeGetsSpec)) keycodeGetsCard

/-- THE SECOND FORM's CARD OF 'rowlocklaw05.KeycodeOrder'. -/
def keycodeOrderUptoCard : Claim7 := { stood := { row := keycodeOrderUptoRow, standIns := [], harness := (true, "3c6c76d3d8d0d8218643d8fa9001b1fc6a3d0bcf219755dc30d6d33e52c6d796"), looks := false }, kinds := [], alts := [], laidByText := true, laidKinds := [.data, .pinned], laidTests := true, laidLooks := .later }
def KeycodeOrderUptoCardSaid : Prop := Claim7.holds Tryd.pinned (.plain (OpenSpec.upto keycodeOrderSpec)) keycodeOrderUptoCard

/-- THE SECOND FORM's CARD OF 'rowlocklaw05.KeycodeLeast'. -/
def keycodeLeastUptoCard : Claim7 := { stood := { row := keycodeLeastUptoRow, standIns := [], harness := (true, "3c6c76d3d8d0d8218643d8fa9001b1fc6a3d0bcf219755dc30d6d33e52c6d796"), looks := false }, kinds := [], alts := [], laidByText := true, laidKinds := [.data, .pinned], laidTests := true, laidLooks := .later }
def KeycodeLeastUptoCardSaid : Prop := Claim7.holds Tryd.pinned (.plain (OpenSpec.upto keycodeLeastSpec)) keycodeLeastUptoCard

/-- THE SECOND FORM's CARD OF 'rowlocklaw05.KeycodeBehind'. -/
def keycodeBehindUptoCard : Claim7 := { stood := { row := keycodeBehindUptoRow, standIns := [], harness := (true, "3c6c76d3d8d0d8218643d8fa9001b1fc6a3d0bcf219755dc30d6d33e52c6d796"), looks := false }, kinds := [], alts := [], laidByText := true, laidKinds := [.data, .pinned], laidTests := true, laidLooks := .later }
def KeycodeBehindUptoCardSaid : Prop := Claim7.holds Tryd.pinned (.plain (OpenSpec.upto keycodeBehindSpec)) keycodeBehindUptoCard

/-- THE SECOND FORM's CARD OF 'rowlocklaw05.KeycodeRanges'. -/
def keycodeRangesUptoCard : Claim7 := { stood := { row := keycodeRangesUptoRow, standIns := [], harness := (true, "3c6c76d3d8d0d8218643d8fa9001b1fc6a3d0bcf219755dc30d6d33e52c6d796"), looks := false }, kinds := [], alts := [], laidByText := true, laidKinds := [.data, .pinned], laidTests := true, laidLooks := .later }
def KeycodeRangesUptoCardSaid : Prop := Claim7.holds Tryd.pinned (.plain (OpenSpec.upto keycodeRangesSpec)) keycodeRangesUptoCard

/-- THE SECOND FORM's CARD OF 'rowlocklaw05.KeycodePuts'. -/
def keycodePutsUptoCard : Claim7 := { stood := { row := keycodePutsUptoRow, standIns := [], harness := (true, "3c6c76d3d8d0d8218643d8fa9001b1fc6a3d0bcf219755dc30d6d33e52c6d796"), looks := false }, kinds := [], alts := [], laidByText := true, laidKinds := [.data, .pinned], laidTests := true, laidLooks := .later }
def KeycodePutsUptoCardSaid : Prop := Claim7.holds Tryd.pinned (.plain (OpenSpec.upto keycodePutsSpec)) keycodePutsUptoCard

/-- THE SECOND FORM's CARD OF 'rowlocklaw05.KeycodeGets'. -/
def keycodeGetsUptoCard : Claim7 := { stood := { row := keycodeGetsUptoRow, standIns := [], harness := (true, "3c6c76d3d8d0d8218643d8fa9001b1fc6a3d0bcf219755dc30d6d33e52c6d796"), looks := false }, kinds := [], alts := [], laidByText := true, laidKinds := [.data, .pinned], laidTests := true, laidLooks := .later }
def KeycodeGetsUptoCardSaid : Prop := Claim7.holds Tryd.pinned (.plain (OpenSpec.upto keycodeGetsSpec)) keycodeGetsUptoCard
end Rows
end Go.Proofs.YthkanebmkeamlaaDoor
