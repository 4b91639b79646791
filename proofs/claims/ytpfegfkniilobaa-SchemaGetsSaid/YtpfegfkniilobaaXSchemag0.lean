-- Written by this session's own program (wip/own_print.py) over the kit's print, with this session's hand-proved contracts in their places; Lean checks it.
import Derived.Test.YtpfegfkniilobaaProg
import Derived.Below
import Derived.Deep.Draws
import Derived.Deep.AppendLies
import Derived.Maps.AppendAt
import Derived.OwnWalk
import Derived.Laws.BytesArg
import Derived.Laws.MakeOwn
import Derived.Laws.OwnMore
import Derived.Deep.OwnRows
import Derived.Tactics
import Derived.Lib.ConvBytes
import Derived.Laws.Slices
import Derived.WalkKit
import Derived.KernelRfl
import Derived.RowKit3
import Derived.Deep.LoopGhost
import Derived.Deep.QuietTactic
import Derived.BigQuiet
import Derived.WideLaws
import Derived.Deep.DeepCutAuto
import Derived.Deep.CutBlock
import Derived.Deep.RegionHeld3
import Derived.Laws.Rows
import Derived.Lib.AppendStr
import Derived.ArgAppend
import Derived.Laws.IdiomCopy
import Derived.OrdersHeld
import Derived.Laws.BitsLemmas
import Derived.RowKit
import Derived.Test.YtpfegfkniilobaaFnv
import Derived.Test.YtpfegfkniilobaaSchHandG
import Derived.Test.YtpfegfkniilobaaRgetH
import Derived.Test.YtpfegfkniilobaaXSchemax0
import Derived.Test.YtpfegfkniilobaaXSchemax10
import Derived.Test.YtpfegfkniilobaaXSchemax11
import Derived.Test.YtpfegfkniilobaaXSchemax12
import Derived.Test.YtpfegfkniilobaaXSchemax13
import Derived.Test.YtpfegfkniilobaaXSchemax3
import Derived.Test.YtpfegfkniilobaaXSchemax4
import Derived.Test.YtpfegfkniilobaaXSchemax5
import Derived.Test.YtpfegfkniilobaaXSchemax6
import Derived.Test.YtpfegfkniilobaaXSchemax7
import Derived.Test.YtpfegfkniilobaaWWords
import Derived.Test.YtpfegfkniilobaaWLast
import Derived.Test.YtpfegfkniilobaaWTab
import Derived.Test.YtpfegfkniilobaaWFour
import Derived.Test.YtpfegfkniilobaaWQPut
import Derived.Test.YtpfegfkniilobaaWApart
import Derived.Test.YtpfegfkniilobaaWArr
import Derived.Test.YtpfegfkniilobaaWZeros
import Derived.Test.YtpfegfkniilobaaWFoot
import Derived.Test.YtpfegfkniilobaaWKept
import Derived.Test.YtpfegfkniilobaaWShare
import Derived.Test.YtpfegfkniilobaaWN
import Derived.Test.YtpfegfkniilobaaWFootNe
import Derived.Test.YtpfegfkniilobaaWAt
import Derived.Test.YtpfegfkniilobaaWEqStruct
import Derived.Test.YtpfegfkniilobaaWRepsOne
import Derived.Test.YtpfegfkniilobaaWInv
import Derived.Test.YtpfegfkniilobaaWInvWords
import Derived.Test.YtpfegfkniilobaaWGuard
import Derived.Test.YtpfegfkniilobaaWNEv
import Derived.Test.YtpfegfkniilobaaWMore
namespace Go.Proofs.Ytpfegfkniilobaa.XSchema
open Go.RowKit Go.Proofs.YtpfegfkniilobaaW.PrintWords Go.Proofs.YtpfegfkniilobaaW.PrintLast Go.Proofs.YtpfegfkniilobaaW.PrintMore
attribute [local go_sem] max2_int min2_int max_two min_two max_three min_three max_four min_four   -- for this text's walks alone
set_option linter.unusedVariables false
set_option linter.unusedSimpArgs false



-- the values' own types
/-! #### struct type 87 -/
/-! #### struct type 84 -/
/-! #### struct type 135 -/
def rd_L12 (xs : List (List Int)) (i : Int) : (List Int) := xs.getD i.toNat ([] : List Int)
theorem at_L12 {w : World} {A : Option Addr} {n : Nat} {xs : List (List Int)} (h : Kd.C (Kd.slice 5 (Kd.int .u8)) w A n xs) (i : Int) (h0 : 0 ≤ i) (h1 : i < n) : ∃ ad A0 c0, A = some ad ∧ w.cell? (ad.add i.toNat) = some (.slice A0 (rd_L12 xs i).length c0) ∧ (rd_L12 xs i).length ≤ c0 ∧ (Kd.int .u8).C w A0 (rd_L12 xs i).length (rd_L12 xs i) := by
 obtain ⟨ad, c, e, _, hK, hc0⟩ := Kd.C_get h ([] : List Int) i h0 h1
 have hc : ∀ j u, c[j]? = some u → w.cell? (ad.add (i.toNat * 1 + j)) = some u := hc0
 obtain ⟨A0, c0, rfl, l0, g0⟩ := hK
 exact ⟨ad, A0, c0, e, by have hq := hc 0 _ rfl; rwa [Nat.mul_one, Nat.add_zero] at hq, l0, g0⟩

end Go.Proofs.Ytpfegfkniilobaa.XSchema
