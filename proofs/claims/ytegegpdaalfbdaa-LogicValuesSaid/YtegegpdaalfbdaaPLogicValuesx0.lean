-- PRINTED BY print.sh 35421559b90ae4d0a3588c463048766b98c2df88dd9212a6774a882060cdf62d: not written by this session
import Derived.Test.YtegegpdaalfbdaaProg
import Derived.Below
import Derived.Deep.Draws
import Derived.Deep.AppendLies
import Derived.Maps.AppendAt
import Derived.OwnWalk
import Derived.Laws.BytesArg
import Derived.Laws.MakeOwn
import Derived.Laws.OwnMore
import Derived.Deep.OwnRows
import Derived.Tactics
import Derived.Lib.ConvBytes
import Derived.Laws.Slices
import Derived.WalkKit
import Derived.KernelRfl
import Derived.RowKit3
import Derived.Deep.LoopGhost
import Derived.Deep.QuietTactic
import Derived.BigQuiet
import Derived.WideLaws
import Derived.Deep.DeepCutAuto
import Derived.Deep.CutBlock
import Derived.Deep.RegionHeld3
import Derived.Laws.Rows
import Derived.Lib.AppendStr
import Derived.ArgAppend
import Derived.Laws.IdiomCopy
import Derived.OrdersHeld
import Derived.Laws.BitsLemmas
import Derived.RowKit
import Derived.Test.YtegegpdaalfbdaaWWords
import Derived.Test.YtegegpdaalfbdaaWLast
import Derived.Test.YtegegpdaalfbdaaWTab
import Derived.Test.YtegegpdaalfbdaaWFour
import Derived.Test.YtegegpdaalfbdaaWQPut
import Derived.Test.YtegegpdaalfbdaaWApart
import Derived.Test.YtegegpdaalfbdaaWArr
import Derived.Test.YtegegpdaalfbdaaWZeros
import Derived.Test.YtegegpdaalfbdaaWFoot
import Derived.Test.YtegegpdaalfbdaaWKept
import Derived.Test.YtegegpdaalfbdaaWShare
import Derived.Test.YtegegpdaalfbdaaWN
import Derived.Test.YtegegpdaalfbdaaWFootNe
import Derived.Test.YtegegpdaalfbdaaWAt
import Derived.Test.YtegegpdaalfbdaaWEqStruct
import Derived.Test.YtegegpdaalfbdaaWRepsOne
import Derived.Test.YtegegpdaalfbdaaWInv
import Derived.Test.YtegegpdaalfbdaaWInvWords
import Derived.Test.YtegegpdaalfbdaaWGuard
import Derived.Test.YtegegpdaalfbdaaWNEv
import Derived.Test.YtegegpdaalfbdaaWMore
namespace Go.Proofs.Ytegegpdaalfbdaa.PLogicValues
open Go.RowKit Go.Proofs.YtegegpdaalfbdaaW.PrintWords Go.Proofs.YtegegpdaalfbdaaW.PrintLast Go.Proofs.YtegegpdaalfbdaaW.PrintMore
attribute [local go_sem] max2_int min2_int max_two min_two max_three min_three max_four min_four   -- for this text's walks alone
set_option linter.unusedVariables false
set_option linter.unusedSimpArgs false



def errW : Option Int → Value
  | none => .nilIface
  | some c => .iface 0 (.int .i64 c)
theorem errW_none : errW none = .nilIface := rfl
theorem errW_some (c : Int) : errW (some c) = .iface 0 (.int .i64 c) := rfl

theorem info23 : (Try.prog.info? 23).map (fun i => (i.zero, i.size, i.bytes)) = some (some (.int .u8 0), 1, 1) := by kernel_rfl
-- the values' own types

end Go.Proofs.Ytegegpdaalfbdaa.PLogicValues
