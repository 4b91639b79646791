-- Written by this session's own program (wip/own_print.py) over the kit's print, with this session's hand-proved contracts in their places; Lean checks it.
import Derived.Test.YtpfegfkniilobaaXHeapx0
import Derived.Test.YtpfegfkniilobaaXHeapx2
import Derived.Test.YtpfegfkniilobaaXHeapx5
namespace Go.Proofs.Ytpfegfkniilobaa.XHeap
open Go.RowKit Go.Proofs.YtpfegfkniilobaaW.PrintWords Go.Proofs.YtpfegfkniilobaaW.PrintLast Go.Proofs.YtpfegfkniilobaaW.PrintMore
attribute [local go_sem] max2_int min2_int max_two min_two max_three min_three max_four min_four   -- for this text's walks alone
set_option linter.unusedVariables false
set_option linter.unusedSimpArgs false

/-! ### rowlockref06_Head: function 111 -/
def rowlockref06_Head.f (k : Nat) (a0_0 : Int) (a0_1 : Int) (a0_2 : Int) : Option (ByteArray) := (some (([a0_0, 0] : List Int) : List Int)).bind fun y217 => ((rowlockref06_Number.f k (IntKind.u64.wrap (a0_1)) 2).bind fun t220 => (if (strOfNums y217).size + t220.size ≤ 9223372036854775807 then ((rowlockref06_Number.f k (IntKind.u64.wrap (a0_2)) 4).bind fun t221 => (if ((strOfNums y217) ++ t220).size + t221.size ≤ 9223372036854775807 then ((rowlockref06_zeros.f 504).bind fun t222 => (if (((strOfNums y217) ++ t220) ++ t221).size + t222.size ≤ 9223372036854775807 then (some ((((strOfNums y217) ++ t220) ++ t221) ++ t222)) else (none))) else (none))) else (none)))
end Go.Proofs.Ytpfegfkniilobaa.XHeap
