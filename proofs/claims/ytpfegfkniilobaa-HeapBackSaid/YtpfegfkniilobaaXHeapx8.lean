-- Written by this session's own program (wip/own_print.py) over the kit's print, with this session's hand-proved contracts in their places; Lean checks it.
import Derived.Test.YtpfegfkniilobaaXHeapx0
import Derived.Test.YtpfegfkniilobaaXHeapx5
import Derived.Test.YtpfegfkniilobaaXHeapx7
namespace Go.Proofs.Ytpfegfkniilobaa.XHeap
open Go.RowKit Go.Proofs.YtpfegfkniilobaaW.PrintWords Go.Proofs.YtpfegfkniilobaaW.PrintLast Go.Proofs.YtpfegfkniilobaaW.PrintMore
attribute [local go_sem] max2_int min2_int max_two min_two max_three min_three max_four min_four   -- for this text's walks alone
set_option linter.unusedVariables false
set_option linter.unusedSimpArgs false

/-! ### rowlockref09_H_write: function 45 -/
def rowlockref09_H_write.f (k : Nat) (l0_0 : List ByteArray) (l0_1 : List Bool) (a0_2 : Int) (a0_3 : Int) (a0_4 : Int) (l0_5 : List ByteArray) (l0_6 : List (S50)) (a0_7 : Bool) : Option (List ByteArray × List Bool × Int × Int × Int × List ByteArray × (List (S50)) × Bool) := (rowlockref08_Page_Lay.f k a0_4 l0_5).bind fun t234 => ((rowlockref06_Disk_Write.f l0_0 l0_1 a0_3 t234).bind fun bt235 => (some (bt235.2.1, bt235.2.2, a0_2, a0_3, a0_4, l0_5, l0_6, a0_7)))
end Go.Proofs.Ytpfegfkniilobaa.XHeap
