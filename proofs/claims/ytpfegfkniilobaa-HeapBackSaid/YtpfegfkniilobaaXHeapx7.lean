-- Written by this session's own program (wip/own_print.py) over the kit's print, with this session's hand-proved contracts in their places; Lean checks it.
import Derived.Test.YtpfegfkniilobaaXHeapx0
import Derived.Test.YtpfegfkniilobaaXHeapx5
import Derived.Test.YtpfegfkniilobaaXHeapx6
namespace Go.Proofs.Ytpfegfkniilobaa.XHeap
open Go.RowKit Go.Proofs.YtpfegfkniilobaaW.PrintWords Go.Proofs.YtpfegfkniilobaaW.PrintLast Go.Proofs.YtpfegfkniilobaaW.PrintMore
attribute [local go_sem] max2_int min2_int max_two min_two max_three min_three max_four min_four   -- for this text's walks alone
set_option linter.unusedVariables false
set_option linter.unusedSimpArgs false

/-! ### rowlockref08_Page_Lay: function 88 -/
def rowlockref08_Page_Lay.l0 : Nat → ByteArray → ByteArray → Int → Int → Int → List ByteArray → Option (ByteArray)
 | 0, _, _, _, _, _, _ => none
 | k + 1, x3, x4, x17, x18, x224000, x224001 => if x18 < x17 then (if 0 ≤ x18 then (if x18 < (x224001.length : Int) then (if (rdOf ByteArray.empty x224001 x18).size + x4.size ≤ 9223372036854775807 then ((rowlockref06_Number.f k (IntKind.u64.wrap (wrap64 (512 - (((rdOf ByteArray.empty x224001 x18) ++ x4).size : Int)))) 2).bind fun t226 => (if x3.size + t226.size ≤ 9223372036854775807 then ((rowlockref06_Number.f k (IntKind.u64.wrap (((rdOf ByteArray.empty x224001 x18).size : Int))) 2).bind fun t228 => (if (x3 ++ t226).size + t228.size ≤ 9223372036854775807 then (rowlockref08_Page_Lay.l0 k ((x3 ++ t226) ++ t228) ((rdOf ByteArray.empty x224001 x18) ++ x4) x17 (wrap64 (x18 + 1)) x224000 x224001) else (none))) else (none))) else (none)) else (none)) else (none)) else (if 0 ≤ (wrap64 ((wrap64 (512 - (x3.size : Int))) - (x4.size : Int))) then (if (wrap64 ((wrap64 (512 - (x3.size : Int))) - (x4.size : Int)) : Int).toNat ≤ 281474976710656 then ((some (List.replicate (wrap64 ((wrap64 (512 - (x3.size : Int))) - (x4.size : Int)) : Int).toNat 0 : List Int)).bind fun y229 => (if x3.size + (strOfNums y229).size ≤ 9223372036854775807 then (if (x3 ++ (strOfNums y229)).size + x4.size ≤ 9223372036854775807 then (some ((x3 ++ (strOfNums y229)) ++ x4)) else (none)) else (none))) else (none)) else (none))
def rowlockref08_Page_Lay.f (k : Nat) (a0_0 : Int) (l0_1 : List ByteArray) : Option (ByteArray) := (rowlockref06_Head.f k 1 (IntKind.u16.wrap ((l0_1.length : Int))) a0_0).bind fun t224 => (if 0 ≤ 8 then (if 8 ≤ (t224.size : Int) then (rowlockref08_Page_Lay.l0 k (t224.extract 0 8) (⟨#[]⟩ : ByteArray) (l0_1.length : Int) 0 a0_0 l0_1) else (none)) else (none))
end Go.Proofs.Ytpfegfkniilobaa.XHeap
