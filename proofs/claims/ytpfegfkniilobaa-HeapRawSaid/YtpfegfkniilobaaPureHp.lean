/- Law 09's small functions in plain Lean: 'small', 'texts', the chapter's example. Conditions: rows that a machine holds. -/
import Derived.Test.YtpfegfkniilobaaPureSlotsC
namespace Go.Proofs.Ytpfegfkniilobaa.Hp
open Go.RowKit Go.Proofs.YtpfegfkniilobaaW.PrintWords Go.Proofs.YtpfegfkniilobaaW.PrintLast Go.Proofs.YtpfegfkniilobaaW.PrintMore Go.Proofs.Ytpfegfkniilobaa.Byt Go.Proofs.Ytpfegfkniilobaa.Dsk Go.Proofs.Ytpfegfkniilobaa.XHeap
open Go.Proofs.Ytpfegfkniilobaa.PureSl (room Ok txt)
set_option linter.unusedVariables false
set_option linter.unusedSimpArgs false
theorem fixed_f : rowlocklaw09_fixed.f 10 = some true := by decide +kernel
theorem fixed_ok (w : World) : Calls Try.prog 11 #[] w fun e w' => e = .returned (.bool true) ∧ Below w.heap.size w w' := rowlocklaw09_fixed.calls 10 true w fixed_f
end Go.Proofs.Ytpfegfkniilobaa.Hp
