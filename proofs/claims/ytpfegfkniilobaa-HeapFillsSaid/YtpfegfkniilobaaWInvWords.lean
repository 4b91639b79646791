-- Out of the kit's print (OWN=1), less the theorems that this claim does not name (wip/prunew.py).
import Derived.Test.YtpfegfkniilobaaWInv
import Derived.Test.YtpfegfkniilobaaWFootNe
namespace Go.Proofs.YtpfegfkniilobaaW.PrintWords
open Go.RowKit
end Go.Proofs.YtpfegfkniilobaaW.PrintWords
namespace Go.Proofs.YtpfegfkniilobaaW.PrintLast
section
variable {ops : Array Oper} {a : Act} {o og : Oper} {g : Nat} {t : Tmp} {u : Bool}
end
end Go.Proofs.YtpfegfkniilobaaW.PrintLast
