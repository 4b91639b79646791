-- Out of the kit's print (OWN=1), less the theorems that this claim does not name (wip/prunew.py).
import Derived.Test.YtihmkdjambdfjaaWInv
import Derived.Test.YtihmkdjambdfjaaWFootNe
namespace Go.Proofs.YtihmkdjambdfjaaW.PrintWords
open Go.RowKit
end Go.Proofs.YtihmkdjambdfjaaW.PrintWords
namespace Go.Proofs.YtihmkdjambdfjaaW.PrintLast
section
variable {ops : Array Oper} {a : Act} {o og : Oper} {g : Nat} {t : Tmp} {u : Bool}
end
end Go.Proofs.YtihmkdjambdfjaaW.PrintLast
