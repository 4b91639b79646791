-- Out of the kit's print (OWN=1), less the theorems that this claim does not name (wip/prunew.py).
import Derived.Test.YthkanebmkeamlaaDoorWInv
import Derived.Test.YthkanebmkeamlaaDoorWFootNe
namespace Go.Proofs.YthkanebmkeamlaaDoorW.PrintWords
open Go.RowKit
end Go.Proofs.YthkanebmkeamlaaDoorW.PrintWords
namespace Go.Proofs.YthkanebmkeamlaaDoorW.PrintLast
section
variable {ops : Array Oper} {a : Act} {o og : Oper} {g : Nat} {t : Tmp} {u : Bool}
end
end Go.Proofs.YthkanebmkeamlaaDoorW.PrintLast
