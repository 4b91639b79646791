-- Out of the kit's print (OWN=1), less the theorems that this claim does not name (wip/prunew.py).
import Derived.Test.YtpfegfkniilobaaWTab
/-! ### 56. Four, five, six operations that may come up next, in any order -/
namespace Go.Proofs.YtpfegfkniilobaaW.PrintLast
section
variable {P : Program} {ops : Array Oper} {Q : Exit → Act → World → Prop} {md : Region.Mode} {S : World → Prop} {ds : List Nat} {T : Bool × List (List Nat × List Nat)}
end
end Go.Proofs.YtpfegfkniilobaaW.PrintLast
