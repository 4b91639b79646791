import Derived.Test.YtpfegfkniilobaaXSchemax0
namespace Go.Proofs.Ytpfegfkniilobaa.XSchema
def bs (n m : Nat) : Array Bool := ((List.range n).map fun i => m.testBit i).toArray
end Go.Proofs.Ytpfegfkniilobaa.XSchema
