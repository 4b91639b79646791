/- The reference's Put in the print's words. Conditions: the book may be. -/
import Derived.Test.YtpfegfkniilobaaRput
import Derived.Test.YtpfegfkniilobaaXSchemax10
namespace Go.Proofs.Ytpfegfkniilobaa.XSchema
open Go.RowKit Go.Proofs.YtpfegfkniilobaaW.PrintWords Go.Proofs.YtpfegfkniilobaaW.PrintLast Go.Proofs.YtpfegfkniilobaaW.PrintMore
open Go.Proofs.Ytpfegfkniilobaa.PureS
set_option linter.unusedVariables false
def rowlockref12_Put.f (k : Nat) (T : List S84) (X : List S135) : Option ByteArray := if MayP T X then some (strOfNums (wr T X)) else none
theorem rowlockref12_Put.mono : ∀ a0 a1 k, LeO (rowlockref12_Put.f k a0 a1) (rowlockref12_Put.f (k + 1) a0 a1) := fun _ _ _ => LeO.refl _
theorem rowlockref12_Put.calls (k : Nat) (A0_0 : Option Addr) (c0_0 : Nat) (l0_0 : List (S84)) (A0_1 : Option Addr) (c0_1 : Nat) (l0_1 : List (S135)) (r : ByteArray) (w : World) (hr0_0 : Kd.C k84 w A0_0 l0_0.length l0_0) (hc0_0 : l0_0.length ≤ c0_0) (hr0_1 : Kd.C k135 w A0_1 l0_1.length l0_1) (hc0_1 : l0_1.length ≤ c0_1) (h : rowlockref12_Put.f k l0_0 l0_1 = some r) :
    Calls Try.prog 32 #[.agg #[.slice A0_0 l0_0.length c0_0, .slice A0_1 l0_1.length c0_1]] w fun e w' => e = .returned (.string r) ∧ Below w.heap.size w w' := by
  unfold rowlockref12_Put.f at h
  split at h
  · rename_i hM
    injection h with h
    subst h
    exact Rp.put_ok w A0_0 c0_0 l0_0 A0_1 c0_1 l0_1 hr0_0 hc0_0 hr0_1 hc0_1 hM
  · cases h
end Go.Proofs.Ytpfegfkniilobaa.XSchema
namespace Go.Proofs.Ytpfegfkniilobaa.PureS
open Go.RowKit Go.Proofs.YtpfegfkniilobaaW.PrintWords Go.Proofs.Ytpfegfkniilobaa.XSchema
theorem rPut (T : List S84) (X : List S135) (hM : MayP T X) : Ev (fun k => rowlockref12_Put.f k T X) (strOfNums (wr T X)) :=
  Ev.congr (f := fun _ => some (strOfNums (wr T X))) (fun k => by rw [rowlockref12_Put.f, if_pos hM]) (Ev.now _)
end Go.Proofs.Ytpfegfkniilobaa.PureS
