/- How rows stand, a row cut at the other one's length. Conditions: stated in each theorem. -/
import Derived.Test.YthkanebmkeamlaaDoorKyH
import Derived.Test.YthkanebmkeamlaaDoorXKeyx5
namespace Go.Proofs.YthkanebmkeamlaaDoor.XKey
open Go.RowKit Go.Proofs.YthkanebmkeamlaaDoorW.PrintWords Go.Proofs.YthkanebmkeamlaaDoor.Ky
set_option linter.unusedVariables false
theorem mn_len {a b c : Nat} {j : Int} (h : mn (a : Int) (b : Int) = j) (hc : c = j.toNat) (hle : (a : Int) ≤ (b : Int)) : c = a := by
  unfold mn at h
  split at h <;> omega
theorem rows_is {l1 : List S34} {n : Nat} (hn : l1.length = n) (k : Nat) (A0 : Option Addr) (c0 : Nat) (l0 : List S34) (A1 : Option Addr) (c1 : Nat) (l1' : List S34) (A2 : Option Addr) (c2 : Nat) (l2 : List Bool) (r : Int) (w : World) (hr0 : Kd.C k34 w A0 l0.length l0) (hc0 : l0.length ≤ c0) (hr1 : Kd.C k34 w A1 l1.length l1) (hc1 : l1.length ≤ c1) (hr2 : Kd.C Kd.bool w A2 l2.length l2) (hc2 : l2.length ≤ c2) (h : rowlockref01_Rows.f k l0 l1 l2 = some r) :
    Calls Tryd.prog 13 #[.slice A0 l0.length c0, .slice A1 n c1, .slice A2 l2.length c2] w fun e w' => e = .returned (.int .i64 r) ∧ Below w.heap.size w w' := by
  subst hn
  exact rowlockref01_Rows.calls k A0 c0 l0 A1 c1 l1 A2 c2 l2 r w hr0 hc0 hr1 hc1 hr2 hc2 h
end Go.Proofs.YthkanebmkeamlaaDoor.XKey
