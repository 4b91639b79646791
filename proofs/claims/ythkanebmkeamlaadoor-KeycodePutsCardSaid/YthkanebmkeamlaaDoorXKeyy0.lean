-- Written by this session's own program (wip/own_print.py) over the kit's print, with this session's hand-proved contracts in their places; Lean checks it.
import Derived.Test.YthkanebmkeamlaaDoorProg
import Derived.Below
import Derived.Deep.Draws
import Derived.Deep.AppendLies
import Derived.Maps.AppendAt
import Derived.OwnWalk
import Derived.Laws.BytesArg
import Derived.Laws.MakeOwn
import Derived.Laws.OwnMore
import Derived.Deep.OwnRows
import Derived.Tactics
import Derived.Lib.ConvBytes
import Derived.Laws.Slices
import Derived.WalkKit
import Derived.KernelRfl
import Derived.RowKit3
import Derived.Deep.LoopGhost
import Derived.Deep.QuietTactic
import Derived.BigQuiet
import Derived.WideLaws
import Derived.Deep.DeepCutAuto
import Derived.Deep.CutBlock
import Derived.Deep.RegionHeld3
import Derived.Laws.Rows
import Derived.Lib.AppendStr
import Derived.ArgAppend
import Derived.Laws.IdiomCopy
import Derived.OrdersHeld
import Derived.Laws.BitsLemmas
import Derived.RowKit
import Derived.Test.YthkanebmkeamlaaDoorFnv
import Derived.Test.YthkanebmkeamlaaDoorKyH
import Derived.Test.YthkanebmkeamlaaDoorXKeyx0
import Derived.Test.YthkanebmkeamlaaDoorXKeyx1
import Derived.Test.YthkanebmkeamlaaDoorXKeyx2
import Derived.Test.YthkanebmkeamlaaDoorXKeyx4
import Derived.Test.YthkanebmkeamlaaDoorXKeyx5
import Derived.Test.YthkanebmkeamlaaDoorXKeyx6
import Derived.Test.YthkanebmkeamlaaDoorXKeyx7
import Derived.Test.YthkanebmkeamlaaDoorXKeyx8
import Derived.Test.YthkanebmkeamlaaDoorWWords
import Derived.Test.YthkanebmkeamlaaDoorWLast
import Derived.Test.YthkanebmkeamlaaDoorWTab
import Derived.Test.YthkanebmkeamlaaDoorWFour
import Derived.Test.YthkanebmkeamlaaDoorWQPut
import Derived.Test.YthkanebmkeamlaaDoorWApart
import Derived.Test.YthkanebmkeamlaaDoorWArr
import Derived.Test.YthkanebmkeamlaaDoorWZeros
import Derived.Test.YthkanebmkeamlaaDoorWFoot
import Derived.Test.YthkanebmkeamlaaDoorWKept
import Derived.Test.YthkanebmkeamlaaDoorWShare
import Derived.Test.YthkanebmkeamlaaDoorWN
import Derived.Test.YthkanebmkeamlaaDoorWFootNe
import Derived.Test.YthkanebmkeamlaaDoorWAt
import Derived.Test.YthkanebmkeamlaaDoorWEqStruct
import Derived.Test.YthkanebmkeamlaaDoorWRepsOne
import Derived.Test.YthkanebmkeamlaaDoorWInv
import Derived.Test.YthkanebmkeamlaaDoorWInvWords
import Derived.Test.YthkanebmkeamlaaDoorWGuard
import Derived.Test.YthkanebmkeamlaaDoorWNEv
import Derived.Test.YthkanebmkeamlaaDoorWMore
namespace Go.Proofs.YthkanebmkeamlaaDoor.XKey
open Go.RowKit Go.Proofs.YthkanebmkeamlaaDoorW.PrintWords Go.Proofs.YthkanebmkeamlaaDoorW.PrintLast Go.Proofs.YthkanebmkeamlaaDoorW.PrintMore
attribute [local go_sem] max2_int min2_int max_two min_two max_three min_three max_four min_four   -- for this text's walks alone
set_option linter.unusedVariables false
set_option linter.unusedSimpArgs false



-- the values' own types
/-! #### struct type 34 -/
def rd_L4 (xs : List (List S34)) (i : Int) : (List S34) := xs.getD i.toNat ([] : List S34)
theorem at_L4 {w : World} {A : Option Addr} {n : Nat} {xs : List (List S34)} (h : Kd.C (Kd.slice 34 k34) w A n xs) (i : Int) (h0 : 0 ≤ i) (h1 : i < n) : ∃ ad A0 c0, A = some ad ∧ w.cell? (ad.add i.toNat) = some (.slice A0 (rd_L4 xs i).length c0) ∧ (rd_L4 xs i).length ≤ c0 ∧ k34.C w A0 (rd_L4 xs i).length (rd_L4 xs i) := by
  obtain ⟨ad, c, e, _, hK, hc0⟩ := Kd.C_get h ([] : List S34) i h0 h1
  have hc : ∀ j u, c[j]? = some u → w.cell? (ad.add (i.toNat * 1 + j)) = some u := hc0
  obtain ⟨A0, c0, rfl, l0, g0⟩ := hK
  exact ⟨ad, A0, c0, e, by have hq := hc 0 _ rfl; rwa [Nat.mul_one, Nat.add_zero] at hq, l0, g0⟩

def rd_L6 (xs : List (List Bool)) (i : Int) : (List Bool) := xs.getD i.toNat ([] : List Bool)
theorem at_L6 {w : World} {A : Option Addr} {n : Nat} {xs : List (List Bool)} (h : Kd.C (Kd.slice 4 Kd.bool) w A n xs) (i : Int) (h0 : 0 ≤ i) (h1 : i < n) : ∃ ad A0 c0, A = some ad ∧ w.cell? (ad.add i.toNat) = some (.slice A0 (rd_L6 xs i).length c0) ∧ (rd_L6 xs i).length ≤ c0 ∧ Kd.bool.C w A0 (rd_L6 xs i).length (rd_L6 xs i) := by
  obtain ⟨ad, c, e, _, hK, hc0⟩ := Kd.C_get h ([] : List Bool) i h0 h1
  have hc : ∀ j u, c[j]? = some u → w.cell? (ad.add (i.toNat * 1 + j)) = some u := hc0
  obtain ⟨A0, c0, rfl, l0, g0⟩ := hK
  exact ⟨ad, A0, c0, e, by have hq := hc 0 _ rfl; rwa [Nat.mul_one, Nat.add_zero] at hq, l0, g0⟩

end Go.Proofs.YthkanebmkeamlaaDoor.XKey
