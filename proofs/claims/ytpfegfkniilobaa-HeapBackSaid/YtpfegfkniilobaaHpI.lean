/- The reference's Fill, walked. Conditions: the disk's rows are known, the records are none of them. (printed by wip/r4/h/genrf.py) -/
import Derived.Test.YtpfegfkniilobaaHpH
namespace Go.Proofs.Ytpfegfkniilobaa.Hp
open Go.RowKit Go.Proofs.YtpfegfkniilobaaW.PrintWords Go.Proofs.YtpfegfkniilobaaW.PrintLast Go.Proofs.YtpfegfkniilobaaW.PrintMore Go.Proofs.Ytpfegfkniilobaa.Byt Go.Proofs.Ytpfegfkniilobaa.Dsk Go.Proofs.Ytpfegfkniilobaa.XHeap
open Go.Proofs.Ytpfegfkniilobaa.PureSl (room Ok txt)
set_option linter.unusedVariables false
set_option linter.unusedSimpArgs false
set_option maxRecDepth 100000
/-- What is behind a written row of places. -/
theorem Hv.places {w0 W W1 : World} {v0 v1 v5 v6 u6 : Value} {P R : List ByteArray} {T : List Bool} {O O' : List S50} (h : Hv w0 W v0 v1 v5 v6 P T R O) (hg : W.grownBy W1 v6.ownBlock) (h6 : Kd.R k50 50 W1 w0.heap.size (fun _ => True) u6 O') : Hv w0 W1 v0 v1 v5 u6 P T R O' :=
  ⟨Kd.R_over h.r0 h.r6 (by decide) hg, Kd.R_over h.r1 h.r6 (by decide) hg, Kd.R_over h.r5 h.r6 (by decide) hg, h6, h.ap⟩
theorem s0_okr {d : List Int} {t : List Bool} (h : d.length = 512 * t.length ∧ 0 < t.length ∧ t.length ≤ 4096 ∧ By d) : SOk (s0_ d t) := ⟨PureSl.ok_nil 0 (by omega), ⟨by show (0 : Int) ≤ 0; omega, by show (0 : Int) < 4294967296; omega⟩, h.1, ⟨h.2.1, h.2.2.1⟩, h.2.2.2⟩
section
variable {w0 w : World} {d : List Int} {t : List Bool} {n : Nat} {A0 A1 AL : Option Addr} {n0 c0 c1 cL : Nat} {okr : Nat → Prop}
end
end Go.Proofs.Ytpfegfkniilobaa.Hp
