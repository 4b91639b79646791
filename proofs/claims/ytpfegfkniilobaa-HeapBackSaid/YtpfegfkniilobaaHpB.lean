/- A heap page's bytes in the print's words. Conditions: all records have room, none is empty. -/
import Derived.Test.YtpfegfkniilobaaSlotsB
namespace Go.Proofs.Ytpfegfkniilobaa.XHeap
open Go.RowKit Go.Proofs.YtpfegfkniilobaaW.PrintWords Go.Proofs.YtpfegfkniilobaaW.PrintLast Go.Proofs.YtpfegfkniilobaaW.PrintMore Go.Proofs.Ytpfegfkniilobaa.Dsk
set_option linter.unusedVariables false
set_option linter.unusedSimpArgs false
def slots_page_bytes.f (a0_0 : Int) (l0_1 : List (List Int)) : Option (List Int) := if 8 + 4 * l0_1.length + Go.Proofs.Ytpfegfkniilobaa.Slb.tot l0_1 ≤ 512 ∧ (l0_1.all fun r => decide (0 < r.length)) = true then some (Go.Proofs.Ytpfegfkniilobaa.Slb.lays l0_1 0 512 (disk_Put.hd 1 (l0_1.length : Int) a0_0 ++ List.replicate 504 0)) else none
theorem slots_page_bytes.calls (a0_0 : Int) (A0_1 : Option Addr) (c0_1 : Nat) (l0_1 : List (List Int)) (r : List Int) (w : World) (hr0_1 : Kd.C (Kd.slice 5 (Kd.int .u8)) w A0_1 l0_1.length l0_1) (hc0_1 : l0_1.length ≤ c0_1) (h : slots_page_bytes.f a0_0 l0_1 = some r) :
    Calls Try.prog 107 #[.agg #[.int .u32 a0_0, .slice A0_1 l0_1.length c0_1]] w fun e w' => ∃ v : Value, e = .returned v ∧ Kd.R (Kd.int .u8) 5 w' w.heap.size (fun _ => True) v r ∧ Below w.heap.size w w' := by
  unfold slots_page_bytes.f at h
  split at h
  case isFalse => exact absurd h (by simp)
  case isTrue hg =>
  obtain rfl := Option.some.inj h
  exact Go.Proofs.Ytpfegfkniilobaa.Slb.bytes_ok a0_0 A0_1 c0_1 l0_1 w hr0_1 ⟨hg.1, fun r hr => by simpa using List.all_eq_true.mp hg.2 r hr⟩
end Go.Proofs.Ytpfegfkniilobaa.XHeap
