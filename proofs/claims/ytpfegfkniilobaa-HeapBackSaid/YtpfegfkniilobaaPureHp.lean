/- Law 09's small functions in plain Lean: 'small', 'texts', the chapter's example. Conditions: rows that a machine holds. -/
import Derived.Test.YtpfegfkniilobaaPureSlotsC
namespace Go.Proofs.Ytpfegfkniilobaa.Hp
open Go.RowKit Go.Proofs.YtpfegfkniilobaaW.PrintWords Go.Proofs.YtpfegfkniilobaaW.PrintLast Go.Proofs.YtpfegfkniilobaaW.PrintMore Go.Proofs.Ytpfegfkniilobaa.Byt Go.Proofs.Ytpfegfkniilobaa.Dsk Go.Proofs.Ytpfegfkniilobaa.XHeap
open Go.Proofs.Ytpfegfkniilobaa.PureSl (room Ok txt)
set_option linter.unusedVariables false
set_option linter.unusedSimpArgs false
theorem mn_in (a : Nat) : 0 ≤ mn (a : Int) 9000 ∧ mn (a : Int) 9000 ≤ 9000 := by
  unfold mn
  split <;> omega
theorem small_l (l : List (List Int)) (hl : l.length ≤ 140737488351232) : ∀ (m i : Nat) (x : Int), i + m = l.length → (i : Int) ≤ x → x ≤ 9001 * (i : Int) → ∃ b, rowlocklaw09_small.l0 (m + 1) x l (l.length : Int) (i : Int) = some b ∧ (b = true → l.length ≤ 9000)
  | 0, i, x, hi, h1, h2 => by
    rw [rowlocklaw09_small.l0, if_neg (by omega)]
    exact ⟨_, rfl, fun h => by have := of_decide_eq_true h; omega⟩
  | m + 1, i, x, hi, h1, h2 => by
    have hq := mn_in (rd_L1 l (i : Int)).length
    rw [rowlocklaw09_small.l0, if_pos (by omega), if_pos (by omega), if_pos (by omega)]
    generalize mn ((rd_L1 l (i : Int)).length : Int) 9000 = q at hq
    rw [wr_in (x + (q + 1)) (by omega), wr_in ((i : Int) + 1) (by omega)]
    have ih := small_l l hl m (i + 1) (x + (q + 1)) (by omega) (by omega) (by omega)
    rw [show ((i + 1 : Nat) : Int) = (i : Int) + 1 by omega] at ih
    exact ih
theorem small_f (l : List (List Int)) (hl : l.length ≤ 140737488351232) : ∃ b, rowlocklaw09_small.f (l.length + 1) l = some b ∧ (b = true → l.length ≤ 9000) := small_l l hl l.length 0 0 (by omega) (by omega) (by omega)
theorem fixed_f : rowlocklaw09_fixed.f 10 = some true := by decide +kernel
theorem fixed_ok (w : World) : Calls Try.prog 11 #[] w fun e w' => e = .returned (.bool true) ∧ Below w.heap.size w w' := rowlocklaw09_fixed.calls 10 true w fixed_f
theorem small_ok (w : World) (A : Option Addr) (c : Nat) (l : List (List Int)) (hC : Kd.C (Kd.slice 5 (Kd.int .u8)) w A l.length l) (hc : l.length ≤ c) (hl : l.length ≤ 140737488351232) : ∃ b, (b = true → l.length ≤ 9000) ∧ ∀ w', Kd.C (Kd.slice 5 (Kd.int .u8)) w' A l.length l → Calls Try.prog 10 #[.slice A l.length c] w' fun e w2 => e = .returned (.bool b) ∧ Below w'.heap.size w' w2 := by
  obtain ⟨b, h1, h2⟩ := small_f l hl
  exact ⟨b, h2, fun w' hC' => rowlocklaw09_small.calls _ A c l b w' hC' hc h1⟩
end Go.Proofs.Ytpfegfkniilobaa.Hp
