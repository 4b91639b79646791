/- 'same' of law 08 in the print's words, by this session's own walk: it answers true where the page has just these records. Conditions: stated in rowlocklaw08_same.f. -/
import Derived.Test.YtolgcohmmghehaaXSlotsPlaysx0
import Derived.Test.YtolgcohmmghehaaXSlotsPlaysx5
import Derived.Test.YtolgcohmmghehaaSlotsS
namespace Go.Proofs.Ytolgcohmmghehaa.XSlotsPlays
open Go.RowKit Go.Proofs.YtolgcohmmghehaaW.PrintWords Go.Proofs.YtolgcohmmghehaaW.PrintLast Go.Proofs.YtolgcohmmghehaaW.PrintMore
set_option linter.unusedVariables false
set_option linter.unusedSimpArgs false
/-- What 'same' asks of a page, beside its records. -/
def rowlocklaw08_same.Q (k : Nat) (l0 : List Int) (l1 : List ByteArray) (b : List (List Int) × Int) : Prop :=
  b.2 = 0 ∧ b.1.length = l1.length ∧ b.1.length ≤ 1000 ∧ (∀ i : Nat, i < b.1.length → rdOf ByteArray.empty l1 i = strOfNums (Slb.rd_L b.1 i)) ∧ (∀ i : Nat, i < b.1.length → slots_Get.f k l0 i = some (Slb.rd_L b.1 i, 0)) ∧ slots_Get.f k l0 (-1) = some ([], 9) ∧ slots_Get.f k l0 b.1.length = some ([], 9)
instance rowlocklaw08_same.dec (k : Nat) (l0 : List Int) (l1 : List ByteArray) (b : List (List Int) × Int) : Decidable (rowlocklaw08_same.Q k l0 l1 b) := by
  unfold rowlocklaw08_same.Q
  infer_instance
def rowlocklaw08_same.f (k : Nat) (l0 : List Int) (a1_0 : Int) (l1_1 : List ByteArray) : Option Bool := (slots_All.f k l0).bind fun bt => if rowlocklaw08_same.Q k l0 l1_1 bt then some true else none
theorem rowlocklaw08_same.mono : ∀ a0 a1 a2 k, LeO (rowlocklaw08_same.f k a0 a1 a2) (rowlocklaw08_same.f (k + 1) a0 a1 a2) := by
  intro a0 a1 a2 k
  unfold rowlocklaw08_same.f
  refine LeO.bind (slots_All.mono _ _) (fun bt => ?_)
  intro r h
  split at h
  case isFalse => exact absurd h (by simp)
  case isTrue hq =>
  obtain ⟨h1, h2, h3, h4, h5, h6, h7⟩ := hq
  rw [if_pos ⟨h1, h2, h3, h4, fun i hi => slots_Get.mono _ _ _ _ (h5 i hi), slots_Get.mono _ _ _ _ h6, slots_Get.mono _ _ _ _ h7⟩]
  exact h
theorem rowlocklaw08_same.calls (k : Nat) (A0 : Option Addr) (c0 : Nat) (l0 : List Int) (a1_0 : Int) (A1_1 : Option Addr) (c1_1 : Nat) (l1_1 : List ByteArray) (r : Bool) (w : World) (hr0 : Kd.C (Kd.int .u8) w A0 l0.length l0) (hc0 : l0.length ≤ c0) (hr1_1 : Kd.C Kd.string w A1_1 l1_1.length l1_1) (hc1_1 : l1_1.length ≤ c1_1) (h : rowlocklaw08_same.f k l0 a1_0 l1_1 = some r) :
    Calls Try.prog 55 #[.slice A0 l0.length c0, .agg #[.int .u32 a1_0, .slice A1_1 l1_1.length c1_1]] w fun e w' => e = .returned (.bool r) ∧ Below w.heap.size w w' := by
  unfold rowlocklaw08_same.f at h
  obtain ⟨⟨recs, e⟩, hall, h⟩ := Option.bind_eq_some_iff.mp h
  split at h
  case isFalse => exact absurd h (by simp)
  case isTrue hq =>
  obtain rfl := Option.some.inj h
  obtain ⟨h1, h2, h3, h4, h5, h6, h7⟩ := hq
  simp only at h1
  subst h1
  exact Slb.same_ok k A0 c0 l0 a1_0 A1_1 c1_1 l1_1 w hr0 hc0 hr1_1 hc1_1 recs hall h2 h3 h4 h5 h6 h7
end Go.Proofs.Ytolgcohmmghehaa.XSlotsPlays
