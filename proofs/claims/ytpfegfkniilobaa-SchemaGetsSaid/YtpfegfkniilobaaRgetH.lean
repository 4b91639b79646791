/- The reference's Get in the print's words. Conditions: not endless. -/
import Derived.Test.YtpfegfkniilobaaPureSchV2
import Derived.Test.YtpfegfkniilobaaPureSchD
namespace Go.Proofs.Ytpfegfkniilobaa.XSchema
open Go.RowKit Go.Proofs.YtpfegfkniilobaaW.PrintWords Go.Proofs.YtpfegfkniilobaaW.PrintLast Go.Proofs.YtpfegfkniilobaaW.PrintMore
open Go.Proofs.Ytpfegfkniilobaa.PureS
set_option linter.unusedVariables false
/-- What the reference reads of a string; whether that is a book. -/
def refRead (a : ByteArray) : (List S84 × List S135) × Tk.St := Rr.rget (bytesOf a, false)
def refGood (a : ByteArray) : Bool := decide ((refRead a).2.2 = false ∧ (refRead a).2.1 = [] ∧ MayP (refRead a).1.1 (refRead a).1.2)
def rowlockref12_Get.f (k : Nat) (a0 : ByteArray) : Option (List S84 × List S135 × Bool) := if a0.size ≤ 1000000000 then some (if refGood a0 = true then (refRead a0).1.1 else [], if refGood a0 = true then (refRead a0).1.2 else [], refGood a0) else none
theorem rowlockref12_Get.mono : ∀ a0 k, LeO (rowlockref12_Get.f k a0) (rowlockref12_Get.f (k + 1) a0) := fun _ _ => LeO.refl _
theorem bytes_ok {a : ByteArray} (h : a.size ≤ 1000000000) : Tk.St.ok (bytesOf a, false) := ⟨bytesOf_by a, by rw [bytesOf_length]; exact h⟩
theorem rowlockref12_Get.calls (k : Nat) (a0 : ByteArray) (r1 : List (S84)) (r2 : List (S135)) (r3 : Bool) (w : World) (h : rowlockref12_Get.f k a0 = some (r1, r2, r3)) :
    Calls Try.prog 38 #[.string a0] w fun e w' => ∃ v0_ v1_ : Value, e = .returned (.tuple #[.agg #[v0_, v1_], .bool r3]) ∧ Kd.R k84 84 w' w.heap.size (fun _ => True) v0_ r1 ∧ Kd.R k135 135 w' w.heap.size (fun _ => True) v1_ r2 ∧ Below w.heap.size w w' := by
  unfold rowlockref12_Get.f at h
  split at h
  · rename_i hs
    injection h with h
    injection h with e1 h
    injection h with e2 e3
    subst e1 e2 e3
    obtain ⟨T, X, sf, he⟩ : ∃ T X sf, Rr.rget (bytesOf a0, false) = ((T, X), sf) := ⟨_, _, _, rfl⟩
    have hb := bookB_W (rget_in (bytes_ok hs) he)
    have hr : refGood a0 = true ↔ (sf.2 = false ∧ sf.1 = [] ∧ MayP T X) := by
      rw [refGood, refRead, he]
      exact decide_eq_true_iff
    have hg := Rr.get_r w (bytesOf a0) (bytes_ok hs) T X sf he hb (refGood a0) hr
    rw [str_bytes] at hg
    have e : refRead a0 = ((T, X), sf) := he
    rw [e]
    exact hg
  · cases h
end Go.Proofs.Ytpfegfkniilobaa.XSchema
