/- schema.Get in the print's words; what is read of a book's own writing. Conditions: bytes, not endless. -/
import Derived.Test.YtpfegfkniilobaaEyeG
import Derived.Test.YtpfegfkniilobaaPen
namespace Go.Proofs.Ytpfegfkniilobaa.XSchema
open Go.RowKit Go.Proofs.YtpfegfkniilobaaW.PrintWords Go.Proofs.YtpfegfkniilobaaW.PrintLast Go.Proofs.YtpfegfkniilobaaW.PrintMore
set_option linter.unusedVariables false
set_option linter.unusedSimpArgs false
def bytesOk (b : List Int) : Bool := b.all (fun x => decide (0 ≤ x ∧ x ≤ 255)) && decide (b.length ≤ 1000000000)
theorem bytesOk_is {b : List Int} : bytesOk b = true ↔ Tk.St.ok (b, false) := by
  simp only [bytesOk, Bool.and_eq_true, List.all_eq_true, decide_eq_true_eq]
  exact Iff.rfl
/-- What is read, if nothing was missing and nothing is left. -/
def readAll (b : List Int) : Option (List S84 × List S135) := match (Tk.getR (b, false)).2 with
  | ([], false) => some (Tk.getR (b, false)).1
  | _ => none
def schema_Get.f (k : Nat) (b : List Int) : Option (List S84 × List S135 × Int) := if bytesOk b = true then (match readAll b with
  | some r => (schema_May.f k r.1 r.2).bind fun m => some (if m = true then (r.1, r.2, 0) else ([], [], 2))
  | none => some ([], [], 2)) else none
theorem schema_Get.mono : ∀ a0 k, LeO (schema_Get.f k a0) (schema_Get.f (k + 1) a0) := by
  intro a0 k
  unfold schema_Get.f
  refine LeO.ite ?_ (LeO.refl _)
  cases readAll a0 with
  | none => exact LeO.refl _
  | some r => exact LeO.bind (schema_May.mono _ _ _) fun _ => LeO.refl _
theorem readAll_none {b : List Int} {T : List S84} {X : List S135} {sf : Tk.St} (he : Tk.getR (b, false) = ((T, X), sf)) (h : readAll b = none) : ¬ (sf.2 = false ∧ sf.1 = []) := by
  rintro ⟨h1, h2⟩
  obtain ⟨l, s⟩ := sf
  simp only at h1 h2
  subst h1 h2
  rw [readAll, he] at h
  cases h
theorem readAll_some {b : List Int} {T : List S84} {X : List S135} {sf : Tk.St} {r : List S84 × List S135} (he : Tk.getR (b, false) = ((T, X), sf)) (h : readAll b = some r) : sf = ([], false) ∧ r = (T, X) := by
  obtain ⟨l, s⟩ := sf
  rw [readAll, he] at h
  cases l with
  | nil => cases s with
    | false => injection h with h; exact ⟨rfl, h.symm⟩
    | true => cases h
  | cons x l => cases h
theorem schema_Get.calls (k : Nat) (A0 : Option Addr) (c0 : Nat) (l0 : List Int) (r1 : List (S84)) (r2 : List (S135)) (r3 : Int) (w : World) (hr0 : Kd.C (Kd.int .u8) w A0 l0.length l0) (hc0 : l0.length ≤ c0) (h : schema_Get.f k l0 = some (r1, r2, r3)) :
    Calls Try.prog 37 #[.slice A0 l0.length c0] w fun e w' => ∃ v0_ v1_ : Value, e = .returned (.tuple #[.agg #[v0_, v1_], .int .i64 r3]) ∧ Kd.R k84 84 w' w.heap.size (fun _ => True) v0_ r1 ∧ Kd.R k135 135 w' w.heap.size (fun _ => True) v1_ r2 ∧ Below w.heap.size w w' := by
  unfold schema_Get.f at h
  split at h
  · rename_i hok
    obtain ⟨T, X, sf, he⟩ : ∃ T X sf, Tk.getR (l0, false) = ((T, X), sf) := ⟨_, _, _, rfl⟩
    cases hr : readAll l0 with
    | none =>
      rw [hr] at h
      have hn := readAll_none he hr
      injection h with h
      injection h with e1 e2
      injection e2 with e2 e3
      subst e1 e2 e3
      have hg := Tk.get_ey w A0 c0 l0 hr0 hc0 (bytesOk_is.1 hok) T X sf he k false (fun h1 h2 => absurd ⟨h1, h2⟩ hn)
      rw [if_neg (fun h => hn ⟨h.1, h.2.1⟩), if_neg (fun h => hn ⟨h.1, h.2.1⟩), if_neg (fun h => hn ⟨h.1, h.2.1⟩)] at hg
      exact hg
    | some r =>
      rw [hr] at h
      obtain ⟨rfl, rfl⟩ := readAll_some he hr
      obtain ⟨m, hm, h⟩ := Option.bind_eq_some_iff.mp h
      have hg := Tk.get_ey w A0 c0 l0 hr0 hc0 (bytesOk_is.1 hok) T X ([], false) he k m (fun _ _ => hm)
      injection h with h
      cases m
      · rw [if_neg (fun h => by cases h.2.2), if_neg (fun h => by cases h.2.2), if_neg (fun h => by cases h.2.2)] at hg
        rw [if_neg (by decide)] at h
        injection h with e1 e2
        injection e2 with e2 e3
        subst e1 e2 e3
        exact hg
      · rw [if_pos ⟨rfl, rfl, rfl⟩, if_pos ⟨rfl, rfl, rfl⟩, if_pos ⟨rfl, rfl, rfl⟩] at hg
        rw [if_pos rfl] at h
        injection h with e1 e2
        injection e2 with e2 e3
        subst e1 e2 e3
        exact hg
  · cases h
end Go.Proofs.Ytpfegfkniilobaa.XSchema
