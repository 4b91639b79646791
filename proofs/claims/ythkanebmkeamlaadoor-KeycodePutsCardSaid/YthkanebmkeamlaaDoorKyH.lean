/- keycode's functions in the print's words. Conditions: stated in each theorem; Put wants the library's own variable to be a whole number. -/
import Derived.Test.YthkanebmkeamlaaDoorKyG
namespace Go.Proofs.YthkanebmkeamlaaDoor.XKey
open Go.RowKit Go.Proofs.YthkanebmkeamlaaDoorW.PrintWords Go.Proofs.YthkanebmkeamlaaDoor.Ky
set_option linter.unusedVariables false
/-- The library's variable internal/bytealg.MaxLen is a whole number. -/
def MX (w : World) : Prop := ∃ m, w.cell? ⟨0, 0, none⟩ = some (.int .i64 m)
theorem MX.of {w w' : World} (h : MX w) (hb : Below w.heap.size w w') : MX w' := by
  obtain ⟨m, hm⟩ := h
  exact ⟨m, (hb.cell (p := ⟨0, 0, none⟩) (World.block_lt_of_cell? w _ hm)).trans hm⟩
def keycode_Put.f (l0 : List S34) : Option (ByteArray × Int) := if l0.length ≤ 10000 ∧ ∀ x ∈ l0, rng x then some (putR l0) else none
theorem keycode_Put.calls (A0 : Option Addr) (c0 : Nat) (l0 : List S34) (r1 : ByteArray) (r2 : Int) (w : World) (hr0 : Kd.C k34 w A0 l0.length l0) (hc0 : l0.length ≤ c0) (h : keycode_Put.f l0 = some (r1, r2)) (hm : MX w) :
    Calls Tryd.prog 12 #[.slice A0 l0.length c0] w fun e w' => e = .returned (.tuple #[.string r1, .int .i64 r2]) ∧ Below w.heap.size w w' := by
  unfold keycode_Put.f at h
  split at h
  · rename_i hg
    have e := Option.some.inj h
    obtain ⟨m, hm⟩ := hm
    have h2 := put_ok A0 c0 l0 m w hr0 hc0 hg.1 hg.2 hm
    rw [e] at h2
    exact h2
  · cases h
def keycode_Behind.f (a0 : ByteArray) : Option (ByteArray × Bool) := if a0.size ≤ 1000000 then some (behindR a0) else none
theorem keycode_Behind.calls (a0 : ByteArray) (r1 : ByteArray) (r2 : Bool) (w : World) (h : keycode_Behind.f a0 = some (r1, r2)) :
    Calls Tryd.prog 16 #[.string a0] w fun e w' => e = .returned (.tuple #[.string r1, .bool r2]) ∧ Below w.heap.size w w' := by
  unfold keycode_Behind.f at h
  split at h
  · rename_i hg
    have e := Option.some.inj h
    have h2 := behind_ok a0 w hg
    rw [e] at h2
    exact h2
  · cases h
def keycode_text.f (a0 : ByteArray) : Option (ByteArray × ByteArray × Int) := if a0.size ≤ 1000000 then some (textR a0) else none
theorem keycode_text.calls (a0 : ByteArray) (r1 r2 : ByteArray) (r3 : Int) (w : World) (h : keycode_text.f a0 = some (r1, r2, r3)) :
    Calls Tryd.prog 34 #[.string a0] w fun e w' => e = .returned (.tuple #[.string r1, .string r2, .int .i64 r3]) ∧ Below w.heap.size w w' := by
  unfold keycode_text.f at h
  split at h
  · rename_i hg
    have e := Option.some.inj h
    have h2 := text_ok a0 w hg
    rw [e] at h2
    exact h2
  · cases h
end Go.Proofs.YthkanebmkeamlaaDoor.XKey
