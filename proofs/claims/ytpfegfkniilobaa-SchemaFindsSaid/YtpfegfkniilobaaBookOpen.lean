/- A struct parameter of two slices: its slices' lengths are bounded by what the arguments weigh. -/
import Derived.Test.YtpfegfkniilobaaFinds
import Derived.Test.YtpfegfkniilobaaOpen
import Derived.SizedLaws
import Derived.Deep.Slices
namespace Go.Proofs.Ytpfegfkniilobaa.Sch
open Go.RowKit Go.Proofs.YtpfegfkniilobaaW Go.Proofs.YtpfegfkniilobaaW.PrintWords
open Go.Proofs.Ytpfegfkniilobaa.XSchemaFinds
section
variable {H : Type} {enc : TypeId × Value → H} {w : World} {base : Nat} {spare : Nat → Bool} {held : Bool}
/-- A slice's datum that weighs no more than is in reach: so many elements it has at most. -/
theorem slice_sized {t e : TypeId} {fuel : Nat} {A : Option Addr} {n c : Nat} {x : DataW H × List MemPlace} (ht : Try.prog.underlying t = some (.slice e)) (h : DataW.trod enc Try.prog w base spare held fuel t [.slice A n c] = some x) (hb : 1 ≤ Try.prog.bytesOf e)
    (hz : ∀ k ∈ x.1.weights Try.prog t, k ≤ reachBytes) : n ≤ reachBytes := by
  rcases Go.Deep.open_slice ht h with ⟨he, _⟩ | ⟨a, len, cap, m, n', D, Pl, he, _, _, _, _, rfl, _⟩
  · injection he with he _
    injection he with _ he _
    rw [he]
    exact Nat.zero_le _
  · injection he with he _
    injection he with _ he _
    subst he
    have := hz _ (by simp only [DataW.weights, ht]; exact List.mem_cons_self)
    rw [List.length_map, List.length_range] at this
    exact Nat.le_trans (Nat.le_trans (Nat.le_add_right n _) (Nat.le_mul_of_pos_right _ hb)) this
/-- The weights of a struct parameter's two fields. -/
theorem agg_sized {t j : Nat} {f0 f1 : Field} {ts : List TypeId} {ds : List (DataW H)} {d0 d1 : DataW H} (hs : Try.prog.underlying t = some (.struct #[f0, f1])) (hsz : (DataW.weightsEach Try.prog ts ds).all (· ≤ reachBytes) = true) (ht : ts[j]? = some t) (hd : ds[j]? = some (.agg [d0, d1])) :
    (∀ k ∈ d0.weights Try.prog f0.type, k ≤ reachBytes) ∧ ∀ k ∈ d1.weights Try.prog f1.type, k ≤ reachBytes := by
  have hall := List.all_eq_true.1 hsz
  have hm : ∀ k, (k ∈ d0.weights Try.prog f0.type ∨ k ∈ d1.weights Try.prog f1.type) → k ≤ reachBytes := fun k hk => by
    have := hall k (DataW.weights_mem_each ht hd k (by
      simp only [DataW.weights, hs]
      rcases hk with hk | hk
      · simp [DataW.weightsEach, hk]
      · simp [DataW.weightsEach, hk]))
    simpa using this
  exact ⟨fun k hk => hm k (.inl hk), fun k hk => hm k (.inr hk)⟩
theorem Finds_ok (A : Option Addr) (c : Nat) (T : List S84) (A2 : Option Addr) (c2 : Nat) (X : List S135) (name : ByteArray) (w : World) (hC : Kd.C k84 w A T.length T) (hc : T.length ≤ c) (hX : Kd.C k135 w A2 X.length X) (hc2 : X.length ≤ c2) (hT : T.length ≤ reachBytes) (hXl : X.length ≤ reachBytes) :
    Calls Try.prog 6 #[.agg #[.slice A T.length c, .slice A2 X.length c2], .string name] w fun e w' => e = .returned (.bool true) ∧ Below w.heap.size w w' := by
  have h1 : reachBytes = 140737488351232 := rfl
  obtain ⟨k, r, h, hr⟩ := great_f T X (by omega) (by omega)
  cases r
  · exact Finds_walk k A c T A2 c2 X name w hC hc hX hc2 h (by omega) (hr rfl)
  · exact Finds_great k A c T A2 c2 X name w hC hc hX hc2 h
end
end Go.Proofs.Ytpfegfkniilobaa.Sch
