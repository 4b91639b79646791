/- Arguments read as the print's kinds: what a value's cells say, put together type by type (whole numbers, bools, texts, slices, structs). No conditions beyond each theorem's own. -/
import Derived.Test.YtpfegfkniilobaaWWords
import Derived.ChangeArms
import Derived.ChangeAt
import Derived.Deep.Slices
namespace Go.Proofs.YtpfegfkniilobaaW.Open
open Go.RowKit Go.Proofs.YtpfegfkniilobaaW.PrintWords Go.WideShapes Go.Deep
section
variable {H : Type} {enc : TypeId × Value → H} {P : Program} {w : World} {base : Nat} {spare : Nat → Bool} {held : Bool}
/-- Cells that read as a value of type T are cells of the kind d. -/
def Opens {α : Type} (enc : TypeId × Value → H) (P : Program) (w : World) (base : Nat) (spare : Nat → Bool) (held : Bool) (T : TypeId) (d : Kd α) (G : α → Prop) : Prop :=
  ∀ fuel cs y, DataW.trod enc P w base spare held fuel T cs = some y → ∃ x, d.K w x cs ∧ G x
theorem opens_int {T : TypeId} {k : IntKind} (ht : P.underlying T = some (.int k)) : Opens enc P w base spare held T (Kd.int k) (fun x => (Lit.int k x).wf = true) := by
  intro fuel cs y h
  obtain ⟨n, rfl, _, hw⟩ := DataW.trod_int ht h
  exact ⟨n, rfl, hw⟩
theorem opens_slice {α : Type} {T E : TypeId} {d : Kd α} {G : α → Prop} (ht : P.underlying T = some (.slice E)) (hc : P.cellsOf E = d.sz) (ho : Opens enc P w base spare held E d G) :
    Opens enc P w base spare held T (Kd.slice E d) (fun xs => xs.length ≤ maxLen ∧ ∀ x ∈ xs, G x) := by
  intro fuel cs y h
  rcases open_slice ht h with ⟨rfl, _⟩ | ⟨a, len, cap, m, n, D, Pl, rfl, hb, hl, hm, hmm, hy, hi⟩
  · exact ⟨[], ⟨none, 0, rfl, Nat.le_refl _, ⟨rfl, by simp, fun h => absurd h (Nat.lt_irrefl 0)⟩⟩, by simp [maxLen], by simp⟩
  · have hlm : len ≤ m := by rw [hmm]; split <;> omega
    have key : ∀ i, i < len → ∃ x c, d.K w x c ∧ G x ∧ ∀ j u, c[j]? = some u → w.cell? (a.add (i * d.sz + j)) = some u := by
      intro i hil
      obtain ⟨cs', hcs, htr⟩ := hi i (by omega)
      obtain ⟨x, hK, hG⟩ := ho _ _ _ htr
      obtain ⟨_, hcl, hat⟩ := World.cells?_some hcs
      refine ⟨x, cs', hK, hG, fun j u hju => ?_⟩
      have hjl : j < cs'.length := (List.getElem?_eq_some_iff.1 hju).1
      have := hat j (by omega)
      rw [Go.Deep.add_add, hc] at this
      rw [this, hju]
    have pick : ∃ f : Nat → Option α, ∀ i, i < len → ∃ x c, f i = some x ∧ d.K w x c ∧ G x ∧ ∀ j u, c[j]? = some u → w.cell? (a.add (i * d.sz + j)) = some u := by
      refine ⟨fun i => if h : i < len then some (key i h).choose else none, fun i hil => ?_⟩
      obtain ⟨c, h1, h2, h3⟩ := (key i hil).choose_spec
      exact ⟨_, c, dif_pos hil, h1, h2, h3⟩
    obtain ⟨f, hf⟩ := pick
    have hlen : ((List.range len).filterMap f).length = len ∧ ∀ i, i < len → ((List.range len).filterMap f)[i]? = f i := by
      have hf' : ∀ i, i < len → ∃ x, f i = some x := fun i hi => by
        obtain ⟨x, _, hx, _⟩ := hf i hi
        exact ⟨x, hx⟩
      clear hf key hi hlm hl hm hmm h hy
      induction len with
      | zero => exact ⟨rfl, fun i h => absurd h (Nat.not_lt_zero i)⟩
      | succ len ih =>
        obtain ⟨h1, h2⟩ := ih (fun i hi => hf' i (by omega))
        obtain ⟨x, hx⟩ := hf' len (by omega)
        rw [List.range_succ, List.filterMap_append]
        simp only [List.filterMap_cons, hx, List.filterMap_nil]
        refine ⟨by simp [h1], fun i hi => ?_⟩
        by_cases hil : i < len
        · rw [List.getElem?_append_left (by omega)]; exact h2 i hil
        · obtain rfl : i = len := by omega
          rw [List.getElem?_append_right (by omega), h1]; simp [hx]
    refine ⟨(List.range len).filterMap f, ⟨some a, cap, by rw [hlen.1], by rw [hlen.1]; exact hl, ?_⟩, by rw [hlen.1]; omega, ?_⟩
    · rw [hlen.1]
      refine ⟨hlen.1, by have := hm; unfold maxLen at this; omega, fun _ => ⟨a, rfl, fun j p hj => ?_⟩⟩
      have hjl : j < len := by have := (List.getElem?_eq_some_iff.1 hj).1; omega
      obtain ⟨x, c, hx, hK, _, hcell⟩ := hf j hjl
      rw [hlen.2 j hjl, hx] at hj
      obtain rfl := Option.some.inj hj
      exact ⟨c, d.K_len hK, hK, hcell⟩
    · intro x hx
      obtain ⟨j, hj⟩ := List.getElem?_of_mem hx
      have hjl : j < len := by have := (List.getElem?_eq_some_iff.1 hj).1; omega
      obtain ⟨x', c, hx', _, hG, _⟩ := hf j hjl
      rw [hlen.2 j hjl, hx'] at hj
      obtain rfl := Option.some.inj hj
      exact hG
/-- A parameter that is a slice. -/
theorem open_rows {α : Type} {T E : TypeId} {d : Kd α} {G : α → Prop} {r : Reach} {b0 : Nat} {v : Value} {D : DataW H} {ps : List MemPlace} (ht : P.underlying T = some (.slice E)) (hc : P.cellsOf E = d.sz) (ho : Opens enc P w base spare held E d G)
    (hv : Value.okWide P w r b0 T v) (h : DataW.Trod enc P w base spare held T v D ps) :
    ∃ (A : Option Addr) (c : Nat) (xs : List α), v = .slice A xs.length c ∧ xs.length ≤ c ∧ Kd.C d w A xs.length xs ∧ xs.length ≤ maxLen ∧ ∀ x ∈ xs, G x := by
  obtain ⟨a, len, cap, rfl⟩ := okWide_slice ht hv
  obtain ⟨fuel, hf⟩ := h
  obtain ⟨xs, ⟨A, c, he, hl, hC⟩, hm, hG⟩ := opens_slice ht hc ho _ _ _ hf
  have he' : [Value.slice a len cap] = [Value.slice A xs.length c] := by simpa [Value.cells] using he
  injection he' with he' _
  rw [he']
  exact ⟨A, c, xs, rfl, hl, hC, hm, hG⟩
end
end Go.Proofs.YtpfegfkniilobaaW.Open
