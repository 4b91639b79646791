/- Arguments read as the print's kinds: what a value's cells say, put together type by type (whole numbers, bools, texts, slices, structs). No conditions beyond each theorem's own. -/
import Derived.Test.YtpfegfkniilobaaWWords
import Derived.ChangeArms
import Derived.ChangeAt
import Derived.Deep.Slices
namespace Go.Proofs.YtpfegfkniilobaaW.Open
open Go.RowKit Go.Proofs.YtpfegfkniilobaaW.PrintWords Go.WideShapes Go.Deep
section
variable {H : Type} {enc : TypeId × Value → H} {P : Program} {w : World} {base : Nat} {spare : Nat → Bool} {held : Bool}
/-- Cells that read as a value of type T are cells of the kind d. -/
def Opens {α : Type} (enc : TypeId × Value → H) (P : Program) (w : World) (base : Nat) (spare : Nat → Bool) (held : Bool) (T : TypeId) (d : Kd α) (G : α → Prop) : Prop :=
  ∀ fuel cs y, DataW.trod enc P w base spare held fuel T cs = some y → ∃ x, d.K w x cs ∧ G x
theorem opens_int {T : TypeId} {k : IntKind} (ht : P.underlying T = some (.int k)) : Opens enc P w base spare held T (Kd.int k) (fun x => (Lit.int k x).wf = true) := by
  intro fuel cs y h
  obtain ⟨n, rfl, _, hw⟩ := DataW.trod_int ht h
  exact ⟨n, rfl, hw⟩
theorem opens_bool {T : TypeId} (ht : P.underlying T = some .bool) : Opens enc P w base spare held T Kd.bool (fun _ => True) := by
  intro fuel cs y h
  obtain ⟨b, rfl, _⟩ := DataW.trod_bool ht h
  exact ⟨b, rfl, trivial⟩
theorem opens_string {T : TypeId} (ht : P.underlying T = some .string) : Opens enc P w base spare held T Kd.string (fun s => s.size ≤ maxLen) := by
  intro fuel cs y h
  obtain ⟨s, rfl, _, hs⟩ := DataW.trod_string ht h
  exact ⟨s, rfl, hs⟩
theorem opens_slice {α : Type} {T E : TypeId} {d : Kd α} {G : α → Prop} (ht : P.underlying T = some (.slice E)) (hc : P.cellsOf E = d.sz) (ho : Opens enc P w base spare held E d G) :
    Opens enc P w base spare held T (Kd.slice E d) (fun xs => xs.length ≤ maxLen ∧ ∀ x ∈ xs, G x) := by
  intro fuel cs y h
  rcases open_slice ht h with ⟨rfl, _⟩ | ⟨a, len, cap, m, n, D, Pl, rfl, hb, hl, hm, hmm, hy, hi⟩
  · exact ⟨[], ⟨none, 0, rfl, Nat.le_refl _, ⟨rfl, by simp, fun h => absurd h (Nat.lt_irrefl 0)⟩⟩, by simp [maxLen], by simp⟩
  · have hlm : len ≤ m := by rw [hmm]; split <;> omega
    have key : ∀ i, i < len → ∃ x c, d.K w x c ∧ G x ∧ ∀ j u, c[j]? = some u → w.cell? (a.add (i * d.sz + j)) = some u := by
      intro i hil
      obtain ⟨cs', hcs, htr⟩ := hi i (by omega)
      obtain ⟨x, hK, hG⟩ := ho _ _ _ htr
      obtain ⟨_, hcl, hat⟩ := World.cells?_some hcs
      refine ⟨x, cs', hK, hG, fun j u hju => ?_⟩
      have hjl : j < cs'.length := (List.getElem?_eq_some_iff.1 hju).1
      have := hat j (by omega)
      rw [Go.Deep.add_add, hc] at this
      rw [this, hju]
    have pick : ∃ f : Nat → Option α, ∀ i, i < len → ∃ x c, f i = some x ∧ d.K w x c ∧ G x ∧ ∀ j u, c[j]? = some u → w.cell? (a.add (i * d.sz + j)) = some u := by
      refine ⟨fun i => if h : i < len then some (key i h).choose else none, fun i hil => ?_⟩
      obtain ⟨c, h1, h2, h3⟩ := (key i hil).choose_spec
      exact ⟨_, c, dif_pos hil, h1, h2, h3⟩
    obtain ⟨f, hf⟩ := pick
    have hlen : ((List.range len).filterMap f).length = len ∧ ∀ i, i < len → ((List.range len).filterMap f)[i]? = f i := by
      have hf' : ∀ i, i < len → ∃ x, f i = some x := fun i hi => by
        obtain ⟨x, _, hx, _⟩ := hf i hi
        exact ⟨x, hx⟩
      clear hf key hi hlm hl hm hmm h hy
      induction len with
      | zero => exact ⟨rfl, fun i h => absurd h (Nat.not_lt_zero i)⟩
      | succ len ih =>
        obtain ⟨h1, h2⟩ := ih (fun i hi => hf' i (by omega))
        obtain ⟨x, hx⟩ := hf' len (by omega)
        rw [List.range_succ, List.filterMap_append]
        simp only [List.filterMap_cons, hx, List.filterMap_nil]
        refine ⟨by simp [h1], fun i hi => ?_⟩
        by_cases hil : i < len
        · rw [List.getElem?_append_left (by omega)]; exact h2 i hil
        · obtain rfl : i = len := by omega
          rw [List.getElem?_append_right (by omega), h1]; simp [hx]
    refine ⟨(List.range len).filterMap f, ⟨some a, cap, by rw [hlen.1], by rw [hlen.1]; exact hl, ?_⟩, by rw [hlen.1]; omega, ?_⟩
    · rw [hlen.1]
      refine ⟨hlen.1, by have := hm; unfold maxLen at this; omega, fun _ => ⟨a, rfl, fun j p hj => ?_⟩⟩
      have hjl : j < len := by have := (List.getElem?_eq_some_iff.1 hj).1; omega
      obtain ⟨x, c, hx, hK, _, hcell⟩ := hf j hjl
      rw [hlen.2 j hjl, hx] at hj
      obtain rfl := Option.some.inj hj
      exact ⟨c, d.K_len hK, hK, hcell⟩
    · intro x hx
      obtain ⟨j, hj⟩ := List.getElem?_of_mem hx
      have hjl : j < len := by have := (List.getElem?_eq_some_iff.1 hj).1; omega
      obtain ⟨x', c, hx', _, hG, _⟩ := hf j hjl
      rw [hlen.2 j hjl, hx'] at hj
      obtain rfl := Option.some.inj hj
      exact hG
/-- Fields, one behind the other, from a place on. -/
def Seq {α : Type} (enc : TypeId × Value → H) (P : Program) (w : World) (base : Nat) (spare : Nat → Bool) (held : Bool) (fs : List Field) (off : Nat) (size : Nat) (d : Kd α) (G : α → Prop) : Prop :=
  ∀ n (cs : List Value), cs.length = size → (∀ (i : Nat) (f : Field), fs[i]? = some f → ∃ y, DataW.trod enc P w base spare held n f.type ((cs.drop (f.offset - off)).take (P.cellsOf f.type)) = some y) → ∃ x, d.K w x cs ∧ G x
theorem seq_last {α : Type} {f : Field} {off : Nat} {d : Kd α} {G : α → Prop} (h0 : f.offset = off) {size : Nat} (hs : P.cellsOf f.type = size) (ho : Opens enc P w base spare held f.type d G) : Seq enc P w base spare held [f] off size d G := by
  intro n cs hl hf
  obtain ⟨y, hy⟩ := hf 0 f rfl
  rw [h0, Nat.sub_self, List.drop_zero, List.take_of_length_le (by omega)] at hy
  exact ho _ _ _ hy
theorem seq_cons {α β : Type} {f : Field} {fs : List Field} {off s0 size : Nat} {d : Kd α} {d' : Kd β} {G : α → Prop} {G' : β → Prop} (h0 : f.offset = off) (hs : P.cellsOf f.type = s0) (hfs : ∀ g ∈ fs, off + s0 ≤ g.offset) (ho : Opens enc P w base spare held f.type d G)
    (hr : Seq enc P w base spare held fs (off + s0) size d' G') : Seq enc P w base spare held (f :: fs) off (s0 + size) (Kd.pair d d') (fun x => G x.1 ∧ G' x.2) := by
  intro n cs hl hf
  obtain ⟨y, hy⟩ := hf 0 f rfl
  rw [h0, Nat.sub_self, List.drop_zero, hs] at hy
  obtain ⟨x, hK, hG⟩ := ho _ _ _ hy
  obtain ⟨x', hK', hG'⟩ := hr n (cs.drop s0) (by rw [List.length_drop]; omega) (fun i g hg => by
    obtain ⟨z, hz⟩ := hf (i + 1) g (by simpa using hg)
    refine ⟨z, ?_⟩
    have hgo := hfs g (List.mem_of_getElem? hg)
    rw [List.drop_drop, show s0 + (g.offset - (off + s0)) = g.offset - off by omega]
    exact hz)
  exact ⟨(x, x'), ⟨cs.take s0, cs.drop s0, (List.take_append_drop _ _).symm, hK, hK'⟩, hG, hG'⟩
theorem opens_struct {α β : Type} {T : TypeId} {fs : Array Field} {d : Kd α} {G : α → Prop} {f : β → α} (g : α → β) (hfg : ∀ x, f (g x) = x) (ht : P.underlying T = some (.struct fs)) (hs : Seq enc P w base spare held fs.toList 0 (P.cellsOf T) d G) :
    Opens enc P w base spare held T (Kd.iso d f) (fun x => G (f x)) := by
  intro fuel cs y h
  obtain ⟨xs, n, _, _, hcl, hxl, hf⟩ := DataW.trod_struct ht h
  obtain ⟨x, hK, hG⟩ := hs n cs hcl (fun i fl hfl => by
    have hfl' : fs[i]? = some fl := by simpa using hfl
    have := hf i fl hfl'
    have hlt : i < xs.length := by rw [hxl]; exact (Array.getElem?_eq_some_iff.1 hfl').1
    exact ⟨xs[i], by rw [Nat.sub_zero, this, List.getElem?_eq_getElem hlt]⟩)
  exact ⟨g x, by show d.K w (f (g x)) cs; rw [hfg]; exact hK, by show G (f (g x)); rw [hfg]; exact hG⟩
theorem Opens.mono {α : Type} {T : TypeId} {d : Kd α} {G G' : α → Prop} (h : Opens enc P w base spare held T d G) (hg : ∀ x, G x → G' x) : Opens enc P w base spare held T d G' := fun fuel cs y ht => by
  obtain ⟨x, hK, hG⟩ := h fuel cs y ht
  exact ⟨x, hK, hg x hG⟩
/-- A parameter that is a slice. -/
theorem open_rows {α : Type} {T E : TypeId} {d : Kd α} {G : α → Prop} {r : Reach} {b0 : Nat} {v : Value} {D : DataW H} {ps : List MemPlace} (ht : P.underlying T = some (.slice E)) (hc : P.cellsOf E = d.sz) (ho : Opens enc P w base spare held E d G)
    (hv : Value.okWide P w r b0 T v) (h : DataW.Trod enc P w base spare held T v D ps) :
    ∃ (A : Option Addr) (c : Nat) (xs : List α), v = .slice A xs.length c ∧ xs.length ≤ c ∧ Kd.C d w A xs.length xs ∧ xs.length ≤ maxLen ∧ ∀ x ∈ xs, G x := by
  obtain ⟨a, len, cap, rfl⟩ := okWide_slice ht hv
  obtain ⟨fuel, hf⟩ := h
  obtain ⟨xs, ⟨A, c, he, hl, hC⟩, hm, hG⟩ := opens_slice ht hc ho _ _ _ hf
  have he' : [Value.slice a len cap] = [Value.slice A xs.length c] := by simpa [Value.cells] using he
  injection he' with he' _
  rw [he']
  exact ⟨A, c, xs, rfl, hl, hC, hm, hG⟩
/-- A parameter that is a struct. -/
theorem open_struct {α : Type} {T : TypeId} {fs : Array Field} {d : Kd α} {G : α → Prop} {r : Reach} {b0 : Nat} {v : Value} {D : DataW H} {ps : List MemPlace} (ht : P.underlying T = some (.struct fs)) (ho : Opens enc P w base spare held T d G)
    (hv : Value.okWide P w r b0 T v) (h : DataW.Trod enc P w base spare held T v D ps) : ∃ (x : α) (cs : Array Value), v = .agg cs ∧ d.K w x cs.toList ∧ G x := by
  obtain ⟨cs, rfl, _⟩ := okWide_struct ht hv
  obtain ⟨fuel, hf⟩ := h
  obtain ⟨x, hK, hG⟩ := ho _ _ _ hf
  exact ⟨x, cs, rfl, by simpa [Value.cells] using hK, hG⟩
end
end Go.Proofs.YtpfegfkniilobaaW.Open
