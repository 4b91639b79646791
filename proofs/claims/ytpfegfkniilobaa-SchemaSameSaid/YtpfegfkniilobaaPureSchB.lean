/- When two books are the same, in plain Lean. No conditions but that the slices are not endless. -/
import Derived.Test.YtpfegfkniilobaaPureSchA
import Derived.Test.YtpfegfkniilobaaXSchemax12
namespace Go.Proofs.Ytpfegfkniilobaa.PureS
open Go.RowKit Go.Proofs.YtpfegfkniilobaaW.PrintWords Go.Proofs.Ytpfegfkniilobaa.XSchema
set_option linter.unusedVariables false
set_option linter.unusedSimpArgs false
theorem ba_eq {a b : ByteArray} (h : a.toList = b.toList) : a = b := by
  apply ByteArray.ext
  apply Array.toList_inj.1
  rw [← Lib.toList_data, ← Lib.toList_data, h]
theorem getD_at {α : Type} (l : List α) (d : α) (i : Nat) (h : i < l.length) : l.getD (i : Int).toNat d = l[i] := by
  rw [Int.toNat_natCast, List.getD_eq_getElem?_getD, List.getElem?_eq_getElem h]
  rfl
theorem list_eq {α : Type} (d : α) {l m : List α} (hl : l.length = m.length) (h : ∀ i : Nat, i < l.length → l.getD (i : Int).toNat d = m.getD (i : Int).toNat d) : l = m := by
  apply List.ext_getElem hl
  intro i h1 h2
  have := h i h1
  rwa [getD_at l d i h1, getD_at m d i h2] at this
/-- Two slices, held against each other element by element. -/
theorem EvB.same {α : Type} {d : α} {L M : List α} {g : Nat → Nat → Option Bool} (hl : L.length = M.length) (hend : EvB (g L.length) True) (hstep : ∀ i Q, i < L.length → EvB (g (i + 1)) Q → EvB (g i) (L.getD (i : Int).toNat d = M.getD (i : Int).toNat d ∧ Q)) : EvB (g 0) (L = M) := by
  refine (EvB.loop (g := g) L.length (fun i => L.getD (i : Int).toNat d = M.getD (i : Int).toNat d) True hend hstep L.length 0 (by omega)).imp ⟨fun h => list_eq d hl (fun i hi => h.1 i (Nat.zero_le _) hi), fun h => ⟨fun i _ _ => by rw [h], trivial⟩⟩
theorem eCols (L M : List S87) (hL : L.length ≤ 9223372036854775807) : EvB (fun k => api_Column.f k L M) (L = M) := by
  by_cases hl : (L.length : Int) = (M.length : Int)
  · have h := EvB.same (d := z87) (L := L) (M := M) (g := fun i k => api_Column.l0 k L M (L.length : Int) (i : Int)) (by omega) (EvB.step (f := fun _ => some true) (fun k => by rw [api_Column.l0, if_neg (by omega)]) (EvB.yes trivial)) (fun i Q hi h => by
      obtain ⟨x, hx⟩ : ∃ x, x = rd_T87 L (i : Int) := ⟨_, rfl⟩
      obtain ⟨y, hy⟩ : ∃ y, y = rd_T87 M (i : Int) := ⟨_, rfl⟩
      show EvB _ (rd_T87 L (i : Int) = rd_T87 M (i : Int) ∧ Q)
      rw [← hx, ← hy]
      obtain ⟨a, b, c, e⟩ := x
      obtain ⟨a', b', c', e'⟩ := y
      by_cases hq : (!((a.toList) == (a'.toList)) || (!(b == b') || (!(c == c') || (!(e == e'))))) = true
      · refine EvB.step (f := fun _ => some false) (fun k => by rw [api_Column.l0, if_pos (by omega), if_pos (by omega), if_pos (by omega), if_pos (by omega), ← hx, ← hy, if_pos hq]) (EvB.no fun h => ?_)
        have h1 := h.1
        simp only [S87.mk.injEq] at h1
        obtain ⟨rfl, rfl, rfl, rfl⟩ := h1
        simp at hq
      · refine (EvB.step (fun k => by rw [api_Column.l0, if_pos (by omega), if_pos (by omega), if_pos (by omega), if_pos (by omega), ← hx, ← hy, if_neg hq, wr_s i L.length hi (by omega)]) h).imp ⟨fun h => ⟨?_, h⟩, fun h => h.2⟩
        simp only [Bool.or_eq_true, Bool.not_eq_true', beq_eq_false_iff_ne, not_or, Decidable.not_not] at hq
        obtain ⟨h1, rfl, rfl, rfl⟩ := hq
        rw [ba_eq h1])
    exact EvB.congr (fun k => by rw [api_Column.f, if_pos hl]; rfl) h
  · exact EvB.congr (fun k => by rw [api_Column.f, if_neg hl]) (EvB.no fun h => hl (by rw [h]))
theorem eInts (L M : List Int) (hL : L.length ≤ 9223372036854775807) : EvB (fun k => slices_Equal_int_int.f k L M) (L = M) := by
  by_cases hl : (L.length : Int) = (M.length : Int)
  · have h := EvB.same (d := (0 : Int)) (L := L) (M := M) (g := fun i k => slices_Equal_int_int.l0 k L M (L.length : Int) (i : Int)) (by omega) (EvB.step (f := fun _ => some true) (fun k => by rw [slices_Equal_int_int.l0, if_neg (by omega)]) (EvB.yes trivial)) (fun i Q hi h => by
      show EvB _ (rd L (i : Int) = rd M (i : Int) ∧ Q)
      by_cases hq : rd L (i : Int) = rd M (i : Int)
      · exact (EvB.step (fun k => by rw [slices_Equal_int_int.l0, if_pos (by omega), if_pos (by omega), if_pos (by omega), if_pos (by omega), if_pos hq, wr_s i L.length hi (by omega)]) h).imp ⟨fun h => ⟨hq, h⟩, fun h => h.2⟩
      · exact EvB.step (f := fun _ => some false) (fun k => by rw [slices_Equal_int_int.l0, if_pos (by omega), if_pos (by omega), if_pos (by omega), if_pos (by omega), if_neg hq]) (EvB.no fun h => hq h.1))
    exact EvB.congr (fun k => by rw [slices_Equal_int_int.f, if_pos hl]; rfl) h
  · exact EvB.congr (fun k => by rw [slices_Equal_int_int.f, if_neg hl]) (EvB.no fun h => hl (by rw [h]))
theorem EvB.eqT {A : Nat → Option Bool} {c P : Prop} [Decidable c] (hy : c → EvB A P) : EvB (fun k => if c then A k else some false) (c ∧ P) := by
  by_cases h : c
  · exact EvB.congr (fun k => if_pos h) ((hy h).imp ⟨fun p => ⟨h, p⟩, fun p => p.2⟩)
  · exact EvB.congr (fun k => if_neg h) (EvB.no fun p => h p.1)
theorem EvB.one {g : Nat → Option Bool} {P : Prop} (h : EvB g P) : EvB (fun k => (g k).bind fun t => some t) P := by
  obtain ⟨r, hr, hp⟩ := h
  exact ⟨r, Ev.bind hr (Ev.now r), hp⟩
theorem eTable (x y : S84) (hL : x.f1.length ≤ 9223372036854775807) : EvB (fun k => schema_Same_1.f k x.f0 x.f1 x.f2 x.f3 x.f4 y.f0 y.f1 y.f2 y.f3 y.f4) (x = y) := by
  obtain ⟨a, L, b, c, e⟩ := x
  obtain ⟨a', L', b', c', e'⟩ := y
  have h := EvB.eqT (c := a.toList = a'.toList) (fun _ => EvB.andT (eCols L L' hL) (B := fun _ => some false) (fun _ => EvB.no fun h => h) (fun _ => EvB.eqT (c := b = b') (fun _ => EvB.eqT (c := c = c') (A := fun _ => some (e == e')) (P := e = e') (fun _ => ⟨e == e', Ev.now _, by simp⟩))))
  refine EvB.congr (fun k => by rw [schema_Same_1.f]) (h.imp ⟨fun h => ?_, fun h => ?_⟩)
  · obtain ⟨h1, rfl, rfl, rfl, rfl⟩ := h
    rw [ba_eq h1]
  · simp only [S84.mk.injEq] at h
    obtain ⟨rfl, rfl, rfl, rfl, rfl⟩ := h
    simp
theorem eIndex (x y : S135) (hL : x.f2.length ≤ 9223372036854775807) (hD : x.f6.length ≤ 9223372036854775807) : EvB (fun k => schema_Same_2.f k x.f0 x.f1 x.f2 x.f3 x.f4 x.f5 x.f6 y.f0 y.f1 y.f2 y.f3 y.f4 y.f5 y.f6) (x = y) := by
  obtain ⟨a, t, C, r, l, q, D⟩ := x
  obtain ⟨a', t', C', r', l', q', D'⟩ := y
  have h := EvB.eqT (c := a.toList = a'.toList) (fun _ => EvB.eqT (c := t = t') (fun _ => EvB.andT (eInts C C' hL) (B := fun _ => some false) (fun _ => EvB.no fun h => h) (fun _ => EvB.eqT (c := r = r') (fun _ => EvB.eqT (c := l = l') (fun _ => EvB.eqT (c := q = q') (fun _ => EvB.one (eInts D D' hD)))))))
  refine EvB.congr (fun k => by rw [schema_Same_2.f]) (h.imp ⟨fun h => ?_, fun h => ?_⟩)
  · obtain ⟨h1, rfl, rfl, rfl, rfl, rfl, rfl⟩ := h
    rw [ba_eq h1]
  · simp only [S135.mk.injEq] at h
    obtain ⟨rfl, rfl, rfl, rfl, rfl, rfl, rfl⟩ := h
    simp
/-- The inner slices are not endless. -/
def bookL (T : List S84) (X : List S135) : Prop := T.length ≤ 9223372036854775807 ∧ X.length ≤ 9223372036854775807 ∧ (∀ i : Nat, i < T.length → (rd_T84 T (i : Int)).f1.length ≤ 9223372036854775807) ∧ ∀ i : Nat, i < X.length → (rd_T135 X (i : Int)).f2.length ≤ 9223372036854775807 ∧ (rd_T135 X (i : Int)).f6.length ≤ 9223372036854775807
theorem eTables (L M : List S84) (hL : L.length ≤ 9223372036854775807) (hi : ∀ i : Nat, i < L.length → (rd_T84 L (i : Int)).f1.length ≤ 9223372036854775807) : EvB (fun k => api_Table.f k L M 0) (L = M) := by
  by_cases hl : (L.length : Int) = (M.length : Int)
  · have h := EvB.same (d := z84) (L := L) (M := M) (g := fun i k => api_Table.l0 k M L (L.length : Int) (i : Int)) (by omega) (EvB.step (f := fun _ => some true) (fun k => by rw [api_Table.l0, if_neg (by omega)]) (EvB.yes trivial)) (fun i Q hi' h => by
      show EvB _ (rd_T84 L (i : Int) = rd_T84 M (i : Int) ∧ Q)
      have h1 := EvB.andT (eTable (rd_T84 L (i : Int)) (rd_T84 M (i : Int)) (hi i hi')) (B := fun _ => some false) (fun _ => EvB.no fun h => h) (fun _ => h)
      exact EvB.step (fun k => by rw [api_Table.l0, if_pos (by omega), if_pos (by omega), if_pos (by omega), if_pos (by omega), wr_s i L.length hi' (by omega)]) h1)
    exact EvB.congr (fun k => by rw [api_Table.f, if_pos hl]; rfl) h
  · exact EvB.congr (fun k => by rw [api_Table.f, if_neg hl]) (EvB.no fun h => hl (by rw [h]))
theorem eIndexes (L M : List S135) (hL : L.length ≤ 9223372036854775807) (hi : ∀ i : Nat, i < L.length → (rd_T135 L (i : Int)).f2.length ≤ 9223372036854775807 ∧ (rd_T135 L (i : Int)).f6.length ≤ 9223372036854775807) : EvB (fun k => api_Index.f k L M 0) (L = M) := by
  by_cases hl : (L.length : Int) = (M.length : Int)
  · have h := EvB.same (d := z135) (L := L) (M := M) (g := fun i k => api_Index.l0 k M L (L.length : Int) (i : Int)) (by omega) (EvB.step (f := fun _ => some true) (fun k => by rw [api_Index.l0, if_neg (by omega)]) (EvB.yes trivial)) (fun i Q hi' h => by
      show EvB _ (rd_T135 L (i : Int) = rd_T135 M (i : Int) ∧ Q)
      have h1 := EvB.andT (eIndex (rd_T135 L (i : Int)) (rd_T135 M (i : Int)) (hi i hi').1 (hi i hi').2) (B := fun _ => some false) (fun _ => EvB.no fun h => h) (fun _ => h)
      exact EvB.step (fun k => by rw [api_Index.l0, if_pos (by omega), if_pos (by omega), if_pos (by omega), if_pos (by omega), wr_s i L.length hi' (by omega)]) h1)
    exact EvB.congr (fun k => by rw [api_Index.f, if_pos hl]; rfl) h
  · exact EvB.congr (fun k => by rw [api_Index.f, if_neg hl]) (EvB.no fun h => hl (by rw [h]))
/-- Two books are the same just if they are equal. -/
theorem eSame (T T' : List S84) (X X' : List S135) (hb : bookL T X) : EvB (fun k => schema_Same.f k T X T' X') (T = T' ∧ X = X') := by
  have h := EvB.andT (eTables T T' hb.1 hb.2.2.1) (B := fun _ => some false) (fun _ => EvB.no fun h => h) (fun _ => EvB.one (eIndexes X X' hb.2.1 hb.2.2.2))
  exact EvB.congr (fun k => by rw [schema_Same.f]) h
end Go.Proofs.Ytpfegfkniilobaa.PureS
