/- When two books are the same, in plain Lean. No conditions but that the slices are not endless. -/
import Derived.Test.YtpfegfkniilobaaPureSchA0
import Derived.Test.YtpfegfkniilobaaXSchemax12
import Derived.Test.YtpfegfkniilobaaByt
namespace Go.Proofs.Ytpfegfkniilobaa.PureS
open Go.RowKit Go.Proofs.YtpfegfkniilobaaW.PrintWords Go.Proofs.Ytpfegfkniilobaa.XSchema
set_option linter.unusedVariables false
set_option linter.unusedSimpArgs false
theorem ba_eq {a b : ByteArray} (h : a.toList = b.toList) : a = b := by
  apply ByteArray.ext
  apply Array.toList_inj.1
  rw [← Lib.toList_data, ← Lib.toList_data, h]
theorem getD_at {α : Type} (l : List α) (d : α) (i : Nat) (h : i < l.length) : l.getD (i : Int).toNat d = l[i] := by
  rw [Int.toNat_natCast, List.getD_eq_getElem?_getD, List.getElem?_eq_getElem h]
  rfl
theorem list_eq {α : Type} (d : α) {l m : List α} (hl : l.length = m.length) (h : ∀ i : Nat, i < l.length → l.getD (i : Int).toNat d = m.getD (i : Int).toNat d) : l = m := by
  apply List.ext_getElem hl
  intro i h1 h2
  have := h i h1
  rwa [getD_at l d i h1, getD_at m d i h2] at this
/-- Two slices, held against each other element by element. -/
theorem EvB.same {α : Type} {d : α} {L M : List α} {g : Nat → Nat → Option Bool} (hl : L.length = M.length) (hend : EvB (g L.length) True) (hstep : ∀ i Q, i < L.length → EvB (g (i + 1)) Q → EvB (g i) (L.getD (i : Int).toNat d = M.getD (i : Int).toNat d ∧ Q)) : EvB (g 0) (L = M) := by
  refine (EvB.loop (g := g) L.length (fun i => L.getD (i : Int).toNat d = M.getD (i : Int).toNat d) True hend hstep L.length 0 (by omega)).imp ⟨fun h => list_eq d hl (fun i hi => h.1 i (Nat.zero_le _) hi), fun h => ⟨fun i _ _ => by rw [h], trivial⟩⟩
theorem eCols (L M : List S87) (hL : L.length ≤ 9223372036854775807) : EvB (fun k => api_Column.f k L M) (L = M) := by
  by_cases hl : (L.length : Int) = (M.length : Int)
  · have h := EvB.same (d := z87) (L := L) (M := M) (g := fun i k => api_Column.l0 k L M (L.length : Int) (i : Int)) (by omega) (EvB.step (f := fun _ => some true) (fun k => by rw [api_Column.l0, if_neg (by omega)]) (EvB.yes trivial)) (fun i Q hi h => by
      obtain ⟨x, hx⟩ : ∃ x, x = rd_T87 L (i : Int) := ⟨_, rfl⟩
      obtain ⟨y, hy⟩ : ∃ y, y = rd_T87 M (i : Int) := ⟨_, rfl⟩
      show EvB _ (rd_T87 L (i : Int) = rd_T87 M (i : Int) ∧ Q)
      rw [← hx, ← hy]
      obtain ⟨a, b, c, e⟩ := x
      obtain ⟨a', b', c', e'⟩ := y
      by_cases hq : (!((a.toList) == (a'.toList)) || (!(b == b') || (!(c == c') || (!(e == e'))))) = true
      · refine EvB.step (f := fun _ => some false) (fun k => by rw [api_Column.l0, if_pos (by omega), if_pos (by omega), if_pos (by omega), if_pos (by omega), ← hx, ← hy, if_pos hq]) (EvB.no fun h => ?_)
        have h1 := h.1
        simp only [S87.mk.injEq] at h1
        obtain ⟨rfl, rfl, rfl, rfl⟩ := h1
        simp at hq
      · refine (EvB.step (fun k => by rw [api_Column.l0, if_pos (by omega), if_pos (by omega), if_pos (by omega), if_pos (by omega), ← hx, ← hy, if_neg hq, wr_s i L.length hi (by omega)]) h).imp ⟨fun h => ⟨?_, h⟩, fun h => h.2⟩
        simp only [Bool.or_eq_true, Bool.not_eq_true', beq_eq_false_iff_ne, not_or, Decidable.not_not] at hq
        obtain ⟨h1, rfl, rfl, rfl⟩ := hq
        rw [ba_eq h1])
    exact EvB.congr (fun k => by rw [api_Column.f, if_pos hl]; rfl) h
  · exact EvB.congr (fun k => by rw [api_Column.f, if_neg hl]) (EvB.no fun h => hl (by rw [h]))
theorem eInts (L M : List Int) (hL : L.length ≤ 9223372036854775807) : EvB (fun k => slices_Equal_int_int.f k L M) (L = M) := by
  by_cases hl : (L.length : Int) = (M.length : Int)
  · have h := EvB.same (d := (0 : Int)) (L := L) (M := M) (g := fun i k => slices_Equal_int_int.l0 k L M (L.length : Int) (i : Int)) (by omega) (EvB.step (f := fun _ => some true) (fun k => by rw [slices_Equal_int_int.l0, if_neg (by omega)]) (EvB.yes trivial)) (fun i Q hi h => by
      show EvB _ (rd L (i : Int) = rd M (i : Int) ∧ Q)
      by_cases hq : rd L (i : Int) = rd M (i : Int)
      · exact (EvB.step (fun k => by rw [slices_Equal_int_int.l0, if_pos (by omega), if_pos (by omega), if_pos (by omega), if_pos (by omega), if_pos hq, wr_s i L.length hi (by omega)]) h).imp ⟨fun h => ⟨hq, h⟩, fun h => h.2⟩
      · exact EvB.step (f := fun _ => some false) (fun k => by rw [slices_Equal_int_int.l0, if_pos (by omega), if_pos (by omega), if_pos (by omega), if_pos (by omega), if_neg hq]) (EvB.no fun h => hq h.1))
    exact EvB.congr (fun k => by rw [slices_Equal_int_int.f, if_pos hl]; rfl) h
  · exact EvB.congr (fun k => by rw [slices_Equal_int_int.f, if_neg hl]) (EvB.no fun h => hl (by rw [h]))
theorem EvB.eqT {A : Nat → Option Bool} {c P : Prop} [Decidable c] (hy : c → EvB A P) : EvB (fun k => if c then A k else some false) (c ∧ P) := by
  by_cases h : c
  · exact EvB.congr (fun k => if_pos h) ((hy h).imp ⟨fun p => ⟨h, p⟩, fun p => p.2⟩)
  · exact EvB.congr (fun k => if_neg h) (EvB.no fun p => h p.1)
theorem EvB.one {g : Nat → Option Bool} {P : Prop} (h : EvB g P) : EvB (fun k => (g k).bind fun t => some t) P := by
  obtain ⟨r, hr, hp⟩ := h
  exact ⟨r, Ev.bind hr (Ev.now r), hp⟩
theorem eTable (x y : S84) (hL : x.f1.length ≤ 9223372036854775807) : EvB (fun k => schema_Same_1.f k x.f0 x.f1 x.f2 x.f3 x.f4 y.f0 y.f1 y.f2 y.f3 y.f4) (x = y) := by
  obtain ⟨a, L, b, c, e⟩ := x
  obtain ⟨a', L', b', c', e'⟩ := y
  have h := EvB.eqT (c := a.toList = a'.toList) (fun _ => EvB.andT (eCols L L' hL) (B := fun _ => some false) (fun _ => EvB.no fun h => h) (fun _ => EvB.eqT (c := b = b') (fun _ => EvB.eqT (c := c = c') (A := fun _ => some (e == e')) (P := e = e') (fun _ => ⟨e == e', Ev.now _, by simp⟩))))
  refine EvB.congr (fun k => by rw [schema_Same_1.f]) (h.imp ⟨fun h => ?_, fun h => ?_⟩)
  · obtain ⟨h1, rfl, rfl, rfl, rfl⟩ := h
    rw [ba_eq h1]
  · simp only [S84.mk.injEq] at h
    obtain ⟨rfl, rfl, rfl, rfl, rfl⟩ := h
    simp
theorem eIndex (x y : S135) (hL : x.f2.length ≤ 9223372036854775807) (hD : x.f6.length ≤ 9223372036854775807) : EvB (fun k => schema_Same_2.f k x.f0 x.f1 x.f2 x.f3 x.f4 x.f5 x.f6 y.f0 y.f1 y.f2 y.f3 y.f4 y.f5 y.f6) (x = y) := by
  obtain ⟨a, t, C, r, l, q, D⟩ := x
  obtain ⟨a', t', C', r', l', q', D'⟩ := y
  have h := EvB.eqT (c := a.toList = a'.toList) (fun _ => EvB.eqT (c := t = t') (fun _ => EvB.andT (eInts C C' hL) (B := fun _ => some false) (fun _ => EvB.no fun h => h) (fun _ => EvB.eqT (c := r = r') (fun _ => EvB.eqT (c := l = l') (fun _ => EvB.eqT (c := q = q') (fun _ => EvB.one (eInts D D' hD)))))))
  refine EvB.congr (fun k => by rw [schema_Same_2.f]) (h.imp ⟨fun h => ?_, fun h => ?_⟩)
  · obtain ⟨h1, rfl, rfl, rfl, rfl, rfl, rfl⟩ := h
    rw [ba_eq h1]
  · simp only [S135.mk.injEq] at h
    obtain ⟨rfl, rfl, rfl, rfl, rfl, rfl, rfl⟩ := h
    simp
/-- The inner slices are not endless. -/
def bookL (T : List S84) (X : List S135) : Prop := T.length ≤ 9223372036854775807 ∧ X.length ≤ 9223372036854775807 ∧ (∀ i : Nat, i < T.length → (rd_T84 T (i : Int)).f1.length ≤ 9223372036854775807) ∧ ∀ i : Nat, i < X.length → (rd_T135 X (i : Int)).f2.length ≤ 9223372036854775807 ∧ (rd_T135 X (i : Int)).f6.length ≤ 9223372036854775807
theorem eTables (L M : List S84) (hL : L.length ≤ 9223372036854775807) (hi : ∀ i : Nat, i < L.length → (rd_T84 L (i : Int)).f1.length ≤ 9223372036854775807) : EvB (fun k => api_Table.f k L M 0) (L = M) := by
  by_cases hl : (L.length : Int) = (M.length : Int)
  · have h := EvB.same (d := z84) (L := L) (M := M) (g := fun i k => api_Table.l0 k M L (L.length : Int) (i : Int)) (by omega) (EvB.step (f := fun _ => some true) (fun k => by rw [api_Table.l0, if_neg (by omega)]) (EvB.yes trivial)) (fun i Q hi' h => by
      show EvB _ (rd_T84 L (i : Int) = rd_T84 M (i : Int) ∧ Q)
      have h1 := EvB.andT (eTable (rd_T84 L (i : Int)) (rd_T84 M (i : Int)) (hi i hi')) (B := fun _ => some false) (fun _ => EvB.no fun h => h) (fun _ => h)
      exact EvB.step (fun k => by rw [api_Table.l0, if_pos (by omega), if_pos (by omega), if_pos (by omega), if_pos (by omega), wr_s i L.length hi' (by omega)]) h1)
    exact EvB.congr (fun k => by rw [api_Table.f, if_pos hl]; rfl) h
  · exact EvB.congr (fun k => by rw [api_Table.f, if_neg hl]) (EvB.no fun h => hl (by rw [h]))
theorem eIndexes (L M : List S135) (hL : L.length ≤ 9223372036854775807) (hi : ∀ i : Nat, i < L.length → (rd_T135 L (i : Int)).f2.length ≤ 9223372036854775807 ∧ (rd_T135 L (i : Int)).f6.length ≤ 9223372036854775807) : EvB (fun k => api_Index.f k L M 0) (L = M) := by
  by_cases hl : (L.length : Int) = (M.length : Int)
  · have h := EvB.same (d := z135) (L := L) (M := M) (g := fun i k => api_Index.l0 k M L (L.length : Int) (i : Int)) (by omega) (EvB.step (f := fun _ => some true) (fun k => by rw [api_Index.l0, if_neg (by omega)]) (EvB.yes trivial)) (fun i Q hi' h => by
      show EvB _ (rd_T135 L (i : Int) = rd_T135 M (i : Int) ∧ Q)
      have h1 := EvB.andT (eIndex (rd_T135 L (i : Int)) (rd_T135 M (i : Int)) (hi i hi').1 (hi i hi').2) (B := fun _ => some false) (fun _ => EvB.no fun h => h) (fun _ => h)
      exact EvB.step (fun k => by rw [api_Index.l0, if_pos (by omega), if_pos (by omega), if_pos (by omega), if_pos (by omega), wr_s i L.length hi' (by omega)]) h1)
    exact EvB.congr (fun k => by rw [api_Index.f, if_pos hl]; rfl) h
  · exact EvB.congr (fun k => by rw [api_Index.f, if_neg hl]) (EvB.no fun h => hl (by rw [h]))
/-- Two books are the same just if they are equal. -/
theorem eSame (T T' : List S84) (X X' : List S135) (hb : bookL T X) : EvB (fun k => schema_Same.f k T X T' X') (T = T' ∧ X = X') := by
  have h := EvB.andT (eTables T T' hb.1 hb.2.2.1) (B := fun _ => some false) (fun _ => EvB.no fun h => h) (fun _ => EvB.one (eIndexes X X' hb.2.1 hb.2.2.2))
  exact EvB.congr (fun k => by rw [schema_Same.f]) h
end Go.Proofs.Ytpfegfkniilobaa.PureS
namespace Go.Proofs.Ytpfegfkniilobaa.PureS
open Go.RowKit Go.Proofs.YtpfegfkniilobaaW.PrintWords Go.Proofs.Ytpfegfkniilobaa.XSchema Go.Proofs.Ytpfegfkniilobaa.Byt
set_option linter.unusedVariables false
set_option linter.unusedSimpArgs false
def be1 (n : Int) : List Int := [n % 256]
def be4 (n : Int) : List Int := [n / 16777216 % 256, n / 65536 % 256, n / 256 % 256, n % 256]
def txt (s : ByteArray) : List Int := be1 s.size ++ bytesOf s
def wrC (c : S87) : List Int := txt c.f0 ++ be1 c.f1 ++ be4 c.f2 ++ be4 c.f3
def wrT (t : S84) : List Int := txt t.f0 ++ be1 t.f1.length ++ t.f1.flatMap wrC ++ be4 t.f2 ++ be4 t.f3 ++ be4 t.f4
def wrX (x : S135) : List Int := txt x.f0 ++ be1 x.f1 ++ be1 x.f2.length ++ x.f2.flatMap be1 ++ be4 x.f3 ++ be4 x.f4 ++ be4 x.f5 ++ x.f6.flatMap be4
def wr (T : List S84) (X : List S135) : List Int := be1 T.length ++ T.flatMap wrT ++ be1 X.length ++ X.flatMap wrX
theorem str_bytes (s : ByteArray) : strOfNums (bytesOf s) = s := by
  apply ByteArray.ext
  apply Array.toList_inj.1
  simp only [strOfNums, bytesOf, List.map_map]
  have h : ((fun n : Int => UInt8.ofNat n.toNat) ∘ fun b : UInt8 => ((b.toNat : Nat) : Int)) = id := by
    funext b
    simp
  show (List.map ((fun n : Int => UInt8.ofNat n.toNat) ∘ fun b : UInt8 => ((b.toNat : Nat) : Int)) s.data.toList).toArray.toList = _
  rw [h]
  simp
theorem Ev.cat {A : Nat → Option ByteArray} {F : Nat → ByteArray → Option ByteArray} {S : ByteArray} {b : List Int} {r : ByteArray} (hA : Ev A (strOfNums b)) (hs : S.size + b.length ≤ 9223372036854775807) (h : Ev (fun k => F k (S ++ strOfNums b)) r) :
    Ev (fun k => (A k).bind fun t => if S.size + t.size ≤ 9223372036854775807 then F k (S ++ t) else none) r := by
  refine Ev.bind (f := fun k t => if S.size + t.size ≤ 9223372036854775807 then F k (S ++ t) else none) hA (Ev.congr (fun k => if_pos ?_) h)
  rw [str_size]
  exact hs
theorem Ev.cat_ {A : Nat → Option ByteArray} {G : Nat → ByteArray → Option ByteArray} {S : ByteArray} {b : List Int} {r : ByteArray} (hA : Ev A (strOfNums b)) (hs : S.size + b.length ≤ 9223372036854775807) (h : Ev (fun k => G k (strOfNums b)) r) :
    Ev (fun k => (A k).bind fun t => if S.size + t.size ≤ 9223372036854775807 then G k t else none) r :=
  Ev.bind (f := fun k t => if S.size + t.size ≤ 9223372036854775807 then G k t else none) hA (Ev.congr (fun k => if_pos (by rw [str_size]; exact hs)) h)
theorem u64_in (n : Int) (h : 0 ≤ n ∧ n < 18446744073709551616) : IntKind.u64.wrap n = n := by rw [u64_eq]; omega
theorem num_round (x n : Int) (hx : 0 ≤ x ∧ x < 18446744073709551616) (acc : List Int) (i : Nat) (hi : (i : Int) < n) (hn : n ≤ 100) (ha : acc.length ≤ 1000) {r : ByteArray} (h : Ev (fun k => rowlockref06_Number.l0 k (x / 256) n (strOfNums ((x % 256) :: acc)) ((i + 1 : Nat) : Int)) r) :
    Ev (fun k => rowlockref06_Number.l0 k x n (strOfNums acc) (i : Int)) r := by
  refine Ev.step (fun k => ?_) h
  have e1 : Int.tmod x 256 = x % 256 := Int.tmod_eq_emod_of_nonneg hx.1
  have e2 : Int.tdiv x 256 = x / 256 := Int.tdiv_eq_ediv_of_nonneg hx.1
  have e3 : strOfNums [x % 256] ++ strOfNums acc = strOfNums ((x % 256) :: acc) := (str_append _ _).symm
  rw [rowlockref06_Number.l0, if_pos hi, Option.bind_some, e1, e2, show x % 256 % 256 = x % 256 by omega, if_pos (by rw [str_size, str_size]; simp; omega), e3, u64_in (x / 256) (by omega), wr_in _ (by omega)]
  rfl
theorem num_end (x n : Int) (acc : List Int) (i : Nat) (hi : (i : Int) = n) : Ev (fun k => rowlockref06_Number.l0 k x n (strOfNums acc) (i : Int)) (strOfNums acc) :=
  Ev.step (f := fun _ => some (strOfNums acc)) (fun k => by rw [rowlockref06_Number.l0, if_neg (by omega)]) (Ev.now _)
theorem num1 (x : Int) (hx : 0 ≤ x ∧ x < 18446744073709551616) : Ev (fun k => rowlockref06_Number.f k x 1) (strOfNums (be1 x)) :=
  Ev.congr (fun k => by rw [rowlockref06_Number.f]; rfl) (num_round x 1 hx [] 0 (by omega) (by omega) (by simp) (num_end _ _ _ _ (by omega)))
theorem num4 (x : Int) (hx : 0 ≤ x ∧ x < 18446744073709551616) : Ev (fun k => rowlockref06_Number.f k x 4) (strOfNums (be4 x)) := by
  have h := num_round x 4 hx [] 0 (by omega) (by omega) (by simp) (num_round (x / 256) 4 (by omega) _ 1 (by omega) (by omega) (by simp) (num_round (x / 256 / 256) 4 (by omega) _ 2 (by omega) (by omega) (by simp) (num_round (x / 256 / 256 / 256) 4 (by omega) _ 3 (by omega) (by omega) (by simp) (num_end (x / 256 / 256 / 256 / 256) 4 _ 4 (by omega)))))
  rw [show x / 256 / 256 / 256 = x / 16777216 by omega, show x / 256 / 256 = x / 65536 by omega] at h
  exact Ev.congr (fun k => by rw [rowlockref06_Number.f]; rfl) h
theorem one1 (x : Int) (hx : 0 ≤ x ∧ x < 18446744073709551616) : Ev (fun k => rowlockref12_one.f k x) (strOfNums (be1 x)) := by
  have h := num1 x hx
  exact Ev.congr (fun k => by rw [rowlockref12_one.f, u64_in x hx]) (Ev.bind (f := fun _ t => some t) h (Ev.now _))
theorem four4 (x : Int) (hx : 0 ≤ x ∧ x < 18446744073709551616) : Ev (fun k => rowlockref12_four.f k x) (strOfNums (be4 x)) := by
  have h := num4 x hx
  exact Ev.congr (fun k => by rw [rowlockref12_four.f, u64_in x hx]) (Ev.bind (f := fun _ t => some t) h (Ev.now _))
theorem be1_len (x : Int) : (be1 x).length = 1 := rfl
theorem be4_len (x : Int) : (be4 x).length = 4 := rfl
theorem txt_len (s : ByteArray) : (txt s).length = 1 + s.size := by rw [txt, List.length_append, be1_len, bytesOf_length]
theorem text1 (s : ByteArray) (hs : s.size ≤ 1000) : Ev (fun k => rowlockref12_text.f k s) (strOfNums (txt s)) := by
  have h := num1 (s.size : Int) ⟨by omega, by omega⟩
  refine Ev.congr (fun k => by rw [rowlockref12_text.f, u64_in _ (by omega)]) (Ev.bind (f := fun _ t => if t.size + s.size ≤ 9223372036854775807 then some (t ++ s) else none) h (Ev.congr (fun k => if_pos (by rw [str_size, be1_len]; omega)) ?_))
  rw [txt, str_append, str_bytes]
  exact Ev.now _
theorem drop_rd {α : Type} (d : α) (l : List α) (i : Nat) (h : i < l.length) : l.drop i = l.getD (i : Int).toNat d :: l.drop (i + 1) := by
  rw [getD_at l d i h]
  exact List.drop_eq_getElem_cons h
theorem wrC_len (c : S87) (h : colP c) : (wrC c).length ≤ 40 := by
  have := h.1.2.1
  simp only [wrC, List.length_append, txt_len, be1_len, be4_len]
  omega
theorem numR {n : Int} (h : numP n) : 0 ≤ n ∧ n < 18446744073709551616 := by unfold numP at h; omega
theorem flat1_len (C : List Int) : (C.flatMap be1).length = C.length := by
  induction C with
  | nil => rfl
  | cons x l ih => rw [List.flatMap_cons, List.length_append, ih, be1_len, List.length_cons]; omega
theorem flat4_len (C : List Int) : (C.flatMap be4).length = 4 * C.length := by
  induction C with
  | nil => rfl
  | cons x l ih => rw [List.flatMap_cons, List.length_append, ih, be4_len, List.length_cons]; omega
theorem flatC_len (L : List S87) (h : ∀ c ∈ L, colP c) : (L.flatMap wrC).length ≤ 40 * L.length := by
  induction L with
  | nil => simp
  | cons x l ih =>
    have := wrC_len x (h x (List.mem_cons_self ..))
    have := ih (fun c hc => h c (List.mem_cons_of_mem _ hc))
    rw [List.flatMap_cons, List.length_append, List.length_cons]
    omega
theorem all_cols {L : List S87} (h : ∀ j : Nat, j < L.length → colP (rd_T87 L (j : Int))) : ∀ c ∈ L, colP c := fun c hc => by
  obtain ⟨i, hi, rfl⟩ := List.getElem_of_mem hc
  have := h i hi
  rwa [rd_T87, getD_at L z87 i hi] at this
theorem wrT_len (t : S84) (h : tableP t) : (wrT t).length ≤ 400 := by
  obtain ⟨h1, h2, h3, h4, h5, h6, h7⟩ := h
  have := flatC_len t.f1 (all_cols fun j hj => (h7 j hj).1)
  have := h1.2.1
  simp only [wrT, List.length_append, txt_len, be1_len, be4_len]
  omega
end Go.Proofs.Ytpfegfkniilobaa.PureS
