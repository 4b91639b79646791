/- A book's writing as bytes, in plain Lean: the reference's Put writes it; of books that may be no two have the same one. -/
import Derived.Test.YtpfegfkniilobaaPureSchB
import Derived.Test.YtpfegfkniilobaaXSchemax13
import Derived.Test.YtpfegfkniilobaaByt
namespace Go.Proofs.Ytpfegfkniilobaa.PureS
open Go.RowKit Go.Proofs.YtpfegfkniilobaaW.PrintWords Go.Proofs.Ytpfegfkniilobaa.XSchema Go.Proofs.Ytpfegfkniilobaa.Byt
set_option linter.unusedVariables false
set_option linter.unusedSimpArgs false
def be1 (n : Int) : List Int := [n % 256]
def be4 (n : Int) : List Int := [n / 16777216 % 256, n / 65536 % 256, n / 256 % 256, n % 256]
def txt (s : ByteArray) : List Int := be1 s.size ++ bytesOf s
def wrC (c : S87) : List Int := txt c.f0 ++ be1 c.f1 ++ be4 c.f2 ++ be4 c.f3
def wrT (t : S84) : List Int := txt t.f0 ++ be1 t.f1.length ++ t.f1.flatMap wrC ++ be4 t.f2 ++ be4 t.f3 ++ be4 t.f4
def wrX (x : S135) : List Int := txt x.f0 ++ be1 x.f1 ++ be1 x.f2.length ++ x.f2.flatMap be1 ++ be4 x.f3 ++ be4 x.f4 ++ be4 x.f5 ++ x.f6.flatMap be4
def wr (T : List S84) (X : List S135) : List Int := be1 T.length ++ T.flatMap wrT ++ be1 X.length ++ X.flatMap wrX
theorem str_bytes (s : ByteArray) : strOfNums (bytesOf s) = s := by
  apply ByteArray.ext
  apply Array.toList_inj.1
  simp only [strOfNums, bytesOf, List.map_map]
  have h : ((fun n : Int => UInt8.ofNat n.toNat) ∘ fun b : UInt8 => ((b.toNat : Nat) : Int)) = id := by
    funext b
    simp
  show (List.map ((fun n : Int => UInt8.ofNat n.toNat) ∘ fun b : UInt8 => ((b.toNat : Nat) : Int)) s.data.toList).toArray.toList = _
  rw [h]
  simp
theorem Ev.cat {A : Nat → Option ByteArray} {F : Nat → ByteArray → Option ByteArray} {S : ByteArray} {b : List Int} {r : ByteArray} (hA : Ev A (strOfNums b)) (hs : S.size + b.length ≤ 9223372036854775807) (h : Ev (fun k => F k (S ++ strOfNums b)) r) :
    Ev (fun k => (A k).bind fun t => if S.size + t.size ≤ 9223372036854775807 then F k (S ++ t) else none) r := by
  refine Ev.bind (f := fun k t => if S.size + t.size ≤ 9223372036854775807 then F k (S ++ t) else none) hA (Ev.congr (fun k => if_pos ?_) h)
  rw [str_size]
  exact hs
theorem Ev.cat_ {A : Nat → Option ByteArray} {G : Nat → ByteArray → Option ByteArray} {S : ByteArray} {b : List Int} {r : ByteArray} (hA : Ev A (strOfNums b)) (hs : S.size + b.length ≤ 9223372036854775807) (h : Ev (fun k => G k (strOfNums b)) r) :
    Ev (fun k => (A k).bind fun t => if S.size + t.size ≤ 9223372036854775807 then G k t else none) r :=
  Ev.bind (f := fun k t => if S.size + t.size ≤ 9223372036854775807 then G k t else none) hA (Ev.congr (fun k => if_pos (by rw [str_size]; exact hs)) h)
theorem u64_in (n : Int) (h : 0 ≤ n ∧ n < 18446744073709551616) : IntKind.u64.wrap n = n := by rw [u64_eq]; omega
theorem num_round (x n : Int) (hx : 0 ≤ x ∧ x < 18446744073709551616) (acc : List Int) (i : Nat) (hi : (i : Int) < n) (hn : n ≤ 100) (ha : acc.length ≤ 1000) {r : ByteArray} (h : Ev (fun k => rowlockref06_Number.l0 k (x / 256) n (strOfNums ((x % 256) :: acc)) ((i + 1 : Nat) : Int)) r) :
    Ev (fun k => rowlockref06_Number.l0 k x n (strOfNums acc) (i : Int)) r := by
  refine Ev.step (fun k => ?_) h
  have e1 : Int.tmod x 256 = x % 256 := Int.tmod_eq_emod_of_nonneg hx.1
  have e2 : Int.tdiv x 256 = x / 256 := Int.tdiv_eq_ediv_of_nonneg hx.1
  have e3 : strOfNums [x % 256] ++ strOfNums acc = strOfNums ((x % 256) :: acc) := (str_append _ _).symm
  rw [rowlockref06_Number.l0, if_pos hi, Option.bind_some, e1, e2, show x % 256 % 256 = x % 256 by omega, if_pos (by rw [str_size, str_size]; simp; omega), e3, u64_in (x / 256) (by omega), wr_in _ (by omega)]
  rfl
theorem num_end (x n : Int) (acc : List Int) (i : Nat) (hi : (i : Int) = n) : Ev (fun k => rowlockref06_Number.l0 k x n (strOfNums acc) (i : Int)) (strOfNums acc) :=
  Ev.step (f := fun _ => some (strOfNums acc)) (fun k => by rw [rowlockref06_Number.l0, if_neg (by omega)]) (Ev.now _)
theorem num1 (x : Int) (hx : 0 ≤ x ∧ x < 18446744073709551616) : Ev (fun k => rowlockref06_Number.f k x 1) (strOfNums (be1 x)) :=
  Ev.congr (fun k => by rw [rowlockref06_Number.f]; rfl) (num_round x 1 hx [] 0 (by omega) (by omega) (by simp) (num_end _ _ _ _ (by omega)))
theorem num4 (x : Int) (hx : 0 ≤ x ∧ x < 18446744073709551616) : Ev (fun k => rowlockref06_Number.f k x 4) (strOfNums (be4 x)) := by
  have h := num_round x 4 hx [] 0 (by omega) (by omega) (by simp) (num_round (x / 256) 4 (by omega) _ 1 (by omega) (by omega) (by simp) (num_round (x / 256 / 256) 4 (by omega) _ 2 (by omega) (by omega) (by simp) (num_round (x / 256 / 256 / 256) 4 (by omega) _ 3 (by omega) (by omega) (by simp) (num_end (x / 256 / 256 / 256 / 256) 4 _ 4 (by omega)))))
  rw [show x / 256 / 256 / 256 = x / 16777216 by omega, show x / 256 / 256 = x / 65536 by omega] at h
  exact Ev.congr (fun k => by rw [rowlockref06_Number.f]; rfl) h
theorem one1 (x : Int) (hx : 0 ≤ x ∧ x < 18446744073709551616) : Ev (fun k => rowlockref12_one.f k x) (strOfNums (be1 x)) := by
  have h := num1 x hx
  exact Ev.congr (fun k => by rw [rowlockref12_one.f, u64_in x hx]) (Ev.bind (f := fun _ t => some t) h (Ev.now _))
theorem four4 (x : Int) (hx : 0 ≤ x ∧ x < 18446744073709551616) : Ev (fun k => rowlockref12_four.f k x) (strOfNums (be4 x)) := by
  have h := num4 x hx
  exact Ev.congr (fun k => by rw [rowlockref12_four.f, u64_in x hx]) (Ev.bind (f := fun _ t => some t) h (Ev.now _))
theorem be1_len (x : Int) : (be1 x).length = 1 := rfl
theorem be4_len (x : Int) : (be4 x).length = 4 := rfl
theorem txt_len (s : ByteArray) : (txt s).length = 1 + s.size := by rw [txt, List.length_append, be1_len, bytesOf_length]
theorem text1 (s : ByteArray) (hs : s.size ≤ 1000) : Ev (fun k => rowlockref12_text.f k s) (strOfNums (txt s)) := by
  have h := num1 (s.size : Int) ⟨by omega, by omega⟩
  refine Ev.congr (fun k => by rw [rowlockref12_text.f, u64_in _ (by omega)]) (Ev.bind (f := fun _ t => if t.size + s.size ≤ 9223372036854775807 then some (t ++ s) else none) h (Ev.congr (fun k => if_pos (by rw [str_size, be1_len]; omega)) ?_))
  rw [txt, str_append, str_bytes]
  exact Ev.now _
theorem drop_rd {α : Type} (d : α) (l : List α) (i : Nat) (h : i < l.length) : l.drop i = l.getD (i : Int).toNat d :: l.drop (i + 1) := by
  rw [getD_at l d i h]
  exact List.drop_eq_getElem_cons h
theorem wrC_len (c : S87) (h : colP c) : (wrC c).length ≤ 40 := by
  have := h.1.2.1
  simp only [wrC, List.length_append, txt_len, be1_len, be4_len]
  omega
section
variable (T : List S84) (X : List S135)
theorem S_nil (S : ByteArray) : S ++ strOfNums [] = S := by
  apply ByteArray.ext
  simp [strOfNums]
theorem put_l4 (n i : Int) (a : ByteArray) (t : Int) (C : List Int) (r l h : Int) (D : List Int) (hi : 0 ≤ i ∧ i < 1000) (hD : D.length ≤ 2) (hnum : ∀ j : Nat, j < D.length → numP (rd D (j : Int))) {R : ByteArray} :
    ∀ (m j : Nat) (S : ByteArray), j + m = D.length → S.size + 4 * m ≤ 1000000 → Ev (fun k => rowlockref12_Put.l2 k (S ++ strOfNums ((D.drop j).flatMap be4)) n (i + 1) T X) R → Ev (fun k => rowlockref12_Put.l4 k S n i (D.length : Int) (j : Int) T X a t C r l h D) R
  | 0, j, S, hm, hs, hR => by
    rw [List.drop_of_length_le (by omega), List.flatMap_nil, S_nil] at hR
    exact Ev.step (fun k => by rw [rowlockref12_Put.l4, if_neg (by omega), wr_in _ (by omega)]) hR
  | m + 1, j, S, hm, hs, hR => by
    have hn := hnum j (by omega)
    rw [drop_rd (0 : Int) D j (by omega), List.flatMap_cons, str_append, ← ByteArray.append_assoc] at hR
    have ih := put_l4 n i a t C r l h D hi hD hnum m (j + 1) (S ++ strOfNums (be4 (rd D (j : Int)))) (by omega) (by rw [ByteArray.size_append, str_size, be4_len]; omega) hR
    refine Ev.step (fun k => ?_) (Ev.cat (S := S) (F := fun k s => rowlockref12_Put.l4 k s n i (D.length : Int) ((j + 1 : Nat) : Int) T X a t C r l h D) (four4 (rd D (j : Int)) (by have := hn; unfold numP at this; omega)) (by rw [be4_len]; omega) ih)
    rw [rowlockref12_Put.l4, if_pos (by omega), if_pos (by omega), if_pos (by omega), wr_s j D.length (by omega) (by omega)]
theorem numR {n : Int} (h : numP n) : 0 ≤ n ∧ n < 18446744073709551616 := by unfold numP at h; omega
theorem put_l3 (n i : Int) (a : ByteArray) (t : Int) (C : List Int) (r l h : Int) (D : List Int) (hi : 0 ≤ i ∧ i < 1000) (hC : C.length ≤ 2) (hD : D.length ≤ 2) (hcol : ∀ j : Nat, j < C.length → 0 ≤ rd C (j : Int) ∧ rd C (j : Int) ≤ 255) (hnum : ∀ j : Nat, j < D.length → numP (rd D (j : Int))) (hr : numP r) (hl : numP l) (hh : numP h) {R : ByteArray} :
    ∀ (m j : Nat) (S : ByteArray), j + m = C.length → S.size + m ≤ 500000 → Ev (fun k => rowlockref12_Put.l2 k (S ++ strOfNums ((C.drop j).flatMap be1) ++ strOfNums (be4 r) ++ strOfNums (be4 l) ++ strOfNums (be4 h) ++ strOfNums (D.flatMap be4)) n (i + 1) T X) R → Ev (fun k => rowlockref12_Put.l3 k S n i (C.length : Int) (j : Int) T X a t C r l h D) R
  | 0, j, S, hm, hs, hR => by
    rw [List.drop_of_length_le (by omega), List.flatMap_nil, S_nil] at hR
    have h4 := put_l4 T X n i a t C r l h D hi hD hnum D.length 0 (S ++ strOfNums (be4 r) ++ strOfNums (be4 l) ++ strOfNums (be4 h)) (by omega) (by simp only [ByteArray.size_append, str_size, be4_len]; omega) hR
    have hw : wrap64 r = r := wr_in r (by unfold numP at hr; omega)
    refine Ev.step (fun k => by rw [rowlockref12_Put.l3, if_neg (by omega), hw]) ?_
    refine Ev.cat_ (four4 r (numR hr)) (by simp only [ByteArray.size_append, str_size, txt_len, be1_len, be4_len]; omega) ?_
    refine Ev.cat_ (four4 l (numR hl)) (by simp only [ByteArray.size_append, str_size, txt_len, be1_len, be4_len]; omega) ?_
    refine Ev.cat_ (four4 h (numR hh)) (by simp only [ByteArray.size_append, str_size, txt_len, be1_len, be4_len]; omega) ?_
    exact h4
  | m + 1, j, S, hm, hs, hR => by
    have hn := hcol j (by omega)
    rw [drop_rd (0 : Int) C j (by omega), List.flatMap_cons, str_append, ← ByteArray.append_assoc] at hR
    have ih := put_l3 n i a t C r l h D hi hC hD hcol hnum hr hl hh m (j + 1) (S ++ strOfNums (be1 (rd C (j : Int)))) (by omega) (by rw [ByteArray.size_append, str_size, be1_len]; omega) hR
    refine Ev.step (fun k => ?_) (Ev.cat (S := S) (F := fun k s => rowlockref12_Put.l3 k s n i (C.length : Int) ((j + 1 : Nat) : Int) T X a t C r l h D) (one1 (rd C (j : Int)) (by omega)) (by rw [be1_len]; omega) ih)
    rw [rowlockref12_Put.l3, if_pos (by omega), if_pos (by omega), if_pos (by omega), wr_s j C.length (by omega) (by omega)]
theorem flat1_len (C : List Int) : (C.flatMap be1).length = C.length := by
  induction C with
  | nil => rfl
  | cons x l ih => rw [List.flatMap_cons, List.length_append, ih, be1_len, List.length_cons]; omega
theorem flat4_len (C : List Int) : (C.flatMap be4).length = 4 * C.length := by
  induction C with
  | nil => rfl
  | cons x l ih => rw [List.flatMap_cons, List.length_append, ih, be4_len, List.length_cons]; omega
theorem put_l2 (hX : X.length ≤ 16) (hm : ∀ i : Nat, i < X.length → indexP T (rd_T135 X (i : Int))) (hT : T.length ≤ 16) (hcol : ∀ i : Nat, i < T.length → (rd_T84 T (i : Int)).f1.length ≤ 8) :
    ∀ (m i : Nat) (S : ByteArray), i + m = X.length → S.size + 100 * m ≤ 400000 → Ev (fun k => rowlockref12_Put.l2 k S (X.length : Int) (i : Int) T X) (S ++ strOfNums ((X.drop i).flatMap wrX))
  | 0, i, S, hi, hs => by
    rw [List.drop_of_length_le (by omega), List.flatMap_nil, S_nil]
    exact Ev.step (f := fun _ => some S) (fun k => by rw [rowlockref12_Put.l2, if_neg (by omega)]) (Ev.now _)
  | m + 1, i, S, hi, hs => by
    have hP := hm i (by omega)
    rw [drop_rd z135 X i (by omega), List.flatMap_cons, str_append, ← ByteArray.append_assoc]
    show Ev _ (S ++ strOfNums (wrX (rd_T135 X (i : Int))) ++ _)
    obtain ⟨x, hx⟩ : ∃ x, x = rd_T135 X (i : Int) := ⟨_, rfl⟩
    rw [← hx] at hP ⊢
    obtain ⟨a, t, C, r, l, h, D⟩ := x
    obtain ⟨h1, h2, h3, h4, h5, h6, h7, h8, h9, h10⟩ := hP
    simp only at h1 h2 h3 h4 h5 h6 h7 h8 h9 h10
    have hcl : (rd_T84 T t).f1.length ≤ 8 := by
      have := hcol t.toNat (by omega)
      rwa [show ((t.toNat : Nat) : Int) = t by omega] at this
    have hn := h1.2.1
    have ih := put_l2 hX hm hT hcol m (i + 1) (S ++ strOfNums (wrX ⟨a, t, C, r, l, h, D⟩)) (by omega) (by
      simp only [ByteArray.size_append, str_size, wrX, List.length_append, txt_len, be1_len, be4_len, flat1_len, flat4_len]
      omega)
    have e : S ++ strOfNums (wrX ⟨a, t, C, r, l, h, D⟩) = S ++ strOfNums (txt a) ++ strOfNums (be1 t) ++ strOfNums (be1 C.length) ++ strOfNums ((C.drop 0).flatMap be1) ++ strOfNums (be4 r) ++ strOfNums (be4 l) ++ strOfNums (be4 h) ++ strOfNums (D.flatMap be4) := by
      simp only [wrX, str_append, List.drop_zero, ByteArray.append_assoc]
    rw [e] at ih ⊢
    have hl3 := put_l3 T X (X.length : Int) (i : Int) a t C r l h D (by omega) h3.2 (by omega) (fun j hj => by have := h5 j hj; simp only at this; omega) h6 h8 h9 h10 C.length 0 (S ++ strOfNums (txt a) ++ strOfNums (be1 t) ++ strOfNums (be1 C.length)) (by omega) (by simp only [ByteArray.size_append, str_size, txt_len, be1_len]; omega) ih
    refine Ev.step (fun k => by rw [rowlockref12_Put.l2, if_pos (by omega), if_pos (by omega), if_pos (by omega), ← hx]) ?_
    refine Ev.cat_ (text1 a (by omega)) (by simp only [ByteArray.size_append, str_size, txt_len, be1_len, be4_len]; omega) ?_
    refine Ev.cat_ (one1 t (by omega)) (by simp only [ByteArray.size_append, str_size, txt_len, be1_len, be4_len]; omega) ?_
    refine Ev.cat_ (one1 (C.length : Int) (by omega)) (by simp only [ByteArray.size_append, str_size, txt_len, be1_len, be4_len]; omega) ?_
    exact hl3
theorem put_l1 (n i : Int) (a : ByteArray) (L : List S87) (x y z : Int) (hi : 0 ≤ i ∧ i < 1000) (hL : L.length ≤ 8) (hc : ∀ j : Nat, j < L.length → colP (rd_T87 L (j : Int))) (hx : numP x) (hy : numP y) (hz : numP z) {R : ByteArray} :
    ∀ (m j : Nat) (S : ByteArray), j + m = L.length → S.size + 40 * m ≤ 200000 → Ev (fun k => rowlockref12_Put.l0 k (S ++ strOfNums ((L.drop j).flatMap wrC) ++ strOfNums (be4 x) ++ strOfNums (be4 y) ++ strOfNums (be4 z)) n (i + 1) T X) R → Ev (fun k => rowlockref12_Put.l1 k S n i (L.length : Int) (j : Int) T X a L x y z) R
  | 0, j, S, hm, hs, hR => by
    rw [List.drop_of_length_le (by omega), List.flatMap_nil, S_nil] at hR
    have hw : wrap64 x = x := wr_in x (by unfold numP at hx; omega)
    refine Ev.step (fun k => by rw [rowlockref12_Put.l1, if_neg (by omega), hw, wr_in (i + 1) (by omega)]) ?_
    refine Ev.cat_ (four4 x (numR hx)) (by simp only [ByteArray.size_append, str_size, txt_len, be1_len, be4_len]; omega) ?_
    refine Ev.cat_ (four4 y (numR hy)) (by simp only [ByteArray.size_append, str_size, txt_len, be1_len, be4_len]; omega) ?_
    refine Ev.cat_ (four4 z (numR hz)) (by simp only [ByteArray.size_append, str_size, txt_len, be1_len, be4_len]; omega) ?_
    exact hR
  | m + 1, j, S, hm, hs, hR => by
    have hP := hc j (by omega)
    have hlen := wrC_len _ hP
    rw [drop_rd z87 L j (by omega), List.flatMap_cons, str_append, ← ByteArray.append_assoc] at hR
    have ih := put_l1 n i a L x y z hi hL hc hx hy hz m (j + 1) (S ++ strOfNums (wrC (rd_T87 L (j : Int)))) (by omega) (by rw [ByteArray.size_append, str_size]; omega) hR
    obtain ⟨c, hcc⟩ : ∃ c, c = rd_T87 L (j : Int) := ⟨_, rfl⟩
    rw [← hcc] at hP ih
    obtain ⟨b, k1, d, q⟩ := c
    obtain ⟨h1, h2, h3, h4, h5⟩ := hP
    simp only at h1 h2 h3 h4 h5
    have hn := h1.2.1
    have e : S ++ strOfNums (wrC ⟨b, k1, d, q⟩) = S ++ strOfNums (txt b) ++ strOfNums (be1 k1) ++ strOfNums (be4 d) ++ strOfNums (be4 q) := by
      simp only [wrC, str_append, ByteArray.append_assoc]
    rw [e] at ih
    have hw : wrap64 k1 = k1 := wr_in k1 (by omega)
    refine Ev.step (fun k => by rw [rowlockref12_Put.l1, if_pos (by omega), if_pos (by omega), if_pos (by omega), ← hcc, wr_s j L.length (by omega) (by omega), hw]) ?_
    refine Ev.cat_ (text1 b (by omega)) (by simp only [ByteArray.size_append, str_size, txt_len, be1_len, be4_len]; omega) ?_
    refine Ev.cat_ (one1 k1 (by omega)) (by simp only [ByteArray.size_append, str_size, txt_len, be1_len, be4_len]; omega) ?_
    refine Ev.cat_ (four4 d (numR h4)) (by simp only [ByteArray.size_append, str_size, txt_len, be1_len, be4_len]; omega) ?_
    refine Ev.cat_ (four4 q (numR h5)) (by simp only [ByteArray.size_append, str_size, txt_len, be1_len, be4_len]; omega) ?_
    exact ih
theorem flatC_len (L : List S87) (h : ∀ c ∈ L, colP c) : (L.flatMap wrC).length ≤ 40 * L.length := by
  induction L with
  | nil => simp
  | cons x l ih =>
    have := wrC_len x (h x (List.mem_cons_self ..))
    have := ih (fun c hc => h c (List.mem_cons_of_mem _ hc))
    rw [List.flatMap_cons, List.length_append, List.length_cons]
    omega
theorem all_cols {L : List S87} (h : ∀ j : Nat, j < L.length → colP (rd_T87 L (j : Int))) : ∀ c ∈ L, colP c := fun c hc => by
  obtain ⟨i, hi, rfl⟩ := List.getElem_of_mem hc
  have := h i hi
  rwa [rd_T87, getD_at L z87 i hi] at this
theorem wrT_len (t : S84) (h : tableP t) : (wrT t).length ≤ 400 := by
  obtain ⟨h1, h2, h3, h4, h5, h6, h7⟩ := h
  have := flatC_len t.f1 (all_cols fun j hj => (h7 j hj).1)
  have := h1.2.1
  simp only [wrT, List.length_append, txt_len, be1_len, be4_len]
  omega
theorem put_l0 (hM : MayP T X) :
    ∀ (m i : Nat) (S : ByteArray), i + m = T.length → S.size + 1000 * m ≤ 100000 → Ev (fun k => rowlockref12_Put.l0 k S (T.length : Int) (i : Int) T X) (S ++ strOfNums ((T.drop i).flatMap wrT) ++ strOfNums (be1 X.length) ++ strOfNums (X.flatMap wrX))
  | 0, i, S, hi, hs => by
    rw [List.drop_of_length_le (by omega), List.flatMap_nil, S_nil]
    have hX := hM.1.2
    have h2 := put_l2 T X hX (fun i hi => (hM.2.2 i hi).1) hM.1.1 (fun i hi => (hM.2.1 i hi).1.2.2.1) X.length 0 (S ++ strOfNums (be1 X.length)) (by omega) (by simp only [ByteArray.size_append, str_size, be1_len]; omega)
    rw [List.drop_zero] at h2
    refine Ev.step (fun k => ?_) (Ev.cat (S := S) (F := fun k s => rowlockref12_Put.l2 k s (X.length : Int) ((0 : Nat) : Int) T X) (one1 (X.length : Int) (by omega)) (by rw [be1_len]; omega) h2)
    rw [rowlockref12_Put.l0, if_neg (by omega)]
    rfl
  | m + 1, i, S, hi, hs => by
    have hP := (hM.2.1 i (by omega)).1
    have hlen := wrT_len _ hP
    have hTl := hM.1.1
    have ih := put_l0 hM m (i + 1) (S ++ strOfNums (wrT (rd_T84 T (i : Int)))) (by omega) (by rw [ByteArray.size_append, str_size]; omega)
    rw [drop_rd z84 T i (by omega), List.flatMap_cons, str_append, ← ByteArray.append_assoc]
    show Ev _ (S ++ strOfNums (wrT (rd_T84 T (i : Int))) ++ _ ++ _ ++ _)
    obtain ⟨x, hx⟩ : ∃ x, x = rd_T84 T (i : Int) := ⟨_, rfl⟩
    rw [← hx] at hP ih hlen ⊢
    obtain ⟨a, L, x, y, z⟩ := x
    obtain ⟨h1, h2, h3, h4, h5, h6, h7⟩ := hP
    simp only at h1 h2 h3 h4 h5 h6 h7
    have hn := h1.2.1
    have e : S ++ strOfNums (wrT ⟨a, L, x, y, z⟩) = S ++ strOfNums (txt a) ++ strOfNums (be1 L.length) ++ strOfNums ((L.drop 0).flatMap wrC) ++ strOfNums (be4 x) ++ strOfNums (be4 y) ++ strOfNums (be4 z) := by
      simp only [wrT, str_append, List.drop_zero, ByteArray.append_assoc]
    rw [e] at ih ⊢
    have hl1 := put_l1 T X (T.length : Int) (i : Int) a L x y z (by omega) h3 (fun j hj => (h7 j hj).1) h4 h5 h6 L.length 0 (S ++ strOfNums (txt a) ++ strOfNums (be1 L.length)) (by omega) (by simp only [ByteArray.size_append, str_size, txt_len, be1_len]; omega) ih
    refine Ev.step (fun k => by rw [rowlockref12_Put.l0, if_pos (by omega), if_pos (by omega), if_pos (by omega), ← hx]) ?_
    refine Ev.cat_ (text1 a (by omega)) (by simp only [ByteArray.size_append, str_size, txt_len, be1_len, be4_len]; omega) ?_
    refine Ev.cat_ (one1 (L.length : Int) (by omega)) (by simp only [ByteArray.size_append, str_size, txt_len, be1_len, be4_len]; omega) ?_
    exact hl1
/-- The reference's writing of a book that may be. -/
theorem rPut (hM : MayP T X) : Ev (fun k => rowlockref12_Put.f k T X) (strOfNums (wr T X)) := by
  have hT := hM.1.1
  have h := put_l0 T X hM T.length 0 (strOfNums (be1 T.length)) (by omega) (by rw [str_size, be1_len]; omega)
  have e : strOfNums (wr T X) = strOfNums (be1 T.length) ++ strOfNums ((T.drop 0).flatMap wrT) ++ strOfNums (be1 X.length) ++ strOfNums (X.flatMap wrX) := by
    simp only [wr, str_append, List.drop_zero, ByteArray.append_assoc]
  rw [e]
  exact Ev.congr (fun k => by rw [rowlockref12_Put.f]; rfl) (Ev.bind (f := fun k t => rowlockref12_Put.l0 k t (T.length : Int) ((0 : Nat) : Int) T X) (one1 (T.length : Int) (by omega)) h)
end
end Go.Proofs.Ytpfegfkniilobaa.PureS
