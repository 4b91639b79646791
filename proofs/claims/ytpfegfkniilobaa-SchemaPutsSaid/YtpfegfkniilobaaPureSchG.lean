/- What is read of a book's own writing is the book, in plain Lean. Conditions: the book may be. -/
import Derived.Test.YtpfegfkniilobaaSchHand
namespace Go.Proofs.Ytpfegfkniilobaa.PureS
open Go.RowKit Go.Proofs.YtpfegfkniilobaaW.PrintWords Go.Proofs.Ytpfegfkniilobaa.XSchema Go.Proofs.Ytpfegfkniilobaa.Byt
open Go.Proofs.Ytpfegfkniilobaa.Tk (tk cnt txR nmR colR colsR tabR tabE tabsR idsR numsR idxR idxE idxF idxG idxsR getR getG nv St)
set_option linter.unusedVariables false
set_option linter.unusedSimpArgs false
theorem tk_app (a r : List Int) (n : Int) (h : n = a.length) : tk (a ++ r) false n = (a, r, false) := by
  subst h
  rw [tk, if_pos (by rw [List.length_append]; omega)]
  simp
theorem cnt_app (n : Int) (r : List Int) (h : 0 ≤ n ∧ n ≤ 255) : cnt (be1 n ++ r, false) = (n, (r, false)) := by
  unfold cnt
  simp only
  rw [tk_app (be1 n) r 1 rfl]
  simp only [be1, rd]
  show (n % 256, _) = _
  rw [show n % 256 = n by omega]
  rfl
theorem txR_app (a : ByteArray) (r : List Int) (h : a.size ≤ 255) : txR (txt a ++ r, false) = (a, (r, false)) := by
  unfold txR
  rw [txt, List.append_assoc, cnt_app _ _ (by omega)]
  simp only
  rw [tk_app (bytesOf a) r _ (by rw [bytesOf_length])]
  simp only
  rw [str_bytes]
  rfl
theorem nmR_app (n : Int) (r : List Int) (h : numP n) : nmR (be4 n ++ r, false) = (n, (r, false)) := by
  unfold nmR
  simp only
  rw [tk_app (be4 n) r 4 rfl]
  unfold numP at h
  have e : nv (be4 n) = n := by
    simp only [nv, be4, List.foldl_cons, List.foldl_nil]
    omega
  rw [e]
  rfl
theorem colR_app (c : S87) (r : List Int) (h : colP c) : colR (wrC c ++ r, false) = (c, (r, false)) := by
  obtain ⟨a, k, d, n⟩ := c
  obtain ⟨h1, h2, h3, h4, h5⟩ := h
  simp only at h1 h2 h3 h4 h5
  unfold colR
  simp only [wrC, List.append_assoc]
  rw [txR_app a _ (nameS h1)]
  simp only
  rw [cnt_app k _ (by omega)]
  simp only
  rw [nmR_app d _ h4]
  simp only
  rw [nmR_app n _ h5]
  rfl
theorem colsR_app (r : List Int) : ∀ (L cs : List S87), (∀ c ∈ L, colP c) → colsR L.length cs (L.flatMap wrC ++ r, false) = (cs ++ L, (r, false))
  | [], cs, h => by show (cs, _) = (cs ++ [], _); rw [List.append_nil]; rfl
  | c :: L, cs, h => by
    show colsR L.length (cs ++ [(colR ((c :: L).flatMap wrC ++ _, false)).1]) (colR ((c :: L).flatMap wrC ++ _, false)).2 = _
    rw [List.flatMap_cons, List.append_assoc, colR_app c _ (h c (List.mem_cons_self ..))]
    simp only
    rw [colsR_app r L _ (fun c hc => h c (List.mem_cons_of_mem _ hc)), List.append_assoc]
    rfl
theorem tabR_app (t : S84) (r : List Int) (h : tableP t) : tabR (wrT t ++ r, false) = (t, (r, false)) := by
  obtain ⟨a, L, x, y, z⟩ := t
  obtain ⟨h1, h2, h3, h4, h5, h6, h7⟩ := h
  simp only at h1 h2 h3 h4 h5 h6 h7
  unfold tabR
  simp only [wrT, List.append_assoc]
  rw [txR_app a _ (nameS h1)]
  simp only
  rw [cnt_app (L.length : Int) _ (by omega)]
  simp only [Int.toNat_natCast]
  rw [colsR_app _ L [] (all_cols fun j hj => (h7 j hj).1)]
  unfold tabE
  simp only [List.nil_append]
  rw [nmR_app x _ h4]
  simp only
  rw [nmR_app y _ h5]
  simp only
  rw [nmR_app z _ h6]
  rfl
theorem tabsR_app (r : List Int) : ∀ (L cs : List S84), (∀ c ∈ L, tableP c) → tabsR L.length cs (L.flatMap wrT ++ r, false) = (cs ++ L, (r, false))
  | [], cs, h => by show (cs, _) = (cs ++ [], _); rw [List.append_nil]; rfl
  | c :: L, cs, h => by
    show tabsR L.length (cs ++ [(tabR ((c :: L).flatMap wrT ++ _, false)).1]) (tabR ((c :: L).flatMap wrT ++ _, false)).2 = _
    rw [List.flatMap_cons, List.append_assoc, tabR_app c _ (h c (List.mem_cons_self ..))]
    simp only
    rw [tabsR_app r L _ (fun c hc => h c (List.mem_cons_of_mem _ hc)), List.append_assoc]
    rfl
theorem idsR_app (r : List Int) : ∀ (L cs : List Int), (∀ c ∈ L, 0 ≤ c ∧ c ≤ 255) → idsR L.length cs (L.flatMap be1 ++ r, false) = (cs ++ L, (r, false))
  | [], cs, h => by show (cs, _) = (cs ++ [], _); rw [List.append_nil]; rfl
  | c :: L, cs, h => by
    show idsR L.length (cs ++ [(cnt ((c :: L).flatMap be1 ++ _, false)).1]) (cnt ((c :: L).flatMap be1 ++ _, false)).2 = _
    rw [List.flatMap_cons, List.append_assoc, cnt_app c _ (h c (List.mem_cons_self ..))]
    simp only
    rw [idsR_app r L _ (fun c hc => h c (List.mem_cons_of_mem _ hc)), List.append_assoc]
    rfl
theorem numsR_app (r : List Int) : ∀ (L cs : List Int), (∀ c ∈ L, numP c) → numsR L.length cs (L.flatMap be4 ++ r, false) = (cs ++ L, (r, false))
  | [], cs, h => by show (cs, _) = (cs ++ [], _); rw [List.append_nil]; rfl
  | c :: L, cs, h => by
    show numsR L.length (cs ++ [(nmR ((c :: L).flatMap be4 ++ _, false)).1]) (nmR ((c :: L).flatMap be4 ++ _, false)).2 = _
    rw [List.flatMap_cons, List.append_assoc, nmR_app c _ (h c (List.mem_cons_self ..))]
    simp only
    rw [numsR_app r L _ (fun c hc => h c (List.mem_cons_of_mem _ hc)), List.append_assoc]
    rfl
theorem idxR_app (T : List S84) (hT : T.length ≤ 16) (hc : ∀ i : Nat, i < T.length → (rd_T84 T (i : Int)).f1.length ≤ 8) (x : S135) (r : List Int) (h : indexP T x) : idxR (wrX x ++ r, false) = (x, (r, false)) := by
  obtain ⟨a, t, C, rt, l, hh, D⟩ := x
  obtain ⟨h1, h2, h3, h4, h5, h6, h7, h8, h9, h10⟩ := h
  simp only at h1 h2 h3 h4 h5 h6 h7 h8 h9 h10
  have hcl : (rd_T84 T t).f1.length ≤ 8 := by
    have := hc t.toNat (by omega)
    rwa [show ((t.toNat : Nat) : Int) = t by omega] at this
  unfold idxR
  simp only [wrX, List.append_assoc]
  rw [txR_app a _ (nameS h1)]
  simp only
  rw [cnt_app t _ (by omega)]
  simp only
  rw [cnt_app (C.length : Int) _ (by omega)]
  simp only [Int.toNat_natCast]
  rw [idsR_app _ C [] (all_rd (P := fun x => 0 ≤ x ∧ x ≤ 255) fun j hj => by have := h5 j hj; simp only at this; omega)]
  unfold idxG idxF idxE
  simp only [List.nil_append]
  rw [nmR_app rt _ h8]
  simp only
  rw [nmR_app l _ h9]
  simp only
  rw [nmR_app hh _ h10]
  simp only
  rw [← h4, numsR_app r D [] (all_rd h6)]
  rfl
theorem idxsR_app (T : List S84) (hT : T.length ≤ 16) (hc : ∀ i : Nat, i < T.length → (rd_T84 T (i : Int)).f1.length ≤ 8) (r : List Int) : ∀ (L cs : List S135), (∀ c ∈ L, indexP T c) → idxsR L.length cs (L.flatMap wrX ++ r, false) = (cs ++ L, (r, false))
  | [], cs, h => by show (cs, _) = (cs ++ [], _); rw [List.append_nil]; rfl
  | c :: L, cs, h => by
    show idxsR L.length (cs ++ [(idxR ((c :: L).flatMap wrX ++ _, false)).1]) (idxR ((c :: L).flatMap wrX ++ _, false)).2 = _
    rw [List.flatMap_cons, List.append_assoc, idxR_app T hT hc c _ (h c (List.mem_cons_self ..))]
    simp only
    rw [idxsR_app T hT hc r L _ (fun c hc => h c (List.mem_cons_of_mem _ hc)), List.append_assoc]
    rfl
/-- What is read of a book's own writing. -/
theorem getR_wr (T : List S84) (X : List S135) (h : MayP T X) : getR (wr T X, false) = ((T, X), ([], false)) := by
  obtain ⟨⟨h1, h2⟩, h3, h4⟩ := h
  unfold getR
  simp only [wr, List.append_assoc]
  rw [cnt_app (T.length : Int) _ (by omega)]
  simp only [Int.toNat_natCast]
  rw [tabsR_app _ T [] (all_T fun j hj => (h3 j hj).1)]
  unfold getG
  simp only [List.nil_append]
  rw [cnt_app (X.length : Int) _ (by omega)]
  simp only [Int.toNat_natCast]
  have e := idxsR_app T h1 (fun i hi => (h3 i hi).1.2.2.1) [] X [] (all_X (P := indexP T) fun j hj => (h4 j hj).1)
  rw [List.append_nil] at e
  rw [e]
  rfl
theorem readAll_wr (T : List S84) (X : List S135) (h : MayP T X) : readAll (wr T X) = some (T, X) := by
  rw [readAll, getR_wr T X h]
theorem wr_len (T : List S84) (X : List S135) (h : MayP T X) : (wr T X).length ≤ 20000 := by
  obtain ⟨⟨h1, h2⟩, h3, h4⟩ := h
  have a1 := Pn.flat_bound wrT 400 T (fun t ht => wrT_len t ((all_T (P := tableP) fun j hj => (h3 j hj).1) t ht))
  have a2 := Pn.flat_bound wrX 100 X (fun t ht => Pn.wrX_len T t ((all_X (P := indexP T) fun j hj => (h4 j hj).1) t ht))
  simp only [wr, List.length_append, be1_len]
  omega
theorem bytesOk_wr (T : List S84) (X : List S135) (h : MayP T X) : bytesOk (wr T X) = true :=
  bytesOk_is.2 ⟨wr_by T X, Nat.le_trans (wr_len T X h) (by decide)⟩
end Go.Proofs.Ytpfegfkniilobaa.PureS
