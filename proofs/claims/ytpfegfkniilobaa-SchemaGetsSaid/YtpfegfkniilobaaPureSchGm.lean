/- The law SchemaGets in plain Lean. Conditions: bytes. -/
import Derived.Test.YtpfegfkniilobaaXSchemag1
import Derived.Test.YtpfegfkniilobaaPureSchM
namespace Go.Proofs.Ytpfegfkniilobaa.PureS
open Go.RowKit Go.Proofs.YtpfegfkniilobaaW.PrintWords Go.Proofs.Ytpfegfkniilobaa.XSchema
open Go.Proofs.Ytpfegfkniilobaa.Tk (St getR)
open Go.Proofs.Ytpfegfkniilobaa.Rr (rget)
set_option linter.unusedVariables false
set_option linter.unusedSimpArgs false
theorem bookB_Z {T : List S84} {X : List S135} (h : bookB T X) : szP T X :=
  ⟨fun t ht => ⟨Nat.le_trans (h.1.2 t ht).2.1 (by decide), Nat.le_trans (h.1.2 t ht).2.2.1 (by decide), fun c hc => Nat.le_trans ((h.1.2 t ht).2.2.2 c hc).2 (by decide)⟩, fun x hx => ⟨Nat.le_trans (h.2.2 x hx).2.1 (by decide), Nat.le_trans (h.2.2 x hx).2.2.2 (by decide)⟩⟩
/-- What both answer: the book, or nothing. -/
theorem gets_both (l0 : List Int) (hB : Tk.By l0) (hs : l0.length ≤ 1000000000) :
    (∃ T X, Ev (fun k => schema_Get.f k l0) (T, X, 0) ∧ Ev (fun k => rowlockref12_Get.f k (strOfNums l0)) (T, X, true) ∧ wr T X = l0 ∧ MayP T X ∧ bookB T X) ∨ (Ev (fun k => schema_Get.f k l0) ([], [], 2) ∧ Ev (fun k => rowlockref12_Get.f k (strOfNums l0)) ([], [], false)) := by
  have hok : St.ok (l0, false) := ⟨hB, hs⟩
  have hbo : bytesOk l0 = true := bytesOk_is.2 hok
  have hsz : (strOfNums l0).size ≤ 1000000000 := by rw [Byt.str_size]; exact hs
  obtain ⟨T, X, sf, he⟩ : ∃ T X sf, rget (l0, false) = ((T, X), sf) := ⟨_, _, _, rfl⟩
  have hrr : refRead (strOfNums l0) = ((T, X), sf) := by rw [refRead, bytesOf_str hB]; exact he
  have hb := rget_in hok he
  have hg : refGood (strOfNums l0) = true ↔ (sf.2 = false ∧ sf.1 = [] ∧ MayP T X) := by
    rw [refGood, hrr]
    exact decide_eq_true_iff
  have hS := sm_get (l0, false) rfl
  rw [he] at hS
  obtain ⟨m, hm, em⟩ := sMay T X (bookB_W hb) (bookB_Z hb)
  have hbad : ¬ (sf.2 = false ∧ sf.1 = [] ∧ MayP T X) → Ev (fun k => rowlockref12_Get.f k (strOfNums l0)) ([], [], false) := fun h => by
    have h1 : refGood (strOfNums l0) = false := by
      cases hr : refGood (strOfNums l0)
      · rfl
      · exact absurd (hg.1 hr) h
    exact Ev.congr (f := fun _ => some ([], [], false)) (fun k => by rw [rowlockref12_Get.f, if_pos hsz, h1]; rfl) (Ev.now _)
  rcases hS with ⟨g, e⟩ | ⟨g, e⟩
  · have ey : getR (l0, false) = ((T, X), sf) := e.symm
    rw [ey] at g
    simp only at g
    by_cases hl : sf.1 = []
    · have hra : readAll l0 = some (T, X) := by
        obtain ⟨l, b⟩ := sf
        simp only at g hl
        subst g hl
        rw [readAll, ey]
      have hG : Ev (fun k => schema_Get.f k l0) (if m = true then (T, X, 0) else ([], [], 2)) := Ev.congr (fun k => by rw [schema_Get.f, if_pos hbo, hra]) (Ev.bind (f := fun _ m => some (if m = true then (T, X, (0 : Int)) else ([], [], 2))) hm (Ev.now _))
      cases m
      · exact .inr ⟨hG, hbad fun h => by have := em.2 h.2.2; cases this⟩
      · have hM := em.1 rfl
        refine .inl ⟨T, X, hG, ?_, ?_, hM, hb⟩
        · have h1 := hg.2 ⟨g, hl, hM⟩
          exact Ev.congr (f := fun _ => some (T, X, true)) (fun k => by rw [rowlockref12_Get.f, if_pos hsz, h1, hrr]; rfl) (Ev.now _)
        · have hw := (get_w hok ey g).1
          rw [hl, List.append_nil] at hw
          exact hw.symm
    · refine .inr ⟨?_, hbad fun h => hl h.2.1⟩
      have hra : readAll l0 = none := by
        obtain ⟨l, b⟩ := sf
        cases l with
        | nil => exact absurd rfl hl
        | cons x l => rw [readAll, ey]
      exact Ev.congr (f := fun _ => some ([], [], 2)) (fun k => by rw [schema_Get.f, if_pos hbo, hra]) (Ev.now _)
  · refine .inr ⟨?_, hbad fun h => by have := h.1; simp only at e; rw [this] at e; cases e⟩
    have hra : readAll l0 = none := by
      cases hr : readAll l0 with
      | none => rfl
      | some r =>
        obtain ⟨T2, X2, s2, h⟩ : ∃ T X s, getR (l0, false) = ((T, X), s) := ⟨_, _, _, rfl⟩
        have h3 := (readAll_some h hr).1
        rw [h, h3] at g
        cases g
    exact Ev.congr (f := fun _ => some ([], [], 2)) (fun k => by rw [schema_Get.f, if_pos hbo, hra]) (Ev.now _)
theorem same_self (T : List S84) (X : List S135) (hb : bookL T X) : Ev (fun k => schema_Same.f k T X T X) true := by
  obtain ⟨r2, h2, e2⟩ := eSame T T X X hb
  obtain rfl : r2 = true := e2.2 ⟨rfl, rfl⟩
  exact h2
theorem SchemaGets (l0 : List Int) (hB : Tk.By l0) : ∃ k, rowlocklaw12_SchemaGets.f k l0 = some true := by
  refine Ev.rounds ?_
  by_cases hl : (l0.length : Int) > 6000
  · exact Ev.congr (f := fun _ => some true) (fun k => by rw [rowlocklaw12_SchemaGets.f, if_pos hl]; rfl) (Ev.now _)
  refine Ev.congr (fun k => by rw [rowlocklaw12_SchemaGets.f, if_neg hl]) ?_
  rcases gets_both l0 hB (by omega) with ⟨T, X, h1, h2, hw, hM, hb⟩ | ⟨h1, h2⟩
  · refine Ev.bind (f := fun k bt102 => (rowlockref12_Get.f k (strOfNums l0)).bind fun bt110 => (if (bt110.2.2 != (bt102.2.2 == 0)) = true then (rowlocklaw12_SchemaGets.j0 k l0 bt102.2.2 true bt102.1 bt102.2.1) else ((schema_Same.f k bt102.1 bt102.2.1 bt110.1 bt110.2.1).bind fun t118 => (rowlocklaw12_SchemaGets.j0 k l0 bt102.2.2 (!t118) bt102.1 bt102.2.1)))) h1 ?_
    refine Ev.bind (f := fun k bt110 => (if (bt110.2.2 != ((0 : Int) == 0)) = true then (rowlocklaw12_SchemaGets.j0 k l0 0 true T X) else ((schema_Same.f k T X bt110.1 bt110.2.1).bind fun t118 => (rowlocklaw12_SchemaGets.j0 k l0 0 (!t118) T X)))) h2 ?_
    refine Ev.congr (fun k => if_neg (show ¬ ((true != ((0 : Int) == 0)) = true) by decide)) ?_
    refine Ev.bind (f := fun k t118 => (rowlocklaw12_SchemaGets.j0 k l0 0 (!t118) T X)) (same_self T X (bookB_L hb)) ?_
    obtain ⟨m2, h3, e3⟩ := rMay T X (bookB_W hb)
    obtain rfl : m2 = true := e3.2 hM
    refine Ev.step (f := fun k => (rowlockref12_May.f k T X).bind fun t120 => (if t120 = true then ((rowlockref12_Put.f k T X).bind fun t121 => (some (t121.toList == (strOfNums l0).toList))) else (some false))) (fun k => by
      show rowlocklaw12_SchemaGets.j0 (k + 1) l0 0 false T X = _
      rw [rowlocklaw12_SchemaGets.j0, if_neg (by decide), if_pos rfl]
      rfl) ?_
    refine Ev.bind (f := fun k t120 => (if t120 = true then ((rowlockref12_Put.f k T X).bind fun t121 => (some (t121.toList == (strOfNums l0).toList))) else (some false))) h3 ?_
    refine Ev.congr (fun k => if_pos rfl) ?_
    refine Ev.bind (f := fun k t121 => (some (t121.toList == (strOfNums l0).toList))) (rPut T X hM) ?_
    rw [hw]
    exact Ev.congr (f := fun _ => some true) (fun k => by simp) (Ev.now _)
  · refine Ev.bind (f := fun k bt102 => (rowlockref12_Get.f k (strOfNums l0)).bind fun bt110 => (if (bt110.2.2 != (bt102.2.2 == 0)) = true then (rowlocklaw12_SchemaGets.j0 k l0 bt102.2.2 true bt102.1 bt102.2.1) else ((schema_Same.f k bt102.1 bt102.2.1 bt110.1 bt110.2.1).bind fun t118 => (rowlocklaw12_SchemaGets.j0 k l0 bt102.2.2 (!t118) bt102.1 bt102.2.1)))) h1 ?_
    refine Ev.bind (f := fun k bt110 => (if (bt110.2.2 != ((2 : Int) == 0)) = true then (rowlocklaw12_SchemaGets.j0 k l0 2 true [] []) else ((schema_Same.f k [] [] bt110.1 bt110.2.1).bind fun t118 => (rowlocklaw12_SchemaGets.j0 k l0 2 (!t118) [] [])))) h2 ?_
    refine Ev.congr (fun k => if_neg (by decide)) ?_
    have hL : bookL [] [] := ⟨by simp, by simp, fun i hi => by simp at hi, fun i hi => by simp at hi⟩
    refine Ev.bind (f := fun k t118 => (rowlocklaw12_SchemaGets.j0 k l0 2 (!t118) [] [])) (same_self [] [] hL) ?_
    refine Ev.step (f := fun k => (schema_Same.f k [] [] ([] : List (S84)) ([] : List (S135))).bind fun t123 => (some t123)) (fun k => by
      show rowlocklaw12_SchemaGets.j0 (k + 1) l0 2 false [] [] = _
      rw [rowlocklaw12_SchemaGets.j0, if_neg (by decide), if_neg (by decide)]
      rfl) ?_
    exact Ev.bind (f := fun _ t => some t) (same_self [] [] hL) (Ev.now _)
end Go.Proofs.Ytpfegfkniilobaa.PureS
namespace Go.Proofs.Ytpfegfkniilobaa.Pure
open Go.RowKit Go.Proofs.Ytpfegfkniilobaa.XSchema Go.Proofs.YtpfegfkniilobaaW.PrintWords Go.Proofs.YtpfegfkniilobaaW.PrintLast
theorem wf8 {x : Int} (h : (Lit.int .u8 x).wf = true) : 0 ≤ x ∧ x ≤ 255 := by
  simp [Lit.wf, IntKind.min, IntKind.max, IntKind.signed, IntKind.bits] at h
  omega
theorem SchemaGets : rowlocklaw12_SchemaGets.Pure := fun l0 _ _ hw => PureS.SchemaGets l0 (fun x hx => wf8 (hw x hx))
end Go.Proofs.Ytpfegfkniilobaa.Pure
