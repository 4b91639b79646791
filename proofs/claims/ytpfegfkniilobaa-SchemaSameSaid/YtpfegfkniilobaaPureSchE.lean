/- The law SchemaSame in plain Lean. -/
import Derived.Test.YtpfegfkniilobaaPureSchD
import Derived.Test.YtpfegfkniilobaaGrt
namespace Go.Proofs.Ytpfegfkniilobaa.PureS
open Go.RowKit Go.Proofs.YtpfegfkniilobaaW.PrintWords Go.Proofs.Ytpfegfkniilobaa.XSchema Go.Proofs.Ytpfegfkniilobaa.Byt
set_option linter.unusedVariables false
set_option linter.unusedSimpArgs false
theorem eGreat (T : List S84) (X : List S135) (hT : T.length ≤ 140737488355328) (hX : X.length ≤ 140737488355328) : ∃ r, Ev (fun k => rowlockref12_Great.f k T X) r := by
  obtain ⟨k, r, h, _⟩ := great_f T X hT hX
  exact ⟨r, Ev.of (fun k => rowlockref12_Great.mono T X k) h⟩
theorem EvB.val {g : Nat → Option Bool} {P : Prop} (h : EvB g P) : ∃ r, Ev g r ∧ (r = true ↔ P) := h
section
variable (T T' : List S84) (X X' : List S135)
theorem same_j0t : Ev (fun k => rowlocklaw12_SchemaSame.j0 k true T X T' X') true := Ev.step (f := fun _ => some true) (fun k => by rw [rowlocklaw12_SchemaSame.j0, if_pos rfl]; rfl) (Ev.now _)
theorem same_j0f (hM : MayP T X) (hM' : MayP T' X') (hb : bookL T X) : Ev (fun k => rowlocklaw12_SchemaSame.j0 k false T X T' X') true := by
  obtain ⟨r1, h1, e1⟩ := eSame T T' X X' hb
  obtain ⟨r2, h2, e2⟩ := eSame T T X X hb
  have h3 := rPut T X hM
  have h4 := rPut T' X' hM'
  have hr2 : r2 = true := e2.2 ⟨rfl, rfl⟩
  subst hr2
  have he : (r1 == ((strOfNums (wr T X)).toList == (strOfNums (wr T' X')).toList)) = true := by
    have h5 := str_eq (wr_by T X) (wr_by T' X')
    by_cases hw : wr T X = wr T' X'
    · have h6 := wr_inj hM hM' hw
      rw [e1.2 h6, hw]
      simp
    · have h7 : r1 = false := by
        cases r1
        · rfl
        · exact absurd (by obtain ⟨p, q⟩ := e1.1 rfl; rw [p, q]) hw
      rw [h7]
      simp only [beq_iff_eq, Bool.false_eq]
      rw [beq_eq_false_iff_ne]
      exact fun h => hw (h5.1 h)
  refine Ev.step (f := fun k => (schema_Same.f k T X T' X').bind fun t109 => ((rowlockref12_Put.f k T X).bind fun t110 => ((rowlockref12_Put.f k T' X').bind fun t111 => (if (t109 == (t110.toList == t111.toList)) = true then ((schema_Same.f k T X T X).bind fun t112 => (some t112)) else (some false))))) (fun k => by rw [rowlocklaw12_SchemaSame.j0, if_neg (by decide), rowlocklaw12_fixed.f, Option.bind_some, if_pos rfl]) ?_
  refine Ev.bind (f := fun k t109 => ((rowlockref12_Put.f k T X).bind fun t110 => ((rowlockref12_Put.f k T' X').bind fun t111 => (if (t109 == (t110.toList == t111.toList)) = true then ((schema_Same.f k T X T X).bind fun t112 => (some t112)) else (some false))))) h1 ?_
  refine Ev.bind (f := fun k t110 => ((rowlockref12_Put.f k T' X').bind fun t111 => (if (r1 == (t110.toList == t111.toList)) = true then ((schema_Same.f k T X T X).bind fun t112 => (some t112)) else (some false)))) h3 ?_
  refine Ev.bind (f := fun k t111 => (if (r1 == ((strOfNums (wr T X)).toList == t111.toList)) = true then ((schema_Same.f k T X T X).bind fun t112 => (some t112)) else (some false))) h4 ?_
  refine Ev.congr (fun k => if_pos he) ?_
  exact Ev.bind (f := fun _ t => some t) h2 (Ev.now _)
theorem SchemaSame (hT : T.length ≤ 140737488355328) (hX : X.length ≤ 140737488355328) (hT' : T'.length ≤ 140737488355328) (hX' : X'.length ≤ 140737488355328) (hb : bookL T X) (hW : bookW T X) (hW' : bookW T' X') : ∃ k, rowlocklaw12_SchemaSame.f k T X T' X' = some true := by
  refine Ev.rounds ?_
  have hj := same_j0t T T' X X'
  obtain ⟨g1, h1⟩ := eGreat T X hT hX
  obtain ⟨g2, h2⟩ := eGreat T' X' hT' hX'
  obtain ⟨m1, h3, e3⟩ := rMay T X hW
  obtain ⟨m2, h4, e4⟩ := rMay T' X' hW'
  have hj2 : m1 = true → Ev (fun k => rowlocklaw12_SchemaSame.j0 k (!m2) T X T' X') true := fun hm => by
    cases m2
    · exact hj
    · exact same_j0f T T' X X' (e3.1 hm) (e4.1 rfl) hb
  refine Ev.congr (fun k => by rw [rowlocklaw12_SchemaSame.f]) (Ev.bind (f := fun k t103 => (if t103 = true then (rowlocklaw12_SchemaSame.j0 k true T X T' X') else ((rowlockref12_Great.f k T' X').bind fun t104 => (if t104 = true then (rowlocklaw12_SchemaSame.j0 k true T X T' X') else ((rowlockref12_May.f k T X).bind fun t105 => (if t105 = true then ((rowlockref12_May.f k T' X').bind fun t106 => (rowlocklaw12_SchemaSame.j0 k (!t106) T X T' X')) else (rowlocklaw12_SchemaSame.j0 k true T X T' X'))))))) h1 ?_)
  cases g1
  · refine Ev.congr (fun k => if_neg (by decide)) (Ev.bind (f := fun k t104 => (if t104 = true then (rowlocklaw12_SchemaSame.j0 k true T X T' X') else ((rowlockref12_May.f k T X).bind fun t105 => (if t105 = true then ((rowlockref12_May.f k T' X').bind fun t106 => (rowlocklaw12_SchemaSame.j0 k (!t106) T X T' X')) else (rowlocklaw12_SchemaSame.j0 k true T X T' X'))))) h2 ?_)
    cases g2
    · refine Ev.congr (fun k => if_neg (by decide)) (Ev.bind (f := fun k t105 => (if t105 = true then ((rowlockref12_May.f k T' X').bind fun t106 => (rowlocklaw12_SchemaSame.j0 k (!t106) T X T' X')) else (rowlocklaw12_SchemaSame.j0 k true T X T' X'))) h3 ?_)
      cases m1
      · exact Ev.congr (fun k => if_neg (by decide)) hj
      · exact Ev.congr (fun k => if_pos rfl) (Ev.bind (f := fun k t106 => rowlocklaw12_SchemaSame.j0 k (!t106) T X T' X') h4 (hj2 rfl))
    · exact Ev.congr (fun k => if_pos rfl) hj
  · exact Ev.congr (fun k => if_pos rfl) hj
end
end Go.Proofs.Ytpfegfkniilobaa.PureS
