/- No two books that may be have the same writing; the law SchemaSame in plain Lean. -/
import Derived.Test.YtpfegfkniilobaaPureSchC
namespace Go.Proofs.Ytpfegfkniilobaa.PureS
open Go.RowKit Go.Proofs.YtpfegfkniilobaaW.PrintWords Go.Proofs.Ytpfegfkniilobaa.XSchema Go.Proofs.Ytpfegfkniilobaa.Byt
set_option linter.unusedVariables false
set_option linter.unusedSimpArgs false
/-- A writing that tells what is written and where it ends. -/
def PI {α : Type} (f : α → List Int) (S : α → Prop) : Prop := ∀ a b r s, S a → S b → f a ++ r = f b ++ s → a = b ∧ r = s
theorem pi1 : PI be1 (fun x => 0 ≤ x ∧ x ≤ 255) := by
  intro a b r s ha hb h
  simp only [be1, List.cons_append, List.nil_append, List.cons.injEq] at h
  exact ⟨by omega, h.2⟩
theorem pi4 : PI be4 numP := by
  intro a b r s ha hb h
  simp only [be4, List.cons_append, List.nil_append, List.cons.injEq] at h
  unfold numP at ha hb
  exact ⟨by omega, h.2.2.2.2⟩
theorem bytesOf_inj {a b : ByteArray} (h : bytesOf a = bytesOf b) : a = b := by rw [← str_bytes a, ← str_bytes b, h]
theorem piS : PI txt (fun s => s.size ≤ 255) := by
  intro a b r s ha hb h
  simp only [txt, List.append_assoc] at h
  obtain ⟨h1, h2⟩ := pi1 _ _ _ _ ⟨by omega, by omega⟩ ⟨by omega, by omega⟩ h
  have h3 := List.append_inj h2 (by rw [bytesOf_length, bytesOf_length]; omega)
  exact ⟨bytesOf_inj h3.1, h3.2⟩
theorem piL {α : Type} {f : α → List Int} {S : α → Prop} (hf : PI f S) : ∀ (L M : List α) (r s : List Int), L.length = M.length → (∀ x ∈ L, S x) → (∀ x ∈ M, S x) → L.flatMap f ++ r = M.flatMap f ++ s → L = M ∧ r = s
  | [], [], r, s, _, _, _, h => ⟨rfl, h⟩
  | [], _ :: _, r, s, hl, _, _, h => by simp at hl
  | _ :: _, [], r, s, hl, _, _, h => by simp at hl
  | x :: L, y :: M, r, s, hl, hL, hM, h => by
    simp only [List.flatMap_cons, List.append_assoc] at h
    obtain ⟨rfl, h2⟩ := hf x y _ _ (hL x (List.mem_cons_self ..)) (hM y (List.mem_cons_self ..)) h
    obtain ⟨rfl, h3⟩ := piL hf L M r s (by simpa using hl) (fun z hz => hL z (List.mem_cons_of_mem _ hz)) (fun z hz => hM z (List.mem_cons_of_mem _ hz)) h2
    exact ⟨rfl, h3⟩
theorem nameS {s : ByteArray} (h : nameP s) : s.size ≤ 255 := by have := h.2.1; omega
theorem piC : PI wrC colP := by
  intro a b r s ha hb h
  obtain ⟨a0, a1, a2, a3⟩ := a
  obtain ⟨b0, b1, b2, b3⟩ := b
  obtain ⟨p1, p2, p3, p4, p5⟩ := ha
  obtain ⟨q1, q2, q3, q4, q5⟩ := hb
  simp only at p1 p2 p3 p4 p5 q1 q2 q3 q4 q5
  simp only [wrC, List.append_assoc] at h
  obtain ⟨rfl, g1⟩ := piS _ _ _ _ (nameS p1) (nameS q1) h
  obtain ⟨rfl, g2⟩ := pi1 _ _ _ _ ⟨by omega, by omega⟩ ⟨by omega, by omega⟩ g1
  obtain ⟨rfl, g3⟩ := pi4 _ _ _ _ p4 q4 g2
  obtain ⟨rfl, g4⟩ := pi4 _ _ _ _ p5 q5 g3
  exact ⟨rfl, g4⟩
theorem piT : PI wrT tableP := by
  intro a b r s ha hb h
  obtain ⟨a0, a1, a2, a3, a4⟩ := a
  obtain ⟨b0, b1, b2, b3, b4⟩ := b
  obtain ⟨p1, p2, p3, p4, p5, p6, p7⟩ := ha
  obtain ⟨q1, q2, q3, q4, q5, q6, q7⟩ := hb
  simp only at p1 p2 p3 p4 p5 p6 p7 q1 q2 q3 q4 q5 q6 q7
  simp only [wrT, List.append_assoc] at h
  obtain ⟨rfl, g5⟩ := piS _ _ _ _ (nameS p1) (nameS q1) h
  obtain ⟨e1, g6⟩ := pi1 _ _ _ _ ⟨by omega, by omega⟩ ⟨by omega, by omega⟩ g5
  obtain ⟨rfl, g7⟩ := piL piC a1 b1 _ _ (by omega) (all_cols fun j hj => (p7 j hj).1) (all_cols fun j hj => (q7 j hj).1) g6
  obtain ⟨rfl, g8⟩ := pi4 _ _ _ _ p4 q4 g7
  obtain ⟨rfl, g9⟩ := pi4 _ _ _ _ p5 q5 g8
  obtain ⟨rfl, g10⟩ := pi4 _ _ _ _ p6 q6 g9
  exact ⟨rfl, g10⟩
theorem all_rd {L : List Int} {P : Int → Prop} (h : ∀ j : Nat, j < L.length → P (rd L (j : Int))) : ∀ c ∈ L, P c := fun c hc => by
  obtain ⟨i, hi, rfl⟩ := List.getElem_of_mem hc
  have := h i hi
  rwa [rd, getD_at L 0 i hi] at this
theorem piX : PI wrX (fun x => ∃ T : List S84, T.length ≤ 16 ∧ (∀ i : Nat, i < T.length → (rd_T84 T (i : Int)).f1.length ≤ 8) ∧ indexP T x) := by
  intro a b r s ha hb h
  obtain ⟨a0, a1, a2, a3, a4, a5, a6⟩ := a
  obtain ⟨b0, b1, b2, b3, b4, b5, b6⟩ := b
  obtain ⟨T, tT, cT, p1, p2, p3, p4, p5, p6, p7, p8, p9, p10⟩ := ha
  obtain ⟨T', tT', cT', q1, q2, q3, q4, q5, q6, q7, q8, q9, q10⟩ := hb
  simp only at p1 p2 p3 p4 p5 p6 p7 p8 p9 p10 q1 q2 q3 q4 q5 q6 q7 q8 q9 q10
  simp only [wrX, List.append_assoc] at h
  have c1 : (rd_T84 T a1).f1.length ≤ 8 := by have := cT a1.toNat (by omega); rwa [show ((a1.toNat : Nat) : Int) = a1 by omega] at this
  have c2 : (rd_T84 T' b1).f1.length ≤ 8 := by have := cT' b1.toNat (by omega); rwa [show ((b1.toNat : Nat) : Int) = b1 by omega] at this
  obtain ⟨rfl, g11⟩ := piS _ _ _ _ (nameS p1) (nameS q1) h
  obtain ⟨rfl, g12⟩ := pi1 _ _ _ _ ⟨by omega, by omega⟩ ⟨by omega, by omega⟩ g11
  obtain ⟨e1, g13⟩ := pi1 _ _ _ _ ⟨by omega, by omega⟩ ⟨by omega, by omega⟩ g12
  obtain ⟨rfl, g14⟩ := piL pi1 a2 b2 _ _ (by omega) (all_rd (P := fun x => 0 ≤ x ∧ x ≤ 255) fun j hj => by have := p5 j hj; simp only at this; omega) (all_rd (P := fun x => 0 ≤ x ∧ x ≤ 255) fun j hj => by have := q5 j hj; simp only at this; omega) g13
  obtain ⟨rfl, g15⟩ := pi4 _ _ _ _ p8 q8 g14
  obtain ⟨rfl, g16⟩ := pi4 _ _ _ _ p9 q9 g15
  obtain ⟨rfl, g17⟩ := pi4 _ _ _ _ p10 q10 g16
  obtain ⟨rfl, g18⟩ := piL pi4 a6 b6 _ _ (by omega) (all_rd p6) (all_rd q6) g17
  exact ⟨rfl, g18⟩
theorem all_T {T : List S84} {P : S84 → Prop} (h : ∀ j : Nat, j < T.length → P (rd_T84 T (j : Int))) : ∀ c ∈ T, P c := fun c hc => by
  obtain ⟨i, hi, rfl⟩ := List.getElem_of_mem hc
  have := h i hi
  rwa [rd_T84, getD_at T z84 i hi] at this
theorem all_X {X : List S135} {P : S135 → Prop} (h : ∀ j : Nat, j < X.length → P (rd_T135 X (j : Int))) : ∀ c ∈ X, P c := fun c hc => by
  obtain ⟨i, hi, rfl⟩ := List.getElem_of_mem hc
  have := h i hi
  rwa [rd_T135, getD_at X z135 i hi] at this
theorem wr_inj {T T' : List S84} {X X' : List S135} (h : MayP T X) (h' : MayP T' X') (e : wr T X = wr T' X') : T = T' ∧ X = X' := by
  obtain ⟨⟨a1, a2⟩, a3, a4⟩ := h
  obtain ⟨⟨b1, b2⟩, b3, b4⟩ := h'
  have e2 : wr T X ++ [] = wr T' X' ++ [] := by rw [e]
  simp only [wr, List.append_assoc] at e2
  obtain ⟨e1, g19⟩ := pi1 _ _ _ _ ⟨by omega, by omega⟩ ⟨by omega, by omega⟩ e2
  obtain ⟨rfl, g20⟩ := piL piT T T' _ _ (by omega) (all_T fun j hj => (a3 j hj).1) (all_T fun j hj => (b3 j hj).1) g19
  obtain ⟨e1, g21⟩ := pi1 _ _ _ _ ⟨by omega, by omega⟩ ⟨by omega, by omega⟩ g20
  obtain ⟨rfl, g22⟩ := piL piX X X' _ _ (by omega) (all_X fun j hj => ⟨T, a1, fun i hi => (a3 i hi).1.2.2.1, (a4 j hj).1⟩) (all_X fun j hj => ⟨T, a1, fun i hi => (a3 i hi).1.2.2.1, (b4 j hj).1⟩) g21
  exact ⟨rfl, rfl⟩
theorem be1_by (x : Int) : By (be1 x) := By.cons (by omega) By.nil
theorem be4_by (x : Int) : By (be4 x) := By.cons (by omega) (By.cons (by omega) (By.cons (by omega) (By.cons (by omega) By.nil)))
theorem bytesOf_by (s : ByteArray) : By (bytesOf s) := fun x hx => by
  simp only [bytesOf, List.mem_map] at hx
  obtain ⟨b, _, rfl⟩ := hx
  have := b.toNat_lt
  omega
theorem txt_by (s : ByteArray) : By (txt s) := (be1_by _).append (bytesOf_by s)
theorem flat_by {α : Type} {f : α → List Int} (hf : ∀ x, By (f x)) : ∀ L : List α, By (L.flatMap f)
  | [] => By.nil
  | x :: L => by rw [List.flatMap_cons]; exact (hf x).append (flat_by hf L)
theorem wrC_by (c : S87) : By (wrC c) := (((txt_by _).append (be1_by _)).append (be4_by _)).append (be4_by _)
theorem wrT_by (t : S84) : By (wrT t) := (((((txt_by _).append (be1_by _)).append (flat_by wrC_by _)).append (be4_by _)).append (be4_by _)).append (be4_by _)
theorem wrX_by (x : S135) : By (wrX x) := (((((((txt_by _).append (be1_by _)).append (be1_by _)).append (flat_by be1_by _)).append (be4_by _)).append (be4_by _)).append (be4_by _)).append (flat_by be4_by _)
theorem wr_by (T : List S84) (X : List S135) : By (wr T X) := (((be1_by _).append (flat_by wrT_by _)).append (be1_by _)).append (flat_by wrX_by _)
theorem str_eq {a b : List Int} (ha : By a) (hb : By b) : (strOfNums a).toList = (strOfNums b).toList ↔ a = b := ⟨fun h => str_inj ha hb (ba_eq h), fun h => by rw [h]⟩
end Go.Proofs.Ytpfegfkniilobaa.PureS
