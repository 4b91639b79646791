/- Which books may be: the program's May in plain Lean. Conditions: kinds and roots are what their types hold. -/
import Derived.Test.YtpfegfkniilobaaPureSchA0
import Derived.Test.YtpfegfkniilobaaXSchemax6
import Derived.Lib.Strings
import Derived.Test.YtpfegfkniilobaaPureSchC
namespace Go.Proofs.Ytpfegfkniilobaa.PureS
open Go.RowKit Go.Proofs.YtpfegfkniilobaaW.PrintWords Go.Proofs.Ytpfegfkniilobaa.XSchema
set_option linter.unusedVariables false
set_option linter.unusedSimpArgs false
theorem sName_step (s : ByteArray) (hs : s.size ≤ 9223372036854775807) (i : Nat) (Q : Prop) (hi : i < s.size) (h : EvB (fun k => schema_Name.l0 k s s.size ((i + 1 : Nat) : Int)) Q) : EvB (fun k => schema_Name.l0 k s s.size (i : Int)) (chk (bt s i) i ∧ Q) := by
  have hw := wr_s i s.size hi hs
  have e : ∀ k, schema_Name.l0 (k + 1) s s.size (i : Int) = (if (97 ≤ bt s i ∧ bt s i ≤ 122) ∨ ((i : Int) ≠ 0 ∧ (bt s i = 95 ∨ (48 ≤ bt s i ∧ bt s i ≤ 57))) then schema_Name.l0 k s s.size ((i + 1 : Nat) : Int) else some false) := fun k => by
    rw [schema_Name.l0, if_pos (by omega), if_pos (by omega), if_pos (by omega), hw]
    repeat' split
    all_goals first | rfl | (exfalso; omega)
  by_cases hc : (97 ≤ bt s i ∧ bt s i ≤ 122) ∨ ((i : Int) ≠ 0 ∧ (bt s i = 95 ∨ (48 ≤ bt s i ∧ bt s i ≤ 57)))
  · exact (EvB.step (fun k => by rw [e, if_pos hc]) h).imp ⟨fun h => ⟨hc, h⟩, fun h => h.2⟩
  · exact EvB.step (f := fun _ => some false) (fun k => by rw [e, if_neg hc]) (EvB.no fun h => hc h.1)
theorem sName (s : ByteArray) (hs : s.size ≤ 9223372036854775807) : EvB (fun k => schema_Name.f k s) (nameP s) := by
  have hend : EvB (fun k => schema_Name.l0 k s s.size (s.size : Int)) (1 ≤ s.size ∧ s.size ≤ 24) := by
    by_cases h0 : s.toList = []
    · have hz : s.size = 0 := by have h1 : s.data.toList = [] := (Lib.toList_data s).symm.trans h0; have := congrArg List.length h1; rw [data_length] at this; exact this
      exact EvB.step (f := fun _ => some false) (fun k => by rw [schema_Name.l0, if_neg (by omega), if_pos h0]) (EvB.no (by omega))
    · have hz : s.size ≠ 0 := fun h => h0 ((Lib.toList_data s).trans (List.eq_nil_of_length_eq_zero (by rw [data_length]; exact h)))
      exact (EvB.step (f := fun _ => some (decide ((s.size : Int) ≤ 24))) (fun k => by rw [schema_Name.l0, if_neg (by omega), if_neg h0]) EvB.dec).imp (by omega)
  have := EvB.loop (g := fun i k => schema_Name.l0 k s s.size (i : Int)) s.size (fun i => chk (bt s i) i) _ hend (fun i Q hi h => sName_step s hs i Q hi h) s.size 0 (by omega)
  exact this.imp ⟨fun h => ⟨h.2.1, h.2.2, fun i hi => h.1 i (Nat.zero_le _) hi⟩, fun h => ⟨fun i _ hi => h.2.2 i hi, h.1, h.2.1⟩⟩
end Go.Proofs.Ytpfegfkniilobaa.PureS
namespace Go.Proofs.Ytpfegfkniilobaa.PureS
open Go.RowKit Go.Proofs.YtpfegfkniilobaaW.PrintWords Go.Proofs.Ytpfegfkniilobaa.XSchema
set_option linter.unusedVariables false
set_option linter.unusedSimpArgs false
/-- A search: the first place, or -1. -/
theorem idxGen {g : Nat → Nat → Option Int} (n : Nat) (P : Nat → Prop) (hend : Ev (g n) (-1)) (hstep : ∀ i, i < n → (P i ∧ ∃ r, 0 ≤ r ∧ Ev (g i) r) ∨ (¬ P i ∧ ∀ r, Ev (g (i + 1)) r → Ev (g i) r)) :
    ∀ m i, i + m = n → ∃ r, Ev (g i) r ∧ (0 ≤ r ↔ ∃ j, i ≤ j ∧ j < n ∧ P j)
  | 0, i, h => by
    obtain rfl : i = n := by omega
    exact ⟨-1, hend, ⟨fun h => by omega, fun ⟨j, h1, h2, _⟩ => by omega⟩⟩
  | m + 1, i, h => by
    rcases hstep i (by omega) with ⟨hp, r, h0, hr⟩ | ⟨hp, hr⟩
    · exact ⟨r, hr, ⟨fun _ => ⟨i, Nat.le_refl _, by omega, hp⟩, fun _ => h0⟩⟩
    · obtain ⟨r, h1, h2⟩ := idxGen n P hend hstep m (i + 1) (by omega)
      refine ⟨r, hr r h1, h2.trans ⟨fun ⟨j, a, b, c⟩ => ⟨j, by omega, b, c⟩, fun ⟨j, a, b, c⟩ => ⟨j, ?_, b, c⟩⟩⟩
      by_cases e : j = i
      · rw [e] at c
        exact absurd c hp
      · omega
theorem sContains (l : List ByteArray) (s : ByteArray) (hl : l.length ≤ 9223372036854775807) : EvB (fun k => slices_Contains_string_string.f k l s) (∃ j, j < l.length ∧ s.toList = (rdOf ByteArray.empty l (j : Int)).toList) := by
  obtain ⟨r, hr, hp⟩ := idxGen (g := fun i k => slices_Index_string_string.l0 k l s (l.length : Int) (i : Int)) l.length (fun i => s.toList = (rdOf ByteArray.empty l (i : Int)).toList) (Ev.step (f := fun _ => some (-1)) (fun k => by rw [slices_Index_string_string.l0, if_neg (by omega)]) (Ev.now _)) (fun i hi => by
    by_cases e : s.toList = (rdOf ByteArray.empty l (i : Int)).toList
    · exact .inl ⟨e, (i : Int), by omega, Ev.step (f := fun _ => some (i : Int)) (fun k => by rw [slices_Index_string_string.l0, if_pos (by omega), if_pos (by omega), if_pos (by omega), if_pos e]) (Ev.now _)⟩
    · exact .inr ⟨e, fun r h => Ev.step (fun k => by rw [slices_Index_string_string.l0, if_pos (by omega), if_pos (by omega), if_pos (by omega), if_neg e, wr_s i l.length hi (by omega)]) h⟩) l.length 0 (by omega)
  refine ⟨decide (r ≥ 0), ?_, by rw [decide_eq_true_iff]; exact hp.trans ⟨fun ⟨j, a, b, c⟩ => ⟨j, b, c⟩, fun ⟨j, b, c⟩ => ⟨j, Nat.zero_le _, b, c⟩⟩⟩
  exact Ev.congr (fun k => by rw [slices_Contains_string_string.f, slices_Index_string_string.f]; rfl) (Ev.bind (f := fun _ t => some (decide (t ≥ 0))) hr (Ev.now _))
theorem sContainsI (l : List Int) (s : Int) (hl : l.length ≤ 9223372036854775807) : EvB (fun k => slices_Contains_int_int.f k l s) (∃ j, j < l.length ∧ s = rd l (j : Int)) := by
  obtain ⟨r, hr, hp⟩ := idxGen (g := fun i k => slices_Index_int_int.l0 k l s (l.length : Int) (i : Int)) l.length (fun i => s = rd l (i : Int)) (Ev.step (f := fun _ => some (-1)) (fun k => by rw [slices_Index_int_int.l0, if_neg (by omega)]) (Ev.now _)) (fun i hi => by
    by_cases e : s = rd l (i : Int)
    · exact .inl ⟨e, (i : Int), by omega, Ev.step (f := fun _ => some (i : Int)) (fun k => by rw [slices_Index_int_int.l0, if_pos (by omega), if_pos (by omega), if_pos (by omega), if_pos e]) (Ev.now _)⟩
    · exact .inr ⟨e, fun r h => Ev.step (fun k => by rw [slices_Index_int_int.l0, if_pos (by omega), if_pos (by omega), if_pos (by omega), if_neg e, wr_s i l.length hi (by omega)]) h⟩) l.length 0 (by omega)
  refine ⟨decide (r ≥ 0), ?_, by rw [decide_eq_true_iff]; exact hp.trans ⟨fun ⟨j, a, b, c⟩ => ⟨j, b, c⟩, fun ⟨j, b, c⟩ => ⟨j, Nat.zero_le _, b, c⟩⟩⟩
  exact Ev.congr (fun k => by rw [slices_Contains_int_int.f, slices_Index_int_int.f]; rfl) (Ev.bind (f := fun _ t => some (decide (t ≥ 0))) hr (Ev.now _))
/-- Numbers of a list, all right. -/
theorem sRight (l : List Int) (hl : l.length ≤ 9223372036854775807) : EvB (fun k => schema_right.f k l) (∀ i : Nat, i < l.length → numP (rd l (i : Int))) := by
  obtain ⟨r, hr, hp⟩ := idxGen (g := fun i k => slices_IndexFunc_int_int.l0 k l (l.length : Int) (i : Int)) l.length (fun i => ¬ numP (rd l (i : Int))) (Ev.step (f := fun _ => some (-1)) (fun k => by rw [slices_IndexFunc_int_int.l0, if_neg (by omega)]) (Ev.now _)) (fun i hi => by
    have hf : schema_right_1.f (rd l (i : Int)) = some (decide (¬ numP (rd l (i : Int)))) := by
      unfold schema_right_1.f numP
      by_cases h : rd l (i : Int) < 0
      · rw [if_pos h, decide_eq_true (by omega)]
      · rw [if_neg h]
        congr 1
        rw [decide_eq_decide]
        omega
    have hw := wr_s i l.length hi (by omega)
    by_cases e : numP (rd l (i : Int))
    · exact .inr ⟨fun h => h e, fun r h => Ev.step (fun k => by rw [slices_IndexFunc_int_int.l0, if_pos (by omega), if_pos (by omega), if_pos (by omega), hf, Option.bind_some, decide_eq_false (fun h => h e), if_neg (by decide), hw]) h⟩
    · exact .inl ⟨e, (i : Int), by omega, Ev.step (f := fun _ => some (i : Int)) (fun k => by rw [slices_IndexFunc_int_int.l0, if_pos (by omega), if_pos (by omega), if_pos (by omega), hf, Option.bind_some, decide_eq_true e, if_pos rfl]) (Ev.now _)⟩) l.length 0 (by omega)
  refine ⟨!(decide (r ≥ 0)), ?_, ?_⟩
  · have h1 : Ev (fun k => (slices_IndexFunc_int_int.l0 k l (l.length : Int) ((0 : Nat) : Int)).bind fun t => some (decide (t ≥ 0))) (decide (r ≥ 0)) := Ev.bind (f := fun _ t => some (decide (t ≥ 0))) hr (Ev.now _)
    exact Ev.congr (f := fun k => ((slices_IndexFunc_int_int.l0 k l (l.length : Int) ((0 : Nat) : Int)).bind fun t => some (decide (t ≥ 0))).bind fun t => some (!t)) (fun k => by rw [schema_right.f, slices_ContainsFunc_int_int.f, slices_IndexFunc_int_int.f]; rfl) (Ev.bind (f := fun _ t => some (!t)) h1 (Ev.now _))
  · rw [Bool.not_eq_true', decide_eq_false_iff_not]
    refine ⟨fun h i hi => Decidable.byContradiction fun hn => h (hp.2 ⟨i, Nat.zero_le _, hi, hn⟩), fun h hr => ?_⟩
    obtain ⟨j, _, hj, hn⟩ := hp.1 hr
    exact hn (h j hj)
theorem sRight2 (a b : Int) : EvB (fun k => schema_right.f k [a, b]) (numP a ∧ numP b) :=
  (sRight [a, b] (by simp)).imp ⟨fun h => ⟨h 0 (by simp), h 1 (by simp)⟩, fun h i hi => by
    have : i = 0 ∨ i = 1 := by simp at hi; omega
    rcases this with rfl | rfl
    · exact h.1
    · exact h.2⟩
theorem sRight3 (a b c : Int) : EvB (fun k => schema_right.f k [a, b, c]) (numP a ∧ numP b ∧ numP c) :=
  (sRight [a, b, c] (by simp)).imp ⟨fun h => ⟨h 0 (by simp), h 1 (by simp), h 2 (by simp)⟩, fun h i hi => by
    have : i = 0 ∨ i = 1 ∨ i = 2 := by simp at hi; omega
    rcases this with rfl | rfl | rfl
    · exact h.1
    · exact h.2.1
    · exact h.2.2⟩
/-- Names that may be, and differ. -/
def namesP (l : List ByteArray) : Prop := ∀ i : Nat, i < l.length → nameP (rdOf ByteArray.empty l (i : Int)) ∧ ∀ j : Nat, j < i → (rdOf ByteArray.empty l (j : Int)).toList ≠ (rdOf ByteArray.empty l (i : Int)).toList
theorem rdOf_take (l : List ByteArray) (n j : Nat) (hj : j < n) (hn : n ≤ l.length) : rdOf ByteArray.empty (l.take n) (j : Int) = rdOf ByteArray.empty l (j : Int) := by
  rw [rdOf, rdOf, getD_at _ _ j (by rw [List.length_take]; omega), getD_at _ _ j (by omega), List.getElem_take]
theorem rd_take (l : List Int) (n j : Nat) (hj : j < n) (hn : n ≤ l.length) : rd (l.take n) (j : Int) = rd l (j : Int) := by
  rw [rd, rd, getD_at _ _ j (by rw [List.length_take]; omega), getD_at _ _ j (by omega), List.getElem_take]
theorem sNames (l : List ByteArray) (hl : l.length ≤ 1000000000) (hs : ∀ s ∈ l, s.size ≤ 9223372036854775807) : EvB (fun k => schema_names.f k l) (namesP l) := by
  have hend : EvB (fun k => schema_names.l0 k l l (l.length : Int) (l.length : Int)) True := EvB.step (f := fun _ => some true) (fun k => by rw [schema_names.l0, if_neg (by omega)]) (EvB.yes trivial)
  have h := EvB.loop (g := fun i k => schema_names.l0 k l l (l.length : Int) (i : Int)) l.length (fun i => nameP (rdOf ByteArray.empty l (i : Int)) ∧ ∀ j : Nat, j < i → (rdOf ByteArray.empty l (j : Int)).toList ≠ (rdOf ByteArray.empty l (i : Int)).toList) True hend (fun i Q hi h => by
    have hw := wr_s i l.length hi (by omega)
    have hsz : (rdOf ByteArray.empty l (i : Int)).size ≤ 9223372036854775807 := by
      rw [rdOf, getD_at l _ i hi]
      exact hs _ (List.getElem_mem hi)
    have htk : (l.take (i : Int).toNat).length = i := by rw [List.length_take]; omega
    obtain ⟨r, hr, hp⟩ := sContains (l.take (i : Int).toNat) (rdOf ByteArray.empty l (i : Int)) (by omega)
    have h2 : EvB (fun k => (slices_Contains_string_string.f k (l.take (i : Int).toNat) (rdOf ByteArray.empty l (i : Int))).bind fun t114 => if t114 = true then some false else schema_names.l0 k l l (l.length : Int) (wrap64 ((i : Int) + 1))) ((∀ j : Nat, j < i → (rdOf ByteArray.empty l (j : Int)).toList ≠ (rdOf ByteArray.empty l (i : Int)).toList) ∧ Q) := by
      cases r
      · obtain ⟨q, hq, hqp⟩ := h
        refine ⟨q, Ev.bind (f := fun k t114 => if t114 = true then some false else schema_names.l0 k l l (l.length : Int) (wrap64 ((i : Int) + 1))) hr (Ev.congr (fun k => by rw [if_neg (by decide), hw]) hq), hqp.trans ⟨fun h => ⟨fun j hj he => ?_, h⟩, fun h => h.2⟩⟩
        have := hp.2 ⟨j, by omega, by rw [show (i : Int).toNat = i by omega, rdOf_take l i j hj (by omega)]; exact he.symm⟩
        cases this
      · refine ⟨false, Ev.bind (f := fun k t114 => if t114 = true then some false else schema_names.l0 k l l (l.length : Int) (wrap64 ((i : Int) + 1))) hr (Ev.congr (fun k => if_pos rfl) (Ev.now _)), ⟨fun h => (by cases h), fun h => ?_⟩⟩
        obtain ⟨j, hj, he⟩ := hp.1 rfl
        rw [htk] at hj
        rw [show (i : Int).toNat = i by omega, rdOf_take l i j hj (by omega)] at he
        exact absurd he.symm (h.1 j hj)
    have h3 := EvB.andT (sName (rdOf ByteArray.empty l (i : Int)) hsz) (B := fun _ => some false) (fun _ => EvB.no fun h => h) (fun _ => EvB.iteT (c := (i : Int) ≤ (l.length : Int)) (B := fun _ => none) (fun _ => h2) (fun h => absurd (by omega) h))
    exact EvB.step (fun k => by rw [schema_names.l0, if_pos (by omega), if_pos (by omega), if_pos (by omega)]) (h3.imp ⟨fun h => ⟨⟨h.1, h.2.1⟩, h.2.2⟩, fun h => ⟨h.1.1, h.1.2, h.2⟩⟩)) l.length 0 (by omega)
  exact EvB.congr (fun k => by rw [schema_names.f]; rfl) (h.imp ⟨fun h i hi => h.1 i (Nat.zero_le _) hi, fun h => ⟨fun i _ hi => h i hi, trivial⟩⟩)
theorem take_map {α β : Type} (f : α → β) (d : α) (L : List α) (i : Nat) (h : i < L.length) : (L.take i).map f ++ [f (L.getD (i : Int).toNat d)] = (L.take (i + 1)).map f := by
  rw [getD_at L d i h, List.take_succ_eq_append_getElem h, List.map_append]
  rfl
theorem rdOf_map {α : Type} (f : α → ByteArray) (d : α) (L : List α) (i : Nat) (h : i < L.length) : rdOf ByteArray.empty (L.map f) (i : Int) = f (L.getD (i : Int).toNat d) := by
  rw [rdOf, getD_at _ _ i (by rw [List.length_map]; exact h), getD_at _ _ i h, List.getElem_map]
/-! ### the program's table -/
def colQ (c : S87) : Prop := (1 ≤ c.f1 ∧ c.f1 ≤ 3) ∧ numP c.f2 ∧ numP c.f3
def szP (T : List S84) (X : List S135) : Prop := (∀ t ∈ T, t.f0.size ≤ 9223372036854775807 ∧ t.f1.length ≤ 9223372036854775807 ∧ ∀ c ∈ t.f1, c.f0.size ≤ 9223372036854775807) ∧ ∀ x ∈ X, x.f0.size ≤ 9223372036854775807 ∧ x.f6.length ≤ 9223372036854775807
def tableQ (t : S84) : Prop := (1 ≤ t.f1.length ∧ t.f1.length ≤ 8) ∧ (numP t.f3 ∧ numP t.f4 ∧ numP t.f2) ∧ (∀ i : Nat, i < t.f1.length → colQ (rd_T87 t.f1 (i : Int))) ∧ namesP (t.f1.map (·.f0))
theorem sTable (t : S84) (hx : wrap64 t.f2 = t.f2) (hs : ∀ c ∈ t.f1, c.f0.size ≤ 9223372036854775807) : EvB (fun k => schema_table.f k t.f0 t.f1 t.f2 t.f3 t.f4) (tableQ t) := by
  obtain ⟨a, L, x, y, z⟩ := t
  simp only at hx hs ⊢
  have hb : EvB (fun k => schema_table.j0 k true a L x y z) False := EvB.step (f := fun _ => some false) (fun k => by rw [schema_table.j0, if_pos rfl]) (EvB.no fun h => h)
  have hin : L.length ≤ 8 → EvB (fun k => schema_table.j0 k false a L x y z) ((∀ i : Nat, i < L.length → colQ (rd_T87 L (i : Int))) ∧ namesP (L.map (·.f0))) := fun hl => by
    have hend : EvB (fun k => schema_table.l0 k ((L.take L.length).map (·.f0)) L (L.length : Int) (L.length : Int)) (namesP (L.map (·.f0))) := by
      rw [List.take_length]
      exact EvB.step (fun k => by rw [schema_table.l0, if_neg (by omega)]) (EvB.one (sNames (L.map (·.f0)) (by rw [List.length_map]; omega) (fun s h => by
        obtain ⟨c, hc, rfl⟩ := List.mem_map.1 h
        exact hs c hc)))
    have h := EvB.loop (g := fun i k => schema_table.l0 k ((L.take i).map (·.f0)) L (L.length : Int) (i : Int)) L.length (fun i => colQ (rd_T87 L (i : Int))) _ hend (fun i Q hi h => by
      have hw := wr_s i L.length hi (by omega)
      have htm := take_map (·.f0) z87 L i hi
      obtain ⟨c, hcc⟩ : ∃ c, c = rd_T87 L (i : Int) := ⟨_, rfl⟩
      change (L.take i).map (·.f0) ++ [(rd_T87 L (i : Int)).f0] = _ at htm
      rw [← hcc] at htm ⊢
      have hlen : ((L.take i).map (·.f0)).length < 8796093022208 := by rw [List.length_map, List.length_take]; omega
      have h3 : EvB (fun k => (schema_right.f k [c.f2, c.f3]).bind fun t => if t = true then (if ((L.take i).map (·.f0)).length < 8796093022208 then schema_table.l0 k ((L.take i).map (·.f0) ++ [c.f0]) L (L.length : Int) (wrap64 ((i : Int) + 1)) else none) else some false) ((numP c.f2 ∧ numP c.f3) ∧ Q) :=
        EvB.andT (A := fun k => if ((L.take i).map (·.f0)).length < 8796093022208 then schema_table.l0 k ((L.take i).map (·.f0) ++ [c.f0]) L (L.length : Int) (wrap64 ((i : Int) + 1)) else none) (B := fun _ => some false) (sRight2 c.f2 c.f3) (fun _ => EvB.no fun h => h) (fun _ => EvB.congr (fun k => by rw [if_pos hlen, htm, hw]) h)
      have h4 := EvB.iteT (c := c.f1 < 1) (A := fun _ => some false) (P := colQ c ∧ Q) (fun e => EvB.no (fun h => by have := h.1.1; omega)) (fun e0 => EvB.iteT (c := c.f1 > 3) (A := fun _ => some false) (fun e => EvB.no (fun h => by have := h.1.1; omega)) (fun e1 => h3.imp ⟨fun h => ⟨⟨⟨by omega, by omega⟩, h.1⟩, h.2⟩, fun h => ⟨h.1.2, h.2⟩⟩))
      exact EvB.step (fun k => by rw [schema_table.l0, if_pos (by omega), if_pos (by omega), if_pos (by omega), ← hcc]) h4) L.length 0 (by omega)
    exact EvB.step (f := fun k => schema_table.l0 k ((L.take 0).map (·.f0)) L (L.length : Int) ((0 : Nat) : Int)) (fun k => by rw [schema_table.j0, if_neg (by decide)]; rfl) (h.imp ⟨fun h => ⟨fun i hi => h.1 i (Nat.zero_le _) hi, h.2⟩, fun h => ⟨fun i _ hi => h.1 i hi, h.2⟩⟩)
  have h := EvB.iteT (c := (L.length : Int) = 0) (P := tableQ ⟨a, L, x, y, z⟩) (fun e => hb.imp ⟨False.elim, fun h => by have := h.1.1; simp only at this; omega⟩) (fun e0 => EvB.iteT (c := (L.length : Int) > 8) (fun e => hb.imp ⟨False.elim, fun h => by have := h.1.2; simp only at this; omega⟩) (fun e1 => by
    have h5 := EvB.and (f := fun k t => schema_table.j0 k (!t) a L x y z) (sRight3 y z x) (fun hp => hb.imp ⟨False.elim, fun h => hp h.1⟩) (fun hp => hin (by omega))
    exact h5.imp ⟨fun h => ⟨⟨by simp only; omega, by simp only; omega⟩, h.1, h.2⟩, fun h => ⟨h.2.1, h.2.2⟩⟩))
  exact EvB.congr (fun k => by rw [schema_table.f, hx]) h
/-! ### the program's index -/
def indexQ (T : List S84) (x : S135) : Prop := (0 ≤ x.f1 ∧ x.f1 < T.length) ∧ (1 ≤ x.f2.length ∧ x.f2.length ≤ 2) ∧ (∀ i : Nat, i < x.f2.length → (0 ≤ rd x.f2 (i : Int) ∧ rd x.f2 (i : Int) < (rd_T84 T x.f1).f1.length) ∧ ∀ j : Nat, j < i → rd x.f2 (j : Int) ≠ rd x.f2 (i : Int)) ∧ x.f6.length = x.f2.length ∧ (∀ i : Nat, i < x.f6.length → numP (rd x.f6 (i : Int))) ∧ numP x.f4 ∧ numP x.f5 ∧ numP x.f3
theorem sIndex (T : List S84) (X : List S135) (x : S135) (hx : wrap64 x.f3 = x.f3) (hs : x.f6.length ≤ 9223372036854775807) : EvB (fun k => schema_index.f k T X x.f0 x.f1 x.f2 x.f3 x.f4 x.f5 x.f6) (indexQ T x) := by
  obtain ⟨a, t, C, r, l, h, D⟩ := x
  simp only at hx hs ⊢
  have hb : EvB (fun k => schema_index.j0 k true T X a t C r l h D) False := EvB.step (f := fun _ => some false) (fun k => by rw [schema_index.j0, if_pos rfl]) (EvB.no fun h => h)
  have hin : 0 ≤ t → t < T.length → C.length ≤ 2 → EvB (fun k => schema_index.j0 k false T X a t C r l h D) ((∀ i : Nat, i < C.length → (0 ≤ rd C (i : Int) ∧ rd C (i : Int) < (rd_T84 T t).f1.length) ∧ ∀ j : Nat, j < i → rd C (j : Int) ≠ rd C (i : Int)) ∧ D.length = C.length ∧ (∀ i : Nat, i < D.length → numP (rd D (i : Int))) ∧ numP l ∧ numP h ∧ numP r) := fun ht0 ht1 hl => by
    have hend : EvB (fun k => schema_index.l0 k C (C.length : Int) (C.length : Int) T X a t C r l h D) (D.length = C.length ∧ (∀ i : Nat, i < D.length → numP (rd D (i : Int))) ∧ numP l ∧ numP h ∧ numP r) := by
      have h1 := EvB.eqT (c := (D.length : Int) = (C.length : Int)) (fun _ => EvB.andT (sRight D hs) (B := fun _ => some false) (fun _ => EvB.no fun h => h) (fun _ => EvB.one (sRight3 l h r)))
      refine EvB.step (fun k => by rw [schema_index.l0, if_neg (by omega), hx]) (h1.imp ⟨fun h => ⟨by omega, h.2.1, h.2.2⟩, fun h => ⟨by omega, h.2.1, h.2.2⟩⟩)
    have h0 := EvB.loop (g := fun i k => schema_index.l0 k C (C.length : Int) (i : Int) T X a t C r l h D) C.length (fun i => (0 ≤ rd C (i : Int) ∧ rd C (i : Int) < (rd_T84 T t).f1.length) ∧ ∀ j : Nat, j < i → rd C (j : Int) ≠ rd C (i : Int)) _ hend (fun i Q hi hh => by
      have hw := wr_s i C.length hi (by omega)
      have htk : (C.take (i : Int).toNat).length = i := by rw [List.length_take]; omega
      obtain ⟨q, hq, hp⟩ := sContainsI (C.take (i : Int).toNat) (rd C (i : Int)) (by omega)
      have h2 : EvB (fun k => (slices_Contains_int_int.f k (C.take (i : Int).toNat) (rd C (i : Int))).bind fun t141 => if t141 = true then some false else schema_index.l0 k C (C.length : Int) (wrap64 ((i : Int) + 1)) T X a t C r l h D) ((∀ j : Nat, j < i → rd C (j : Int) ≠ rd C (i : Int)) ∧ Q) := by
        cases q
        · obtain ⟨q, hq1, hqp⟩ := hh
          refine ⟨q, Ev.bind (f := fun k t141 => if t141 = true then some false else schema_index.l0 k C (C.length : Int) (wrap64 ((i : Int) + 1)) T X a t C r l h D) hq (Ev.congr (fun k => by rw [if_neg (by decide), hw]) hq1), hqp.trans ⟨fun h => ⟨fun j hj he => ?_, h⟩, fun h => h.2⟩⟩
          have := hp.2 ⟨j, by omega, by rw [show (i : Int).toNat = i by omega, rd_take C i j hj (by omega)]; exact he.symm⟩
          cases this
        · refine ⟨false, Ev.bind (f := fun k t141 => if t141 = true then some false else schema_index.l0 k C (C.length : Int) (wrap64 ((i : Int) + 1)) T X a t C r l h D) hq (Ev.congr (fun k => if_pos rfl) (Ev.now _)), ⟨fun h => (by cases h), fun h => ?_⟩⟩
          obtain ⟨j, hj, he⟩ := hp.1 rfl
          rw [htk] at hj
          rw [show (i : Int).toNat = i by omega, rd_take C i j hj (by omega)] at he
          exact absurd he.symm (h.1 j hj)
      have h4 := EvB.iteT (c := rd C (i : Int) < 0) (A := fun _ => some false) (P := ((0 ≤ rd C (i : Int) ∧ rd C (i : Int) < (rd_T84 T t).f1.length) ∧ ∀ j : Nat, j < i → rd C (j : Int) ≠ rd C (i : Int)) ∧ Q) (fun e => EvB.no (fun h => by have := h.1.1; omega)) (fun e0 => EvB.iteT (c := 0 ≤ t) (B := fun _ => none) (fun _ => EvB.iteT (c := t < (T.length : Int)) (B := fun _ => none) (fun _ => EvB.iteT (c := rd C (i : Int) ≥ ((rd_T84 T t).f1.length : Int)) (A := fun _ => some false) (fun e => EvB.no (fun h => by have := h.1.1; omega)) (fun e1 => EvB.iteT (c := (i : Int) ≤ (C.length : Int)) (B := fun _ => none) (fun _ => h2.imp ⟨fun h => ⟨⟨⟨by omega, by omega⟩, h.1⟩, h.2⟩, fun h => ⟨h.1.2, h.2⟩⟩) (fun h => absurd (by omega) h))) (fun h => absurd (by omega) h)) (fun h => absurd (by omega) h))
      exact EvB.step (fun k => by rw [schema_index.l0, if_pos (by omega), if_pos (by omega), if_pos (by omega)]) h4) C.length 0 (by omega)
    exact EvB.step (f := fun k => schema_index.l0 k C (C.length : Int) ((0 : Nat) : Int) T X a t C r l h D) (fun k => by rw [schema_index.j0, if_neg (by decide)]; rfl) (h0.imp ⟨fun h => ⟨fun i hi => h.1 i (Nat.zero_le _) hi, h.2⟩, fun h => ⟨fun i _ hi => h.1 i hi, h.2⟩⟩)
  have hh := EvB.iteT (c := t < 0) (P := indexQ T ⟨a, t, C, r, l, h, D⟩) (fun e => hb.imp ⟨False.elim, fun h => by have := h.1.1; simp only at this; omega⟩) (fun e0 => EvB.iteT (c := t ≥ (T.length : Int)) (fun e => hb.imp ⟨False.elim, fun h => by have := h.1.2; simp only at this; omega⟩) (fun e1 => EvB.iteT (c := (C.length : Int) = 0) (B := fun k => schema_index.j0 k (decide ((C.length : Int) > 2)) T X a t C r l h D) (fun e => hb.imp ⟨False.elim, fun h => by have := h.2.1.1; simp only at this; omega⟩) (fun e2 => by
    by_cases e3 : (C.length : Int) > 2
    · exact EvB.congr (f := fun k => schema_index.j0 k true T X a t C r l h D) (fun k => by rw [decide_eq_true e3]) (hb.imp ⟨False.elim, fun h => by have := h.2.1.2; simp only at this; omega⟩)
    · exact EvB.congr (f := fun k => schema_index.j0 k false T X a t C r l h D) (fun k => by rw [decide_eq_false e3]) ((hin (by omega) (by omega) (by omega)).imp ⟨fun h => ⟨⟨by simp only; omega, by simp only; omega⟩, ⟨by simp only; omega, by simp only; omega⟩, h.1, h.2.1, h.2.2⟩, fun h => ⟨h.2.2.1, h.2.2.2.1, h.2.2.2.2⟩⟩))))
  exact EvB.congr (fun k => by rw [schema_index.f]) hh
/-! ### the program's May -/
theorem names_T (T : List S84) : namesP (T.map (·.f0)) ↔ ∀ i : Nat, i < T.length → nameP (rd_T84 T (i : Int)).f0 ∧ newT T i := by
  unfold namesP newT
  rw [List.length_map]
  refine ⟨fun h i hi => ?_, fun h i hi => ?_⟩
  · have h1 := h i hi
    rw [rdOf_map (·.f0) z84 T i hi] at h1
    refine ⟨h1.1, fun j hj => ?_⟩
    have h2 := h1.2 j hj
    rwa [rdOf_map (·.f0) z84 T j (by omega)] at h2
  · rw [rdOf_map (·.f0) z84 T i hi]
    refine ⟨(h i hi).1, fun j hj => ?_⟩
    rw [rdOf_map (·.f0) z84 T j (by omega)]
    exact (h i hi).2 j hj
theorem names_X (T : List S135) : namesP (T.map (·.f0)) ↔ ∀ i : Nat, i < T.length → nameP (rd_T135 T (i : Int)).f0 ∧ newX T i := by
  unfold namesP newX
  rw [List.length_map]
  refine ⟨fun h i hi => ?_, fun h i hi => ?_⟩
  · have h1 := h i hi
    rw [rdOf_map (·.f0) z135 T i hi] at h1
    refine ⟨h1.1, fun j hj => ?_⟩
    have h2 := h1.2 j hj
    rwa [rdOf_map (·.f0) z135 T j (by omega)] at h2
  · rw [rdOf_map (·.f0) z135 T i hi]
    refine ⟨(h i hi).1, fun j hj => ?_⟩
    rw [rdOf_map (·.f0) z135 T j (by omega)]
    exact (h i hi).2 j hj
theorem names_C (T : List S87) : namesP (T.map (·.f0)) ↔ ∀ i : Nat, i < T.length → nameP (rd_T87 T (i : Int)).f0 ∧ newC T i := by
  unfold namesP newC
  rw [List.length_map]
  refine ⟨fun h i hi => ?_, fun h i hi => ?_⟩
  · have h1 := h i hi
    rw [rdOf_map (·.f0) z87 T i hi] at h1
    refine ⟨h1.1, fun j hj => ?_⟩
    have h2 := h1.2 j hj
    rwa [rdOf_map (·.f0) z87 T j (by omega)] at h2
  · rw [rdOf_map (·.f0) z87 T i hi]
    refine ⟨(h i hi).1, fun j hj => ?_⟩
    rw [rdOf_map (·.f0) z87 T j (by omega)]
    exact (h i hi).2 j hj
theorem table_QP (t : S84) : (nameP t.f0 ∧ tableQ t) ↔ tableP t := by
  unfold tableQ tableP
  rw [names_C]
  refine ⟨fun h => ⟨h.1, h.2.1.1, h.2.1.2, h.2.2.1.2.2, h.2.2.1.1, h.2.2.1.2.1, fun i hi => ?_⟩, fun h => ⟨h.1, ⟨h.2.1, h.2.2.1⟩, ⟨h.2.2.2.2.1, h.2.2.2.2.2.1, h.2.2.2.1⟩, fun i hi => ?_, fun i hi => ?_⟩⟩
  · have h1 := h.2.2.2.1 i hi
    have h2 := h.2.2.2.2 i hi
    exact ⟨⟨h2.1, h1.1.1, h1.1.2, h1.2.1, h1.2.2⟩, h2.2⟩
  · have h1 := (h.2.2.2.2.2.2 i hi).1
    exact ⟨⟨h1.2.1, h1.2.2.1⟩, h1.2.2.2.1, h1.2.2.2.2⟩
  · have h1 := h.2.2.2.2.2.2 i hi
    exact ⟨h1.1.1, h1.2⟩
theorem index_QP (T : List S84) (x : S135) : (nameP x.f0 ∧ indexQ T x) ↔ indexP T x := by
  unfold indexQ indexP colsP
  refine ⟨fun h => ⟨h.1, h.2.1, h.2.2.1, h.2.2.2.2.1, fun i hi => (h.2.2.2.1 i hi).1, h.2.2.2.2.2.1, fun e => ?_, h.2.2.2.2.2.2.2.2, h.2.2.2.2.2.2.1, h.2.2.2.2.2.2.2.1⟩, fun h => ⟨h.1, h.2.1, h.2.2.1, fun i hi => ⟨h.2.2.2.2.1 i hi, fun j hj => ?_⟩, h.2.2.2.1, h.2.2.2.2.2.1, h.2.2.2.2.2.2.2.2.1, h.2.2.2.2.2.2.2.2.2, h.2.2.2.2.2.2.2.1⟩⟩
  · exact (h.2.2.2.1 1 (by omega)).2 0 (by omega)
  · have h2 := h.2.2.1.2
    obtain rfl : i = 1 := by omega
    obtain rfl : j = 0 := by omega
    exact h.2.2.2.2.2.2.1 (by omega)
theorem sMay (T : List S84) (X : List S135) (hW : bookW T X) (hs : szP T X) : EvB (fun k => schema_May.f k T X) (MayP T X) := by
  have hb : EvB (fun k => schema_May.j0 k true T X) False := EvB.step (f := fun _ => some false) (fun k => by rw [schema_May.j0, if_pos rfl]) (EvB.no fun h => h)
  by_cases c0 : (T.length : Int) > 16
  · exact EvB.congr (fun k => by rw [schema_May.f, if_pos c0]) (hb.imp ⟨False.elim, fun h => by have := h.1.1; omega⟩)
  by_cases c1 : (X.length : Int) > 16
  · exact EvB.congr (fun k => by rw [schema_May.f, if_neg c0, decide_eq_true c1]) (hb.imp ⟨False.elim, fun h => by have := h.1.2; omega⟩)
  have hend1 : EvB (fun k => schema_May.l1 k (T.map (·.f0)) ((X.take X.length).map (·.f0)) X (X.length : Int) (X.length : Int) T X) (namesP (T.map (·.f0)) ∧ namesP (X.map (·.f0))) := by
    rw [List.take_length]
    have h1 := EvB.andT (sNames (T.map (·.f0)) (by rw [List.length_map]; omega) (fun s h => by
        obtain ⟨c, hc, rfl⟩ := List.mem_map.1 h
        exact (hs.1 c hc).1)) (B := fun _ => some false) (fun _ => EvB.no fun h => h) (fun _ => EvB.one (sNames (X.map (·.f0)) (by rw [List.length_map]; omega) (fun s h => by
        obtain ⟨c, hc, rfl⟩ := List.mem_map.1 h
        exact (hs.2 c hc).1)))
    exact EvB.step (fun k => by rw [schema_May.l1, if_neg (by omega)]) h1
  have h1 := EvB.loop (g := fun i k => schema_May.l1 k (T.map (·.f0)) ((X.take i).map (·.f0)) X (X.length : Int) (i : Int) T X) X.length (fun i => indexQ T (rd_T135 X (i : Int))) _ hend1 (fun i Q hi h => by
    have hw := wr_s i X.length hi (by omega)
    have htm := take_map (·.f0) z135 X i hi
    have hwf := hW.2 i hi
    have hmem : rd_T135 X (i : Int) ∈ X := by rw [rd_T135, getD_at X z135 i hi]; exact List.getElem_mem hi
    obtain ⟨x, hcc⟩ : ∃ x, x = rd_T135 X (i : Int) := ⟨_, rfl⟩
    change (X.take i).map (·.f0) ++ [(rd_T135 X (i : Int)).f0] = _ at htm
    rw [← hcc] at htm hwf hmem ⊢
    have hlen : ((X.take i).map (·.f0)).length < 8796093022208 := by rw [List.length_map, List.length_take]; omega
    have h3 := EvB.andT (sIndex T X x (wr_in _ (by have := hwf.1; have := hwf.2; omega)) (hs.2 x hmem).2) (B := fun _ => some false) (fun _ => EvB.no fun h => h) (fun _ => h)
    exact EvB.step (fun k => by rw [schema_May.l1, if_pos (by omega), if_pos (by omega), if_pos (by omega), ← hcc, if_pos hlen, htm, hw]) h3) X.length 0 (by omega)
  have hend0 : EvB (fun k => schema_May.l0 k ((T.take T.length).map (·.f0)) T (T.length : Int) (T.length : Int) T X) ((∀ j : Nat, 0 ≤ j → j < X.length → indexQ T (rd_T135 X (j : Int))) ∧ namesP (T.map (·.f0)) ∧ namesP (X.map (·.f0))) := by
    rw [List.take_length]
    exact EvB.step (f := fun k => schema_May.l1 k (T.map (·.f0)) ((X.take 0).map (·.f0)) X (X.length : Int) ((0 : Nat) : Int) T X) (fun k => by rw [schema_May.l0, if_neg (by omega)]; rfl) h1
  have h0 := EvB.loop (g := fun i k => schema_May.l0 k ((T.take i).map (·.f0)) T (T.length : Int) (i : Int) T X) T.length (fun i => tableQ (rd_T84 T (i : Int))) _ hend0 (fun i Q hi h => by
    have hw := wr_s i T.length hi (by omega)
    have htm := take_map (·.f0) z84 T i hi
    have hwf := hW.1 i hi
    have hmem : rd_T84 T (i : Int) ∈ T := by rw [rd_T84, getD_at T z84 i hi]; exact List.getElem_mem hi
    obtain ⟨x, hcc⟩ : ∃ x, x = rd_T84 T (i : Int) := ⟨_, rfl⟩
    change (T.take i).map (·.f0) ++ [(rd_T84 T (i : Int)).f0] = _ at htm
    rw [← hcc] at htm hwf hmem ⊢
    have hlen : ((T.take i).map (·.f0)).length < 8796093022208 := by rw [List.length_map, List.length_take]; omega
    have h3 := EvB.andT (sTable x (wr_in _ (by have := hwf.1; have := hwf.2.1; omega)) (hs.1 x hmem).2.2) (B := fun _ => some false) (fun _ => EvB.no fun h => h) (fun _ => h)
    exact EvB.step (fun k => by rw [schema_May.l0, if_pos (by omega), if_pos (by omega), if_pos (by omega), ← hcc, if_pos hlen, htm, hw]) h3) T.length 0 (by omega)
  refine EvB.congr (f := fun k => schema_May.j0 k false T X) (fun k => by rw [schema_May.f, if_neg c0, decide_eq_false c1]) (EvB.step (f := fun k => schema_May.l0 k ((T.take 0).map (·.f0)) T (T.length : Int) ((0 : Nat) : Int) T X) (fun k => by rw [schema_May.j0, if_neg (by decide)]; rfl) (h0.imp ?_))
  rw [names_T, names_X]
  refine ⟨fun h => ⟨⟨by omega, by omega⟩, fun i hi => ⟨(table_QP _).1 ⟨(h.2.2.1 i hi).1, h.1 i (Nat.zero_le _) hi⟩, (h.2.2.1 i hi).2⟩, fun i hi => ⟨(index_QP T _).1 ⟨(h.2.2.2 i hi).1, h.2.1 i (Nat.zero_le _) hi⟩, (h.2.2.2 i hi).2⟩⟩, fun h => ?_⟩
  have hT := fun i hi => (table_QP _).2 (h.2.1 i hi).1
  have hX := fun i hi => (index_QP T _).2 (h.2.2 i hi).1
  exact ⟨fun i _ hi => (hT i hi).2, fun i _ hi => (hX i hi).2, fun i hi => ⟨(hT i hi).1, (h.2.1 i hi).2⟩, fun i hi => ⟨(hX i hi).1, (h.2.2 i hi).2⟩⟩
end Go.Proofs.Ytpfegfkniilobaa.PureS
