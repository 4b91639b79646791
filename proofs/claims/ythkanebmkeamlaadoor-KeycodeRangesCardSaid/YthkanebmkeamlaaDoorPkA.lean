/- Keys and rows: how they stand, what begins what, in plain Lean. Conditions: fields are of their kinds. -/
import Derived.Test.YthkanebmkeamlaaDoorKyH
import Derived.Test.YthkanebmkeamlaaDoorXKeyx4
import Derived.Test.YthkanebmkeamlaaDoorXKeyx5
import Derived.Test.YthkanebmkeamlaaDoorXKeyx6
namespace Go.Proofs.YthkanebmkeamlaaDoor.Pk
open Go.RowKit Go.Proofs.YthkanebmkeamlaaDoorW.PrintWords Go.Proofs.YthkanebmkeamlaaDoor.XKey Go.Proofs.YthkanebmkeamlaaDoor.Ky Go.Proofs.YthkanebmkeamlaaDoor.Byt
set_option linter.unusedVariables false
set_option linter.unusedSimpArgs false
theorem bind_ev {α β : Type} {A : Nat → Option α} {G : Nat → α → Option β} {a : α} {r : β} (hA : Ev A a) (h : Ev (fun k => G k a) r) : Ev (fun k => (A k).bind (G k)) r := Ev.bind hA h
theorem Ev.val {α : Type} {g : Nat → Option α} {r r' : α} (h : Ev g r) (e : r = r') : Ev g r' := e ▸ h
theorem wrn (n : Int) (h : -9223372036854775808 ≤ n ∧ n ≤ 9223372036854775807) : wrap64 n = n := w64_in n h
theorem by_of (t : ByteArray) : By (bytesOf t) := fun c hc => bytes_rng t c hc
theorem bt_at (t : ByteArray) (i : Nat) (h : i < t.size) : ∃ h2 : i < (bytesOf t).length, bt t (i : Int) = (bytesOf t)[i] := by
  have hl : i < (bytesOf t).length := by rw [bytesOf_length]; exact h
  refine ⟨hl, ?_⟩
  have := str_bt (by_of t) (i : Int)
  rw [str_bytes] at this
  rw [this, rd, List.getD_eq_getElem?_getD, Int.toNat_natCast, List.getElem?_eq_getElem hl]
  rfl
theorem drop_bt (t : ByteArray) (i : Nat) (h : i < t.size) : (bytesOf t).drop i = bt t (i : Int) :: (bytesOf t).drop (i + 1) := by
  obtain ⟨h2, e⟩ := bt_at t i h
  rw [List.drop_eq_getElem_cons h2, e]
theorem bytes_str {l : List Int} (h : By l) : bytesOf (strOfNums l) = l := str_inj (by_of _) h (str_bytes _)
theorem bytes_inj {a b : ByteArray} (h : bytesOf a = bytesOf b) : a = b := by rw [← str_bytes a, ← str_bytes b, h]
/-! ### texts in order -/
theorem less_lt : ∀ a b : List UInt8, Op.bytesLess a b = KeyM.ltL (a.map fun c => (c.toNat : Int)) (b.map fun c => (c.toNat : Int))
  | [], [] => rfl
  | [], _ :: _ => rfl
  | _ :: _, [] => rfl
  | x :: a, y :: b => by
    rw [List.map_cons, List.map_cons, KeyM.ltL, Op.bytesLess, less_lt a b]
    by_cases h1 : x < y
    · have h2 : (x.toNat : Int) < y.toNat := by have := UInt8.lt_iff_toNat_lt.1 h1; omega
      rw [if_pos h2, decide_eq_true h1, Bool.true_or]
    · have h2 : ¬ (x.toNat : Int) < y.toNat := fun e => h1 (UInt8.lt_iff_toNat_lt.2 (by omega))
      rw [if_neg h2, decide_eq_false h1, Bool.false_or]
      by_cases h3 : x = y
      · rw [h3, if_neg (by omega), beq_self_eq_true, Bool.true_and]
      · have h4 : (y.toNat : Int) < x.toNat := by
          rcases Int.lt_trichotomy (x.toNat : Int) y.toNat with h | h | h
          · exact absurd h h2
          · exact absurd (UInt8.toNat_inj.1 (by omega)) h3
          · exact h
        rw [if_pos h4, beq_eq_false_iff_ne.2 h3, Bool.false_and]
theorem str_less (a b : ByteArray) : Op.bytesLess a.toList b.toList = KeyM.ltL (bytesOf a) (bytesOf b) := by
  rw [ByteArray.toList_eq, ByteArray.toList_eq, less_lt, bytes_map, bytes_map]
theorem list_eq {a b : ByteArray} : (a.toList = b.toList) ↔ a = b := by
  rw [ByteArray.toList_eq, ByteArray.toList_eq]
  exact ⟨fun h => ByteArray.ext (Array.toList_inj.1 h), fun h => by rw [h]⟩
theorem begins (a b : ByteArray) : rowlockref05_Begins.f a b = some (decide (bytesOf a <+: bytesOf b)) := by
  rw [rowlockref05_Begins.f]
  by_cases h : a.size ≤ b.size
  · rw [if_pos (by omega), if_pos (by omega), Int.toNat_natCast]
    congr 1
    rw [Bool.eq_iff_iff, beq_iff_eq, decide_eq_true_iff, list_eq]
    have e : bytesOf (b.extract 0 a.size) = (bytesOf b).take a.size := by
      rw [bytes_map, bytes_map, ByteArray.data_extract, Array.toList_extract, List.extract_eq_take_drop, List.drop_zero, Nat.sub_zero, List.map_take]
    constructor
    · intro e2
      have e3 : bytesOf a = (bytesOf b).take a.size := by rw [← e, e2]
      rw [List.prefix_iff_eq_take, bytesOf_length]
      exact e3
    · intro hp
      have hp2 := List.prefix_iff_eq_take.1 hp
      apply bytes_inj
      rw [e, hp2, bytesOf_length]
  · rw [if_neg (by omega)]
    congr 1
    rw [Eq.comm, decide_eq_false_iff_not]
    intro hp
    have := hp.length_le
    rw [bytesOf_length, bytesOf_length] at this
    omega
/-! ### values -/
theorem may_same (x : S34) : rowlockref01_May.f x.f0 x.f1 x.f2 = val_May.f x.f0 x.f1 x.f2 := by
  obtain ⟨k, n, t⟩ := x
  simp only [rowlockref01_May.f, val_May.f]
  by_cases h0 : k = 0
  · subst h0
    rw [if_pos rfl, if_pos rfl]
    by_cases hn : n = 0
    · subst hn; simp
    · simp [hn]
  · rw [if_neg h0, if_neg h0]
    by_cases h1 : k = 1
    · rw [if_pos h1, if_pos h1]
    · rw [if_neg h1, if_neg h1]
      by_cases h2 : k = 2
      · rw [if_pos h2, if_pos h2]
        by_cases ht : t.toList = []
        · rw [if_pos ht, if_pos ht]
          by_cases hn : n = 0
          · subst hn; simp
          · rw [if_neg hn]
            by_cases hn1 : n = 1
            · subst hn1; simp
            · have : (n == 1) = false := by simpa using hn1
              rw [this]
              by_cases h : n ≥ 0
              · rw [if_pos h, decide_eq_false (by omega)]
              · rw [if_neg h]
        · rw [if_neg ht, if_neg ht]
      · rw [if_neg h2, if_neg h2]
theorem may_ref (x : S34) (h : rng x) : rowlockref01_May.f x.f0 x.f1 x.f2 = some (decide (toV x).ok) := by
  rw [may_same]
  rcases may_cases x h with ⟨h1, h2⟩ | ⟨h1, h2⟩
  · rw [h1, decide_eq_true h2]
  · rw [h1, decide_eq_false h2]
theorem eMay (l : List S34) (hr : ∀ x ∈ l, rng x) (hl : l.length ≤ 1000000) : Ev (fun k => rowlocklaw05_may.f k l) (decide (∀ x ∈ l, (toV x).ok)) := by
  have key : ∀ (m i : Nat), i + m = l.length → Ev (fun k => rowlocklaw05_may.l0 k l (l.length : Int) (i : Int)) (decide (∀ x ∈ l.drop i, (toV x).ok)) := by
    intro m
    induction m with
    | zero =>
      intro i h
      rw [List.drop_of_length_le (by omega)]
      exact Ev.step (f := fun _ => some (decide (∀ x ∈ ([] : List S34), (toV x).ok))) (fun k => by rw [rowlocklaw05_may.l0, if_neg (by omega)]; rfl) (Ev.now _)
    | succ m ih =>
      intro i h
      have hx : rng (rd_T34 l (i : Int)) := by rw [rd_at l i (by omega)]; exact hr _ (List.getElem_mem _)
      have ed : l.drop i = rd_T34 l (i : Int) :: l.drop (i + 1) := by rw [rd_at l i (by omega), List.drop_eq_getElem_cons (by omega)]
      refine Ev.step (fun k => by rw [rowlocklaw05_may.l0, if_pos (by omega), if_pos (by omega), if_pos (by omega), may_ref _ hx, Option.bind_some]) ?_
      by_cases hv : (toV (rd_T34 l (i : Int))).ok
      · rw [decide_eq_true hv]
        refine Ev.val (Ev.congr (fun k => by rw [if_pos rfl, wr_s i l.length (by omega) (by omega)]) (ih (i + 1) (by omega))) ?_
        rw [ed, Bool.eq_iff_iff, decide_eq_true_iff, decide_eq_true_iff]
        exact ⟨fun h x hx => (List.mem_cons.1 hx).elim (fun e => e ▸ hv) (h x), fun h x hx => h x (List.mem_cons_of_mem _ hx)⟩
      · rw [decide_eq_false hv]
        refine Ev.val (Ev.congr (fun k => if_neg (by decide)) (Ev.now false)) ?_
        rw [Eq.comm, decide_eq_false_iff_not]
        exact fun h => hv (h _ (by rw [ed]; exact List.mem_cons_self ..))
  exact key l.length 0 (by omega)
theorem eGreat (l : List S34) (hl : l.length ≤ 9223372036854775807) : ∃ r, Ev (fun k => rowlockref01_Great.f k l) r ∧ (r = false → l.length ≤ 5000) := by
  have key : ∀ (m i : Nat) (a : Int), i + m = l.length → (i : Int) ≤ a → a ≤ 5000 → ∃ r, Ev (fun k => rowlockref01_Great.l0 k l a (l.length : Int) (i : Int)) r ∧ (r = false → l.length ≤ 5000) := by
    intro m
    induction m with
    | zero => exact fun i a h h1 h2 => ⟨false, Ev.step (f := fun _ => some false) (fun k => by rw [rowlockref01_Great.l0, if_neg (by omega)]) (Ev.now _), fun _ => by omega⟩
    | succ m ih =>
      intro i a h h1 h2
      obtain ⟨s, hs⟩ : ∃ s : Int, mn (((rd_T34 l (i : Int)).f2).size : Int) 9000 = s := ⟨_, rfl⟩
      have hs2 : 0 ≤ s ∧ s ≤ 9000 := by rw [← hs]; unfold mn; split <;> omega
      by_cases hb : a + (1 + s) > 5000
      · exact ⟨true, Ev.step (f := fun _ => some true) (fun k => by rw [rowlockref01_Great.l0, if_pos (by omega), if_pos (by omega), if_pos (by omega), hs, wrn _ (by omega), if_pos hb]) (Ev.now _), fun h => by cases h⟩
      · obtain ⟨r, hr, hp⟩ := ih (i + 1) (a + (1 + s)) (by omega) (by omega) (by omega)
        exact ⟨r, Ev.step (fun k => by rw [rowlockref01_Great.l0, if_pos (by omega), if_pos (by omega), if_pos (by omega), hs, wrn _ (by omega), if_neg hb, wr_s i l.length (by omega) hl]) hr, hp⟩
  exact key l.length 0 0 (by omega) (by omega) (by omega)
/-! ### rows -/
theorem eText (k1 n1 k2 n2 : Int) (s t : ByteArray) (hs : s.size ≤ 1000) (ht : t.size ≤ 1000) : ∀ (m i : Nat), i + m = s.size → i ≤ t.size → Ev (fun k => rowlockref01_less.l0 k (i : Int) k1 n1 s k2 n2 t) (KeyM.ltL ((bytesOf s).drop i) ((bytesOf t).drop i))
  | 0, i, h, hi => by
    rw [List.drop_of_length_le (by rw [bytesOf_length]; omega)]
    refine Ev.step (fun k => by rw [rowlockref01_less.l0, if_neg (by omega)]) (Ev.step (f := fun _ => some (decide ((s.size : Int) < (t.size : Int)))) (fun k => by rw [rowlockref01_less.j2, if_neg (by decide)]) (Ev.val (Ev.now _) ?_))
    by_cases h2 : i < t.size
    · rw [drop_bt t i h2, decide_eq_true (by omega)]
      rfl
    · rw [List.drop_of_length_le (by rw [bytesOf_length]; omega), decide_eq_false (by omega)]
      rfl
  | m + 1, i, h, hi => by
    rw [drop_bt s i (by omega)]
    by_cases h2 : i < t.size
    · rw [drop_bt t i h2, KeyM.ltL]
      refine Ev.step (fun k => by rw [rowlockref01_less.l0, if_pos (by omega), decide_eq_true (by omega)]) (Ev.step (fun k => by rw [rowlockref01_less.j2, if_pos rfl, if_pos (by omega), if_pos (by omega), if_pos (by omega)]) ?_)
      by_cases he : bt s (i : Int) = bt t (i : Int)
      · rw [if_neg (by omega), if_neg (by omega)]
        refine Ev.congr (fun k => by rw [if_pos he, wr_s i s.size (by omega) (by omega)]) (eText k1 n1 k2 n2 s t hs ht m (i + 1) (by omega) (by omega))
      · refine Ev.congr (fun k => if_neg he) (Ev.val (Ev.now _) ?_)
        by_cases hl : bt s (i : Int) < bt t (i : Int)
        · rw [if_pos hl, decide_eq_true hl]
        · rw [if_neg hl, if_pos (by omega), decide_eq_false hl]
    · rw [List.drop_of_length_le (l := bytesOf t) (by rw [bytesOf_length]; omega)]
      exact Ev.step (fun k => by rw [rowlockref01_less.l0, if_pos (by omega), decide_eq_false (by omega)]) (Ev.step (f := fun _ => some (decide ((s.size : Int) < (t.size : Int)))) (fun k => by rw [rowlockref01_less.j2, if_neg (by decide)]) (Ev.val (Ev.now _) (by rw [decide_eq_false (by omega)]; rfl)))
theorem ok_k {x : S34} (h : (toV x).ok) : 0 ≤ x.f0 ∧ x.f0 ≤ 3 := by
  obtain ⟨k, n, t⟩ := x
  simp only [toV, KeyM.V.ok] at h ⊢
  omega
theorem ok_t {x : S34} (h : (toV x).ok) : x.f2.size ≤ 48 := by
  obtain ⟨k, n, t⟩ := x
  simp only [toV, KeyM.V.ok] at h ⊢
  rw [← bytesOf_length]
  rcases h with h | h | h | h
  · rw [h.2.2]; simp
  · rw [h.2.1]; simp
  · rw [h.2.1]; simp
  · exact h.2.2.1
theorem eLess (x y : S34) (hx : (toV x).ok) (hy : (toV y).ok) : Ev (fun k => rowlockref01_Less.f k x.f0 x.f1 x.f2 y.f0 y.f1 y.f2) (decide ((toV x).lt (toV y))) := by
  have kx := ok_k hx
  have ky := ok_k hy
  have tx := ok_t hx
  have ty := ok_t hy
  refine Ev.congr (fun k => by rw [rowlockref01_Less.f, if_neg (by omega)]) (Ev.step (fun k => by rw [rowlockref01_Less.j0, if_neg (by omega)]) ?_)
  have hlt : (toV x).lt (toV y) ↔ (x.f0 < y.f0 ∨ (x.f0 = y.f0 ∧ (((x.f0 = 1 ∨ x.f0 = 2) ∧ x.f1 < y.f1) ∨ (x.f0 = 3 ∧ KeyM.ltL (bytesOf x.f2) (bytesOf y.f2) = true)))) := Iff.rfl
  by_cases he : x.f0 = y.f0
  · have fin : ∀ {b : Bool}, (b = true ↔ (toV x).lt (toV y)) → b = decide ((toV x).lt (toV y)) := fun h => by rw [Bool.eq_iff_iff, decide_eq_true_iff]; exact h
    have hid : ∀ t : Bool, (some t).bind (fun t122 => some t122) = some t := fun t => rfl
    refine Ev.congr (fun k => if_pos he) (bind_ev (a := decide ((toV x).lt (toV y))) ?_ (Ev.now _))
    by_cases h1 : x.f0 = 1
    · refine Ev.congr (fun k => by rw [rowlockref01_less.f, if_pos h1]) (Ev.step (f := fun _ => some (decide (x.f1 < y.f1))) (fun k => by rw [rowlockref01_less.j0, if_pos rfl]) (Ev.val (Ev.now _) (fin ?_)))
      rw [decide_eq_true_iff, hlt]
      omega
    · by_cases h2 : x.f0 = 2
      · refine Ev.congr (fun k => by rw [rowlockref01_less.f, if_neg h1, beq_iff_eq.2 h2]) (Ev.step (f := fun _ => some (decide (x.f1 < y.f1))) (fun k => by rw [rowlockref01_less.j0, if_pos rfl]) (Ev.val (Ev.now _) (fin ?_)))
        rw [decide_eq_true_iff, hlt]
        omega
      · refine Ev.congr (fun k => by rw [rowlockref01_less.f, if_neg h1, beq_eq_false_iff_ne.2 h2]) ?_
        by_cases h3 : x.f0 = 3
        · refine Ev.step (f := fun k => rowlockref01_less.l0 k ((0 : Nat) : Int) x.f0 x.f1 x.f2 y.f0 y.f1 y.f2) (fun k => by rw [rowlockref01_less.j0, if_neg (by decide), if_pos h3]; rfl) (Ev.val (eText x.f0 x.f1 y.f0 y.f1 x.f2 y.f2 (by omega) (by omega) x.f2.size 0 (by omega) (by omega)) (fin ?_))
          rw [hlt, List.drop_zero, List.drop_zero]
          constructor
          · exact fun h => .inr ⟨he, .inr ⟨h3, h⟩⟩
          · rintro (h | ⟨_, h | h⟩)
            · omega
            · omega
            · exact h.2
        · refine Ev.step (f := fun _ => some false) (fun k => by rw [rowlockref01_less.j0, if_neg (by decide), if_neg h3]) (Ev.val (Ev.now _) (fin ?_))
          rw [hlt]
          constructor
          · intro h; cases h
          · rintro (h | ⟨_, h | h⟩)
            · omega
            · omega
            · exact absurd h.1 h3
  · refine Ev.congr (fun k => if_neg he) (Ev.val (Ev.now _) ?_)
    rw [Bool.eq_iff_iff, decide_eq_true_iff, decide_eq_true_iff, hlt]
    exact ⟨fun h => .inl h, fun h => h.elim id (fun h => absurd h.1 he)⟩
def cmpV (v w : KeyM.V) : Int := if v.lt w then -1 else if w.lt v then 1 else 0
theorem eCmp (x y : S34) (hx : (toV x).ok) (hy : (toV y).ok) : Ev (fun k => rowlockref01_Compare.f k x.f0 x.f1 x.f2 y.f0 y.f1 y.f2) (cmpV (toV x) (toV y)) := by
  refine bind_ev (eLess x y hx hy) ?_
  rw [cmpV]
  by_cases h1 : (toV x).lt (toV y)
  · rw [if_pos h1, decide_eq_true h1]
    exact Ev.congr (fun k => if_pos rfl) (Ev.now _)
  · rw [if_neg h1, decide_eq_false h1]
    refine Ev.congr (fun k => if_neg (by decide)) (bind_ev (eLess y x hy hx) ?_)
    by_cases h2 : (toV y).lt (toV x)
    · rw [if_pos h2, decide_eq_true h2]
      exact Ev.congr (fun k => if_pos rfl) (Ev.now _)
    · rw [if_neg h2, decide_eq_false h2]
      exact Ev.congr (fun k => if_neg (by decide)) (Ev.now _)
theorem drop_rd (l : List S34) (i : Nat) (h : i < l.length) : l.drop i = rd_T34 l (i : Int) :: l.drop (i + 1) := by rw [rd_at l i h, List.drop_eq_getElem_cons h]
def rowsR (a b : List S34) : Int := KeyM.rows (a.map toV) (b.map toV)
theorem eRows (a b : List S34) (ha : ∀ x ∈ a, (toV x).ok) (hb : ∀ x ∈ b, (toV x).ok) (hl : a.length ≤ 1000000) : Ev (fun k => rowlockref01_Rows.f k a b []) (rowsR a b) := by
  have key : ∀ (m i : Nat), i + m = a.length → i ≤ b.length → Ev (fun k => rowlockref01_Rows.l0 k a b [] (a.length : Int) (i : Int)) (rowsR (a.drop i) (b.drop i)) := by
    intro m
    induction m with
    | zero =>
      intro i h hi
      rw [List.drop_of_length_le (l := a) (by omega)]
      by_cases h2 : i < b.length
      · rw [drop_rd b i h2]
        exact Ev.step (f := fun _ => some (-1)) (fun k => by rw [rowlockref01_Rows.l0, if_neg (by omega), if_pos (by omega)]) (Ev.now _)
      · rw [List.drop_of_length_le (by omega)]
        exact Ev.step (f := fun _ => some 0) (fun k => by rw [rowlockref01_Rows.l0, if_neg (by omega), if_neg (by omega)]) (Ev.now _)
    | succ m ih =>
      intro i h hi
      rw [drop_rd a i (by omega)]
      by_cases h2 : i < b.length
      · rw [drop_rd b i h2]
        have hx := ha (rd_T34 a (i : Int)) (by rw [rd_at a i (by omega)]; exact List.getElem_mem _)
        have hy := hb (rd_T34 b (i : Int)) (by rw [rd_at b i (by omega)]; exact List.getElem_mem _)
        refine Ev.step (fun k => by rw [rowlockref01_Rows.l0, if_pos (by omega), if_neg (by omega), if_pos (by omega), if_pos (by omega), if_pos (by omega)]) (bind_ev (eCmp _ _ hx hy) ?_)
        rw [rowsR, List.map_cons, List.map_cons, KeyM.rows, cmpV]
        by_cases h3 : (toV (rd_T34 a (i : Int))).lt (toV (rd_T34 b (i : Int)))
        · rw [if_pos h3, if_pos h3]
          exact Ev.congr (fun k => by rw [if_neg (by decide), if_neg (by simp)]) (Ev.now _)
        · rw [if_neg h3, if_neg h3]
          by_cases h4 : (toV (rd_T34 b (i : Int))).lt (toV (rd_T34 a (i : Int)))
          · rw [if_pos h4, if_pos h4]
            exact Ev.congr (fun k => by rw [if_neg (by decide), if_neg (by simp)]) (Ev.now _)
          · rw [if_neg h4, if_neg h4]
            exact Ev.congr (fun k => by rw [if_pos rfl, wr_s i a.length (by omega) (by omega)]) (ih (i + 1) (by omega) (by omega))
      · rw [List.drop_of_length_le (l := b) (by omega)]
        exact Ev.step (f := fun _ => some 1) (fun k => by rw [rowlockref01_Rows.l0, if_pos (by omega), if_pos (by omega)]) (Ev.now _)
  exact key a.length 0 (by omega) (by omega)
end Go.Proofs.YthkanebmkeamlaaDoor.Pk
