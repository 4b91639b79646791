/- keycode's law KeycodePuts in plain Lean, with what it wants (PkA, PkB, PkE0, PkE1, PkF, PkD, PkG joined). Conditions: stated in each theorem. -/
import Derived.Test.YthkanebmkeamlaaDoorKyH
import Derived.Test.YthkanebmkeamlaaDoorXKeyx4
import Derived.Test.YthkanebmkeamlaaDoorXKeyx5
import Derived.Test.YthkanebmkeamlaaDoorXKeyx6
import Derived.Test.YthkanebmkeamlaaDoorXKeyy1
import Derived.Test.YthkanebmkeamlaaDoorXKeyx8
import Derived.Test.YthkanebmkeamlaaDoorXKeyy3
import Derived.Test.YthkanebmkeamlaaDoorXKeyx7
namespace Go.Proofs.YthkanebmkeamlaaDoor.Pk
open Go.RowKit Go.Proofs.YthkanebmkeamlaaDoorW.PrintWords Go.Proofs.YthkanebmkeamlaaDoor.XKey Go.Proofs.YthkanebmkeamlaaDoor.Ky Go.Proofs.YthkanebmkeamlaaDoor.Byt
set_option linter.unusedVariables false
set_option linter.unusedSimpArgs false
theorem bind_ev {α β : Type} {A : Nat → Option α} {G : Nat → α → Option β} {a : α} {r : β} (hA : Ev A a) (h : Ev (fun k => G k a) r) : Ev (fun k => (A k).bind (G k)) r := Ev.bind hA h
theorem Ev.val {α : Type} {g : Nat → Option α} {r r' : α} (h : Ev g r) (e : r = r') : Ev g r' := e ▸ h
theorem wrn (n : Int) (h : -9223372036854775808 ≤ n ∧ n ≤ 9223372036854775807) : wrap64 n = n := w64_in n h
theorem by_of (t : ByteArray) : By (bytesOf t) := fun c hc => bytes_rng t c hc
theorem bt_at (t : ByteArray) (i : Nat) (h : i < t.size) : ∃ h2 : i < (bytesOf t).length, bt t (i : Int) = (bytesOf t)[i] := by
  have hl : i < (bytesOf t).length := by rw [bytesOf_length]; exact h
  refine ⟨hl, ?_⟩
  have := str_bt (by_of t) (i : Int)
  rw [str_bytes] at this
  rw [this, rd, List.getD_eq_getElem?_getD, Int.toNat_natCast, List.getElem?_eq_getElem hl]
  rfl
theorem drop_bt (t : ByteArray) (i : Nat) (h : i < t.size) : (bytesOf t).drop i = bt t (i : Int) :: (bytesOf t).drop (i + 1) := by
  obtain ⟨h2, e⟩ := bt_at t i h
  rw [List.drop_eq_getElem_cons h2, e]
theorem bytes_str {l : List Int} (h : By l) : bytesOf (strOfNums l) = l := str_inj (by_of _) h (str_bytes _)
theorem bytes_inj {a b : ByteArray} (h : bytesOf a = bytesOf b) : a = b := by rw [← str_bytes a, ← str_bytes b, h]
/-! ### texts in order -/
theorem less_lt : ∀ a b : List UInt8, Op.bytesLess a b = KeyM.ltL (a.map fun c => (c.toNat : Int)) (b.map fun c => (c.toNat : Int))
  | [], [] => rfl
  | [], _ :: _ => rfl
  | _ :: _, [] => rfl
  | x :: a, y :: b => by
    rw [List.map_cons, List.map_cons, KeyM.ltL, Op.bytesLess, less_lt a b]
    by_cases h1 : x < y
    · have h2 : (x.toNat : Int) < y.toNat := by have := UInt8.lt_iff_toNat_lt.1 h1; omega
      rw [if_pos h2, decide_eq_true h1, Bool.true_or]
    · have h2 : ¬ (x.toNat : Int) < y.toNat := fun e => h1 (UInt8.lt_iff_toNat_lt.2 (by omega))
      rw [if_neg h2, decide_eq_false h1, Bool.false_or]
      by_cases h3 : x = y
      · rw [h3, if_neg (by omega), beq_self_eq_true, Bool.true_and]
      · have h4 : (y.toNat : Int) < x.toNat := by
          rcases Int.lt_trichotomy (x.toNat : Int) y.toNat with h | h | h
          · exact absurd h h2
          · exact absurd (UInt8.toNat_inj.1 (by omega)) h3
          · exact h
        rw [if_pos h4, beq_eq_false_iff_ne.2 h3, Bool.false_and]
theorem str_less (a b : ByteArray) : Op.bytesLess a.toList b.toList = KeyM.ltL (bytesOf a) (bytesOf b) := by
  rw [ByteArray.toList_eq, ByteArray.toList_eq, less_lt, bytes_map, bytes_map]
theorem list_eq {a b : ByteArray} : (a.toList = b.toList) ↔ a = b := by
  rw [ByteArray.toList_eq, ByteArray.toList_eq]
  exact ⟨fun h => ByteArray.ext (Array.toList_inj.1 h), fun h => by rw [h]⟩
theorem begins (a b : ByteArray) : rowlockref05_Begins.f a b = some (decide (bytesOf a <+: bytesOf b)) := by
  rw [rowlockref05_Begins.f]
  by_cases h : a.size ≤ b.size
  · rw [if_pos (by omega), if_pos (by omega), Int.toNat_natCast]
    congr 1
    rw [Bool.eq_iff_iff, beq_iff_eq, decide_eq_true_iff, list_eq]
    have e : bytesOf (b.extract 0 a.size) = (bytesOf b).take a.size := by
      rw [bytes_map, bytes_map, ByteArray.data_extract, Array.toList_extract, List.extract_eq_take_drop, List.drop_zero, Nat.sub_zero, List.map_take]
    constructor
    · intro e2
      have e3 : bytesOf a = (bytesOf b).take a.size := by rw [← e, e2]
      rw [List.prefix_iff_eq_take, bytesOf_length]
      exact e3
    · intro hp
      have hp2 := List.prefix_iff_eq_take.1 hp
      apply bytes_inj
      rw [e, hp2, bytesOf_length]
  · rw [if_neg (by omega)]
    congr 1
    rw [Eq.comm, decide_eq_false_iff_not]
    intro hp
    have := hp.length_le
    rw [bytesOf_length, bytesOf_length] at this
    omega
/-! ### values -/
theorem may_same (x : S34) : rowlockref01_May.f x.f0 x.f1 x.f2 = val_May.f x.f0 x.f1 x.f2 := by
  obtain ⟨k, n, t⟩ := x
  simp only [rowlockref01_May.f, val_May.f]
  by_cases h0 : k = 0
  · subst h0
    rw [if_pos rfl, if_pos rfl]
    by_cases hn : n = 0
    · subst hn; simp
    · simp [hn]
  · rw [if_neg h0, if_neg h0]
    by_cases h1 : k = 1
    · rw [if_pos h1, if_pos h1]
    · rw [if_neg h1, if_neg h1]
      by_cases h2 : k = 2
      · rw [if_pos h2, if_pos h2]
        by_cases ht : t.toList = []
        · rw [if_pos ht, if_pos ht]
          by_cases hn : n = 0
          · subst hn; simp
          · rw [if_neg hn]
            by_cases hn1 : n = 1
            · subst hn1; simp
            · have : (n == 1) = false := by simpa using hn1
              rw [this]
              by_cases h : n ≥ 0
              · rw [if_pos h, decide_eq_false (by omega)]
              · rw [if_neg h]
        · rw [if_neg ht, if_neg ht]
      · rw [if_neg h2, if_neg h2]
theorem may_ref (x : S34) (h : rng x) : rowlockref01_May.f x.f0 x.f1 x.f2 = some (decide (toV x).ok) := by
  rw [may_same]
  rcases may_cases x h with ⟨h1, h2⟩ | ⟨h1, h2⟩
  · rw [h1, decide_eq_true h2]
  · rw [h1, decide_eq_false h2]
theorem eMay (l : List S34) (hr : ∀ x ∈ l, rng x) (hl : l.length ≤ 1000000) : Ev (fun k => rowlocklaw05_may.f k l) (decide (∀ x ∈ l, (toV x).ok)) := by
  have key : ∀ (m i : Nat), i + m = l.length → Ev (fun k => rowlocklaw05_may.l0 k l (l.length : Int) (i : Int)) (decide (∀ x ∈ l.drop i, (toV x).ok)) := by
    intro m
    induction m with
    | zero =>
      intro i h
      rw [List.drop_of_length_le (by omega)]
      exact Ev.step (f := fun _ => some (decide (∀ x ∈ ([] : List S34), (toV x).ok))) (fun k => by rw [rowlocklaw05_may.l0, if_neg (by omega)]; rfl) (Ev.now _)
    | succ m ih =>
      intro i h
      have hx : rng (rd_T34 l (i : Int)) := by rw [rd_at l i (by omega)]; exact hr _ (List.getElem_mem _)
      have ed : l.drop i = rd_T34 l (i : Int) :: l.drop (i + 1) := by rw [rd_at l i (by omega), List.drop_eq_getElem_cons (by omega)]
      refine Ev.step (fun k => by rw [rowlocklaw05_may.l0, if_pos (by omega), if_pos (by omega), if_pos (by omega), may_ref _ hx, Option.bind_some]) ?_
      by_cases hv : (toV (rd_T34 l (i : Int))).ok
      · rw [decide_eq_true hv]
        refine Ev.val (Ev.congr (fun k => by rw [if_pos rfl, wr_s i l.length (by omega) (by omega)]) (ih (i + 1) (by omega))) ?_
        rw [ed, Bool.eq_iff_iff, decide_eq_true_iff, decide_eq_true_iff]
        exact ⟨fun h x hx => (List.mem_cons.1 hx).elim (fun e => e ▸ hv) (h x), fun h x hx => h x (List.mem_cons_of_mem _ hx)⟩
      · rw [decide_eq_false hv]
        refine Ev.val (Ev.congr (fun k => if_neg (by decide)) (Ev.now false)) ?_
        rw [Eq.comm, decide_eq_false_iff_not]
        exact fun h => hv (h _ (by rw [ed]; exact List.mem_cons_self ..))
  exact key l.length 0 (by omega)
theorem eGreat (l : List S34) (hl : l.length ≤ 9223372036854775807) : ∃ r, Ev (fun k => rowlockref01_Great.f k l) r ∧ (r = false → l.length ≤ 5000) := by
  have key : ∀ (m i : Nat) (a : Int), i + m = l.length → (i : Int) ≤ a → a ≤ 5000 → ∃ r, Ev (fun k => rowlockref01_Great.l0 k l a (l.length : Int) (i : Int)) r ∧ (r = false → l.length ≤ 5000) := by
    intro m
    induction m with
    | zero => exact fun i a h h1 h2 => ⟨false, Ev.step (f := fun _ => some false) (fun k => by rw [rowlockref01_Great.l0, if_neg (by omega)]) (Ev.now _), fun _ => by omega⟩
    | succ m ih =>
      intro i a h h1 h2
      obtain ⟨s, hs⟩ : ∃ s : Int, mn (((rd_T34 l (i : Int)).f2).size : Int) 9000 = s := ⟨_, rfl⟩
      have hs2 : 0 ≤ s ∧ s ≤ 9000 := by rw [← hs]; unfold mn; split <;> omega
      by_cases hb : a + (1 + s) > 5000
      · exact ⟨true, Ev.step (f := fun _ => some true) (fun k => by rw [rowlockref01_Great.l0, if_pos (by omega), if_pos (by omega), if_pos (by omega), hs, wrn _ (by omega), if_pos hb]) (Ev.now _), fun h => by cases h⟩
      · obtain ⟨r, hr, hp⟩ := ih (i + 1) (a + (1 + s)) (by omega) (by omega) (by omega)
        exact ⟨r, Ev.step (fun k => by rw [rowlockref01_Great.l0, if_pos (by omega), if_pos (by omega), if_pos (by omega), hs, wrn _ (by omega), if_neg hb, wr_s i l.length (by omega) hl]) hr, hp⟩
  exact key l.length 0 0 (by omega) (by omega) (by omega)
/-! ### rows -/
theorem eText (k1 n1 k2 n2 : Int) (s t : ByteArray) (hs : s.size ≤ 1000) (ht : t.size ≤ 1000) : ∀ (m i : Nat), i + m = s.size → i ≤ t.size → Ev (fun k => rowlockref01_less.l0 k (i : Int) k1 n1 s k2 n2 t) (KeyM.ltL ((bytesOf s).drop i) ((bytesOf t).drop i))
  | 0, i, h, hi => by
    rw [List.drop_of_length_le (by rw [bytesOf_length]; omega)]
    refine Ev.step (fun k => by rw [rowlockref01_less.l0, if_neg (by omega)]) (Ev.step (f := fun _ => some (decide ((s.size : Int) < (t.size : Int)))) (fun k => by rw [rowlockref01_less.j2, if_neg (by decide)]) (Ev.val (Ev.now _) ?_))
    by_cases h2 : i < t.size
    · rw [drop_bt t i h2, decide_eq_true (by omega)]
      rfl
    · rw [List.drop_of_length_le (by rw [bytesOf_length]; omega), decide_eq_false (by omega)]
      rfl
  | m + 1, i, h, hi => by
    rw [drop_bt s i (by omega)]
    by_cases h2 : i < t.size
    · rw [drop_bt t i h2, KeyM.ltL]
      refine Ev.step (fun k => by rw [rowlockref01_less.l0, if_pos (by omega), decide_eq_true (by omega)]) (Ev.step (fun k => by rw [rowlockref01_less.j2, if_pos rfl, if_pos (by omega), if_pos (by omega), if_pos (by omega)]) ?_)
      by_cases he : bt s (i : Int) = bt t (i : Int)
      · rw [if_neg (by omega), if_neg (by omega)]
        refine Ev.congr (fun k => by rw [if_pos he, wr_s i s.size (by omega) (by omega)]) (eText k1 n1 k2 n2 s t hs ht m (i + 1) (by omega) (by omega))
      · refine Ev.congr (fun k => if_neg he) (Ev.val (Ev.now _) ?_)
        by_cases hl : bt s (i : Int) < bt t (i : Int)
        · rw [if_pos hl, decide_eq_true hl]
        · rw [if_neg hl, if_pos (by omega), decide_eq_false hl]
    · rw [List.drop_of_length_le (l := bytesOf t) (by rw [bytesOf_length]; omega)]
      exact Ev.step (fun k => by rw [rowlockref01_less.l0, if_pos (by omega), decide_eq_false (by omega)]) (Ev.step (f := fun _ => some (decide ((s.size : Int) < (t.size : Int)))) (fun k => by rw [rowlockref01_less.j2, if_neg (by decide)]) (Ev.val (Ev.now _) (by rw [decide_eq_false (by omega)]; rfl)))
theorem ok_k {x : S34} (h : (toV x).ok) : 0 ≤ x.f0 ∧ x.f0 ≤ 3 := by
  obtain ⟨k, n, t⟩ := x
  simp only [toV, KeyM.V.ok] at h ⊢
  omega
theorem ok_t {x : S34} (h : (toV x).ok) : x.f2.size ≤ 48 := by
  obtain ⟨k, n, t⟩ := x
  simp only [toV, KeyM.V.ok] at h ⊢
  rw [← bytesOf_length]
  rcases h with h | h | h | h
  · rw [h.2.2]; simp
  · rw [h.2.1]; simp
  · rw [h.2.1]; simp
  · exact h.2.2.1
theorem eLess (x y : S34) (hx : (toV x).ok) (hy : (toV y).ok) : Ev (fun k => rowlockref01_Less.f k x.f0 x.f1 x.f2 y.f0 y.f1 y.f2) (decide ((toV x).lt (toV y))) := by
  have kx := ok_k hx
  have ky := ok_k hy
  have tx := ok_t hx
  have ty := ok_t hy
  refine Ev.congr (fun k => by rw [rowlockref01_Less.f, if_neg (by omega)]) (Ev.step (fun k => by rw [rowlockref01_Less.j0, if_neg (by omega)]) ?_)
  have hlt : (toV x).lt (toV y) ↔ (x.f0 < y.f0 ∨ (x.f0 = y.f0 ∧ (((x.f0 = 1 ∨ x.f0 = 2) ∧ x.f1 < y.f1) ∨ (x.f0 = 3 ∧ KeyM.ltL (bytesOf x.f2) (bytesOf y.f2) = true)))) := Iff.rfl
  by_cases he : x.f0 = y.f0
  · have fin : ∀ {b : Bool}, (b = true ↔ (toV x).lt (toV y)) → b = decide ((toV x).lt (toV y)) := fun h => by rw [Bool.eq_iff_iff, decide_eq_true_iff]; exact h
    have hid : ∀ t : Bool, (some t).bind (fun t122 => some t122) = some t := fun t => rfl
    refine Ev.congr (fun k => if_pos he) (bind_ev (a := decide ((toV x).lt (toV y))) ?_ (Ev.now _))
    by_cases h1 : x.f0 = 1
    · refine Ev.congr (fun k => by rw [rowlockref01_less.f, if_pos h1]) (Ev.step (f := fun _ => some (decide (x.f1 < y.f1))) (fun k => by rw [rowlockref01_less.j0, if_pos rfl]) (Ev.val (Ev.now _) (fin ?_)))
      rw [decide_eq_true_iff, hlt]
      omega
    · by_cases h2 : x.f0 = 2
      · refine Ev.congr (fun k => by rw [rowlockref01_less.f, if_neg h1, beq_iff_eq.2 h2]) (Ev.step (f := fun _ => some (decide (x.f1 < y.f1))) (fun k => by rw [rowlockref01_less.j0, if_pos rfl]) (Ev.val (Ev.now _) (fin ?_)))
        rw [decide_eq_true_iff, hlt]
        omega
      · refine Ev.congr (fun k => by rw [rowlockref01_less.f, if_neg h1, beq_eq_false_iff_ne.2 h2]) ?_
        by_cases h3 : x.f0 = 3
        · refine Ev.step (f := fun k => rowlockref01_less.l0 k ((0 : Nat) : Int) x.f0 x.f1 x.f2 y.f0 y.f1 y.f2) (fun k => by rw [rowlockref01_less.j0, if_neg (by decide), if_pos h3]; rfl) (Ev.val (eText x.f0 x.f1 y.f0 y.f1 x.f2 y.f2 (by omega) (by omega) x.f2.size 0 (by omega) (by omega)) (fin ?_))
          rw [hlt, List.drop_zero, List.drop_zero]
          constructor
          · exact fun h => .inr ⟨he, .inr ⟨h3, h⟩⟩
          · rintro (h | ⟨_, h | h⟩)
            · omega
            · omega
            · exact h.2
        · refine Ev.step (f := fun _ => some false) (fun k => by rw [rowlockref01_less.j0, if_neg (by decide), if_neg h3]) (Ev.val (Ev.now _) (fin ?_))
          rw [hlt]
          constructor
          · intro h; cases h
          · rintro (h | ⟨_, h | h⟩)
            · omega
            · omega
            · exact absurd h.1 h3
  · refine Ev.congr (fun k => if_neg he) (Ev.val (Ev.now _) ?_)
    rw [Bool.eq_iff_iff, decide_eq_true_iff, decide_eq_true_iff, hlt]
    exact ⟨fun h => .inl h, fun h => h.elim id (fun h => absurd h.1 he)⟩
def cmpV (v w : KeyM.V) : Int := if v.lt w then -1 else if w.lt v then 1 else 0
theorem eCmp (x y : S34) (hx : (toV x).ok) (hy : (toV y).ok) : Ev (fun k => rowlockref01_Compare.f k x.f0 x.f1 x.f2 y.f0 y.f1 y.f2) (cmpV (toV x) (toV y)) := by
  refine bind_ev (eLess x y hx hy) ?_
  rw [cmpV]
  by_cases h1 : (toV x).lt (toV y)
  · rw [if_pos h1, decide_eq_true h1]
    exact Ev.congr (fun k => if_pos rfl) (Ev.now _)
  · rw [if_neg h1, decide_eq_false h1]
    refine Ev.congr (fun k => if_neg (by decide)) (bind_ev (eLess y x hy hx) ?_)
    by_cases h2 : (toV y).lt (toV x)
    · rw [if_pos h2, decide_eq_true h2]
      exact Ev.congr (fun k => if_pos rfl) (Ev.now _)
    · rw [if_neg h2, decide_eq_false h2]
      exact Ev.congr (fun k => if_neg (by decide)) (Ev.now _)
theorem drop_rd (l : List S34) (i : Nat) (h : i < l.length) : l.drop i = rd_T34 l (i : Int) :: l.drop (i + 1) := by rw [rd_at l i h, List.drop_eq_getElem_cons h]
def rowsR (a b : List S34) : Int := KeyM.rows (a.map toV) (b.map toV)
theorem eRows (a b : List S34) (ha : ∀ x ∈ a, (toV x).ok) (hb : ∀ x ∈ b, (toV x).ok) (hl : a.length ≤ 1000000) : Ev (fun k => rowlockref01_Rows.f k a b []) (rowsR a b) := by
  have key : ∀ (m i : Nat), i + m = a.length → i ≤ b.length → Ev (fun k => rowlockref01_Rows.l0 k a b [] (a.length : Int) (i : Int)) (rowsR (a.drop i) (b.drop i)) := by
    intro m
    induction m with
    | zero =>
      intro i h hi
      rw [List.drop_of_length_le (l := a) (by omega)]
      by_cases h2 : i < b.length
      · rw [drop_rd b i h2]
        exact Ev.step (f := fun _ => some (-1)) (fun k => by rw [rowlockref01_Rows.l0, if_neg (by omega), if_pos (by omega)]) (Ev.now _)
      · rw [List.drop_of_length_le (by omega)]
        exact Ev.step (f := fun _ => some 0) (fun k => by rw [rowlockref01_Rows.l0, if_neg (by omega), if_neg (by omega)]) (Ev.now _)
    | succ m ih =>
      intro i h hi
      rw [drop_rd a i (by omega)]
      by_cases h2 : i < b.length
      · rw [drop_rd b i h2]
        have hx := ha (rd_T34 a (i : Int)) (by rw [rd_at a i (by omega)]; exact List.getElem_mem _)
        have hy := hb (rd_T34 b (i : Int)) (by rw [rd_at b i (by omega)]; exact List.getElem_mem _)
        refine Ev.step (fun k => by rw [rowlockref01_Rows.l0, if_pos (by omega), if_neg (by omega), if_pos (by omega), if_pos (by omega), if_pos (by omega)]) (bind_ev (eCmp _ _ hx hy) ?_)
        rw [rowsR, List.map_cons, List.map_cons, KeyM.rows, cmpV]
        by_cases h3 : (toV (rd_T34 a (i : Int))).lt (toV (rd_T34 b (i : Int)))
        · rw [if_pos h3, if_pos h3]
          exact Ev.congr (fun k => by rw [if_neg (by decide), if_neg (by simp)]) (Ev.now _)
        · rw [if_neg h3, if_neg h3]
          by_cases h4 : (toV (rd_T34 b (i : Int))).lt (toV (rd_T34 a (i : Int)))
          · rw [if_pos h4, if_pos h4]
            exact Ev.congr (fun k => by rw [if_neg (by decide), if_neg (by simp)]) (Ev.now _)
          · rw [if_neg h4, if_neg h4]
            exact Ev.congr (fun k => by rw [if_pos rfl, wr_s i a.length (by omega) (by omega)]) (ih (i + 1) (by omega) (by omega))
      · rw [List.drop_of_length_le (l := b) (by omega)]
        exact Ev.step (f := fun _ => some 1) (fun k => by rw [rowlockref01_Rows.l0, if_pos (by omega), if_pos (by omega)]) (Ev.now _)
  exact key a.length 0 (by omega) (by omega)
end Go.Proofs.YthkanebmkeamlaaDoor.Pk
namespace Go.Proofs.YthkanebmkeamlaaDoor.Pk
open Go.RowKit Go.Proofs.YthkanebmkeamlaaDoorW.PrintWords Go.Proofs.YthkanebmkeamlaaDoor.XKey Go.Proofs.YthkanebmkeamlaaDoor.Ky Go.Proofs.YthkanebmkeamlaaDoor.Byt
set_option linter.unusedVariables false
set_option linter.unusedSimpArgs false
theorem fixed_f : rowlocklaw05_fixed.f = some true := by decide +kernel
theorem be_by : ∀ (k : Nat) (n : Int), By (KeyM.be k n)
  | 0, n => by intro c hc; cases hc
  | k + 1, n => by
    intro c hc
    rw [KeyM.be] at hc
    rcases List.mem_append.1 hc with h | h
    · exact be_by k _ c h
    · obtain rfl := List.mem_singleton.1 h
      omega
theorem esc_by : ∀ (t : List Int), By t → By (KeyM.esc t)
  | [], h => by intro c hc; cases hc
  | x :: t, h => by
    intro c hc
    have h1 := h x (List.mem_cons_self ..)
    have h2 := esc_by t (fun y hy => h y (List.mem_cons_of_mem _ hy))
    rw [KeyM.esc] at hc
    split at hc
    · rcases List.mem_cons.1 hc with e | hc
      · omega
      · rcases List.mem_cons.1 hc with e | hc
        · omega
        · exact h2 c hc
    · rcases List.mem_cons.1 hc with e | hc
      · omega
      · exact h2 c hc
theorem one_by (v : KeyM.V) (h : v.ok) : By (KeyM.one v) := by
  intro c hc
  rw [KeyM.one] at hc
  rcases List.mem_cons.1 hc with e | hc
  · rcases h with h | h | h | h <;> omega
  · split at hc
    · exact be_by _ _ c hc
    · split at hc
      · obtain rfl := List.mem_singleton.1 hc
        omega
      · split at hc
        · rename_i h1 h2 h3
          rcases List.mem_append.1 hc with hc | hc
          · refine esc_by v.t ?_ c hc
            rcases h with h | h | h | h
            · omega
            · omega
            · omega
            · exact h.2.2.2
          · simp only [List.mem_cons, List.not_mem_nil, or_false] at hc
            omega
        · cases hc
theorem key_by (l : List S34) (h : ∀ x ∈ l, (toV x).ok) : By (KeyM.key (l.map toV)) := by
  intro c hc
  rw [KeyM.key, List.mem_flatMap] at hc
  obtain ⟨v, hv, hc⟩ := hc
  obtain ⟨x, hx, rfl⟩ := List.mem_map.1 hv
  exact one_by _ (h x hx) c hc
def KS (l : List S34) : ByteArray := strOfNums (KeyM.key (l.map toV))
theorem KS_bytes (l : List S34) (h : ∀ x ∈ l, (toV x).ok) : bytesOf (KS l) = KeyM.key (l.map toV) := bytes_str (key_by l h)
theorem put_f (l : List S34) (hl : l.length ≤ 10000) (hr : ∀ x ∈ l, rng x) (h : ∀ x ∈ l, (toV x).ok) : keycode_Put.f l = some (KS l, 0) := by
  rw [keycode_Put.f, if_pos ⟨hl, hr⟩, putR, if_pos h]
  rfl
theorem V_ok {l : List S34} (h : ∀ x ∈ l, (toV x).ok) : ∀ v ∈ l.map toV, v.ok := by
  intro v hv
  obtain ⟨x, hx, rfl⟩ := List.mem_map.1 hv
  exact h x hx
theorem KS_less (a b : List S34) (ha : ∀ x ∈ a, (toV x).ok) (hb : ∀ x ∈ b, (toV x).ok) : Op.bytesLess (KS a).toList (KS b).toList = decide (rowsR a b < 0) := by
  have h := KeyM.key_order (a.map toV) (b.map toV) (V_ok ha) (V_ok hb)
  rw [str_less, KS_bytes a ha, KS_bytes b hb, Bool.eq_iff_iff, h.1, decide_eq_true_iff, rowsR]
  have := h.2.2
  omega
theorem KS_same (a b : List S34) (ha : ∀ x ∈ a, (toV x).ok) (hb : ∀ x ∈ b, (toV x).ok) : ((KS a).toList == (KS b).toList) = (rowsR a b == 0) := by
  have h := KeyM.key_order (a.map toV) (b.map toV) (V_ok ha) (V_ok hb)
  rw [Bool.eq_iff_iff, beq_iff_eq, beq_iff_eq, list_eq, rowsR, ← h.2.1]
  constructor
  · intro e
    rw [← KS_bytes a ha, ← KS_bytes b hb, e]
  · intro e
    apply bytes_inj
    rw [KS_bytes a ha, KS_bytes b hb, e]
theorem KS_begins (a b : List S34) (ha : ∀ x ∈ a, (toV x).ok) (hb : ∀ x ∈ b, (toV x).ok) : rowlockref05_Begins.f (KS a) (KS b) = some (decide (a.length ≤ b.length ∧ rowsR a (b.take a.length) = 0)) := by
  rw [begins, KS_bytes a ha, KS_bytes b hb]
  congr 1
  have := KeyM.key_begins (a.map toV) (b.map toV) (V_ok ha) (V_ok hb)
  rw [List.length_map, List.length_map, ← List.map_take] at this
  rw [Bool.eq_iff_iff, decide_eq_true_iff, decide_eq_true_iff, this, rowsR]
theorem Order (l0 l1 : List S34) (r0 : ∀ x ∈ l0, rng x) (r1 : ∀ x ∈ l1, rng x) (n0 : l0.length ≤ 9223372036854775807) (n1 : l1.length ≤ 9223372036854775807) : Ev (fun k => rowlocklaw05_KeycodeOrder.f k l0 l1) true := by
  have hT : Ev (fun k => rowlocklaw05_KeycodeOrder.j0 k l0 l1 true) true := Ev.step (f := fun _ => some true) (fun k => by rw [rowlocklaw05_KeycodeOrder.j0, if_pos rfl, fixed_f]; rfl) (Ev.now _)
  obtain ⟨g0, e0, q0⟩ := eGreat l0 n0
  obtain ⟨g1, e1, q1⟩ := eGreat l1 n1
  refine bind_ev e0 ?_
  cases g0
  case true => exact Ev.congr (fun k => if_pos rfl) hT
  replace q0 := q0 rfl
  refine Ev.congr (fun k => if_neg (by decide)) (bind_ev e1 ?_)
  cases g1
  case true => exact Ev.congr (fun k => if_pos rfl) hT
  replace q1 := q1 rfl
  refine Ev.congr (fun k => if_neg (by decide)) (bind_ev (eMay l0 r0 (by omega)) ?_)
  by_cases o0 : ∀ x ∈ l0, (toV x).ok
  case neg => rw [decide_eq_false o0]; exact Ev.congr (fun k => if_neg (by decide)) hT
  rw [decide_eq_true o0]
  refine Ev.congr (fun k => if_pos rfl) (bind_ev (eMay l1 r1 (by omega)) ?_)
  by_cases o1 : ∀ x ∈ l1, (toV x).ok
  case neg => rw [decide_eq_false o1]; exact hT
  rw [decide_eq_true o1]
  refine Ev.step (fun k => by rw [rowlocklaw05_KeycodeOrder.j0, if_neg (by decide), put_f l0 (by omega) r0 o0, put_f l1 (by omega) r1 o1, Option.bind_some, Option.bind_some]) (bind_ev (eRows l0 l1 o0 o1 (by omega)) ?_)
  refine Ev.congr (fun k => by rw [KS_less l0 l1 o0 o1, KS_same l0 l1 o0 o1, bne_self_eq_false, bne_self_eq_false, if_neg (by decide)]) ?_
  by_cases hl : l0.length ≤ l1.length
  · have hm : mn (l0.length : Int) (l1.length : Int) = (l0.length : Int) := by unfold mn; split <;> omega
    refine Ev.step (fun k => by rw [rowlocklaw05_KeycodeOrder.j1, if_neg (by decide), if_pos (by omega), hm, if_pos (by omega), if_pos (by omega), Int.toNat_natCast]) (bind_ev (eRows l0 (l1.take l0.length) o0 (fun x hx => o1 x (List.mem_of_mem_take hx)) (by omega)) ?_)
    refine Ev.congr (fun k => by rw [fixed_f, Option.bind_some, if_pos rfl, KS_begins l0 l1 o0 o1, Option.bind_some]) (Ev.val (Ev.now _) ?_)
    rw [beq_iff_eq, Bool.eq_iff_iff, decide_eq_true_iff, beq_iff_eq]
    exact ⟨fun h => h.2, fun h => ⟨hl, h⟩⟩
  · refine Ev.step (f := fun _ => some true) (fun k => by rw [rowlocklaw05_KeycodeOrder.j1, if_neg (by decide), if_neg (by omega), fixed_f, Option.bind_some, if_pos rfl, KS_begins l0 l1 o0 o1, Option.bind_some, decide_eq_false (fun h => hl h.1)]; rfl) (Ev.now _)
theorem Least (a0 : Int) (l1 : List S34) (ha : 0 ≤ a0 ∧ a0 ≤ 255) (r1 : ∀ x ∈ l1, rng x) (n1 : l1.length ≤ 9223372036854775807) : Ev (fun k => rowlocklaw05_KeycodeLeast.f k a0 l1) true := by
  have hT : Ev (fun k => rowlocklaw05_KeycodeLeast.j1 k l1 true) true := Ev.step (f := fun _ => some true) (fun k => by rw [rowlocklaw05_KeycodeLeast.j1, if_pos rfl, fixed_f]; rfl) (Ev.now _)
  have main : ∀ t : ByteArray, keycode_Least.f a0 = some t → Ev (fun k => rowlocklaw05_KeycodeLeast.j0 k a0 l1 t) true := by
    intro t ht
    obtain ⟨g1, e1, q1⟩ := eGreat l1 n1
    refine Ev.step (fun k => by rw [rowlocklaw05_KeycodeLeast.j0, ht, Option.bind_some, if_pos rfl]) (bind_ev e1 ?_)
    cases g1
    case true => exact Ev.congr (fun k => if_pos rfl) hT
    replace q1 := q1 rfl
    refine Ev.congr (fun k => if_neg (by decide)) (bind_ev (eMay l1 r1 (by omega)) ?_)
    by_cases o1 : ∀ x ∈ l1, (toV x).ok
    case neg => rw [decide_eq_false o1]; exact Ev.congr (fun k => if_neg (by decide)) hT
    rw [decide_eq_true o1]
    refine Ev.congr (fun k => if_pos rfl) ?_
    cases l1 with
    | nil => exact hT
    | cons x l =>
      have hb : (((x :: l).length : Int) == 0) = false := by rw [beq_eq_false_iff_ne, List.length_cons]; omega
      rw [hb]
      have ok := o1 x (List.mem_cons_self ..)
      have kx := ok_k ok
      have hL : keycode_Least.f x.f0 = some (strOfNums [x.f0 + 1]) := least_is x.f0 kx rfl
      refine Ev.step (f := fun _ => some true) (fun k => by
        rw [rowlocklaw05_KeycodeLeast.j1, if_neg (by decide), put_f _ (by omega) r1 o1, Option.bind_some, fixed_f, Option.bind_some, if_pos rfl, if_pos (by rw [List.length_cons]; omega), show rd_T34 (x :: l) 0 = x from rfl, hL, Option.bind_some, begins, KS_bytes _ o1, bytes_str (by intro c hc; obtain rfl := List.mem_singleton.1 hc; omega), Option.bind_some]
        congr 1
        rw [decide_eq_true_iff, List.map_cons, KeyM.key_cons, KeyM.one]
        exact ⟨_, rfl⟩) (Ev.now _)
  rw [show (fun k => rowlocklaw05_KeycodeLeast.f k a0 l1) = fun k => if a0 < 4 then (rowlocklaw05_KeycodeLeast.j0 k a0 l1 (strOfNums (([(a0 + 1) % 256] : List Int)))) else (rowlocklaw05_KeycodeLeast.j0 k a0 l1 (⟨#[5]⟩ : ByteArray)) from rfl]
  by_cases h : a0 < 4
  · exact Ev.congr (fun k => if_pos h) (main _ (by rw [keycode_Least.f, show mn a0 4 = a0 by unfold mn; split <;> omega]))
  · exact Ev.congr (fun k => if_neg h) (main _ (by rw [keycode_Least.f, show mn a0 4 = 4 by unfold mn; split <;> omega]; rfl))
end Go.Proofs.YthkanebmkeamlaaDoor.Pk
namespace Go.Proofs.YthkanebmkeamlaaDoor.Pk
open Go.RowKit Go.Proofs.YthkanebmkeamlaaDoorW.PrintWords Go.Proofs.YthkanebmkeamlaaDoor.XKey Go.Proofs.YthkanebmkeamlaaDoor.Ky Go.Proofs.YthkanebmkeamlaaDoor.Byt
set_option linter.unusedVariables false
set_option linter.unusedSimpArgs false
def ints (l : List UInt8) : List Int := l.map fun b => (b.toNat : Int)
theorem ints_app (a b : List UInt8) : ints (a ++ b) = ints a ++ ints b := List.map_append ..
theorem ints_cons (c : UInt8) (l : List UInt8) : ints (c :: l) = (c.toNat : Int) :: ints l := rfl
theorem ints_len (l : List UInt8) : (ints l).length = l.length := List.length_map ..
theorem ints_inj : ∀ {a b : List UInt8}, ints a = ints b → a = b
  | [], [], h => rfl
  | [], _ :: _, h => by cases h
  | _ :: _, [], h => by cases h
  | x :: a, y :: b, h => by
    rw [ints_cons, ints_cons, List.cons.injEq] at h
    rw [ints_inj h.2, UInt8.toNat_inj.1 (by omega : x.toNat = y.toNat)]
theorem bytes_ints (t : ByteArray) : bytesOf t = ints t.data.toList := bytes_map t
theorem bst_bytes (l : List UInt8) : bytesOf (bst l) = ints l := by rw [bytes_ints]; simp [bst]
/-! ### the number -/
def numL (r : List UInt8) : Nat → Int
  | 0 => 0
  | i + 1 => numL r i * 256 + (r.getD i 0).toNat
theorem getD_rng (r : List UInt8) (i : Nat) : ((r.getD i 0).toNat : Int) < 256 := by have := (r.getD i 0).toNat_lt; omega
theorem numL_rng (r : List UInt8) : ∀ i, 0 ≤ numL r i ∧ numL r i < 256 ^ i
  | 0 => by simp [numL]
  | i + 1 => by
    have h := numL_rng r i
    have h2 := getD_rng r i
    rw [numL, Int.pow_succ]
    omega
theorem be_numL (r : List UInt8) : ∀ i, i ≤ r.length → KeyM.be i (numL r i) = ints (r.take i)
  | 0, h => by simp [KeyM.be, ints]
  | i + 1, h => by
    have h2 := getD_rng r i
    rw [KeyM.be, numL, show (numL r i * 256 + ((r.getD i 0).toNat : Int)) / 256 = numL r i by omega, show (numL r i * 256 + ((r.getD i 0).toNat : Int)) % 256 = ((r.getD i 0).toNat : Int) by omega, be_numL r i (by omega), List.take_succ_eq_append_getElem (by omega), ints_app, List.getD_eq_getElem?_getD, List.getElem?_eq_getElem (by omega)]
    rfl
theorem be_inj : ∀ (k : Nat) (x y : Int), 0 ≤ x → x < 256 ^ k → 0 ≤ y → y < 256 ^ k → KeyM.be k x = KeyM.be k y → x = y
  | 0, x, y, h0, h1, h2, h3, h => by rw [Int.pow_zero] at h1 h3; omega
  | k + 1, x, y, h0, h1, h2, h3, h => by
    rw [KeyM.be, KeyM.be] at h
    rw [Int.pow_succ] at h1 h3
    have h4 := List.append_inj' h rfl
    have h5 := be_inj k (x / 256) (y / 256) (by omega) (by omega) (by omega) (by omega) h4.1
    have h6 : x % 256 = y % 256 := by simpa using h4.2
    omega
/-! ### one value -/
def zS : S34 := ⟨0, 0, ⟨#[]⟩⟩
def boolL : List UInt8 → S34 × List UInt8 × Int
  | [] => (zS, [], 3)
  | c :: r2 => if 1 < c.toNat then (zS, [], 2) else (⟨2, c.toNat, ⟨#[]⟩⟩, r2, 0)
def valL : List UInt8 → S34 × List UInt8 × Int
  | [] => (zS, [], 6)
  | b :: r => if b.toNat = 1 then (zS, r, 0) else if b.toNat = 2 then (if r.length < 8 then (zS, [], 3) else (⟨1, numL r 8 - 9223372036854775808, ⟨#[]⟩⟩, r.drop 8, 0)) else if b.toNat = 3 then (boolL r) else if b.toNat = 4 then (⟨3, 0, bst (txt r []).1⟩, (txt r []).2.1, (txt r []).2.2) else (zS, [], 6)
theorem txt_len : ∀ (s out : List UInt8), (txt s out).2.1.length ≤ s.length
  | [], out => by simp [txt]
  | [c], out => by simp [txt]
  | c :: d :: r, out => by
    have h1 := txt_len r (out ++ [0])
    have h2 := txt_len (d :: r) (out ++ [c])
    rw [txt]
    split
    · split
      · split <;> simp only [List.length_cons, List.length_nil] <;> omega
      · split
        · simp only [List.length_cons]; omega
        · simp
    · simp only [List.length_cons] at h2 ⊢; omega
theorem valL_len (b : UInt8) (r : List UInt8) : (valL (b :: r)).2.1.length ≤ r.length := by
  rw [valL]
  split
  · exact Nat.le_refl _
  · split
    · split
      · simp
      · simp
    · split
      · cases r with
        | nil => simp [boolL]
        | cons c r2 =>
          rw [boolL]
          split
          · simp
          · simp
      · split
        · exact txt_len r []
        · simp
theorem txt_back : ∀ (s out : List UInt8) {t r : List UInt8}, txt s out = (t, r, 0) → ∃ u, t = out ++ u ∧ ints s = KeyM.esc (ints u) ++ [0, 1] ++ ints r ∧ t.length ≤ 48
  | [], out, t, r, h => by rw [txt] at h; cases h
  | [c], out, t, r, h => by rw [txt] at h; cases h
  | c :: d :: s, out, t, r, h => by
    rw [txt] at h
    split at h
    · rename_i hc
      subst hc
      split at h
      · rename_i hd
        subst hd
        split at h
        · cases h
        · cases h
          exact ⟨[], by simp, rfl, by omega⟩
      · split at h
        · rename_i hd
          subst hd
          obtain ⟨u, e1, e2, e3⟩ := txt_back s _ h
          refine ⟨0 :: u, by rw [e1, List.append_assoc]; rfl, ?_, e3⟩
          rw [ints_cons, ints_cons, e2]
          rfl
        · cases h
    · rename_i hc
      obtain ⟨u, e1, e2, e3⟩ := txt_back (d :: s) _ h
      refine ⟨c :: u, by rw [e1, List.append_assoc]; rfl, ?_, e3⟩
      have hn : (c.toNat : Int) ≠ 0 := fun e => hc (UInt8.toNat_inj.1 (by simpa using e))
      rw [ints_cons, e2, ints_cons, KeyM.esc, if_neg hn]
      rfl
theorem esc_cons (x : Int) (t : List Int) : KeyM.esc (x :: t) = if x = 0 then 0 :: 255 :: KeyM.esc t else x :: KeyM.esc t := by rw [KeyM.esc]
theorem esc_ne (u : List Int) (r : List Int) : ∃ d w, KeyM.esc u ++ [0, 1] ++ r = d :: w := by
  cases u with
  | nil => exact ⟨_, _, rfl⟩
  | cons x u => rw [esc_cons]; split <;> exact ⟨_, _, rfl⟩
theorem txt_fwd : ∀ (u : List UInt8) (s out r : List UInt8), ints s = KeyM.esc (ints u) ++ [0, 1] ++ ints r → out.length + u.length ≤ 48 → txt s out = (out ++ u, r, 0)
  | [], s, out, r, h, hl => by
    have e : s = 0 :: 1 :: r := ints_inj (by rw [h]; rfl)
    rw [e, txt_zero, if_pos rfl, if_neg (by simp only [List.length_nil] at hl; omega), List.append_nil]
  | c :: u, s, out, r, h, hl => by
    rw [List.length_cons] at hl
    by_cases hc : c = 0
    · subst hc
      rw [ints_cons, show (((0 : UInt8).toNat : Nat) : Int) = 0 from rfl, esc_cons, if_pos rfl] at h
      match s, h with
      | x :: y :: s, h =>
        rw [ints_cons, ints_cons] at h
        simp only [List.cons_append, List.cons.injEq] at h
        have hx : x = 0 := UInt8.toNat_inj.1 (by simpa using h.1)
        have hy : y = 255 := UInt8.toNat_inj.1 (by have := h.2.1; simp; omega)
        subst hx hy
        rw [txt_zero, if_neg (by decide), if_pos rfl, txt_fwd u s (out ++ [0]) r h.2.2 (by simp only [List.length_append, List.length_singleton]; omega), List.append_assoc]
        rfl
      | [x], h => simp [ints] at h
      | [], h => simp [ints] at h
    · have hn : (c.toNat : Int) ≠ 0 := fun e => hc (UInt8.toNat_inj.1 (by simpa using e))
      rw [ints_cons, esc_cons, if_neg hn] at h
      obtain ⟨d, w, hd⟩ := esc_ne (ints u) (ints r)
      match s, h with
      | x :: y :: s, h =>
        rw [ints_cons] at h
        simp only [List.cons_append, List.cons.injEq] at h
        have hx : x = c := UInt8.toNat_inj.1 (by have := h.1; omega)
        subst hx
        rw [txt, if_neg hc, txt_fwd u (y :: s) (out ++ [x]) r (by simpa using h.2) (by simp only [List.length_append, List.length_singleton]; omega), List.append_assoc]
        rfl
      | [x], h =>
        have := congrArg List.length h
        have h2 := congrArg List.length hd
        simp [ints] at this h2
      | [], h => simp [ints] at h
theorem val_back {s : List UInt8} {v : S34} {r : List UInt8} (h : valL s = (v, r, 0)) : (toV v).ok ∧ rng v ∧ ints s = KeyM.one (toV v) ++ ints r := by
  match s, h with
  | [], h => simp [valL] at h
  | b :: q, h =>
    rw [valL] at h
    split at h
    · rename_i hb
      cases h
      refine ⟨.inl ⟨rfl, rfl, rfl⟩, by decide, ?_⟩
      rw [ints_cons, hb]; rfl
    · split at h
      · rename_i hb
        split at h
        · cases h
        · rename_i hq
          cases h
          have hr := numL_rng q 8
          have hr2 : numL q 8 < 18446744073709551616 := hr.2
          refine ⟨.inr (.inl ⟨rfl, rfl, by show _ ≤ numL q 8 - 9223372036854775808; omega, by show numL q 8 - 9223372036854775808 ≤ _; omega⟩), ⟨(by decide : (0 : Int) ≤ 1), (by decide : (1 : Int) ≤ 255), by show _ ≤ numL q 8 - 9223372036854775808; omega, by show numL q 8 - 9223372036854775808 ≤ _; omega⟩, ?_⟩
          have e : KeyM.one (toV ⟨1, numL q 8 - 9223372036854775808, ⟨#[]⟩⟩) = 2 :: KeyM.be 8 (numL q 8 - 9223372036854775808 + 9223372036854775808) := rfl
          rw [e, show numL q 8 - 9223372036854775808 + 9223372036854775808 = numL q 8 by omega, be_numL q 8 (by omega), ints_cons, hb, List.cons_append, ← ints_app, List.take_append_drop]
          rfl
      · split at h
        · rename_i hb
          match q, h with
          | [], h => rw [boolL] at h; cases h
          | c :: q, h =>
            rw [boolL] at h
            split at h
            · cases h
            · rename_i hc
              cases h
              refine ⟨.inr (.inr (.inl ⟨rfl, rfl, by show (0 : Int) ≤ (c.toNat : Int); omega, by show (c.toNat : Int) ≤ 1; omega⟩)), ⟨(by decide : (0 : Int) ≤ 2), (by decide : (2 : Int) ≤ 255), by show _ ≤ (c.toNat : Int); omega, by show (c.toNat : Int) ≤ _; omega⟩, ?_⟩
              have e : KeyM.one (toV ⟨2, (c.toNat : Int), ⟨#[]⟩⟩) = [3, (c.toNat : Int) % 256] := rfl
              rw [e, ints_cons, ints_cons, hb, Int.emod_eq_of_lt (by omega) (by omega)]
              rfl
        · split at h
          · rename_i hb
            simp only [Prod.mk.injEq] at h
            obtain ⟨rfl, h2, h3⟩ := h
            obtain ⟨u, e1, e2, e3⟩ := txt_back q [] (t := (txt q []).1) (r := r) (by rw [← h2, ← h3])
            have e4 : bytesOf (bst (txt q []).1) = ints u := by rw [bst_bytes, e1]; rfl
            have e5 : toV ⟨3, 0, bst (txt q []).1⟩ = ⟨3, 0, ints u⟩ := by rw [toV, e4]
            rw [e5]
            refine ⟨.inr (.inr (.inr ⟨rfl, rfl, by rw [ints_len]; rw [e1] at e3; exact e3, ?_⟩)), ⟨(by decide : (0 : Int) ≤ 3), (by decide : (3 : Int) ≤ 255), (by decide : (-9223372036854775808 : Int) ≤ 0), (by decide : (0 : Int) ≤ 9223372036854775807)⟩, ?_⟩
            · rw [← e4]; exact bytes_rng _
            · have e : KeyM.one ⟨3, 0, ints u⟩ = 4 :: (KeyM.esc (ints u) ++ [0, 1]) := rfl
              rw [e, ints_cons, hb, e2]
              rfl
          · cases h
theorem nil_of {t : ByteArray} (h : bytesOf t = []) : t = ⟨#[]⟩ := bytes_inj (by rw [h]; rfl)
theorem val_fwd {s r : List UInt8} (x : S34) (ok : (toV x).ok) (h : ints s = KeyM.one (toV x) ++ ints r) : valL s = (x, r, 0) := by
  obtain ⟨k, n, t⟩ := x
  rw [KeyM.one, List.cons_append] at h
  match s, h with
  | [], h => cases h
  | b :: q, h =>
    rw [ints_cons, List.cons.injEq] at h
    obtain ⟨hb, hq⟩ := h
    have ok' : (k = 0 ∧ n = 0 ∧ bytesOf t = []) ∨ (k = 1 ∧ bytesOf t = [] ∧ -9223372036854775808 ≤ n ∧ n ≤ 9223372036854775807) ∨ (k = 2 ∧ bytesOf t = [] ∧ 0 ≤ n ∧ n ≤ 1) ∨ (k = 3 ∧ n = 0 ∧ (bytesOf t).length ≤ 48 ∧ ∀ c ∈ bytesOf t, 0 ≤ c ∧ c ≤ 255) := ok
    have hb' : (b.toNat : Int) = k + 1 := hb
    have hq' : ints q = (if k = 1 then KeyM.be 8 (n + 9223372036854775808) else if k = 2 then [n % 256] else if k = 3 then KeyM.esc (bytesOf t) ++ [0, 1] else []) ++ ints r := hq
    clear hb hq ok
    rw [valL]
    rcases ok' with ⟨rfl, rfl, ht⟩ | ⟨rfl, ht, hn⟩ | ⟨rfl, ht, hn⟩ | ⟨rfl, rfl, ht, hc⟩
    · rw [nil_of ht, if_pos (by omega), ints_inj hq']
      rfl
    · rw [if_pos rfl] at hq'
      have hl := congrArg List.length hq'
      rw [ints_len, List.length_append, KeyM.be_len, ints_len] at hl
      have h8 : q = q.take 8 ++ q.drop 8 := (List.take_append_drop ..).symm
      have h9 := List.append_inj (s₁ := ints (q.take 8)) (t₁ := ints (q.drop 8)) (s₂ := KeyM.be 8 (n + 9223372036854775808)) (t₂ := ints r) (by rw [← ints_app, List.take_append_drop]; exact hq') (by rw [ints_len, KeyM.be_len, List.length_take]; omega)
      have hr := numL_rng q 8
      have h10 := be_inj 8 (numL q 8) (n + 9223372036854775808) hr.1 hr.2 (by omega) (by show _ < (18446744073709551616 : Int); omega) (by rw [be_numL q 8 (by omega), h9.1])
      rw [nil_of ht, if_neg (by omega), if_pos (by omega), if_neg (by omega), h10, ints_inj h9.2, show n + 9223372036854775808 - 9223372036854775808 = n by omega]
    · rw [if_neg (by decide), if_pos rfl] at hq'
      match q, hq' with
      | [], hq' => cases hq'
      | c :: q, hq' =>
        rw [ints_cons, List.singleton_append, List.cons.injEq] at hq'
        have hc : (c.toNat : Int) = n := by have := hq'.1; omega
        rw [if_neg (by omega), if_neg (by omega), if_pos (by omega)]
        rw [boolL, if_neg (by omega), nil_of ht, hc, ints_inj hq'.2]
    · rw [if_neg (by decide), if_neg (by decide), if_pos rfl] at hq'
      rw [if_neg (by omega), if_neg (by omega), if_neg (by omega), if_pos (by omega)]
      have e := txt_fwd t.data.toList q [] r (by rw [← bytes_ints]; exact hq') (by rw [← ints_len t.data.toList, ← bytes_ints]; simpa using ht)
      rw [e, List.nil_append, bst_data]
/-! ### rows -/
def getL : Nat → List UInt8 → List S34 → List S34 × Int
  | 0, s, out => (out, 0)
  | m + 1, s, out => if s = [] then (out, 0) else if (valL s).2.2 = 0 then getL m (valL s).2.1 (out ++ [(valL s).1]) else ([], (valL s).2.2)
theorem one_ne (v : KeyM.V) : KeyM.one v ≠ [] := by rw [KeyM.one]; exact List.cons_ne_nil _ _
theorem get_fwd : ∀ (l : List S34) (m : Nat) (s : List UInt8) (out : List S34), (∀ x ∈ l, (toV x).ok) → ints s = KeyM.key (l.map toV) → s.length ≤ m → getL m s out = (out ++ l, 0)
  | [], m, s, out, h, hs, hm => by
    have e : s = [] := ints_inj hs
    subst e
    cases m <;> simp [getL]
  | x :: l, m, s, out, h, hs, hm => by
    rw [List.map_cons, KeyM.key_cons] at hs
    have hne : s ≠ [] := fun e => by
      subst e
      have := congrArg List.length hs
      rw [List.length_append] at this
      rw [ints_len, List.length_nil] at this
      have h2 : (KeyM.one (toV x)).length ≠ 0 := fun h => one_ne _ (List.eq_nil_of_length_eq_zero h)
      omega
    obtain ⟨m, rfl⟩ : ∃ m', m = m' + 1 := by
      cases m with
      | zero => exact absurd (List.eq_nil_of_length_eq_zero (by omega)) hne
      | succ m => exact ⟨m, rfl⟩
    have hd : ints (s.drop (KeyM.one (toV x)).length) = KeyM.key (l.map toV) := by
      rw [ints, List.map_drop]
      show (ints s).drop _ = _
      rw [hs, List.drop_left]
    have hv := val_fwd (s := s) (r := s.drop (KeyM.one (toV x)).length) x (h x (List.mem_cons_self ..)) (by rw [hd]; exact hs)
    have h2 : (KeyM.one (toV x)).length ≠ 0 := fun h => one_ne _ (List.eq_nil_of_length_eq_zero h)
    rw [getL, if_neg hne, hv, if_pos rfl]
    rw [get_fwd l m _ (out ++ [x]) (fun y hy => h y (List.mem_cons_of_mem _ hy)) hd (by rw [List.length_drop]; omega), List.append_assoc]
    rfl
theorem get_back : ∀ (m : Nat) (s : List UInt8) (out l : List S34), getL m s out = (l, 0) → s.length ≤ m → ∃ u, l = out ++ u ∧ (∀ x ∈ u, (toV x).ok ∧ rng x) ∧ ints s = KeyM.key (u.map toV) ∧ u.length ≤ s.length
  | 0, s, out, l, h, hm => by
    have e : s = [] := List.eq_nil_of_length_eq_zero (by omega)
    subst e
    cases h
    exact ⟨[], by simp, fun x hx => (by cases hx), rfl, Nat.le_refl _⟩
  | m + 1, s, out, l, h, hm => by
    rw [getL] at h
    split at h
    · rename_i e
      subst e
      cases h
      exact ⟨[], by simp, fun x hx => (by cases hx), rfl, Nat.le_refl _⟩
    · rename_i hne
      split at h
      · rename_i h0
        obtain ⟨b, q, rfl⟩ : ∃ b q, s = b :: q := by cases s with | nil => exact absurd rfl hne | cons b q => exact ⟨b, q, rfl⟩
        have hl := valL_len b q
        obtain ⟨u, e1, e2, e3, e4⟩ := get_back m _ _ l h (by rw [List.length_cons] at hm; omega)
        have hb := val_back (s := b :: q) (v := (valL (b :: q)).1) (r := (valL (b :: q)).2.1) (by rw [← h0])
        refine ⟨(valL (b :: q)).1 :: u, by rw [e1, List.append_assoc]; rfl, ?_, ?_, by simp only [List.length_cons]; omega⟩
        · intro x hx
          rcases List.mem_cons.1 hx with e | hx
          · rw [e]; exact ⟨hb.1, hb.2.1⟩
          · exact e2 x hx
        · rw [hb.2.2, e3, List.map_cons, KeyM.key_cons]
      · rename_i h0
        exact absurd (congrArg Prod.snd h) h0
end Go.Proofs.YthkanebmkeamlaaDoor.Pk
namespace Go.Proofs.YthkanebmkeamlaaDoor.Pk
open Go.RowKit Go.Proofs.YthkanebmkeamlaaDoorW.PrintWords Go.Proofs.YthkanebmkeamlaaDoor.XKey Go.Proofs.YthkanebmkeamlaaDoor.Ky Go.Proofs.YthkanebmkeamlaaDoor.Byt
set_option linter.unusedVariables false
set_option linter.unusedSimpArgs false
def Lx (s : ByteArray) : List UInt8 := s.data.toList
theorem Lx_len (s : ByteArray) : (Lx s).length = s.size := rfl
theorem ubt (s : ByteArray) (i : Nat) (h : i < s.size) : bt s (i : Int) = (((Lx s).getD i 0).toNat : Int) := by
  obtain ⟨h2, e⟩ := bt_at s i h
  have h3 : i < (Lx s).length := h
  rw [e, List.getD_eq_getElem?_getD, List.getElem?_eq_getElem h3]
  simp only [bytes_ints, ints, List.getElem_map]
  rfl
theorem Lx_drop (s : ByteArray) (i : Nat) (h : i < s.size) : (Lx s).drop i = (Lx s).getD i 0 :: (Lx s).drop (i + 1) := by
  have h3 : i < (Lx s).length := h
  rw [List.drop_eq_getElem_cons h3, List.getD_eq_getElem?_getD, List.getElem?_eq_getElem h3]
  rfl
theorem Lx_ext (s : ByteArray) (i : Nat) : Lx (s.extract i s.size) = (Lx s).drop i := by
  unfold Lx
  rw [ByteArray.data_extract, Array.toList_extract, List.extract_eq_take_drop, List.take_of_length_le]
  rw [List.length_drop]
  exact Nat.le_refl _
theorem or64 (a x : Int) (ha : 0 ≤ a) (ha2 : a < 72057594037927936) (h0 : 0 ≤ x) (h1 : x ≤ 255) : Go.bits .or .u64 (IntKind.u64.wrap (a * 256)) (IntKind.u64.wrap x) = a * 256 + x := by
  obtain ⟨b, rfl⟩ := Int.eq_ofNat_of_zero_le h0
  obtain ⟨m, rfl⟩ := Int.eq_ofNat_of_zero_le ha
  rw [u64_eq, u64_eq]
  have e1 : BitVec.ofInt 64 (((m : Nat) : Int) * 256 % 18446744073709551616) = BitVec.ofNat 64 (256 * m) := by
    apply BitVec.eq_of_toNat_eq
    rw [BitVec.toNat_ofInt, BitVec.toNat_ofNat]
    omega
  have e2 : BitVec.ofInt 64 (((b : Nat) : Int) % 18446744073709551616) = BitVec.ofNat 64 b := by
    apply BitVec.eq_of_toNat_eq
    rw [BitVec.toNat_ofInt, BitVec.toNat_ofNat]
    omega
  have e3 : 256 * m ||| b = 256 * m + b := (Nat.two_pow_add_eq_or_of_lt (i := 8) (by omega) m).symm
  simp only [Go.bits]
  rw [show IntKind.u64.bits = 64 from rfl, e1, e2, ← BitVec.ofNat_or, e3, BitVec.toNat_ofNat, u64_eq]
  omega
theorem pow56 : ∀ i : Nat, i ≤ 7 → (256 : Int) ^ i ≤ 72057594037927936 := by decide
theorem eNum (t : ByteArray) (kd n0 : Int) (t0 : ByteArray) (ht : 8 ≤ t.size) : Ev (fun k => keycode_value.l0 k t 0 0 kd n0 t0) (kd, numL (Lx t) 8 - 9223372036854775808, t0, t.extract 8 t.size, 0) := by
  have key : ∀ j i : Nat, i + j = 8 → Ev (fun k => keycode_value.l0 k t (numL (Lx t) i) (i : Int) kd n0 t0) (kd, numL (Lx t) 8 - 9223372036854775808, t0, t.extract 8 t.size, 0) := by
    intro j
    induction j with
    | zero =>
      intro i h
      obtain rfl : i = 8 := by omega
      have hr := numL_rng (Lx t) 8
      have hr2 : numL (Lx t) 8 < 18446744073709551616 := hr.2
      have hf := flipB (numL (Lx t) 8) ⟨hr.1, hr2⟩
      rw [w64_eq] at hf
      exact Ev.step (f := fun _ => some (kd, numL (Lx t) 8 - 9223372036854775808, t0, t.extract 8 t.size, 0)) (fun k => by rw [keycode_value.l0, if_neg (by omega), if_pos (by omega), hf]) (Ev.now _)
    | succ j ih =>
      intro i h
      have hr := numL_rng (Lx t) i
      have hp := pow56 i (by omega)
      have hb := getD_rng (Lx t) i
      refine Ev.step (fun k => ?_) (ih (i + 1) (by omega))
      rw [keycode_value.l0, if_pos (by omega), if_pos (by omega), if_pos (by omega), ubt t i (by omega), or64 _ _ hr.1 (by omega) (by omega) (by omega), wr_s i 8 (by omega) (by omega)]
      rfl
  exact key 8 0 (by omega)
theorem eValue (s : ByteArray) (h0 : 0 < s.size) (h1 : s.size ≤ 1000000) : ∃ r1 r2 r3 r4 r5, Ev (fun k => keycode_value.f k s) (r1, r2, r3, r4, r5) ∧ r5 = (valL (Lx s)).2.2 ∧ (r5 = 0 → (⟨r1, r2, r3⟩ : S34) = (valL (Lx s)).1 ∧ Lx r4 = (valL (Lx s)).2.1) := by
  have e0 := Lx_drop s 0 h0
  rw [List.drop_zero] at e0
  have e1 := Lx_ext s 1
  have hb : bt s 0 = (((Lx s).getD 0 0).toNat : Int) := ubt s 0 h0
  have hlt := getD_rng (Lx s) 0
  obtain ⟨b, hbb⟩ : ∃ b, (Lx s).getD 0 0 = b := ⟨_, rfl⟩
  obtain ⟨q, hq⟩ : ∃ q, (Lx s).drop 1 = q := ⟨_, rfl⟩
  rw [hbb] at hb hlt e0
  rw [show 0 + 1 = 1 from rfl, hq] at e0
  rw [hq] at e1
  obtain ⟨t, ht⟩ : ∃ t, s.extract 1 s.size = t := ⟨_, rfl⟩
  rw [ht] at e1
  have hts : t.size = q.length := by rw [← e1, Lx_len]
  have hts2 : t.size ≤ 1000000 := by
    have := congrArg List.length e0
    rw [Lx_len, List.length_cons] at this
    omega
  rw [e0, valL]
  by_cases k1 : b.toNat = 1
  · rw [if_pos k1]
    exact ⟨_, _, _, _, _, Ev.congr (fun k => by rw [keycode_value.f, if_pos (by omega), if_pos (by omega), ht, hb, if_pos (by omega)]) (Ev.now _), rfl, fun _ => ⟨by rw [k1]; rfl, e1⟩⟩
  · rw [if_neg k1]
    by_cases k2 : b.toNat = 2
    · rw [if_pos k2]
      by_cases h8 : q.length < 8
      · rw [if_pos h8]
        exact ⟨_, _, _, _, _, Ev.congr (fun k => by rw [keycode_value.f, if_pos (by omega), if_pos (by omega), ht, hb, if_neg (by omega), if_pos (by omega), if_pos (by omega)]) (Ev.now _), rfl, fun h => by cases h⟩
      · rw [if_neg h8]
        refine ⟨_, _, _, _, _, Ev.congr (fun k => by rw [keycode_value.f, if_pos (by omega), if_pos (by omega), ht, hb, if_neg (by omega), if_pos (by omega), if_neg (by omega)]) (eNum t _ 0 ⟨#[]⟩ (by omega)), rfl, fun _ => ⟨?_, ?_⟩⟩
        · rw [k2, e1]; rfl
        · rw [Lx_ext, e1]
    · rw [if_neg k2]
      by_cases k3 : b.toNat = 3
      · rw [if_pos k3]
        by_cases hz : t.size = 0
        · have hq0 : q = [] := List.eq_nil_of_length_eq_zero (by omega)
          rw [hq0, boolL]
          exact ⟨_, _, _, _, _, Ev.congr (fun k => by rw [keycode_value.f, if_pos (by omega), if_pos (by omega), ht, hb, if_neg (by omega), if_neg (by omega), if_pos (by omega), if_pos (empty_list hz)]) (Ev.now _), rfl, fun h => by cases h⟩
        · have e2 := Lx_drop t 0 (by omega)
          rw [List.drop_zero, e1] at e2
          have hb2 : bt t 0 = ((q.getD 0 0).toNat : Int) := by rw [← e1]; exact ubt t 0 (by omega)
          have hlt2 := getD_rng q 0
          obtain ⟨c, hc⟩ : ∃ c, q.getD 0 0 = c := ⟨_, rfl⟩
          rw [hc] at hb2 e2 hlt2
          rw [e2, boolL]
          by_cases hc1 : 1 < c.toNat
          · rw [if_pos hc1]
            exact ⟨_, _, _, _, _, Ev.congr (fun k => by rw [keycode_value.f, if_pos (by omega), if_pos (by omega), ht, hb, if_neg (by omega), if_neg (by omega), if_pos (by omega), if_neg (nonempty_list hz), if_pos (by omega), hb2, if_pos (by omega)]) (Ev.now _), rfl, fun h => by cases h⟩
          · rw [if_neg hc1]
            refine ⟨_, _, _, _, _, Ev.congr (fun k => by rw [keycode_value.f, if_pos (by omega), if_pos (by omega), ht, hb, if_neg (by omega), if_neg (by omega), if_pos (by omega), if_neg (nonempty_list hz), if_pos (by omega), hb2, if_neg (by omega), if_pos (by omega)]) (Ev.now _), rfl, fun _ => ⟨?_, ?_⟩⟩
            · rw [k3, w64_in _ (by omega)]; rfl
            · rw [Lx_ext, e1]
      · rw [if_neg k3]
        by_cases k4 : b.toNat = 4
        · rw [if_pos k4]
          refine ⟨_, _, _, _, _, Ev.congr (fun k => by rw [keycode_value.f, if_pos (by omega), if_pos (by omega), ht, hb, if_neg (by omega), if_neg (by omega), if_neg (by omega), if_pos (by omega), keycode_text.f, if_pos (by omega), Option.bind_some]) (Ev.now _), ?_, fun _ => ⟨?_, ?_⟩⟩
          · show (txt (Lx t) []).2.2 = _
            rw [e1]
          · show (⟨_, 0, bst (txt (Lx t) []).1⟩ : S34) = _
            rw [k4, e1]; rfl
          · show Lx (bst (txt (Lx t) []).2.1) = _
            rw [e1]
            simp [Lx, bst]
        · rw [if_neg k4]
          exact ⟨_, _, _, _, _, Ev.congr (fun k => by rw [keycode_value.f, if_pos (by omega), if_pos (by omega), ht, hb, if_neg (by omega), if_neg (by omega), if_neg (by omega), if_neg (by omega)]) (Ev.now _), rfl, fun h => by cases h⟩
theorem eGet : ∀ (m : Nat) (s : ByteArray) (out : List S34), s.size ≤ m → m ≤ 1000000 → out.length + m ≤ 2000000 → Ev (fun k => keycode_Get.l0 k s out) (getL m (Lx s) out)
  | 0, s, out, h, _, _ => Ev.step (f := fun _ => some (out, 0)) (fun k => by rw [keycode_Get.l0, if_pos (empty_list (by omega))]) (Ev.now _)
  | m + 1, s, out, h, h2, h3 => by
    by_cases hz : s.size = 0
    · have e : Lx s = [] := List.eq_nil_of_length_eq_zero hz
      rw [getL, e, if_pos rfl]
      exact Ev.step (f := fun _ => some (out, 0)) (fun k => by rw [keycode_Get.l0, if_pos (empty_list hz)]) (Ev.now _)
    · obtain ⟨r1, r2, r3, r4, r5, hv, e5, hr⟩ := eValue s (by omega) (by omega)
      have hne : Lx s ≠ [] := fun e => hz (by rw [← Lx_len, e]; rfl)
      rw [getL, if_neg hne, ← e5]
      refine Ev.step (fun k => by rw [keycode_Get.l0, if_neg (nonempty_list hz)]) (bind_ev hv ?_)
      by_cases h0 : r5 = 0
      · obtain ⟨hr1, hr2⟩ := hr h0
        have hl : r4.size ≤ m := by
          obtain ⟨b, q, hbq⟩ : ∃ b q, Lx s = b :: q := by cases hs : Lx s with | nil => exact absurd hs hne | cons b q => exact ⟨b, q, rfl⟩
          have := valL_len b q
          rw [← hbq, ← hr2, Lx_len] at this
          have h4 := congrArg List.length hbq
          rw [Lx_len, List.length_cons] at h4
          omega
        rw [if_pos h0, ← hr1, ← hr2]
        exact Ev.congr (fun k => by rw [if_pos h0, if_pos (by omega)]) (eGet m r4 (out ++ [⟨r1, r2, r3⟩]) hl (by omega) (by rw [List.length_append, List.length_singleton]; omega))
      · rw [if_neg h0]
        exact Ev.congr (fun k => if_neg h0) (Ev.now _)
end Go.Proofs.YthkanebmkeamlaaDoor.Pk
namespace Go.Proofs.YthkanebmkeamlaaDoor.Pk
open Go.RowKit Go.Proofs.YthkanebmkeamlaaDoorW.PrintWords Go.Proofs.YthkanebmkeamlaaDoor.XKey Go.Proofs.YthkanebmkeamlaaDoor.Ky Go.Proofs.YthkanebmkeamlaaDoor.Byt
set_option linter.unusedVariables false
set_option linter.unusedSimpArgs false
/-! ### the same rows -/
theorem eSame (l : List S34) (hl : l.length ≤ 9223372036854775807) : Ev (fun k => rowlockref04_Same.f k l l) true := by
  have key : ∀ (m i : Nat), i + m = l.length → Ev (fun k => rowlockref04_Same.l0 k l l (l.length : Int) (i : Int)) true := by
    intro m
    induction m with
    | zero => exact fun i h => Ev.step (f := fun _ => some true) (fun k => by rw [rowlockref04_Same.l0, if_neg (by omega)]) (Ev.now _)
    | succ m ih =>
      intro i h
      refine Ev.step (fun k => ?_) (ih (i + 1) (by omega))
      rw [rowlockref04_Same.l0, if_pos (by omega), if_pos (by omega), if_pos (by omega), if_pos (by omega), if_neg (by simp), wr_s i l.length (by omega) hl]
  exact Ev.congr (fun k => if_pos rfl) (key l.length 0 (by omega))
theorem str_ints (l : List UInt8) : strOfNums (ints l) = bst l := str_of_u l
theorem tErr {T : List UInt8 × List UInt8 × Int} {Q : Prop} {g : Nat → Option (ByteArray × Int × Int)} {j err : Int} (hT : T = ([], [], err)) (he : err ≠ 0) (hg : Ev g (⟨#[]⟩, 0, err)) : (T.2.2 = 0 → Q) ∧ Ev g (if T.2.2 = 0 then (bst T.1, j, 0) else (⟨#[]⟩, 0, T.2.2)) := by
  subst hT
  refine ⟨fun h => absurd h he, ?_⟩
  show Ev g (if err = 0 then _ else _)
  rw [if_neg he]
  exact hg
theorem tOk {T : List UInt8 × List UInt8 × Int} {Q : Prop} {g : Nat → Option (ByteArray × Int × Int)} {j : Int} {o r : List UInt8} (hT : T = (o, r, 0)) (hq : r = T.2.1 → Q) (hg : Ev g (bst o, j, 0)) : (T.2.2 = 0 → Q) ∧ Ev g (if T.2.2 = 0 then (bst T.1, j, 0) else (⟨#[]⟩, 0, T.2.2)) := by
  subst hT
  refine ⟨fun _ => hq rfl, ?_⟩
  show Ev g (if (0 : Int) = 0 then _ else _)
  rw [if_pos rfl]
  exact hg
theorem eText2 (s : ByteArray) (hs : s.size ≤ 5000) : ∀ (m i : Nat) (out : List UInt8), s.size ≤ i + m → i ≤ s.size → out.length ≤ i → ∃ j : Nat, j ≤ s.size ∧ ((txt ((Lx s).drop i) out).2.2 = 0 → i < j ∧ (Lx s).drop j = (txt ((Lx s).drop i) out).2.1) ∧
    Ev (fun k => rowlockref05_text.l0 k s (i : Int) (ints out)) (if (txt ((Lx s).drop i) out).2.2 = 0 then (bst (txt ((Lx s).drop i) out).1, (j : Int), 0) else (⟨#[]⟩, 0, (txt ((Lx s).drop i) out).2.2))
  | 0, i, out, h, hi, ho => by
    refine ⟨s.size, Nat.le_refl _, ?_⟩
    rw [List.drop_of_length_le (by rw [Lx_len]; omega), txt]
    exact tErr rfl (by decide) (Ev.step (f := fun _ => some (⟨#[]⟩, 0, 3)) (fun k => by rw [rowlockref05_text.l0, if_neg (by omega)]) (Ev.now _))
  | m + 1, i, out, h, hi, ho => by
    by_cases hlt : i < s.size
    case neg =>
      refine ⟨s.size, Nat.le_refl _, ?_⟩
      rw [List.drop_of_length_le (by rw [Lx_len]; omega), txt]
      exact tErr rfl (by decide) (Ev.step (f := fun _ => some (⟨#[]⟩, 0, 3)) (fun k => by rw [rowlockref05_text.l0, if_neg (by omega)]) (Ev.now _))
    have e1 := Lx_drop s i hlt
    have hb := ubt s i hlt
    obtain ⟨c, hc⟩ : ∃ c, (Lx s).getD i 0 = c := ⟨_, rfl⟩
    rw [hc] at e1 hb
    have w1 := Aside0.mk (wr_s i s.size hlt (by omega))
    by_cases hl1 : i + 1 = s.size
    · have e2 : (Lx s).drop (i + 1) = [] := List.drop_of_length_le (by rw [Lx_len]; omega)
      refine ⟨s.size, Nat.le_refl _, ?_⟩
      rw [e1, e2, txt]
      refine tErr rfl (by decide) ?_
      by_cases h0 : bt s (i : Int) = 0
      · exact Ev.step (f := fun _ => some (⟨#[]⟩, 0, 3)) (fun k => by rw [rowlockref05_text.l0, if_pos (by omega), if_pos (by omega), if_pos h0, w1.out, if_pos (by omega)]) (Ev.now _)
      · refine Ev.step (fun k => by rw [rowlockref05_text.l0, if_pos (by omega), if_pos (by omega), if_neg h0, if_pos (by rw [ints_len]; omega), w1.out]) (Ev.step (f := fun _ => some (⟨#[]⟩, 0, 3)) (fun k => by rw [rowlockref05_text.l0, if_neg (by omega)]) (Ev.now _))
    · have e2 := Lx_drop s (i + 1) (by omega)
      have hb2 := ubt s (i + 1) (by omega)
      obtain ⟨d, hd⟩ : ∃ d, (Lx s).getD (i + 1) 0 = d := ⟨_, rfl⟩
      rw [hd] at e2 hb2
      have w2 := Aside0.mk (wr_s (i + 1) s.size (by omega) (by omega))
      by_cases h0 : c = 0
      · have h0' : bt s (i : Int) = 0 := by rw [hb, h0]; rfl
        have st : ∀ k, rowlockref05_text.l0 (k + 1) s (i : Int) (ints out) = if (d.toNat : Int) = 1 then (if ((ints out).length : Int) > 48 then (some ((⟨#[]⟩ : ByteArray), 0, 4)) else (some (strOfNums (ints out), ((i + 2 : Nat) : Int), 0))) else (if (d.toNat : Int) = 255 then (if (ints out).length < 140737488355328 then (rowlockref05_text.l0 k s ((i + 2 : Nat) : Int) (ints out ++ [0])) else (none)) else (some ((⟨#[]⟩ : ByteArray), 0, 2))) := fun k => by
          rw [rowlockref05_text.l0, if_pos (by omega), if_pos (by omega), if_pos h0', w1.out, if_neg (by omega), if_pos (by omega), if_pos (by omega), hb2, w2.out]
        rw [e1, e2, h0, txt_zero]
        by_cases hd1 : d = 1
        · subst hd1
          rw [if_pos rfl]
          by_cases h48 : 48 < out.length
          · rw [if_pos h48]
            exact ⟨s.size, Nat.le_refl _, tErr rfl (by decide) (Ev.step (f := fun _ => some (⟨#[]⟩, 0, 4)) (fun k => by rw [st, if_pos (by decide), if_pos (by rw [ints_len]; omega)]) (Ev.now _))⟩
          · rw [if_neg h48]
            exact ⟨i + 2, by omega, tOk rfl (fun _ => ⟨by omega, rfl⟩) (Ev.step (f := fun _ => some (bst out, ((i + 2 : Nat) : Int), 0)) (fun k => by rw [st, if_pos (by decide), if_neg (by rw [ints_len]; omega), str_ints]) (Ev.now _))⟩
        · have hd1' : ¬ (d.toNat : Int) = 1 := fun e => hd1 (UInt8.toNat_inj.1 (by show d.toNat = 1; omega))
          rw [if_neg hd1]
          by_cases hd2 : d = 255
          · subst hd2
            rw [if_pos rfl]
            obtain ⟨j, hj, hp, hE⟩ := eText2 s hs m (i + 2) (out ++ [0]) (by omega) (by omega) (by rw [List.length_append, List.length_singleton]; omega)
            refine ⟨j, hj, fun h => ?_, ?_⟩
            · have := hp h
              exact ⟨by omega, this.2⟩
            · refine Ev.step (fun k => ?_) hE
              rw [st, if_neg hd1', if_pos (by decide), if_pos (by rw [ints_len]; omega), ints_app]
              rfl
          · have hd2' : ¬ (d.toNat : Int) = 255 := fun e => hd2 (UInt8.toNat_inj.1 (by show d.toNat = 255; omega))
            rw [if_neg hd2]
            exact ⟨s.size, Nat.le_refl _, tErr rfl (by decide) (Ev.step (f := fun _ => some (⟨#[]⟩, 0, 2)) (fun k => by rw [st, if_neg hd1', if_neg hd2']) (Ev.now _))⟩
      · have h0' : ¬ bt s (i : Int) = 0 := fun e => h0 (UInt8.toNat_inj.1 (by rw [hb] at e; simpa using e))
        obtain ⟨j, hj, hp, hE⟩ := eText2 s hs m (i + 1) (out ++ [c]) (by omega) (by omega) (by rw [List.length_append, List.length_singleton]; omega)
        have et : txt ((Lx s).drop i) out = txt ((Lx s).drop (i + 1)) (out ++ [c]) := by rw [e1, e2, txt, if_neg h0]
        rw [et]
        refine ⟨j, hj, fun h => ?_, ?_⟩
        · have := hp h
          exact ⟨by omega, this.2⟩
        · refine Ev.step (fun k => ?_) hE
          rw [rowlockref05_text.l0, if_pos (by omega), if_pos (by omega), if_neg h0', if_pos (by rw [ints_len]; omega), w1.out, hb, ints_app]
          rfl
theorem gOk {T : S34 × List UInt8 × Int} {v : S34} {r : List UInt8} {m : Nat} {out : List S34} {g : Nat → Option (List S34 × Int)} (hT : T = (v, r, 0)) (h : Ev g (getL m r (out ++ [v]))) : Ev g (if T.2.2 = 0 then getL m T.2.1 (out ++ [T.1]) else ([], T.2.2)) := by
  subst hT
  exact Ev.val h (if_pos rfl).symm
theorem gErr {T : S34 × List UInt8 × Int} {v : S34} {r : List UInt8} {e : Int} {m : Nat} {out : List S34} {g : Nat → Option (List S34 × Int)} (hT : T = (v, r, e)) (he : e ≠ 0) (h : Ev g ([], e)) : Ev g (if T.2.2 = 0 then getL m T.2.1 (out ++ [T.1]) else ([], T.2.2)) := by
  subst hT
  exact Ev.val h (if_neg he).symm
theorem eRNum (s : ByteArray) (p : Nat) (out : List S34) (hs : s.size ≤ 5000) (hp : p + 8 ≤ s.size) (ho : out.length ≤ 10000) {R : List S34 × Int} (h : Ev (fun k => rowlockref05_Get.l0 k s [] (out ++ [⟨1, numL ((Lx s).drop p) 8 - 9223372036854775808, ⟨#[]⟩⟩]) ((p + 8 : Nat) : Int)) R) :
    Ev (fun k => rowlockref05_Get.l1 k s [] out (p : Int) 0 0) R := by
  have key : ∀ j i : Nat, i + j = 8 → Ev (fun k => rowlockref05_Get.l1 k s [] out (p : Int) (numL ((Lx s).drop p) i) (i : Int)) R := by
    intro j
    induction j with
    | zero =>
      intro i hi
      obtain rfl : i = 8 := by omega
      have hr := numL_rng ((Lx s).drop p) 8
      have hr2 : numL ((Lx s).drop p) 8 < 18446744073709551616 := hr.2
      refine Ev.step (fun k => ?_) h
      rw [rowlockref05_Get.l1, if_neg (by omega), if_pos (by omega), u64_eq, show wrap64 ((numL ((Lx s).drop p) 8 - 9223372036854775808) % 18446744073709551616) = numL ((Lx s).drop p) 8 - 9223372036854775808 by unfold wrap64; omega, w64_in _ (by omega)]
      rfl
    | succ j ih =>
      intro i hi
      have hr := numL_rng ((Lx s).drop p) i
      have hpw := pow56 i (by omega)
      have hb := getD_rng (Lx s) (p + i)
      have e1 : Aside0 (wrap64 ((p : Int) + (i : Int)) = ((p + i : Nat) : Int)) := ⟨by rw [w64_in _ (by omega)]; omega⟩
      have e2 : ((Lx s).drop p).getD i 0 = (Lx s).getD (p + i) 0 := by rw [List.getD_eq_getElem?_getD, List.getD_eq_getElem?_getD, List.getElem?_drop]
      refine Ev.step (fun k => ?_) (ih (i + 1) (by omega))
      rw [rowlockref05_Get.l1, if_pos (by omega), e1.out, if_pos (by omega), if_pos (by omega), ubt s (p + i) (by omega), u64_eq, u64_eq, u64_eq, wr_s i 8 (by omega) (by omega), numL, e2]
      congr 1
      omega
  exact key 8 0 (by omega)
set_option maxHeartbeats 1000000 in
theorem eRGet (s : ByteArray) (hs : s.size ≤ 5000) : ∀ (m i : Nat) (out : List S34), s.size ≤ i + m → i ≤ s.size → out.length ≤ i → Ev (fun k => rowlockref05_Get.l0 k s [] out (i : Int)) (getL m ((Lx s).drop i) out)
  | 0, i, out, h, hi, ho => Ev.step (f := fun _ => some (out, 0)) (fun k => by rw [rowlockref05_Get.l0, if_neg (by omega)]) (Ev.now _)
  | m + 1, i, out, h, hi, ho => by
    by_cases hlt : i < s.size
    case neg =>
      have e : (Lx s).drop i = [] := List.drop_of_length_le (by rw [Lx_len]; omega)
      rw [getL, e, if_pos rfl]
      exact Ev.step (f := fun _ => some (out, 0)) (fun k => by rw [rowlockref05_Get.l0, if_neg (by omega)]) (Ev.now _)
    have e1 := Lx_drop s i hlt
    have hb := ubt s i hlt
    have hbr := getD_rng (Lx s) i
    obtain ⟨b, hc⟩ : ∃ c, (Lx s).getD i 0 = c := ⟨_, rfl⟩
    rw [hc] at e1 hb hbr
    have w1 := Aside0.mk (wr_s i s.size hlt (by omega))
    rw [getL, e1, if_neg (List.cons_ne_nil _ _), valL]
    have l1 : ((Lx s).drop (i + 1)).length = s.size - (i + 1) := by rw [List.length_drop, Lx_len]
    by_cases k1 : b.toNat = 1
    · rw [if_pos k1]
      exact gOk rfl (Ev.step (f := fun k => rowlockref05_Get.l0 k s [] (out ++ [zS]) ((i + 1 : Nat) : Int)) (fun k => by rw [rowlockref05_Get.l0, if_pos (by omega), if_pos (by omega), if_pos (by omega), if_pos (by omega), w1.out, zS]) (eRGet s hs m (i + 1) (out ++ [zS]) (by omega) (by omega) (by rw [List.length_append, List.length_singleton]; omega)))
    · rw [if_neg k1]
      have n1 : ¬ bt s (i : Int) = 1 := by omega
      by_cases k2 : b.toNat = 2
      · rw [if_pos k2]
        have ew : Aside0 (wrap64 ((s.size : Int) - ((i + 1 : Nat) : Int)) = ((s.size - (i + 1) : Nat) : Int)) := ⟨by rw [w64_in _ (by omega)]; omega⟩
        by_cases h8 : ((Lx s).drop (i + 1)).length < 8
        · rw [if_pos h8]
          exact gErr rfl (by decide) <| Ev.step (f := fun _ => some ([], 3)) (fun k => by rw [rowlockref05_Get.l0, if_pos (by omega), if_pos (by omega), if_neg n1, if_pos (by omega), w1.out, ew.out, if_pos (by omega)]) (Ev.now _)
        · rw [if_neg h8]
          refine gOk rfl <| Ev.step (fun k => by rw [rowlockref05_Get.l0, if_pos (by omega), if_pos (by omega), if_neg n1, if_pos (by omega), w1.out, ew.out, if_neg (by omega)]) (eRNum s (i + 1) out hs (by omega) (by omega) ?_)
          have := eRGet s hs m (i + 1 + 8) (out ++ [⟨1, numL ((Lx s).drop (i + 1)) 8 - 9223372036854775808, ⟨#[]⟩⟩]) (by omega) (by omega) (by rw [List.length_append, List.length_singleton]; omega)
          rw [List.drop_drop]
          exact this
      · rw [if_neg k2]
        have n2 : ¬ bt s (i : Int) = 2 := by omega
        by_cases k3 : b.toNat = 3
        · rw [if_pos k3]
          by_cases hl1 : i + 1 = s.size
          · have e2 : (Lx s).drop (i + 1) = [] := List.drop_of_length_le (by rw [Lx_len]; omega)
            rw [e2, boolL]
            exact gErr rfl (by decide) <| Ev.step (f := fun _ => some ([], 3)) (fun k => by rw [rowlockref05_Get.l0, if_pos (by omega), if_pos (by omega), if_neg n1, if_neg n2, if_pos (by omega), w1.out, if_pos (by omega)]) (Ev.now _)
          · have e2 := Lx_drop s (i + 1) (by omega)
            have hb2 := ubt s (i + 1) (by omega)
            have hdr := getD_rng (Lx s) (i + 1)
            obtain ⟨d, hd⟩ : ∃ d, (Lx s).getD (i + 1) 0 = d := ⟨_, rfl⟩
            rw [hd] at e2 hb2 hdr
            have w2 := Aside0.mk (wr_s (i + 1) s.size (by omega) (by omega))
            rw [e2, boolL]
            by_cases hd1 : 1 < d.toNat
            · rw [if_pos hd1]
              exact gErr rfl (by decide) <| Ev.step (f := fun _ => some ([], 2)) (fun k => by rw [rowlockref05_Get.l0, if_pos (by omega), if_pos (by omega), if_neg n1, if_neg n2, if_pos (by omega), w1.out, if_neg (by omega), if_pos (by omega), if_pos (by omega), hb2, if_pos (by omega)]) (Ev.now _)
            · rw [if_neg hd1]
              exact gOk rfl <| Ev.step (f := fun k => rowlockref05_Get.l0 k s [] (out ++ [⟨2, (d.toNat : Int), ⟨#[]⟩⟩]) ((i + 1 + 1 : Nat) : Int)) (fun k => by rw [rowlockref05_Get.l0, if_pos (by omega), if_pos (by omega), if_neg n1, if_neg n2, if_pos (by omega), w1.out, if_neg (by omega), if_pos (by omega), if_pos (by omega), hb2, if_neg (by omega), if_pos (by omega), w2.out, w64_in _ (by omega)]) (eRGet s hs m (i + 1 + 1) (out ++ [⟨2, (d.toNat : Int), ⟨#[]⟩⟩]) (by omega) (by omega) (by rw [List.length_append, List.length_singleton]; omega))
        · rw [if_neg k3]
          have n3 : ¬ bt s (i : Int) = 3 := by omega
          by_cases k4 : b.toNat = 4
          · rw [if_pos k4]
            obtain ⟨j, hj, hp, hE0⟩ := eText2 s hs s.size (i + 1) [] (by omega) (by omega) (by simp)
            have hE : Ev (fun k => rowlockref05_text.f k s ((i + 1 : Nat) : Int)) _ := hE0
            refine Ev.step (fun k => by rw [rowlockref05_Get.l0, if_pos (by omega), if_pos (by omega), if_neg n1, if_neg n2, if_neg n3, if_pos (by omega), w1.out]) (bind_ev hE ?_)
            by_cases h0 : (txt ((Lx s).drop (i + 1)) []).2.2 = 0
            · obtain ⟨hj2, hj3⟩ := hp h0
              rw [if_pos h0, if_pos h0, ← hj3]
              exact Ev.congr (fun k => by rw [if_pos rfl, if_pos (by omega)]) (eRGet s hs m j (out ++ [⟨3, 0, bst (txt ((Lx s).drop (i + 1)) []).1⟩]) (by omega) (by omega) (by rw [List.length_append, List.length_singleton]; omega))
            · rw [if_neg h0, if_neg h0]
              exact Ev.congr (fun k => if_neg h0) (Ev.now _)
          · rw [if_neg k4]
            exact gErr rfl (by decide) <| Ev.step (f := fun _ => some ([], 6)) (fun k => by rw [rowlockref05_Get.l0, if_pos (by omega), if_pos (by omega), if_neg n1, if_neg n2, if_neg n3, if_neg (by omega)]) (Ev.now _)
theorem get_cap : ∀ (m : Nat) (s : List UInt8) (out : List S34), (getL m s out).1.length ≤ out.length + m
  | 0, s, out => Nat.le_refl _
  | m + 1, s, out => by
    rw [getL]
    split
    · show out.length ≤ _; omega
    · split
      · have := get_cap m (valL s).2.1 (out ++ [(valL s).1])
        rw [List.length_append, List.length_singleton] at this
        omega
      · show 0 ≤ _; omega
theorem Gets (a0 : ByteArray) : Ev (fun k => rowlocklaw05_KeycodeGets.f k a0) true := by
  by_cases h0 : (a0.size : Int) > 5000
  · exact Ev.congr (fun k => by rw [rowlocklaw05_KeycodeGets.f, if_pos h0, fixed_f, Option.bind_some]) (Ev.now _)
  have hs : a0.size ≤ 5000 := by omega
  have hA : Ev (fun k => keycode_Get.f k a0) (getL a0.size (Lx a0) []) := eGet a0.size a0 [] (Nat.le_refl _) (by omega) (by simp only [List.length_nil]; omega)
  have hB : Ev (fun k => rowlockref05_Get.f k a0) (getL a0.size (Lx a0) []) := by
    have := eRGet a0 hs a0.size 0 [] (by omega) (by omega) (by simp)
    rw [List.drop_zero] at this
    exact this
  obtain ⟨R, hR⟩ : ∃ R, getL a0.size (Lx a0) [] = R := ⟨_, rfl⟩
  obtain ⟨l, e⟩ := R
  have hcap := get_cap a0.size (Lx a0) []
  rw [hR] at hA hB hcap
  have hcap2 : l.length ≤ 5000 := by simp only [List.length_nil] at hcap; omega
  refine Ev.congr (fun k => by rw [rowlocklaw05_KeycodeGets.f, if_neg h0]) (bind_ev hA (bind_ev hB ?_))
  refine Ev.congr (fun k => by rw [fixed_f, Option.bind_some, if_pos rfl]) (bind_ev (eSame l (by omega)) ?_)
  refine Ev.congr (fun k => by rw [if_pos rfl, bne_self_eq_false]) ?_
  by_cases he : e = 0
  · subst he
    obtain ⟨u, e1, e2, e3, e4⟩ := get_back a0.size (Lx a0) [] l hR (Nat.le_refl _)
    rw [List.nil_append] at e1
    subst e1
    have hk : KS l = a0 := bytes_inj (by rw [KS_bytes l (fun x hx => (e2 x hx).1), ← e3, bytes_ints]; rfl)
    exact Ev.step (f := fun _ => some true) (fun k => by rw [rowlocklaw05_KeycodeGets.j0, if_neg (by decide), if_pos rfl, put_f l (by omega) (fun x hx => (e2 x hx).2) (fun x hx => (e2 x hx).1), Option.bind_some, if_pos rfl, hk, beq_self_eq_true]) (Ev.now _)
  · exact Ev.step (f := fun _ => some true) (fun k => by rw [rowlocklaw05_KeycodeGets.j0, if_neg (by decide), if_neg he]) (Ev.now _)
end Go.Proofs.YthkanebmkeamlaaDoor.Pk
namespace Go.Proofs.YthkanebmkeamlaaDoor.Pk
open Go.RowKit Go.Proofs.YthkanebmkeamlaaDoorW.PrintWords Go.Proofs.YthkanebmkeamlaaDoor.XKey Go.Proofs.YthkanebmkeamlaaDoor.Ky Go.Proofs.YthkanebmkeamlaaDoor.Byt
set_option linter.unusedVariables false
set_option linter.unusedSimpArgs false
/-! ### the reference's number -/
theorem be_cut : ∀ (k j : Nat) (n : Int), KeyM.be (k + j) n = KeyM.be k (n / 256 ^ j) ++ KeyM.be j n
  | k, 0, n => by simp [KeyM.be]
  | k, j + 1, n => by
    show KeyM.be (k + j) (n / 256) ++ [n % 256] = _
    rw [be_cut k j (n / 256), KeyM.be, List.append_assoc, Int.ediv_ediv_of_nonneg (by omega), show (256 : Int) * 256 ^ j = 256 ^ (j + 1) by rw [Int.pow_succ, Int.mul_comm]]
theorem set_app (a : List Int) (x y : Int) (b : List Int) (n : Nat) (h : a.length = n) : (a ++ x :: b).set n y = a ++ y :: b := by
  subst h; simp
theorem eNumber (n : Int) (hn : -9223372036854775808 ≤ n ∧ n ≤ 9223372036854775807) : Ev (fun k => rowlockref05_number.f k n) (KeyM.be 8 (n + 9223372036854775808)) := by
  have key : ∀ (i : Nat) (u : Int) (b : List Int), i ≤ 8 → 0 ≤ u → u < 18446744073709551616 → Ev (fun k => rowlockref05_number.l0 k u (List.replicate i 0 ++ b) ((i : Int) - 1)) (KeyM.be i u ++ b) := by
    intro i
    induction i with
    | zero => exact fun u b _ _ _ => Ev.step (f := fun _ => some b) (fun k => by rw [rowlockref05_number.l0, if_neg (by omega)]; rfl) (Ev.now _)
    | succ i ih =>
      intro u b hi h0 h1
      have e1 : (((i + 1 : Nat) : Int) - 1) = (i : Int) := by omega
      have e2 : IntKind.u64.wrap (Int.tdiv u 256) = u / 256 := by rw [Int.tdiv_eq_ediv_of_nonneg h0, u64_eq, Int.emod_eq_of_lt (by omega) (by omega)]
      have e3 : Int.tmod u 256 % 256 = u % 256 := by rw [Int.tmod_eq_emod_of_nonneg h0, Int.emod_emod_of_dvd _ (by decide)]
      have e4 : (List.replicate (i + 1) (0 : Int) ++ b).set i (u % 256) = List.replicate i 0 ++ (u % 256) :: b := by
        rw [List.replicate_succ', List.append_assoc, List.singleton_append, set_app _ _ _ _ _ (by simp)]
      rw [e1, KeyM.be, List.append_assoc]
      refine Ev.step (fun k => ?_) (ih (u / 256) ((u % 256) :: b) (by omega) (by omega) (by omega))
      rw [rowlockref05_number.l0, if_pos (by omega), if_pos (by omega), if_pos (by rw [List.length_append, List.length_replicate]; omega), e2, e3, Int.toNat_natCast, e4, w64_in _ (by omega)]
  have e : IntKind.u64.wrap (IntKind.u64.wrap n + 9223372036854775808) = n + 9223372036854775808 := by rw [u64_eq, u64_eq]; omega
  have := key 8 (n + 9223372036854775808) [] (by omega) (by omega) (by omega)
  rw [List.append_nil, List.append_nil] at this
  exact Ev.congr (fun k => by rw [rowlockref05_number.f, if_pos (by decide), e]; rfl) this
/-! ### the reference's Put -/
theorem one_take (l : List S34) (i : Nat) (h : i < l.length) : KeyM.key ((l.take (i + 1)).map toV) = KeyM.key ((l.take i).map toV) ++ KeyM.one (toV (rd_T34 l (i : Int))) := take_key l i h
theorem key_cons2 (x : S34) (l : List S34) : KeyM.key ((x :: l).map toV) = KeyM.one (toV x) ++ KeyM.key (l.map toV) := by rw [List.map_cons, KeyM.key_cons]
theorem esc_drop (t : ByteArray) (i : Nat) (h : i < t.size) : KeyM.esc ((bytesOf t).drop i) = (if bt t (i : Int) = 0 then [0, 255] else [bt t (i : Int)]) ++ KeyM.esc ((bytesOf t).drop (i + 1)) := by
  rw [drop_bt t i h, KeyM.esc]
  split <;> rfl
theorem esc_length : ∀ t : List Int, (KeyM.esc t).length ≤ 2 * t.length
  | [] => by simp [KeyM.esc]
  | x :: t => by
    have := esc_length t
    rw [KeyM.esc]
    split <;> simp only [List.length_cons] <;> omega
set_option maxHeartbeats 8000000 in
theorem ePut (l : List S34) (hr : ∀ x ∈ l, rng x) (hl : l.length ≤ 5000) : Ev (fun k => rowlockref05_Put.f k l) (putR l) := by
  have key : ∀ (m i : Nat) (q : List Int), i + m = l.length → q.length ≤ 120 * i → Ev (fun k => rowlockref05_Put.l0 k l q (l.length : Int) (i : Int)) (if ∀ x ∈ l.drop i, (toV x).ok then (strOfNums (q ++ KeyM.key ((l.drop i).map toV)), 0) else (⟨#[]⟩, 1)) := by
    intro m
    induction m with
    | zero =>
      intro i q h hq
      rw [List.drop_of_length_le (by omega), if_pos (fun x hx => by cases hx)]
      exact Ev.step (f := fun _ => some (strOfNums q, 0)) (fun k => by rw [rowlockref05_Put.l0, if_neg (by omega)]) (Ev.val (Ev.now _) (by simp [KeyM.key]))
    | succ m ih =>
      intro i q h hq
      have hd := drop_rd l i (by omega)
      obtain ⟨x, hx⟩ : ∃ x, rd_T34 l (i : Int) = x := ⟨_, rfl⟩
      rw [hx] at hd
      have hrx : rng x := by rw [← hx, rd_at l i (by omega)]; exact hr _ (List.getElem_mem _)
      rw [hd]
      by_cases ok : (toV x).ok
      · have kx := ok_k ok
        have tx := ok_t ok
        have len1 := one_len (toV x) ok
        have fin : ∀ q2 : List Int, q2 = q ++ KeyM.one (toV x) → Ev (fun k => rowlockref05_Put.l0 k l q2 (l.length : Int) (wrap64 ((i : Int) + 1))) (if ∀ y ∈ x :: l.drop (i + 1), (toV y).ok then (strOfNums (q ++ KeyM.key ((x :: l.drop (i + 1)).map toV)), 0) else (⟨#[]⟩, 1)) := by
          intro q2 e2
          rw [wr_s i l.length (by omega) (by omega)]
          refine Ev.val (ih (i + 1) q2 (by omega) (by rw [e2, List.length_append]; omega)) ?_
          by_cases h2 : ∀ y ∈ l.drop (i + 1), (toV y).ok
          · rw [if_pos h2, if_pos (fun y hy => (List.mem_cons.1 hy).elim (fun e => e ▸ ok) (h2 y)), key_cons2, e2, List.append_assoc]
          · rw [if_neg h2, if_neg (fun h3 => h2 fun y hy => h3 y (List.mem_cons_of_mem _ hy))]
        refine Ev.step (fun k => by rw [rowlockref05_Put.l0, if_pos (by omega), if_pos (by omega), if_pos (by omega), hx, may_ref x hrx, Option.bind_some, decide_eq_true ok, if_pos rfl, if_pos (by omega), Option.bind_some, Int.emod_eq_of_lt (by omega) (by omega)]) ?_
        by_cases h1 : x.f0 = 1
        · have e1 : KeyM.one (toV x) = (x.f0 + 1) :: KeyM.be 8 (x.f1 + 9223372036854775808) := by rw [KeyM.one]; exact congrArg _ (if_pos h1)
          refine Ev.congr (fun k => if_pos h1) (bind_ev (eNumber x.f1 ⟨hrx.2.2.1, hrx.2.2.2⟩) ?_)
          refine Ev.congr (fun k => if_pos (by rw [List.length_append, List.length_singleton, KeyM.be_len]; omega)) ?_
          refine Ev.step (fun k => by rw [rowlockref05_Put.j1, if_neg (by omega)]) (Ev.step (fun k => by rw [rowlockref05_Put.j2, if_neg (by omega)]) (fin _ ?_))
          rw [e1, List.append_assoc, List.singleton_append]
        · refine Ev.congr (fun k => if_neg h1) ?_
          by_cases h2 : x.f0 = 2
          · have e1 : KeyM.one (toV x) = [x.f0 + 1, x.f1 % 256] := by rw [KeyM.one]; exact congrArg _ ((if_neg h1).trans (if_pos h2))
            refine Ev.step (fun k => by rw [rowlockref05_Put.j1, if_pos h2, if_pos (by rw [List.length_append, List.length_singleton]; omega)]) (Ev.step (fun k => by rw [rowlockref05_Put.j2, if_neg (by omega)]) (fin _ ?_))
            rw [e1, List.append_assoc]
            rfl
          · refine Ev.step (fun k => by rw [rowlockref05_Put.j1, if_neg h2]) ?_
            by_cases h3 : x.f0 = 3
            · have e1 : KeyM.one (toV x) = (x.f0 + 1) :: (KeyM.esc (bytesOf x.f2) ++ [0, 1]) := by rw [KeyM.one]; exact congrArg _ ((if_neg h1).trans ((if_neg h2).trans (if_pos h3)))
              have txt : ∀ (n j : Nat) (q2 : List Int), j + n = x.f2.size → q2.length ≤ 120 * i + 1 + 2 * j → q2 ++ KeyM.esc ((bytesOf x.f2).drop j) ++ [0, 1] = q ++ KeyM.one (toV x) → Ev (fun k => rowlockref05_Put.l1 k l q2 (j : Int) (l.length : Int) (i : Int) x.f0 x.f1 x.f2) (if ∀ y ∈ x :: l.drop (i + 1), (toV y).ok then (strOfNums (q ++ KeyM.key ((x :: l.drop (i + 1)).map toV)), 0) else (⟨#[]⟩, 1)) := by
                intro n
                induction n with
                | zero =>
                  intro j q2 hj hq2 e2
                  refine Ev.step (fun k => by rw [rowlockref05_Put.l1, if_neg (by omega), Option.bind_some, if_pos (by simp only [List.length_cons, List.length_nil]; omega)]) (fin _ ?_)
                  rw [← e2, List.drop_of_length_le (by rw [bytesOf_length]; omega)]
                  simp [KeyM.esc]
                | succ n ihn =>
                  intro j q2 hj hq2 e2
                  have hw := Aside0.mk (wr_s j x.f2.size (by omega) (by omega))
                  rw [esc_drop x.f2 j (by omega)] at e2
                  refine Ev.step (fun k => by rw [rowlockref05_Put.l1, if_pos (by omega), if_pos (by omega), if_pos (by omega), Option.bind_some, hw.out]) ?_
                  by_cases hb : bt x.f2 (j : Int) = 0
                  · rw [if_pos hb] at e2
                    refine Ev.congr (fun k => by rw [if_pos hb, if_pos (by rw [List.length_append, List.length_singleton]; omega)]) (ihn (j + 1) _ (by omega) (by simp only [List.length_append, List.length_singleton]; omega) ?_)
                    rw [← e2, hb]
                    simp
                  · rw [if_neg hb] at e2
                    refine Ev.congr (fun k => if_neg hb) (ihn (j + 1) _ (by omega) (by simp only [List.length_append, List.length_singleton]; omega) ?_)
                    rw [← e2]
                    simp
              refine Ev.step (f := fun k => rowlockref05_Put.l1 k l (q ++ [x.f0 + 1]) ((0 : Nat) : Int) (l.length : Int) (i : Int) x.f0 x.f1 x.f2) (fun k => by rw [rowlockref05_Put.j2, if_pos h3]; rfl) (txt x.f2.size 0 _ (by omega) (by simp only [List.length_append, List.length_singleton]; omega) ?_)
              rw [e1, List.drop_zero]
              simp
            · have e1 : KeyM.one (toV x) = [x.f0 + 1] := by rw [KeyM.one]; exact congrArg _ ((if_neg h1).trans ((if_neg h2).trans (if_neg h3)))
              refine Ev.step (fun k => by rw [rowlockref05_Put.j2, if_neg h3]) (fin _ ?_)
              rw [e1]
      · rw [if_neg (fun h2 => ok (h2 x (List.mem_cons_self ..)))]
        exact Ev.step (f := fun _ => some (⟨#[]⟩, 1)) (fun k => by rw [rowlockref05_Put.l0, if_pos (by omega), if_pos (by omega), if_pos (by omega), hx, may_ref x hrx, Option.bind_some, decide_eq_false ok, if_neg (by decide)]) (Ev.now _)
  have := key l.length 0 [] (by omega) (by simp)
  rw [List.drop_zero, List.nil_append] at this
  exact this
end Go.Proofs.YthkanebmkeamlaaDoor.Pk
namespace Go.Proofs.YthkanebmkeamlaaDoor.Pk
open Go.RowKit Go.Proofs.YthkanebmkeamlaaDoorW.PrintWords Go.Proofs.YthkanebmkeamlaaDoor.XKey Go.Proofs.YthkanebmkeamlaaDoor.Ky Go.Proofs.YthkanebmkeamlaaDoor.Byt
set_option linter.unusedVariables false
set_option linter.unusedSimpArgs false
theorem KS_size0 (l : List S34) (h : ∀ x ∈ l, (toV x).ok) (hl : l.length ≤ 5000) : (KS l).size ≤ 1000000 := by
  have := key_len l h
  rw [KS, str_size]
  omega
theorem Puts (l0 : List S34) (r0 : ∀ x ∈ l0, rng x) (n0 : l0.length ≤ 9223372036854775807) : Ev (fun k => rowlocklaw05_KeycodePuts.f k l0) true := by
  obtain ⟨g0, e0, q0⟩ := eGreat l0 n0
  refine bind_ev e0 ?_
  cases g0
  case true => exact Ev.congr (fun k => by rw [if_pos rfl, fixed_f, Option.bind_some]) (Ev.now _)
  replace q0 := q0 rfl
  have hp : keycode_Put.f l0 = some (putR l0) := by rw [keycode_Put.f, if_pos ⟨by omega, r0⟩]
  refine Ev.congr (fun k => by rw [if_neg (by decide), hp, Option.bind_some]) (bind_ev (ePut l0 r0 q0) ?_)
  refine Ev.congr (fun k => by rw [fixed_f, Option.bind_some, if_pos rfl, if_pos rfl, bne_self_eq_false]) ?_
  by_cases o0 : ∀ x ∈ l0, (toV x).ok
  · have e1 : putR l0 = (KS l0, 0) := by rw [putR, if_pos o0]; rfl
    rw [e1]
    have hz := KS_size0 l0 o0 q0
    have hG : Ev (fun k => keycode_Get.f k (KS l0)) (l0, 0) := by
      have := eGet (KS l0).size (KS l0) [] (Nat.le_refl _) hz (by simp only [List.length_nil]; omega)
      rw [get_fwd l0 (KS l0).size (Lx (KS l0)) [] o0 (by rw [← KS_bytes l0 o0, bytes_ints]; rfl) (Nat.le_refl _)] at this
      exact this
    refine Ev.step (fun k => by rw [rowlocklaw05_KeycodePuts.j0, if_neg (by decide), if_pos rfl]) (bind_ev hG ?_)
    refine Ev.congr (fun k => if_pos rfl) (bind_ev (eSame l0 n0) (Ev.now _))
  · have e1 : putR l0 = (⟨#[]⟩, 1) := by rw [putR, if_neg o0]
    rw [e1]
    exact Ev.step (f := fun _ => some true) (fun k => by rw [rowlocklaw05_KeycodePuts.j0, if_neg (by decide), if_neg (by decide)]) (Ev.now _)
end Go.Proofs.YthkanebmkeamlaaDoor.Pk
