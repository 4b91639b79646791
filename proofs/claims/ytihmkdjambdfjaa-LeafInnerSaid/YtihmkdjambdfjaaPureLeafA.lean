/- How entries stand: an order; the laws LeafCompare and LeafChild in plain Lean. Conditions: the slice of entries is not endless. -/
import Derived.Test.YtihmkdjambdfjaaXLeafz1
import Derived.Test.YtihmkdjambdfjaaXLeafz2
import Derived.Test.YtihmkdjambdfjaaLfA
namespace Go.Proofs.Ytihmkdjambdfjaa.PureL
open Go.RowKit Go.Proofs.YtihmkdjambdfjaaW.PrintWords Go.Proofs.Ytihmkdjambdfjaa.XLeaf Go.Proofs.Ytihmkdjambdfjaa.Lf
set_option linter.unusedVariables false
set_option linter.unusedSimpArgs false
/-! ### texts -/
theorem cb_rng : ∀ a b : List UInt8, Lib.compareBytes a b = -1 ∨ Lib.compareBytes a b = 0 ∨ Lib.compareBytes a b = 1
  | [], [] => by simp [Lib.compareBytes]
  | [], _ :: _ => by simp [Lib.compareBytes]
  | _ :: _, [] => by simp [Lib.compareBytes]
  | a :: ta, b :: tb => by
    rw [Lib.compareBytes]
    split
    · simp
    · split
      · simp
      · exact cb_rng ta tb
theorem cb_neg : ∀ a b : List UInt8, Lib.compareBytes b a = - Lib.compareBytes a b
  | [], [] => by simp [Lib.compareBytes]
  | [], _ :: _ => by simp [Lib.compareBytes]
  | _ :: _, [] => by simp [Lib.compareBytes]
  | a :: ta, b :: tb => by
    have ih := cb_neg ta tb
    rw [Lib.compareBytes, Lib.compareBytes]
    simp only [UInt8.lt_iff_toNat_lt]
    by_cases h1 : a.toNat < b.toNat
    · rw [if_neg (by omega), if_pos h1, if_pos h1]
      rfl
    · by_cases h2 : b.toNat < a.toNat
      · rw [if_pos h2, if_neg h1, if_pos h2]
      · rw [if_neg h2, if_neg h1, if_neg h1, if_neg h2, ih]
theorem cb_zero : ∀ a b : List UInt8, Lib.compareBytes a b = 0 ↔ a = b
  | [], [] => by simp [Lib.compareBytes]
  | [], _ :: _ => by simp [Lib.compareBytes]
  | _ :: _, [] => by simp [Lib.compareBytes]
  | a :: ta, b :: tb => by
    have ih := cb_zero ta tb
    rw [Lib.compareBytes]
    simp only [UInt8.lt_iff_toNat_lt]
    by_cases h1 : a.toNat < b.toNat
    · rw [if_pos h1]
      refine ⟨(fun h => by cases h), fun h => ?_⟩
      injection h with h _
      rw [h] at h1
      omega
    · by_cases h2 : b.toNat < a.toNat
      · rw [if_neg h1, if_pos h2]
        refine ⟨(fun h => by cases h), fun h => ?_⟩
        injection h with h _
        rw [h] at h2
        omega
      · rw [if_neg h1, if_neg h2, ih]
        have : a = b := UInt8.toNat_inj.1 (by omega)
        rw [this]
        simp
theorem cb_trans : ∀ a b c : List UInt8, Lib.compareBytes a b ≤ 0 → Lib.compareBytes b c ≤ 0 → Lib.compareBytes a c ≤ 0
  | [], _, [] => by simp [Lib.compareBytes]
  | [], _, _ :: _ => by simp [Lib.compareBytes]
  | _ :: _, [], _ => by simp [Lib.compareBytes]
  | _ :: _, _ :: _, [] => by simp [Lib.compareBytes]
  | a :: ta, b :: tb, c :: tc => by
    have ih := cb_trans ta tb tc
    rw [Lib.compareBytes, Lib.compareBytes, Lib.compareBytes]
    simp only [UInt8.lt_iff_toNat_lt]
    intro h1 h2
    by_cases a1 : a.toNat < b.toNat
    · by_cases b1 : b.toNat < c.toNat
      · rw [if_pos (by omega)]
        decide
      · rw [if_neg b1] at h2
        by_cases b2 : c.toNat < b.toNat
        · rw [if_pos b2] at h2
          exact absurd h2 (by decide)
        · rw [if_pos (by omega)]
          decide
    · rw [if_neg a1] at h1
      by_cases a2 : b.toNat < a.toNat
      · rw [if_pos a2] at h1
        exact absurd h1 (by decide)
      · rw [if_neg a2] at h1
        by_cases b1 : b.toNat < c.toNat
        · rw [if_pos (by omega)]
          decide
        · rw [if_neg b1] at h2
          by_cases b2 : c.toNat < b.toNat
          · rw [if_pos b2] at h2
            exact absurd h2 (by decide)
          · rw [if_neg b2] at h2
            rw [if_neg (by omega), if_neg (by omega)]
            exact ih h1 h2
theorem less_cb : ∀ a b : List UInt8, Op.bytesLess a b = decide (Lib.compareBytes a b = -1)
  | [], [] => by simp [Op.bytesLess, Lib.compareBytes]
  | [], _ :: _ => by simp [Op.bytesLess, Lib.compareBytes]
  | _ :: _, [] => by simp [Op.bytesLess, Lib.compareBytes]
  | a :: ta, b :: tb => by
    rw [Op.bytesLess, Lib.compareBytes, less_cb ta tb]
    by_cases h1 : a < b
    · rw [if_pos h1, decide_eq_true h1]
      simp
    · rw [if_neg h1, decide_eq_false h1, Bool.false_or]
      simp only [UInt8.lt_iff_toNat_lt] at h1 ⊢
      by_cases h2 : b.toNat < a.toNat
      · rw [if_pos h2]
        have : (a == b) = false := by
          rw [beq_eq_false_iff_ne]
          intro h
          rw [h] at h2
          omega
        rw [this]
        simp
      · rw [if_neg h2]
        have : a = b := UInt8.toNat_inj.1 (by omega)
        rw [this]
        simp
/-! ### entries -/
theorem cn_rng (x y : Int) : cn x y = -1 ∧ x < y ∨ cn x y = 0 ∧ x = y ∨ cn x y = 1 ∧ y < x := by
  unfold cn
  split
  · exact .inl ⟨rfl, by assumption⟩
  · split
    · exact .inr (.inr ⟨rfl, by omega⟩)
    · exact .inr (.inl ⟨rfl, by omega⟩)
/-- Does one stand ahead of another one? -/
def ls (a b : S27) : Bool := decide (cmpE a b = -1)
theorem cmp_rng (a b : S27) : cmpE a b = -1 ∨ cmpE a b = 0 ∨ cmpE a b = 1 := by
  unfold cmpE
  have h1 := cb_rng a.f0.data.toList b.f0.data.toList
  have h2 := cn_rng a.f1.f0 b.f1.f0
  have h3 := cn_rng a.f1.f1 b.f1.f1
  split
  · split
    · omega
    · omega
  · exact h1
theorem cmp_neg (a b : S27) : cmpE b a = - cmpE a b := by
  unfold cmpE
  have h1 := cb_neg a.f0.data.toList b.f0.data.toList
  have h2 := cn_rng a.f1.f0 b.f1.f0
  have h3 := cn_rng a.f1.f1 b.f1.f1
  have h4 := cn_rng b.f1.f0 a.f1.f0
  have h5 := cn_rng b.f1.f1 a.f1.f1
  by_cases e : Lib.compareBytes a.f0.data.toList b.f0.data.toList = 0
  · rw [if_pos e, if_pos (by omega)]
    by_cases e2 : cn a.f1.f0 b.f1.f0 = 0
    · rw [if_pos e2, if_pos (by omega)]
      omega
    · rw [if_neg e2, if_neg (by omega)]
      omega
  · rw [if_neg e, if_neg (by omega), h1]
theorem cmp_trans (a b c : S27) (h1 : cmpE a b ≤ 0) (h2 : cmpE b c ≤ 0) : cmpE a c ≤ 0 := by
  have k1 := cb_rng a.f0.data.toList b.f0.data.toList
  have k2 := cb_rng b.f0.data.toList c.f0.data.toList
  have k3 := cb_rng a.f0.data.toList c.f0.data.toList
  have t := cb_trans a.f0.data.toList b.f0.data.toList c.f0.data.toList
  have z1 := cb_zero a.f0.data.toList b.f0.data.toList
  have z2 := cb_zero b.f0.data.toList c.f0.data.toList
  have z3 := cb_zero a.f0.data.toList c.f0.data.toList
  have n1 := cb_neg a.f0.data.toList b.f0.data.toList
  have p1 := cn_rng a.f1.f0 b.f1.f0
  have p2 := cn_rng b.f1.f0 c.f1.f0
  have p3 := cn_rng a.f1.f0 c.f1.f0
  have q1 := cn_rng a.f1.f1 b.f1.f1
  have q2 := cn_rng b.f1.f1 c.f1.f1
  have q3 := cn_rng a.f1.f1 c.f1.f1
  unfold cmpE at h1 h2 ⊢
  by_cases e1 : Lib.compareBytes a.f0.data.toList b.f0.data.toList = 0
  · rw [if_pos e1] at h1
    have ab := z1.1 e1
    rw [ab] at k3 t z3 ⊢
    by_cases e2 : Lib.compareBytes b.f0.data.toList c.f0.data.toList = 0
    · rw [if_pos e2] at h2 ⊢
      by_cases x1 : cn a.f1.f0 b.f1.f0 = 0
      · rw [if_pos x1] at h1
        by_cases x2 : cn b.f1.f0 c.f1.f0 = 0
        · rw [if_pos x2] at h2
          rw [if_pos (by omega)]
          omega
        · rw [if_neg x2] at h2
          rw [if_neg (by omega)]
          omega
      · rw [if_neg x1] at h1
        by_cases x2 : cn b.f1.f0 c.f1.f0 = 0
        · rw [if_neg (by omega)]
          omega
        · rw [if_neg x2] at h2
          rw [if_neg (by omega)]
          omega
    · rw [if_neg e2] at h2 ⊢
      exact h2
  · rw [if_neg e1] at h1
    by_cases e3 : Lib.compareBytes a.f0.data.toList c.f0.data.toList = 0
    · have ac := z3.1 e3
      rw [← ac] at k2 h2 z2
      by_cases e2 : Lib.compareBytes b.f0.data.toList a.f0.data.toList = 0
      · omega
      · rw [if_neg e2] at h2
        omega
    · rw [if_neg e3]
      by_cases e2 : Lib.compareBytes b.f0.data.toList c.f0.data.toList = 0
      · have bc := z2.1 e2
        rw [← bc]
        omega
      · rw [if_neg e2] at h2
        exact t (by omega) (by omega)
theorem eLess (a b : S27) : rowlockref10_Less.f a.f0 a.f1.f0 a.f1.f1 b.f0 b.f1.f0 b.f1.f1 = some (ls a b) := by
  rw [rowlockref10_Less.f, ls, cmpE, Lib.toList_data, Lib.toList_data]
  have p := cn_rng a.f1.f0 b.f1.f0
  have q := cn_rng a.f1.f1 b.f1.f1
  have z := cb_zero a.f0.data.toList b.f0.data.toList
  by_cases e : a.f0.data.toList = b.f0.data.toList
  · rw [if_pos e, if_pos (z.2 e)]
    by_cases e2 : a.f1.f0 = b.f1.f0
    · rw [if_pos e2, if_pos (by omega)]
      congr 1
      rw [decide_eq_decide]
      omega
    · rw [if_neg e2, if_neg (by omega)]
      congr 1
      rw [decide_eq_decide]
      omega
  · rw [if_neg e, if_neg (fun h => e (z.1 h)), less_cb]
theorem eGreatL (l : List S27) (hl : l.length ≤ 9223372036854775807) : ∀ (m i : Nat) (a : Int), i + m = l.length → 0 ≤ a → a ≤ 9000 → ∃ r, Ev (fun k => rowlockref10_Great.l0 k l a (l.length : Int) (i : Int)) r
  | 0, i, a, h, h0, h1 => ⟨false, Ev.step (f := fun _ => some false) (fun k => by rw [rowlockref10_Great.l0, if_neg (by omega)]) (Ev.now _)⟩
  | m + 1, i, a, h, h0, h1 => by
    obtain ⟨y, hy⟩ : ∃ y, y = a + (1 + (mn (((rd_T27 l (i : Int)).f0).size : Int) 9000)) := ⟨_, rfl⟩
    have hm : 0 ≤ mn (((rd_T27 l (i : Int)).f0).size : Int) 9000 ∧ mn (((rd_T27 l (i : Int)).f0).size : Int) 9000 ≤ 9000 := by
      unfold mn
      split <;> omega
    have hw : wrap64 y = y := wr_in y (by omega)
    by_cases hg : y > 9000
    · exact ⟨true, Ev.step (f := fun _ => some true) (fun k => by rw [rowlockref10_Great.l0, if_pos (by omega), if_pos (by omega), if_pos (by omega), ← hy, hw, if_pos hg]) (Ev.now _)⟩
    · obtain ⟨r, hr⟩ := eGreatL l hl m (i + 1) y (by omega) (by omega) (by omega)
      exact ⟨r, Ev.step (fun k => by rw [rowlockref10_Great.l0, if_pos (by omega), if_pos (by omega), if_pos (by omega), ← hy, hw, if_neg hg, wr_s i l.length (by omega) (by omega)]) hr⟩
theorem eGreat (l : List S27) (hl : l.length ≤ 9223372036854775807) : ∃ r, Ev (fun k => rowlockref10_Great.f k l) r := by
  obtain ⟨r, hr⟩ := eGreatL l hl l.length 0 0 (by omega) (by omega) (by omega)
  exact ⟨r, Ev.congr (fun k => by rw [rowlockref10_Great.f]; rfl) hr⟩
theorem bind_ev {α β : Type} {A : Nat → Option α} {G : Nat → α → Option β} {a : α} {r : β} (hA : Ev A a) (h : Ev (fun k => G k a) r) : Ev (fun k => (A k).bind (G k)) r := Ev.bind hA h
theorem ite_ev {α : Type} {c : Prop} [Decidable c] {A B : Nat → Option α} {r : α} (h1 : c → Ev A r) (h2 : ¬ c → Ev B r) : Ev (fun k => if c then A k else B k) r := by
  by_cases h : c
  · exact Ev.congr (fun k => if_pos h) (h1 h)
  · exact Ev.congr (fun k => if_neg h) (h2 h)
theorem LeafCompare (a b c : S27) : ∃ k, rowlocklaw10_LeafCompare.f k a.f0 a.f1.f0 a.f1.f1 b.f0 b.f1.f0 b.f1.f1 c.f0 c.f1.f0 c.f1.f1 = some true := by
  refine Ev.rounds ?_
  obtain ⟨g, hg⟩ := eGreat [a, b, c] (by simp)
  refine Ev.congr (fun k => by rw [rowlocklaw10_LeafCompare.f]) ?_
  refine bind_ev (a := g) hg (ite_ev (fun _ => ?_) (fun _ => ?_))
  · exact Ev.now _
  refine bind_ev (eCmp a b) ?_
  refine bind_ev (eCmp b c) ?_
  refine bind_ev (eCmp a c) ?_
  rw [eLess]
  have hn := cmp_neg a b
  have hr := cmp_rng a b
  have ht := cmp_trans a b c
  have hlast : Ev (fun _ => if cmpE a b > 0 then some true else if cmpE b c > 0 then some true else some (decide (cmpE a c ≤ 0))) true := by
    refine ite_ev (fun _ => Ev.now _) (fun h1 => ite_ev (fun _ => Ev.now _) (fun h2 => ?_))
    rw [decide_eq_true (ht (by omega) (by omega))]
    exact Ev.now _
  have hwn : wrap64 (-cmpE a b) = -cmpE a b := wr_in _ (by omega)
  have hmid : Ev (fun k => (leaf_Compare.f k b.f0 b.f1.f0 b.f1.f1 a.f0 a.f1.f0 a.f1.f1).bind fun t117 => (if t117 = (wrap64 (-cmpE a b)) then (if cmpE a b > 0 then (some true) else (if cmpE b c > 0 then (some true) else (some (decide (cmpE a c ≤ 0))))) else (some false))) true := by
    refine bind_ev (G := fun k t117 => (if t117 = (wrap64 (-cmpE a b)) then (if cmpE a b > 0 then (some true) else (if cmpE b c > 0 then (some true) else (some (decide (cmpE a c ≤ 0))))) else (some false))) (eCmp b a) ?_
    exact Ev.congr (fun k => if_pos (by rw [hwn]; exact hn)) hlast
  have hj : ∀ x : Int, x = (if cmpE a b = -1 then -1 else 0) → Ev (fun k => rowlocklaw10_LeafCompare.j0 k (cmpE a b) (cmpE b c) (cmpE a c) x a.f0 a.f1.f0 a.f1.f1 b.f0 b.f1.f0 b.f1.f1) true := fun x hx => by
    refine Ev.step (fun k => by rw [rowlocklaw10_LeafCompare.j0, eLess, Option.bind_some, rowlocklaw10_fixed.f, Option.bind_some, if_pos rfl]) ?_
    refine ite_ev (fun h => ?_) (fun h => ?_)
    · have h1 : cmpE a b = 1 := by have := of_decide_eq_true h; omega
      exact ite_ev (fun _ => hmid) (fun h => absurd h1 h)
    · have h1 : ¬ cmpE b a = -1 := fun e => h (decide_eq_true e)
      refine ite_ev (fun _ => hmid) (fun h => absurd ?_ h)
      rw [hx]
      split <;> omega
  refine Ev.congr (f := fun k => if ls a b = true then rowlocklaw10_LeafCompare.j0 k (cmpE a b) (cmpE b c) (cmpE a c) (-1) a.f0 a.f1.f0 a.f1.f1 b.f0 b.f1.f0 b.f1.f1 else rowlocklaw10_LeafCompare.j0 k (cmpE a b) (cmpE b c) (cmpE a c) 0 a.f0 a.f1.f0 a.f1.f1 b.f0 b.f1.f0 b.f1.f1) (fun k => rfl) (ite_ev (fun h => hj _ ?_) (fun h => hj _ ?_))
  · rw [if_pos (of_decide_eq_true h)]
  · rw [if_neg (fun e => h (decide_eq_true e))]
/-- How many don't stand behind one. -/
def ct (x : S27) : List S27 → Int
  | [] => 0
  | s :: l => (if cmpE s x ≤ 0 then 1 else 0) + ct x l
theorem ct_in (x : S27) : ∀ l : List S27, 0 ≤ ct x l ∧ ct x l ≤ l.length
  | [] => by simp [ct]
  | s :: l => by
    have := ct_in x l
    rw [ct, List.length_cons]
    split <;> omega
theorem eChildL (x : S27) (l : List S27) (hl : l.length ≤ 9223372036854775807) : ∀ (m i : Nat) (n : Int), i + m = l.length → 0 ≤ n → n ≤ i → Ev (fun k => leaf_Child.l0 k n l (l.length : Int) (i : Int) x.f0 x.f1.f0 x.f1.f1) (n + ct x (l.drop i))
  | 0, i, n, h, h0, h1 => by
    rw [List.drop_of_length_le (by omega), ct, Int.add_zero]
    exact Ev.step (f := fun _ => some n) (fun k => by rw [leaf_Child.l0, if_neg (by omega)]) (Ev.now _)
  | m + 1, i, n, h, h0, h1 => by
    rw [drop_rd l i (by omega), ct]
    refine Ev.step (fun k => by rw [leaf_Child.l0, if_pos (by omega), if_pos (by omega), if_pos (by omega), wr_s i l.length (by omega) (by omega), wr_in (n + 1) (by omega)]) ?_
    refine bind_ev (eCmp (rd_T27 l (i : Int)) x) (ite_ev (fun hc => ?_) (fun hc => ?_))
    · rw [if_pos hc]
      have := eChildL x l hl m (i + 1) (n + 1) (by omega) (by omega) (by omega)
      rwa [show n + 1 + ct x (l.drop (i + 1)) = n + (1 + ct x (l.drop (i + 1))) by omega] at this
    · rw [if_neg hc]
      have := eChildL x l hl m (i + 1) n (by omega) (by omega) (by omega)
      rwa [show n + ct x (l.drop (i + 1)) = n + (0 + ct x (l.drop (i + 1))) by omega] at this
theorem eChild (x : S27) (l : List S27) (hl : l.length ≤ 9223372036854775807) : Ev (fun k => leaf_Child.f k l x.f0 x.f1.f0 x.f1.f1) (ct x l) := by
  have h := eChildL x l hl l.length 0 0 (by omega) (by omega) (by omega)
  rw [List.drop_zero, Int.zero_add] at h
  exact Ev.congr (fun k => by rw [leaf_Child.f]; rfl) h
theorem childL (x : S27) (l : List S27) (hl : l.length ≤ 9223372036854775807) : ∀ (m i : Nat) (n : Int), i + m = l.length → 0 ≤ n → n ≤ i → n + ct x (l.drop i) = ct x l → Ev (fun k => rowlocklaw10_LeafChild.l0 k l n l (l.length : Int) (i : Int) x.f0 x.f1.f0 x.f1.f1) true
  | 0, i, n, h, h0, h1, he => by
    rw [List.drop_of_length_le (by omega), ct, Int.add_zero] at he
    refine Ev.step (fun k => by rw [rowlocklaw10_LeafChild.l0, if_neg (by omega), rowlocklaw10_fixed.f, Option.bind_some, if_pos rfl]) ?_
    refine bind_ev (eChild x l hl) ?_
    rw [he, beq_self_eq_true]
    exact Ev.now _
  | m + 1, i, n, h, h0, h1, he => by
    rw [drop_rd l i (by omega), ct] at he
    have hn := cmp_neg x (rd_T27 l (i : Int))
    have hr := cmp_rng x (rd_T27 l (i : Int))
    refine Ev.step (fun k => by rw [rowlocklaw10_LeafChild.l0, if_pos (by omega), if_pos (by omega), if_pos (by omega), wr_s i l.length (by omega) (by omega), wr_in (n + 1) (by omega), eLess, Option.bind_some]) ?_
    refine ite_ev (fun hc => ?_) (fun hc => ?_)
    · have h1' := of_decide_eq_true hc
      rw [if_neg (by omega)] at he
      exact childL x l hl m (i + 1) n (by omega) (by omega) (by omega) (by omega)
    · have h1' : ¬ cmpE x (rd_T27 l (i : Int)) = -1 := fun e => hc (decide_eq_true e)
      rw [if_pos (by omega)] at he
      exact childL x l hl m (i + 1) (n + 1) (by omega) (by omega) (by omega) (by omega)
theorem LeafChild (l : List S27) (x : S27) (hl : l.length ≤ 9223372036854775807) : ∃ k, rowlocklaw10_LeafChild.f k l x.f0 x.f1.f0 x.f1.f1 = some true := by
  refine Ev.rounds ?_
  obtain ⟨g, hg⟩ := eGreat l hl
  obtain ⟨g2, hg2⟩ := eGreat [x] (by simp)
  have hj : ∀ b, Ev (fun k => rowlocklaw10_LeafChild.j0 k l b x.f0 x.f1.f0 x.f1.f1) true := fun b => by
    refine Ev.step (fun k => by rw [rowlocklaw10_LeafChild.j0]) (ite_ev (fun _ => ?_) (fun _ => ?_))
    · exact Ev.now _
    · have := childL x l hl l.length 0 0 (by omega) (by omega) (by omega) (by rw [List.drop_zero, Int.zero_add])
      exact this
  refine Ev.congr (fun k => by rw [rowlocklaw10_LeafChild.f]) ?_
  refine bind_ev hg (ite_ev (fun _ => hj _) (fun _ => ?_))
  exact bind_ev (G := fun k t => rowlocklaw10_LeafChild.j0 k l t x.f0 x.f1.f0 x.f1.f1) hg2 (hj g2)
end Go.Proofs.Ytihmkdjambdfjaa.PureL
