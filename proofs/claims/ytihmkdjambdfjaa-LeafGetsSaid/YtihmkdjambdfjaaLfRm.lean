/- Leaf pages and inner pages: what is got of any bytes, the law LeafGets. Conditions: stated in each theorem. -/
import Derived.Test.YtihmkdjambdfjaaLfA
import Derived.Test.YtihmkdjambdfjaaLfC
import Derived.Test.YtihmkdjambdfjaaXLeafx7
import Derived.Test.YtihmkdjambdfjaaProg
import Derived.Test.YtihmkdjambdfjaaWWords
import Derived.Test.YtihmkdjambdfjaaWMore
import Derived.Lib.SliceRun
import Derived.Laws.IdiomCopy
import Derived.Test.YtihmkdjambdfjaaLfG
import Derived.Test.YtihmkdjambdfjaaByt
import Derived.Test.YtihmkdjambdfjaaLeafh
import Derived.Test.YtihmkdjambdfjaaXLeafx6
import Derived.Test.YtihmkdjambdfjaaXLeafx9
import Derived.Deep.CutRange
import Derived.Deep.DeepCutAuto
import Derived.BigRegion
namespace Go.Proofs.Ytihmkdjambdfjaa.PureL
open Go.RowKit Go.Proofs.YtihmkdjambdfjaaW.PrintWords Go.Proofs.Ytihmkdjambdfjaa.XLeaf Go.Proofs.Ytihmkdjambdfjaa.Lf
set_option linter.unusedVariables false
set_option linter.unusedSimpArgs false
/-! ### texts -/
theorem cb_rng : ∀ a b : List UInt8, Lib.compareBytes a b = -1 ∨ Lib.compareBytes a b = 0 ∨ Lib.compareBytes a b = 1
  | [], [] => by simp [Lib.compareBytes]
  | [], _ :: _ => by simp [Lib.compareBytes]
  | _ :: _, [] => by simp [Lib.compareBytes]
  | a :: ta, b :: tb => by
    rw [Lib.compareBytes]
    split
    · simp
    · split
      · simp
      · exact cb_rng ta tb
theorem cb_neg : ∀ a b : List UInt8, Lib.compareBytes b a = - Lib.compareBytes a b
  | [], [] => by simp [Lib.compareBytes]
  | [], _ :: _ => by simp [Lib.compareBytes]
  | _ :: _, [] => by simp [Lib.compareBytes]
  | a :: ta, b :: tb => by
    have ih := cb_neg ta tb
    rw [Lib.compareBytes, Lib.compareBytes]
    simp only [UInt8.lt_iff_toNat_lt]
    by_cases h1 : a.toNat < b.toNat
    · rw [if_neg (by omega), if_pos h1, if_pos h1]
      rfl
    · by_cases h2 : b.toNat < a.toNat
      · rw [if_pos h2, if_neg h1, if_pos h2]
      · rw [if_neg h2, if_neg h1, if_neg h1, if_neg h2, ih]
theorem cb_zero : ∀ a b : List UInt8, Lib.compareBytes a b = 0 ↔ a = b
  | [], [] => by simp [Lib.compareBytes]
  | [], _ :: _ => by simp [Lib.compareBytes]
  | _ :: _, [] => by simp [Lib.compareBytes]
  | a :: ta, b :: tb => by
    have ih := cb_zero ta tb
    rw [Lib.compareBytes]
    simp only [UInt8.lt_iff_toNat_lt]
    by_cases h1 : a.toNat < b.toNat
    · rw [if_pos h1]
      refine ⟨(fun h => by cases h), fun h => ?_⟩
      injection h with h _
      rw [h] at h1
      omega
    · by_cases h2 : b.toNat < a.toNat
      · rw [if_neg h1, if_pos h2]
        refine ⟨(fun h => by cases h), fun h => ?_⟩
        injection h with h _
        rw [h] at h2
        omega
      · rw [if_neg h1, if_neg h2, ih]
        have : a = b := UInt8.toNat_inj.1 (by omega)
        rw [this]
        simp
theorem cb_trans : ∀ a b c : List UInt8, Lib.compareBytes a b ≤ 0 → Lib.compareBytes b c ≤ 0 → Lib.compareBytes a c ≤ 0
  | [], _, [] => by simp [Lib.compareBytes]
  | [], _, _ :: _ => by simp [Lib.compareBytes]
  | _ :: _, [], _ => by simp [Lib.compareBytes]
  | _ :: _, _ :: _, [] => by simp [Lib.compareBytes]
  | a :: ta, b :: tb, c :: tc => by
    have ih := cb_trans ta tb tc
    rw [Lib.compareBytes, Lib.compareBytes, Lib.compareBytes]
    simp only [UInt8.lt_iff_toNat_lt]
    intro h1 h2
    by_cases a1 : a.toNat < b.toNat
    · by_cases b1 : b.toNat < c.toNat
      · rw [if_pos (by omega)]
        decide
      · rw [if_neg b1] at h2
        by_cases b2 : c.toNat < b.toNat
        · rw [if_pos b2] at h2
          exact absurd h2 (by decide)
        · rw [if_pos (by omega)]
          decide
    · rw [if_neg a1] at h1
      by_cases a2 : b.toNat < a.toNat
      · rw [if_pos a2] at h1
        exact absurd h1 (by decide)
      · rw [if_neg a2] at h1
        by_cases b1 : b.toNat < c.toNat
        · rw [if_pos (by omega)]
          decide
        · rw [if_neg b1] at h2
          by_cases b2 : c.toNat < b.toNat
          · rw [if_pos b2] at h2
            exact absurd h2 (by decide)
          · rw [if_neg b2] at h2
            rw [if_neg (by omega), if_neg (by omega)]
            exact ih h1 h2
theorem less_cb : ∀ a b : List UInt8, Op.bytesLess a b = decide (Lib.compareBytes a b = -1)
  | [], [] => by simp [Op.bytesLess, Lib.compareBytes]
  | [], _ :: _ => by simp [Op.bytesLess, Lib.compareBytes]
  | _ :: _, [] => by simp [Op.bytesLess, Lib.compareBytes]
  | a :: ta, b :: tb => by
    rw [Op.bytesLess, Lib.compareBytes, less_cb ta tb]
    by_cases h1 : a < b
    · rw [if_pos h1, decide_eq_true h1]
      simp
    · rw [if_neg h1, decide_eq_false h1, Bool.false_or]
      simp only [UInt8.lt_iff_toNat_lt] at h1 ⊢
      by_cases h2 : b.toNat < a.toNat
      · rw [if_pos h2]
        have : (a == b) = false := by
          rw [beq_eq_false_iff_ne]
          intro h
          rw [h] at h2
          omega
        rw [this]
        simp
      · rw [if_neg h2]
        have : a = b := UInt8.toNat_inj.1 (by omega)
        rw [this]
        simp
/-! ### entries -/
theorem cn_rng (x y : Int) : cn x y = -1 ∧ x < y ∨ cn x y = 0 ∧ x = y ∨ cn x y = 1 ∧ y < x := by
  unfold cn
  split
  · exact .inl ⟨rfl, by assumption⟩
  · split
    · exact .inr (.inr ⟨rfl, by omega⟩)
    · exact .inr (.inl ⟨rfl, by omega⟩)
/-- Does one stand ahead of another one? -/
def ls (a b : S27) : Bool := decide (cmpE a b = -1)
theorem cmp_rng (a b : S27) : cmpE a b = -1 ∨ cmpE a b = 0 ∨ cmpE a b = 1 := by
  unfold cmpE
  have h1 := cb_rng a.f0.data.toList b.f0.data.toList
  have h2 := cn_rng a.f1.f0 b.f1.f0
  have h3 := cn_rng a.f1.f1 b.f1.f1
  split
  · split
    · omega
    · omega
  · exact h1
theorem cmp_neg (a b : S27) : cmpE b a = - cmpE a b := by
  unfold cmpE
  have h1 := cb_neg a.f0.data.toList b.f0.data.toList
  have h2 := cn_rng a.f1.f0 b.f1.f0
  have h3 := cn_rng a.f1.f1 b.f1.f1
  have h4 := cn_rng b.f1.f0 a.f1.f0
  have h5 := cn_rng b.f1.f1 a.f1.f1
  by_cases e : Lib.compareBytes a.f0.data.toList b.f0.data.toList = 0
  · rw [if_pos e, if_pos (by omega)]
    by_cases e2 : cn a.f1.f0 b.f1.f0 = 0
    · rw [if_pos e2, if_pos (by omega)]
      omega
    · rw [if_neg e2, if_neg (by omega)]
      omega
  · rw [if_neg e, if_neg (by omega), h1]
theorem cmp_trans (a b c : S27) (h1 : cmpE a b ≤ 0) (h2 : cmpE b c ≤ 0) : cmpE a c ≤ 0 := by
  have k1 := cb_rng a.f0.data.toList b.f0.data.toList
  have k2 := cb_rng b.f0.data.toList c.f0.data.toList
  have k3 := cb_rng a.f0.data.toList c.f0.data.toList
  have t := cb_trans a.f0.data.toList b.f0.data.toList c.f0.data.toList
  have z1 := cb_zero a.f0.data.toList b.f0.data.toList
  have z2 := cb_zero b.f0.data.toList c.f0.data.toList
  have z3 := cb_zero a.f0.data.toList c.f0.data.toList
  have n1 := cb_neg a.f0.data.toList b.f0.data.toList
  have p1 := cn_rng a.f1.f0 b.f1.f0
  have p2 := cn_rng b.f1.f0 c.f1.f0
  have p3 := cn_rng a.f1.f0 c.f1.f0
  have q1 := cn_rng a.f1.f1 b.f1.f1
  have q2 := cn_rng b.f1.f1 c.f1.f1
  have q3 := cn_rng a.f1.f1 c.f1.f1
  unfold cmpE at h1 h2 ⊢
  by_cases e1 : Lib.compareBytes a.f0.data.toList b.f0.data.toList = 0
  · rw [if_pos e1] at h1
    have ab := z1.1 e1
    rw [ab] at k3 t z3 ⊢
    by_cases e2 : Lib.compareBytes b.f0.data.toList c.f0.data.toList = 0
    · rw [if_pos e2] at h2 ⊢
      by_cases x1 : cn a.f1.f0 b.f1.f0 = 0
      · rw [if_pos x1] at h1
        by_cases x2 : cn b.f1.f0 c.f1.f0 = 0
        · rw [if_pos x2] at h2
          rw [if_pos (by omega)]
          omega
        · rw [if_neg x2] at h2
          rw [if_neg (by omega)]
          omega
      · rw [if_neg x1] at h1
        by_cases x2 : cn b.f1.f0 c.f1.f0 = 0
        · rw [if_neg (by omega)]
          omega
        · rw [if_neg x2] at h2
          rw [if_neg (by omega)]
          omega
    · rw [if_neg e2] at h2 ⊢
      exact h2
  · rw [if_neg e1] at h1
    by_cases e3 : Lib.compareBytes a.f0.data.toList c.f0.data.toList = 0
    · have ac := z3.1 e3
      rw [← ac] at k2 h2 z2
      by_cases e2 : Lib.compareBytes b.f0.data.toList a.f0.data.toList = 0
      · omega
      · rw [if_neg e2] at h2
        omega
    · rw [if_neg e3]
      by_cases e2 : Lib.compareBytes b.f0.data.toList c.f0.data.toList = 0
      · have bc := z2.1 e2
        rw [← bc]
        omega
      · rw [if_neg e2] at h2
        exact t (by omega) (by omega)
theorem eLess (a b : S27) : rowlockref10_Less.f a.f0 a.f1.f0 a.f1.f1 b.f0 b.f1.f0 b.f1.f1 = some (ls a b) := by
  rw [rowlockref10_Less.f, ls, cmpE, Lib.toList_data, Lib.toList_data]
  have p := cn_rng a.f1.f0 b.f1.f0
  have q := cn_rng a.f1.f1 b.f1.f1
  have z := cb_zero a.f0.data.toList b.f0.data.toList
  by_cases e : a.f0.data.toList = b.f0.data.toList
  · rw [if_pos e, if_pos (z.2 e)]
    by_cases e2 : a.f1.f0 = b.f1.f0
    · rw [if_pos e2, if_pos (by omega)]
      congr 1
      rw [decide_eq_decide]
      omega
    · rw [if_neg e2, if_neg (by omega)]
      congr 1
      rw [decide_eq_decide]
      omega
  · rw [if_neg e, if_neg (fun h => e (z.1 h)), less_cb]
theorem eGreatL (l : List S27) (hl : l.length ≤ 9223372036854775807) : ∀ (m i : Nat) (a : Int), i + m = l.length → 0 ≤ a → a ≤ 9000 → ∃ r, Ev (fun k => rowlockref10_Great.l0 k l a (l.length : Int) (i : Int)) r
  | 0, i, a, h, h0, h1 => ⟨false, Ev.step (f := fun _ => some false) (fun k => by rw [rowlockref10_Great.l0, if_neg (by omega)]) (Ev.now _)⟩
  | m + 1, i, a, h, h0, h1 => by
    obtain ⟨y, hy⟩ : ∃ y, y = a + (1 + (mn (((rd_T27 l (i : Int)).f0).size : Int) 9000)) := ⟨_, rfl⟩
    have hm : 0 ≤ mn (((rd_T27 l (i : Int)).f0).size : Int) 9000 ∧ mn (((rd_T27 l (i : Int)).f0).size : Int) 9000 ≤ 9000 := by
      unfold mn
      split <;> omega
    have hw : wrap64 y = y := wr_in y (by omega)
    by_cases hg : y > 9000
    · exact ⟨true, Ev.step (f := fun _ => some true) (fun k => by rw [rowlockref10_Great.l0, if_pos (by omega), if_pos (by omega), if_pos (by omega), ← hy, hw, if_pos hg]) (Ev.now _)⟩
    · obtain ⟨r, hr⟩ := eGreatL l hl m (i + 1) y (by omega) (by omega) (by omega)
      exact ⟨r, Ev.step (fun k => by rw [rowlockref10_Great.l0, if_pos (by omega), if_pos (by omega), if_pos (by omega), ← hy, hw, if_neg hg, wr_s i l.length (by omega) (by omega)]) hr⟩
theorem eGreat (l : List S27) (hl : l.length ≤ 9223372036854775807) : ∃ r, Ev (fun k => rowlockref10_Great.f k l) r := by
  obtain ⟨r, hr⟩ := eGreatL l hl l.length 0 0 (by omega) (by omega) (by omega)
  exact ⟨r, Ev.congr (fun k => by rw [rowlockref10_Great.f]; rfl) hr⟩
theorem bind_ev {α β : Type} {A : Nat → Option α} {G : Nat → α → Option β} {a : α} {r : β} (hA : Ev A a) (h : Ev (fun k => G k a) r) : Ev (fun k => (A k).bind (G k)) r := Ev.bind hA h
theorem ite_ev {α : Type} {c : Prop} [Decidable c] {A B : Nat → Option α} {r : α} (h1 : c → Ev A r) (h2 : ¬ c → Ev B r) : Ev (fun k => if c then A k else B k) r := by
  by_cases h : c
  · exact Ev.congr (fun k => if_pos h) (h1 h)
  · exact Ev.congr (fun k => if_neg h) (h2 h)
/-- How many don't stand behind one. -/
def ct (x : S27) : List S27 → Int
  | [] => 0
  | s :: l => (if cmpE s x ≤ 0 then 1 else 0) + ct x l
theorem ct_in (x : S27) : ∀ l : List S27, 0 ≤ ct x l ∧ ct x l ≤ l.length
  | [] => by simp [ct]
  | s :: l => by
    have := ct_in x l
    rw [ct, List.length_cons]
    split <;> omega
theorem eChildL (x : S27) (l : List S27) (hl : l.length ≤ 9223372036854775807) : ∀ (m i : Nat) (n : Int), i + m = l.length → 0 ≤ n → n ≤ i → Ev (fun k => leaf_Child.l0 k n l (l.length : Int) (i : Int) x.f0 x.f1.f0 x.f1.f1) (n + ct x (l.drop i))
  | 0, i, n, h, h0, h1 => by
    rw [List.drop_of_length_le (by omega), ct, Int.add_zero]
    exact Ev.step (f := fun _ => some n) (fun k => by rw [leaf_Child.l0, if_neg (by omega)]) (Ev.now _)
  | m + 1, i, n, h, h0, h1 => by
    rw [drop_rd l i (by omega), ct]
    refine Ev.step (fun k => by rw [leaf_Child.l0, if_pos (by omega), if_pos (by omega), if_pos (by omega), wr_s i l.length (by omega) (by omega), wr_in (n + 1) (by omega)]) ?_
    refine bind_ev (eCmp (rd_T27 l (i : Int)) x) (ite_ev (fun hc => ?_) (fun hc => ?_))
    · rw [if_pos hc]
      have := eChildL x l hl m (i + 1) (n + 1) (by omega) (by omega) (by omega)
      rwa [show n + 1 + ct x (l.drop (i + 1)) = n + (1 + ct x (l.drop (i + 1))) by omega] at this
    · rw [if_neg hc]
      have := eChildL x l hl m (i + 1) n (by omega) (by omega) (by omega)
      rwa [show n + ct x (l.drop (i + 1)) = n + (0 + ct x (l.drop (i + 1))) by omega] at this
theorem eChild (x : S27) (l : List S27) (hl : l.length ≤ 9223372036854775807) : Ev (fun k => leaf_Child.f k l x.f0 x.f1.f0 x.f1.f1) (ct x l) := by
  have h := eChildL x l hl l.length 0 0 (by omega) (by omega) (by omega)
  rw [List.drop_zero, Int.zero_add] at h
  exact Ev.congr (fun k => by rw [leaf_Child.f]; rfl) h
end Go.Proofs.Ytihmkdjambdfjaa.PureL
namespace Go.Proofs.Ytihmkdjambdfjaa.Lf
open Go.RowKit Go.Proofs.YtihmkdjambdfjaaW.PrintWords Go.Proofs.YtihmkdjambdfjaaW.PrintLast Go.Proofs.YtihmkdjambdfjaaW.PrintMore Go.Proofs.Ytihmkdjambdfjaa.XLeaf Go.Proofs.Ytihmkdjambdfjaa.Tk
set_option linter.unusedVariables false
set_option linter.unusedSimpArgs false
set_option maxRecDepth 100000
theorem isize_ok (A : Option Addr) (c : Nat) (l : List S27) (w : World) (hC : Kd.C k27 w A l.length l) (hc : l.length ≤ c) (hg : goodE l) : Calls Try.prog 25 #[.slice A l.length c] w fun e w' => e = .returned (.int .i64 (8 + szE l + 4 * ((l.length : Int) + 1))) ∧ Below w.heap.size w w' := by
  have hin := szE_in l (fun x hx => (hg.2 x hx).1)
  have hl := hg.1
  have h : Ev (fun k => leaf_InnerSize.f k l) (8 + szE l + 4 * ((l.length : Int) + 1)) := by
    refine Ev.congr (fun k => by rw [leaf_InnerSize.f]) (Ev.bind (f := fun k t => some (wrap64 (t + (wrap64 (4 * (wrap64 ((l.length : Int) + 1))))))) (eSize l (by omega) (fun x hx => (hg.2 x hx).1)) ?_)
    rw [wr_in ((l.length : Int) + 1) (by omega), wr_in (4 * ((l.length : Int) + 1)) (by omega), wr_in _ (by omega)]
    exact Ev.now _
  obtain ⟨k, h⟩ := h.rounds
  exact leaf_InnerSize.calls k A c l _ w hC hc h
theorem add_pos (a : Addr) (n : Nat) : a.add (n + 1) = ⟨a.block, a.off + (n + 1), none⟩ := by
  unfold Addr.add
  split <;> simp_all
/-- Separators' and children's writing, so many of them. -/
def wrI (cs : List Int) (l : List S27) (n : Nat) : List Int := be4 (rd cs 0) ++ (List.range n).flatMap fun (i : Nat) => wrE (rd_T27 l (i : Int)).f0 (rd_T27 l (i : Int)).f1.f0 (rd_T27 l (i : Int)).f1.f1 ++ be4 (rd cs ((i + 1 : Nat) : Int))
theorem wrI_step (cs : List Int) (l : List S27) (n : Nat) : wrI cs l (n + 1) = wrI cs l n ++ wrE (rd_T27 l (n : Int)).f0 (rd_T27 l (n : Int)).f1.f0 (rd_T27 l (n : Int)).f1.f1 ++ be4 (rd cs ((n + 1 : Nat) : Int)) := by
  rw [wrI, wrI, List.range_succ, List.flatMap_append]
  simp
theorem wrI_len (cs : List Int) (l : List S27) : ∀ n : Nat, n ≤ l.length → ((wrI cs l n).length : Int) = 4 + szE (l.take n) + 4 * n
  | 0, _ => by simp [wrI, szE, Tk.be4]
  | n + 1, h => by
    have ih := wrI_len cs l n (by omega)
    have e1 := wrL_len (l.take (n + 1))
    have e2 := wrL_len (l.take n)
    rw [wrL_take l n (by omega), List.length_append, wrE_len] at e1
    rw [wrI_step, List.length_append, List.length_append, wrE_len]
    have : (be4 (rd cs ((n + 1 : Nat) : Int))).length = 4 := rfl
    omega
theorem ES.entry {w0 w wc : World} {P : Nat → Prop} {cs : Array Value} {t : Nat} {s : Value} {xs : List Int} (h : ES w0 w wc P cs t s xs) (key : ByteArray) (pg sl : Int) (hl : xs.length ≤ 100000) (hk : key.size ≤ 100000) (hsl : 0 ≤ sl ∧ sl < 65536) :
    Calls Try.prog 39 #[s, .agg #[.string key, .int .u32 pg, .int .u16 sl]] wc fun e w' => ∃ v', e = .returned v' ∧ ES w0 w w' P cs t v' (xs ++ wrE key pg sl) := by
  obtain ⟨⟨ok, h1, h2⟩, h3, h4, h5⟩ := h
  refine (entry_ok ok s xs key pg sl w0 wc h4 h2 hl hk hsl).mono ?_
  rintro e w' ⟨v', rfl, ho, hb, hk⟩
  have hs := h5.1
  have hlt := blk_lt h3
  refine ⟨v', rfl, ⟨_, fun k hk => ?_, ho⟩, blk_kept h3 hk (fun h => by rcases h1 _ h with h | h <;> omega), hb, h5.then_ hk (fun k h => (h1 k h).imp (fun h => h.1) (fun h => by omega))⟩
  rcases hk with hk | hk
  · exact h1 k hk
  · exact .inr (by omega)
/-- What the put of an inner page gives. -/
def putI (cs : List Int) (l : List S27) : List Int × Int :=
  if l.length = 0 ∨ cs.length ≠ l.length + 1 then ([], 1)
  else if mayE l (8 + szE l + 4 * ((l.length : Int) + 1)) = 0 then (pgF 3 l.length 0 (wrI cs l l.length), 0) else ([], mayE l (8 + szE l + 4 * ((l.length : Int) + 1)))
theorem may_is {A : Option Addr} {c : Nat} {l : List S27} {n m : Int} (hm : mayE l n = m) (w : World) (hg : goodE l) (hC : Kd.C k27 w A l.length l) (hc : l.length ≤ c) :
    Calls Try.prog 38 #[.slice A l.length c, .int .i64 n] w fun e w' => e = .returned (.int .i64 m) ∧ Below w.heap.size w w' := by
  subst hm
  exact may_ok w A c l n hg hC hc
set_option maxHeartbeats 8000000 in
theorem putInner_ok (w : World) (B : Option Addr) (d : Nat) (cs : List Int) (A : Option Addr) (c : Nat) (l : List S27) (hg : goodE l) (hC : Kd.C k27 w A l.length l) (hc : l.length ≤ c) (hD : Kd.C (Kd.int .u32) w B cs.length cs) (hd : cs.length ≤ 1000000) :
    Calls Try.prog 23 #[.slice B cs.length d, .slice A l.length c] w fun e w' => ∃ v, e = .returned (.tuple #[v, .int .i64 (putI cs l).2]) ∧ Kd.R (Kd.int .u8) 5 w' w.heap.size (fun _ => True) v (putI cs l).1 ∧ Below w.heap.size w w' := by
  have HC := Aside0.mk (And.intro hC (And.intro hg (And.intro hc (And.intro hD hd))))
  unfold putI
  by_cases z0 : l.length = 0
  · rw [if_pos (.inl z0)]
    have HZ := Aside0.mk z0
    have b0 : ((l.length : Int) == 0) = true := by simpa using z0
    have b1 : (l.length == 0) = true := by simpa using z0
    clear hC hg hc hD hd z0
    go_enter Try.func23, Try.ntmps23
    go_wp2
    go_ret2
    exact ⟨_, rfl, Kd.R_nil _ _ _ _ _, Below.refl _ _⟩
  have b0 : ((l.length : Int) == 0) = false := by simp; intro h; exact z0 (by simp [h])
  have b1 : (l.length == 0) = false := by simpa using z0
  by_cases z1 : cs.length ≠ l.length + 1
  · rw [if_pos (.inr z1)]
    have n0 : ((cs.length : Int) != (l.length : Int) + 1) = true := by simp; omega
    have hl9 := hg.1
    have hww : wrap64 ((l.length : Int) + 1) = (l.length : Int) + 1 := wr_in _ (by omega)
    clear hC hg hc hD hd z1 z0
    go_enter Try.func23, Try.ntmps23
    go_wp2
    go_ret2
    exact ⟨_, rfl, Kd.R_nil _ _ _ _ _, Below.refl _ _⟩
  have z1 : cs.length = l.length + 1 := by omega
  rw [if_neg (by omega)]
  have n0 : ((cs.length : Int) != (l.length : Int) + 1) = false := by simp; omega
  have hl9 := hg.1
  obtain ⟨m, hm⟩ : ∃ m, m = mayE l (8 + szE l + 4 * ((l.length : Int) + 1)) := ⟨_, rfl⟩
  rw [← hm]
  have HM := Aside0.mk hm.symm
  have HZ := Aside0.mk (And.intro z0 z1)
  clear hC hg hc hD hd hm z0 z1
  by_cases h0 : m = 0
  · rw [if_pos h0]
    have HM0 := Aside0.mk (mayE_0 (HM.out.trans h0))
    have d0 : (m != 0) = false := by simpa using h0
    clear h0
    have hs5 : 8 + szE l + 4 * ((l.length : Int) + 1) ≤ 512 := HM0.out.2.2
    have HS5 := Aside0.mk (And.intro hs5 (show (l.length : Int) ≤ 63 by have := szE_len l; omega))
    clear hs5
    obtain ⟨ad0, eB, hz⟩ := Kd.at_int HC.out.2.2.2.1 0 (by omega) (by have := HZ.out.2; omega)
    subst eB
    have hz0 : w.cell? ad0 = some (.int .u32 (rd cs 0)) := by
      have e0 : ad0.add (0 : Int).toNat = ad0 := by simp [Addr.add]
      rw [e0] at hz
      exact hz
    have HZ0 := Aside0.mk hz0
    have pc0 : 0 < cs.length := by have := HZ.out.2; omega
    clear hz hz0
    go_enter Try.func23, Try.ntmps23
    go_wp2_with (first
      | (go_at_call 25; (with_reducible refine (isize_ok (some _) c l _ HC.out.1 HC.out.2.2.1 HC.out.2.1).mono ?_); rintro en w1 ⟨rfl, hb⟩; have HB1 := Aside0.mk hb; clear hb)
      | (go_at_call 25; (with_reducible refine (isize_ok A c l _ HC.out.1 HC.out.2.2.1 HC.out.2.1).mono ?_); rintro en w1 ⟨rfl, hb⟩; have HB1 := Aside0.mk hb; clear hb)
      | (go_at_call 38; (with_reducible refine (may_is HM.out _ HC.out.2.1 (Kd.C_below HC.out.1 HB1.out) HC.out.2.2.1).mono ?_); rintro en w2 ⟨rfl, hb⟩; have HB2 := Aside0.mk (below_then HB1.out HB1.out.size hb); clear hb; have hz0 := (HB2.out.cell (World.block_lt_of_cell? w _ HZ0.out)).trans HZ0.out)
      | (go_at_call 48; (with_reducible refine (put4 (fun _ => True) (.slice none 0 0) [] (rd cs 0) w _ HB2.out (Kd.R_nil _ _ _ _ _) (by decide)).mono ?_); rintro en w3 ⟨v3, rfl, ho, hb, _⟩; have HO3 := Aside0.mk (Kd.R_mono ho (ok' := fun _ => True) (fun _ _ => trivial)); have HB3 := Aside0.mk hb; clear ho hb hz0))
    go_loopg [7, 34] l.length (fun kq v7 v34 w' => ∃ i : Nat, v34 = .int .i64 (i : Int) ∧ Aside0 (kq + i = l.length) ∧ Aside0 (Kd.R (Kd.int .u8) 5 w' w.heap.size (fun _ => True) v7 (wrI cs l i)) ∧ Aside0 (Below w.heap.size w w'))
    case atStart => exact ⟨0, rfl, ⟨by omega⟩, ⟨by simpa [wrI] using HO3.out⟩, HB3⟩
    case round =>
      clear HB3 HO3 HB2 HB1
      obtain ⟨i, rfl, HI, HO, HB⟩ := hrel
      by_cases c5 : i < l.length
      · have c1 : decide ((i : Int) < (l.length : Int)) = true := decide_eq_true (by omega)
        have c1b : decide (i < l.length) = true := decide_eq_true c5
        obtain ⟨ad, e1, hx0, hx1, hx2⟩ := at_T27 HC.out.1 (i : Int) (by omega) (by omega)
        subst e1
        replace hx0 := (HB.out.cell (World.block_lt_of_cell? w _ hx0)).trans hx0
        replace hx1 := (HB.out.cell (World.block_lt_of_cell? w _ hx1)).trans hx1
        replace hx2 := (HB.out.cell (World.block_lt_of_cell? w _ hx2)).trans hx2
        rw [Int.toNat_natCast] at hx0 hx1 hx2
        obtain ⟨ad2, e2, hz⟩ := Kd.at_int HC.out.2.2.2.1 ((i + 1 : Nat) : Int) (by omega) (by have := HZ.out.2; omega)
        injection e2 with e2
        subst e2
        rw [Int.toNat_natCast, add_pos] at hz
        have HZi := Aside0.mk hz
        have p9 : (0 ≤ (i : Int)) = True := eq_true (by omega)
        have q9 : ((i : Int) < (l.length : Int)) = True := eq_true (by omega)
        have q9b : (i < l.length) = True := eq_true c5
        have q8 : ((i : Int) + 1 < (cs.length : Int)) = True := eq_true (by have := HZ.out.2; omega)
        have q8b : (i + 1 < cs.length) = True := eq_true (by have := HZ.out.2; omega)
        have hww : wrap64 ((i : Int) + 1) = (i : Int) + 1 := wr_in' _ (by have := HC.out.2.1.len; omega)
        have hwt : ((i : Int) + 1).toNat = i + 1 := by omega
        have hiw : IntKind.i64.wrap ((i : Int) + 1) = (i : Int) + 1 := by rw [Byt.w64_eq]; exact hww
        have p8 : (0 ≤ (i : Int) + 1) = True := eq_true (by omega)
        have hm := HC.out.2.1.2 _ (by rw [rd_at l i c5]; exact List.getElem_mem c5 : rd_T27 l (i : Int) ∈ l)
        have htk := wrI_step cs l i
        have hlen := wrI_len cs l i (by omega)
        have hle := szE_take l i
        obtain ⟨t, ht⟩ : ∃ t, t = rd_T27 l (i : Int) := ⟨_, rfl⟩
        rw [← ht] at hx0 hx1 hx2 hm htk
        have H := Aside0.mk c5
        have HM2 := Aside0.mk (And.intro hm (And.intro htk (show (wrI cs l i).length ≤ 600 by have := HS5.out.1; omega)))
        have HKS := Aside0.mk (show t.f0.size ≤ 70000 from hm.1)
        clear c5 ht hm htk hlen hle hz
        have HE := Aside0.mk (ES.mk (cs := #[.string t.f0, .int .u32 t.f1.f0, .int .u16 t.f1.f1]) (t := 27) HB.out HO.out)
        have hy0 := (blk_cell HE.out.2.1 0).trans rfl
        have hy1 := (blk_cell HE.out.2.1 1).trans rfl
        have hy2 := (blk_cell HE.out.2.1 2).trans rfl
        have hz : (wr.alloc (.cells #[.string t.f0, .int .u32 t.f1.f0, .int .u16 t.f1.f1] 27)).cell? ⟨ad0.block, ad0.off + (i + 1), none⟩ = some (.int .u32 (rd cs ((i + 1 : Nat) : Int))) := (HE.out.2.2.1.cell (World.block_lt_of_cell? w _ HZi.out)).trans HZi.out
        go_upto_region 10 with fail
        go_region_law (first
          | (refine goes_ Try.func39 (by kernel_rfl) rfl #[_, .agg #[.string t.f0, .int .u32 t.f1.f0, .int .u16 t.f1.f1]] rfl rfl rfl (by simp [Act.eval, Act.put]; first | rfl | done) ?_; (with_reducible refine (ES.entry HE.out.drew t.f0 t.f1.f0 t.f1.f1 (by have := HM2.out.2.2; omega) (by have := HKS.out; omega) HM2.out.1.2.2.2).mono ?_); rintro en w1 ⟨v1, rfl, h1⟩; refine ⟨_, rfl, ?_⟩; have HE1 := Aside0.mk h1; clear h1; have hz1 := (HE1.out.2.2.1.cell (World.block_lt_of_cell? w _ HZi.out)).trans HZi.out)
          | (refine goes_ Try.func48 (by kernel_rfl) rfl #[v1, .int .i64 4, .int .u32 (rd cs ((i + 1 : Nat) : Int))] rfl rfl rfl (by simp [Act.eval, Act.put]) ?_; (with_reducible refine (HE1.out.put4 (by rw [List.length_append, wrE_len]; have := HM2.out.2.2; have := HKS.out; omega) (rd cs ((i + 1 : Nat) : Int))).mono ?_); rintro en w2 ⟨v2, rfl, h2⟩; refine ⟨_, rfl, ?_⟩; rw [← HM2.out.2.1] at h2; have HE2 := Aside0.mk h2; clear h2))
        all_goals
          clear hy0 hy1 hy2 hz hz1
          go_wp2
          go_roundg (gk - 1)
          case measure => have h1 := HI.out; have h2 := H.out; omega
          case rel =>
            have h1 := HI.out
            have h2 := H.out
            have h3 := HC.out.2.1.len
            exact ⟨i + 1, by first | rfl | (rw [wr_in' ((i : Int) + 1) (by omega)]; rfl), ⟨by omega⟩, ⟨Kd.R_mono HE2.out.done.1 (fun _ _ => trivial)⟩, ⟨HE2.out.done.2.1⟩⟩
      · have c1 : decide ((i : Int) < (l.length : Int)) = false := decide_eq_false (by omega)
        have c1b : decide (i < l.length) = false := decide_eq_false c5
        have hta : i = l.length := by have := HI.out; omega
        have ho := HO.out
        rw [hta] at ho
        obtain ⟨A7, c7, e7⟩ := Kd.R_slice ho
        subst e7
        have HO7 := Aside0.mk ho
        have hwl := wrI_len cs l l.length (Nat.le_refl _)
        rw [List.take_length] at hwl
        have HW := Aside0.mk (And.intro (show (wrI cs l l.length).length ≤ 504 by have := HS5.out.1; omega) (show IntKind.u16.wrap (l.length : Int) = l.length by rw [Byt.u16_eq]; have := HS5.out.2; omega))
        clear c5 hta ho hwl
        go_wp2_with (go_at_call 40; ((with_reducible refine (lay_ok 3 (l.length : Int) 0 A7 c7 (wrI cs l l.length) _ (Kd.R_reads' HO7.out).2.2 HW.out.1).mono ?_); rintro en w4 ⟨v4, rfl, ho4, hb4⟩; have HO4 := Aside0.mk ho4; have HB4 := Aside0.mk (below_then HB.out HB.out.size hb4); clear ho4 hb4))
        go_ret2
        exact ⟨_, rfl, Kd.R_lower HO4.out HB.out.size, HB4.out⟩
  · rw [if_neg h0]
    have d0 : (m != 0) = true := by simpa using h0
    clear h0
    go_enter Try.func23, Try.ntmps23
    go_wp2_with (first
      | (go_at_call 25; (with_reducible refine (isize_ok A c l _ HC.out.1 HC.out.2.2.1 HC.out.2.1).mono ?_); rintro en w1 ⟨rfl, hb⟩; have HB1 := Aside0.mk hb; clear hb)
      | (go_at_call 38; (with_reducible refine (may_is HM.out _ HC.out.2.1 (Kd.C_below HC.out.1 HB1.out) HC.out.2.2.1).mono ?_); rintro en w2 ⟨rfl, hb⟩; have HB2 := Aside0.mk (below_then HB1.out HB1.out.size hb); clear hb))
    go_ret2
    exact ⟨_, rfl, Kd.R_nil _ _ _ _ _, HB2.out⟩
end Go.Proofs.Ytihmkdjambdfjaa.Lf
namespace Go.Proofs.Ytihmkdjambdfjaa.Clr
open Go.RowKit Go.Proofs.YtihmkdjambdfjaaW.PrintWords Go.Proofs.YtihmkdjambdfjaaW.PrintLast Go.Proofs.YtihmkdjambdfjaaW.PrintMore
theorem clear_own {P : Program} {W : World} {base t : Nat} {ok : Nat → Prop} {A : Option Addr} {n c : Nat} {xs : List Int} (ht : P.underlying t = some (.slice 5)) (hv : ∀ w, (zeroValue 5).run P w = .ok (.int .u8 0) w) (h : Kd.R (Kd.int .u8) 5 W base ok (.slice A n c) xs) (ty : TypeId) :
    ∃ w1, (Builtin.clear_ #[t] ty #[.slice A n c]).run P W = .ok (.tuple #[]) w1 ∧ W.grownBy w1 (Value.slice A n c).ownBlock := by
  have hn := (Kd.R_reads' h).1
  have hC := (Kd.R_reads' h).2.2
  by_cases hx : 0 < xs.length
  · obtain ⟨g, cap, hv1, hb, hg, cells, hcells⟩ := Kd.R_form h hx
    obtain ⟨rfl, rfl, rfl⟩ : A = some ⟨g, 0, none⟩ ∧ n = xs.length ∧ c = cap := by
      injection hv1 with h1 h2 h3
      exact ⟨h1, h2, h3⟩
    refine ⟨_, Go.Lib.run_clear_slice W t 5 ty (.int .u8 0) ht hv rfl rfl g 0 xs.length c hx ?_ ?_, ?_⟩
    · intro j hj
      obtain ⟨ad, he, hx⟩ := Kd.at_int hC (j : Int) (by omega) (by omega)
      injection he with he
      subst he
      have e : (Addr.add ⟨g, 0, none⟩ ((j : Nat) : Int).toNat) = ⟨g, 0 + j, none⟩ := by
        simp only [Int.toNat_natCast, Addr.add]
        split <;> simp_all
      rw [e] at hx
      rw [hx]
      rfl
    · intro j _
      exact blk_frozen hcells _
    · have hs := setCells_same g (List.replicate xs.length (.int .u8 0)) 0 W
      exact ⟨hs.1, hs.2.1, hs.2.2.1, Nat.le_of_eq hs.2.2.2.symm, fun k _ hk => setCells_far _ _ k (fun e => hk (by rw [e]; rfl))⟩
  · have h0 : n = 0 := by omega
    subst h0
    refine ⟨W, ?_, ⟨rfl, rfl, rfl, Nat.le_refl _, fun _ _ _ => rfl⟩⟩
    cases A <;> simp [Builtin.clear_, run_underlying ht]
end Go.Proofs.Ytihmkdjambdfjaa.Clr
namespace Go.Proofs.Ytihmkdjambdfjaa.Lf
open Go.RowKit Go.Proofs.YtihmkdjambdfjaaW.PrintWords Go.Proofs.YtihmkdjambdfjaaW.PrintLast Go.Proofs.YtihmkdjambdfjaaW.PrintMore Go.Proofs.Ytihmkdjambdfjaa.XLeaf Go.Proofs.Ytihmkdjambdfjaa.Tk
set_option linter.unusedVariables false
set_option linter.unusedSimpArgs false
set_option maxRecDepth 100000
theorem apart2 {α β : Type} {d : Kd α} {d' : Kd β} {e e' base base' : Nat} {W : World} {ok ok' : Nat → Prop} {v v' : Value} {xs : List α} {ys : List β} (h : d.R e W base ok v xs) (h' : d'.R e' W base' ok' v' ys) (hne : e ≠ e') : ∀ k, v'.ownBlock = some k → some k ≠ v.ownBlock := fun k hk => by
  obtain ⟨inner, ho⟩ := Kd.R_own h'
  obtain ⟨cells, hc⟩ := own_typed ho k hk
  exact Kd.R_ne h hc hne
theorem grown_curI {w W w1 : World} {g : Nat} {xs : List Int} {s : Bool} {v : Value} {rows : List Int} {base : Nat} {ok : Nat → Prop} (hI : Cur w W g xs s) (hO : Kd.R (Kd.int .u32) 22 W base ok v rows) (hg : W.grownBy w1 v.ownBlock) : Cur w w1 g xs s := by
  obtain ⟨A, c, hb⟩ := hI.blk
  exact hI.keep_ (hg.block g hI.lt (Kd.R_ne hO hb (by decide)))
/-- Entries and children that are read, so many; none: one wasn't there. -/
def gi : Nat → List Int → List S27 → List Int → Option (List Int × List S27)
  | 0, cs, rows, xs => some (cs, rows)
  | n + 1, cs, rows, xs => if (tk (ent xs false).2.1 (ent xs false).2.2 4).2.2 = true then none else gi n (cs ++ [nv (tk (ent xs false).2.1 (ent xs false).2.2 4).1]) (rows ++ [mkE (ent xs false)]) (tk (ent xs false).2.1 (ent xs false).2.2 4).2.1
/-- What comes of what was read. -/
def fini (b : List Int) : Option (List Int × List S27) → List Int × List S27 × Int
  | none => ([], [], 2)
  | some p => if (putI p.1 p.2).2 = 0 ∧ (putI p.1 p.2).1 = b then (p.1, p.2, 0) else ([], [], 2)
/-- What the get of an inner page gives. -/
def getI (b : List Int) : List Int × List S27 × Int := if (dg b).2.2.2 = true ∧ (dg b).1 = 3 then fini b (gi (dg b).2.1.toNat [nv ((b.drop 8).take 4)] [] ((b.drop 8).drop 4)) else ([], [], 2)
theorem goodR.stepI {rows : List S27} {xs : List Int} (h : goodR rows xs) (hs : (tk (ent xs false).2.1 (ent xs false).2.2 4).2.2 = false) : goodR (rows ++ [mkE (ent xs false)]) (tk (ent xs false).2.1 (ent xs false).2.2 4).2.1 := by
  obtain ⟨h1, h2, h3⟩ := tk_rest hs
  have h4 := h.step h1
  have h5 := h4.2.1
  exact ⟨By.tk2 h4.1 _ _, by omega, h4.2.2⟩
theorem wrI_by (cs : List Int) (l : List S27) (n : Nat) : By (wrI cs l n) := by
  induction n with
  | zero => exact byApp (be4_by _) by_nil
  | succ n ih => rw [wrI_step]; exact byApp (byApp ih (wrE_by _ _ _)) (be4_by _)
theorem putI_by (cs : List Int) (l : List S27) : By (putI cs l).1 := by
  unfold putI
  split
  · exact by_nil
  · split
    · exact pgF_by _ _ _ _ (by omega) (wrI_by _ _ _)
    · exact by_nil
theorem putInner_is {cs : List Int} {l : List S27} {p1 : List Int} {p2 : Int} (h1 : (putI cs l).1 = p1) (h2 : (putI cs l).2 = p2) (w : World) (B : Option Addr) (d : Nat) (A : Option Addr) (c : Nat) (hg : goodE l) (hC : Kd.C k27 w A l.length l) (hc : l.length ≤ c) (hD : Kd.C (Kd.int .u32) w B cs.length cs) (hd : cs.length ≤ 1000000) :
    Calls Try.prog 23 #[.slice B cs.length d, .slice A l.length c] w fun e w' => ∃ A' c', e = .returned (.tuple #[.slice A' p1.length c', .int .i64 p2]) ∧ p1.length ≤ c' ∧ Kd.C (Kd.int .u8) w' A' p1.length p1 ∧ Below w.heap.size w w' := by
  refine (putInner_ok w B d cs A c l hg hC hc hD hd).mono ?_
  rintro e w' ⟨v, rfl, ho, hb⟩
  obtain ⟨A', c', rfl⟩ := Kd.R_slice ho
  have h3 := Kd.R_reads' ho
  rw [h1] at h3 ⊢
  rw [h2]
  exact ⟨A', c', rfl, h3.2.1, h3.2.2, hb⟩
theorem num_is {xs : List Int} {s : Bool} {n : Int} {a b' : List Int} {s' : Bool} {r : Int} (ht : tk xs s n = (a, b', s')) (hr : nv a = r) (w0 w : World) (g : Nat) (hI : Cur w0 w g xs s) (hB : Below w0.heap.size w0 w) (hm : xs.length ≤ 9223372036854775807) (hy : By xs) (h0 : 0 ≤ n) (hn : n ≤ 4) :
    Calls Try.prog 47 #[.pointer (some ⟨g, 0, none⟩), .int .i64 n] w fun en w' => en = .returned (.int .u32 r) ∧ Cur w0 w' g b' s' ∧ Below w0.heap.size w0 w' ∧ KeepBut w w' g none := by
  have h := num_any w0 w g xs s n hI hB hm hy h0 hn
  rw [ht] at h
  simp only at h
  rw [hr] at h
  exact h
set_option maxHeartbeats 32000000 in
theorem getInner_ok (w : World) (A : Option Addr) (c : Nat) (b : List Int) (hC : Kd.C (Kd.int .u8) w A b.length b) (hc : b.length ≤ c) (hb : By b) :
    Calls Try.prog 21 #[.slice A b.length c] w fun e w' => ∃ v1 v2, e = .returned (.tuple #[v1, v2, .int .i64 (getI b).2.2]) ∧ Kd.R (Kd.int .u32) 22 w' w.heap.size (fun _ => True) v1 (getI b).1 ∧ Kd.R k27 27 w' w.heap.size (fun _ => True) v2 (getI b).2.1 ∧ Below w.heap.size w w' := by
  have HC := Aside0.mk (And.intro hC (And.intro hc hb))
  unfold getI
  by_cases hno : ¬ ((dg b).2.2.2 = true ∧ (dg b).1 = 3)
  · rw [if_neg hno]
    have HN := Aside0.mk hno
    clear hC hc hb hno
    go_enter Try.func21, Try.ntmps21
    go_wp2_with (go_at_call 44; (with_reducible refine (getL_no HC.out.1 HC.out.2.1 HC.out.2.2 3 HN.out).mono ?_); rintro en w1 ⟨rfl, hb⟩; have HB1 := Aside0.mk hb; clear hb)
    go_ret3
    exact ⟨_, _, rfl, Kd.R_nil _ _ _ _ _, Kd.R_nil _ _ _ _ _, below_alloc HB1.out _⟩
  have hyes : (dg b).2.2.2 = true ∧ (dg b).1 = 3 := Decidable.not_not.1 hno
  rw [if_pos hyes]
  have hl5 : b.length = 512 := by
    have h := hyes.1
    unfold dg at h
    split at h
    · rename_i h1; exact h1.1
    · cases h
  have hcr : 0 ≤ (dg b).2.1 ∧ (dg b).2.1 ≤ 65535 := by
    unfold dg
    split
    · have h2 := rdb hb 2
      have h3 := rdb hb 3
      simp only
      omega
    · simp
  obtain ⟨kd, c0, nx, o, hd⟩ : ∃ k0 c0 n0 o, dg b = (k0, c0, n0, o) := ⟨_, _, _, _, rfl⟩
  rw [hd] at hyes hcr ⊢
  obtain ⟨rfl, rfl⟩ : o = true ∧ kd = 3 := hyes
  simp only at hcr ⊢
  obtain ⟨R, hR⟩ : ∃ R, fini b (gi c0.toNat [nv ((b.drop 8).take 4)] [] ((b.drop 8).drop 4)) = R := ⟨_, rfl⟩
  rw [hR]
  have HR := Aside0.mk hR
  have HD := Aside0.mk (And.intro hd (And.intro hl5 hcr))
  have hg0 : goodR [] ((b.drop 8).drop 4) := ⟨fun x hx => hb x (List.mem_of_mem_drop (List.mem_of_mem_drop hx)), by simp; omega, fun x hx => by cases hx⟩
  have HG0 := Aside0.mk hg0
  have htk : tk (b.drop 8) false 4 = ((b.drop 8).take 4, (b.drop 8).drop 4, false) := by
    rw [tk, if_pos (by rw [List.length_drop]; omega)]
    rfl
  obtain ⟨n0, hn0⟩ : ∃ n, nv ((b.drop 8).take 4) = n := ⟨_, rfl⟩
  rw [hn0] at HR
  have HT := Aside0.mk (And.intro htk (And.intro hn0 (And.intro (show (b.drop 8).length ≤ 9223372036854775807 by rw [List.length_drop]; omega) (show By (b.drop 8) from fun x hx => hb x (List.mem_of_mem_drop hx)))))
  have hcr1 := hcr.1
  have hcr2 := hcr.2
  clear hC hc hb hno hl5 hcr hd hg0 hR htk hn0
  go_enter Try.func21, Try.ntmps21
  go_wp2_with (first
    | (go_at_call 44; (with_reducible refine (open_some HD.out.1 _ HC.out.1 HC.out.2.1 HC.out.2.2 HD.out.2.1).mono ?_); rintro en w1 ⟨g, rfl, hI, hb⟩; have HI1 := Aside0.mk (hI.alloc (.cells #[.int .u8 3, .int .u16 c0, .int .u32 nx] 76)); have HB1 := Aside0.mk (below_alloc hb (.cells #[.int .u8 3, .int .u16 c0, .int .u32 nx] 76)); have HX1 := Aside0.mk (blk_new w1 (.cells #[.int .u8 3, .int .u16 c0, .int .u32 nx] 76)); have HNE := Aside0.mk (Nat.ne_of_gt hI.lt); clear hI hb)
    | (go_at_call 47; (with_reducible refine (num_is HT.out.1 HT.out.2.1 w _ g HI1.out HB1.out HT.out.2.2.1 HT.out.2.2.2 (by omega) (by omega)).mono ?_); rintro en w2 ⟨rfl, hI2, hB2, hK2⟩; have HI2 := Aside0.mk hI2; have HB2 := Aside0.mk hB2; have HX2 := Aside0.mk (hK2.blk HX1.out HNE.out (by simp)); clear hI2 hB2 hK2)
    | ((with_reducible refine gate_dst (N := 22) rfl ?_); refine Kd.R_lit (Kd.int .u32) _ 22 ?hg (N := 22) ?hd (xs := [n0]) (inner := [.int .u32 n0]) (ok := fun _ => True) (okp := fun _ => True) ?hr ?hp (fun _ hk => hk) trivial HB2.out HB2.out.size (by simp) ?_; (case hd => rfl); (case hg => rfl); (case hr => first | (go_simp; done) | (go_simp; rfl)); (case hp => exact (Reps.one (show Kd.M (Kd.int .u32) _ _ _ n0 [.int .u32 n0] from rfl) (Reps.none _ _))); intro v3 w3 ho3 hb3 hg3 hnew3; have HP3 := Aside0.mk ho3; have HB3 := Aside0.mk hb3; have HI3 := Aside0.mk (HI2.out.keep_ (hg3.block g HI2.out.lt (by simp))); have HX3 := Aside0.mk (blk_grown HX2.out hg3 (by simp)); clear ho3 hb3 hg3 hnew3; have hh0 := (blk_cell HX3.out 0).trans rfl; have hh1 := (blk_cell HX3.out 1).trans rfl; have hh2 := (blk_cell HX3.out 2).trans rfl))
  go_loopg [8, 9, 25] c0.toNat (fun kq v8 v9 v25 w' => ∃ (cs : List Int) (rows : List S27) (i : Int) (xs : List Int), v25 = .int .u16 i ∧ Aside0 (0 ≤ i ∧ (kq : Int) + i = c0) ∧ Aside0 (fini b (gi kq cs rows xs) = R) ∧ Aside0 (Kd.R (Kd.int .u32) 22 w' w.heap.size (fun _ => True) v8 cs) ∧ Aside0 (Kd.R k27 27 w' w.heap.size (fun _ => True) v9 rows) ∧ Aside0 (Cur w w' g xs false) ∧ Aside0 (w'.heap[w1.heap.size]? = some (.cells #[.int .u8 3, .int .u16 c0, .int .u32 nx] 76 (0, 0))) ∧ Aside0 (Below w.heap.size w w') ∧ Aside0 (goodR rows xs) ∧ Aside0 (cs.length = rows.length + 1))
  case atStart => exact ⟨[n0], [], 0, (b.drop 8).drop 4, rfl, ⟨by omega⟩, HR, HP3, ⟨Kd.R_nil _ _ _ _ _⟩, HI3, HX3, HB3, HG0, ⟨rfl⟩⟩
  case round =>
    clear HI1 HB1 HX1 HI2 HB2 HX2 HI3 HB3 HX3 HP3 hh0 hh1 hh2 HG0 HR
    obtain ⟨cs, rows, i, xs, rfl, HI_, HS, HP, HO, HI, HX, HB, HG, HCL⟩ := hrel
    obtain ⟨Ac, cc, hbk⟩ := HI.out.blk
    have hc0 := (blk_cell hbk 0).trans rfl
    have hc1 := (blk_cell hbk 1).trans rfl
    have hh0 := (blk_cell HX.out 0).trans rfl
    have hh1 := (blk_cell HX.out 1).trans rfl
    have hh2 := (blk_cell HX.out 2).trans rfl
    have HBK := Aside0.mk hbk
    clear hbk
    by_cases c2 : i < c0
    · have c2b0 : decide (i < c0) = true := decide_eq_true c2
      obtain ⟨k1, hk1⟩ : ∃ k1, gk = k1 + 1 := ⟨gk - 1, by have := HI_.out; omega⟩
      have HS1 := HS.out
      rw [hk1, gi] at HS1
      have HK1 := Aside0.mk hk1
      have HC2 := Aside0.mk c2
      have HG2 := Aside0.mk (And.intro (show (ent xs false).2.1.length ≤ 9223372036854775807 by have h1 := tk_le xs false 2; have h2 := tk_le (tk xs false 2).2.1 (tk xs false 2).2.2 (nv (tk xs false 2).1); have h3 := tk_le (tk (tk xs false 2).2.1 (tk xs false 2).2.2 (nv (tk xs false 2).1)).2.1 (tk (tk xs false 2).2.1 (tk xs false 2).2.2 (nv (tk xs false 2).1)).2.2 4; have h4 := tk_le (tk (tk (tk xs false 2).2.1 (tk xs false 2).2.2 (nv (tk xs false 2).1)).2.1 (tk (tk xs false 2).2.1 (tk xs false 2).2.2 (nv (tk xs false 2).1)).2.2 4).2.1 (tk (tk (tk xs false 2).2.1 (tk xs false 2).2.2 (nv (tk xs false 2).1)).2.1 (tk (tk xs false 2).2.1 (tk xs false 2).2.2 (nv (tk xs false 2).1)).2.2 4).2.2 2; have := HG.out.len; simp only [ent]; omega) (ent_rng HG.out.by_ false).1)
      clear hk1 c2
      by_cases hv : (tk (ent xs false).2.1 (ent xs false).2.2 4).2.2 = true
      · rw [if_pos hv] at HS1
        have HV := Aside0.mk hv
        have HS3 := Aside0.mk HS1
        clear HS1 hv
        go_wp2_with (first | (go_at_call 45; (with_reducible refine (ent_any w _ g xs false HI.out HB.out (by have := HG.out.len; omega) HG.out.by_).mono ?_); rintro en w5 ⟨rfl, hI5, hB5, hK5⟩; have HO5 := Aside0.mk (Kd.R_mono (Kd.R_keep (Kd.R_types HO.out HBK.out (by decide)) hK5 (fun _ hk => hk.2)) (ok' := fun _ => True) (fun _ _ => trivial)); have HP5 := Aside0.mk (Kd.R_mono (Kd.R_keep (Kd.R_types HP.out HBK.out (by decide)) hK5 (fun _ hk => hk.2)) (ok' := fun _ => True) (fun _ _ => trivial)); have HI5 := Aside0.mk hI5; have HB5 := Aside0.mk hB5; have HX5 := Aside0.mk (hK5.blk HX.out HNE.out (by simp)); clear hI5 hB5 hK5 hh0 hh1 hh2 hc0 hc1) | ((with_reducible refine gate_builtin (b := .append) (xs := #[.tmp 27, .tmp 30]) rfl ?_); at_builtin; refine Kd.R_append k27 (w0 := w) w.heap.size rfl (.tmp 27) (.tmp 30) 29 27 (.agg #[(.string ⟨#[]⟩), (.int .u32 0), (.int .u16 0)]) 24 rfl Try.underlying29 info27 rfl (by decide) (by omega) u9 rows (mkE (ent xs false)) [.string (mkE (ent xs false)).f0, .int .u32 (mkE (ent xs false)).f1.f0, .int .u16 (mkE (ent xs false)).f1.f1] (fun _ => True) (fun _ => False) rfl (by first | (go_simp; done) | (go_simp; rfl)) ?aP (fun _ hk => hk.elim) ?aF ?aO ?aB ?aS ?aL ?_; (case aP => exact k27_mkM _ _ _ (mkE (ent xs false))); (case aB => exact (by repeat (first | (with_reducible first | exact HB5.out | apply below_alloc | apply pw_below_drewN | apply below_drew1) | exact HB5.out))); (case aF => exact (fun _ _ => trivial)); (case aO => exact (by (with_reducible repeat (first | apply Kd.R_alloc | apply Kd.R_drewN | apply Kd.R_drew)); exact Kd.R_mono HO5.out (fun _ _ => trivial))); (case aS => exact (below_size (by repeat (first | (with_reducible first | exact HB5.out | apply below_alloc | apply pw_below_drewN | apply below_drew1) | exact HB5.out)))); (case aL => have := HG.out.len; omega); intro v6 w6 ho hb hg_ hat; have HO6 := Aside0.mk ho; have HB6 := Aside0.mk hb; have HI6 := Aside0.mk (grown_cur (by first | exact HI5.out | exact HI5.out.alloc _) (by first | exact HO5.out | exact Kd.R_alloc HO5.out _) hg_); have HX6 := Aside0.mk (blk_grown (by first | exact HX5.out | exact blk_alloc HX5.out _) hg_ (Kd.R_ne (by first | exact HO5.out | exact Kd.R_alloc HO5.out _) (by first | exact HX5.out | exact blk_alloc HX5.out _) (by decide))); have HP6 := Aside0.mk (Kd.R_grown2 (by first | exact HP5.out | exact Kd.R_alloc HP5.out _) rfl hg_ (apart2 (by first | exact HP5.out | exact Kd.R_alloc HP5.out _) (by first | exact HO5.out | exact Kd.R_alloc HO5.out _) (by decide))); obtain ⟨A6, cc6, hbk6⟩ := HI6.out.blk; have HBK6 := Aside0.mk hbk6; have hc60 := (blk_cell hbk6 0).trans rfl; have hc61 := (blk_cell hbk6 1).trans rfl; have hh0 := (blk_cell HX6.out 0).trans rfl; have hh1 := (blk_cell HX6.out 1).trans rfl; have hh2 := (blk_cell HX6.out 2).trans rfl; clear hbk6; clear ho hb hg_ hat) | (go_at_call 47; (with_reducible refine (num_any w _ g (ent xs false).2.1 (ent xs false).2.2 4 HI6.out HB6.out HG2.out.1 HG2.out.2 (by omega) (by omega)).mono ?_); rintro en w7 ⟨rfl, hI7, hB7, hK7⟩; rw [HV.out] at hI7; have HO7 := Aside0.mk (Kd.R_mono (Kd.R_keep (Kd.R_types HO6.out HBK6.out (by decide)) hK7 (fun _ hk => hk.2)) (ok' := fun _ => True) (fun _ _ => trivial)); have HP7 := Aside0.mk (Kd.R_mono (Kd.R_keep (Kd.R_types HP6.out HBK6.out (by decide)) hK7 (fun _ hk => hk.2)) (ok' := fun _ => True) (fun _ _ => trivial)); have HI7 := Aside0.mk hI7; have HB7 := Aside0.mk hB7; have HX7 := Aside0.mk (hK7.blk HX6.out HNE.out (by simp)); clear hI7 hB7 hK7 hh0 hh1 hh2 hc60 hc61) | ((with_reducible refine gate_builtin (b := .append) (xs := #[.tmp 32, .tmp 35]) rfl ?_); at_builtin; refine Kd.R_append (Kd.int .u32) (w0 := w) w.heap.size rfl (.tmp 32) (.tmp 35) 46 22 (.int .u32 0) 4 rfl Try.underlying46 info22 rfl (by decide) (by omega) u8 cs (nv (tk (ent xs false).2.1 (ent xs false).2.2 4).1) [.int .u32 (nv (tk (ent xs false).2.1 (ent xs false).2.2 4).1)] (fun _ => True) (fun _ => False) rfl (by first | (go_simp; done) | (go_simp; rfl)) ?aP (fun _ hk => hk.elim) ?aF ?aO ?aB ?aS ?aL ?_; (case aP => exact rfl); (case aB => exact (by repeat (first | (with_reducible first | exact HB7.out | apply below_alloc | apply pw_below_drewN | apply below_drew1) | exact HB7.out))); (case aF => exact (fun _ _ => trivial)); (case aO => exact (by (with_reducible repeat (first | apply Kd.R_alloc | apply Kd.R_drewN | apply Kd.R_drew)); exact HP7.out)); (case aS => exact (below_size (by repeat (first | (with_reducible first | exact HB7.out | apply below_alloc | apply pw_below_drewN | apply below_drew1) | exact HB7.out)))); (case aL => have := HG.out.len; have := HCL.out; omega); intro v8 w8 ho hb hg_ hat; have HP8 := Aside0.mk ho; have HB8 := Aside0.mk hb; have HI8 := Aside0.mk (grown_curI (by first | exact HI7.out | exact HI7.out.alloc _) (by first | exact HP7.out | exact Kd.R_alloc HP7.out _) hg_); have HX8 := Aside0.mk (blk_grown (by first | exact HX7.out | exact blk_alloc HX7.out _) hg_ (Kd.R_ne (by first | exact HP7.out | exact Kd.R_alloc HP7.out _) (by first | exact HX7.out | exact blk_alloc HX7.out _) (by decide))); have HO8 := Aside0.mk (Kd.R_grown2 (by first | exact HO7.out | exact Kd.R_alloc HO7.out _) rfl hg_ (apart2 (by first | exact HO7.out | exact Kd.R_alloc HO7.out _) (by first | exact HP7.out | exact Kd.R_alloc HP7.out _) (by decide))); obtain ⟨A8, cc8, hbk8⟩ := HI8.out.blk; have HBK8 := Aside0.mk hbk8; have hc80 := (blk_cell hbk8 0).trans rfl; have hc81 := (blk_cell hbk8 1).trans rfl; have hh0 := (blk_cell HX8.out 0).trans rfl; have hh1 := (blk_cell HX8.out 1).trans rfl; have hh2 := (blk_cell HX8.out 2).trans rfl; clear hbk8; clear ho hb hg_ hat))
        go_ret3
        rw [← HS3.out]
        exact ⟨_, _, rfl, Kd.R_nil _ _ _ _ _, Kd.R_nil _ _ _ _ _, HB8.out⟩
      · have hv' : (tk (ent xs false).2.1 (ent xs false).2.2 4).2.2 = false := by simpa using hv
        rw [if_neg hv] at HS1
        have HV := Aside0.mk hv'
        have HS3 := Aside0.mk HS1
        clear HS1 hv hv'
        go_wp2_with (first | (go_at_call 45; (with_reducible refine (ent_any w _ g xs false HI.out HB.out (by have := HG.out.len; omega) HG.out.by_).mono ?_); rintro en w5 ⟨rfl, hI5, hB5, hK5⟩; have HO5 := Aside0.mk (Kd.R_mono (Kd.R_keep (Kd.R_types HO.out HBK.out (by decide)) hK5 (fun _ hk => hk.2)) (ok' := fun _ => True) (fun _ _ => trivial)); have HP5 := Aside0.mk (Kd.R_mono (Kd.R_keep (Kd.R_types HP.out HBK.out (by decide)) hK5 (fun _ hk => hk.2)) (ok' := fun _ => True) (fun _ _ => trivial)); have HI5 := Aside0.mk hI5; have HB5 := Aside0.mk hB5; have HX5 := Aside0.mk (hK5.blk HX.out HNE.out (by simp)); clear hI5 hB5 hK5 hh0 hh1 hh2 hc0 hc1) | ((with_reducible refine gate_builtin (b := .append) (xs := #[.tmp 27, .tmp 30]) rfl ?_); at_builtin; refine Kd.R_append k27 (w0 := w) w.heap.size rfl (.tmp 27) (.tmp 30) 29 27 (.agg #[(.string ⟨#[]⟩), (.int .u32 0), (.int .u16 0)]) 24 rfl Try.underlying29 info27 rfl (by decide) (by omega) u9 rows (mkE (ent xs false)) [.string (mkE (ent xs false)).f0, .int .u32 (mkE (ent xs false)).f1.f0, .int .u16 (mkE (ent xs false)).f1.f1] (fun _ => True) (fun _ => False) rfl (by first | (go_simp; done) | (go_simp; rfl)) ?aP (fun _ hk => hk.elim) ?aF ?aO ?aB ?aS ?aL ?_; (case aP => exact k27_mkM _ _ _ (mkE (ent xs false))); (case aB => exact (by repeat (first | (with_reducible first | exact HB5.out | apply below_alloc | apply pw_below_drewN | apply below_drew1) | exact HB5.out))); (case aF => exact (fun _ _ => trivial)); (case aO => exact (by (with_reducible repeat (first | apply Kd.R_alloc | apply Kd.R_drewN | apply Kd.R_drew)); exact Kd.R_mono HO5.out (fun _ _ => trivial))); (case aS => exact (below_size (by repeat (first | (with_reducible first | exact HB5.out | apply below_alloc | apply pw_below_drewN | apply below_drew1) | exact HB5.out)))); (case aL => have := HG.out.len; omega); intro v6 w6 ho hb hg_ hat; have HO6 := Aside0.mk ho; have HB6 := Aside0.mk hb; have HI6 := Aside0.mk (grown_cur (by first | exact HI5.out | exact HI5.out.alloc _) (by first | exact HO5.out | exact Kd.R_alloc HO5.out _) hg_); have HX6 := Aside0.mk (blk_grown (by first | exact HX5.out | exact blk_alloc HX5.out _) hg_ (Kd.R_ne (by first | exact HO5.out | exact Kd.R_alloc HO5.out _) (by first | exact HX5.out | exact blk_alloc HX5.out _) (by decide))); have HP6 := Aside0.mk (Kd.R_grown2 (by first | exact HP5.out | exact Kd.R_alloc HP5.out _) rfl hg_ (apart2 (by first | exact HP5.out | exact Kd.R_alloc HP5.out _) (by first | exact HO5.out | exact Kd.R_alloc HO5.out _) (by decide))); obtain ⟨A6, cc6, hbk6⟩ := HI6.out.blk; have HBK6 := Aside0.mk hbk6; have hc60 := (blk_cell hbk6 0).trans rfl; have hc61 := (blk_cell hbk6 1).trans rfl; have hh0 := (blk_cell HX6.out 0).trans rfl; have hh1 := (blk_cell HX6.out 1).trans rfl; have hh2 := (blk_cell HX6.out 2).trans rfl; clear hbk6; clear ho hb hg_ hat) | (go_at_call 47; (with_reducible refine (num_any w _ g (ent xs false).2.1 (ent xs false).2.2 4 HI6.out HB6.out HG2.out.1 HG2.out.2 (by omega) (by omega)).mono ?_); rintro en w7 ⟨rfl, hI7, hB7, hK7⟩; rw [HV.out] at hI7; have HO7 := Aside0.mk (Kd.R_mono (Kd.R_keep (Kd.R_types HO6.out HBK6.out (by decide)) hK7 (fun _ hk => hk.2)) (ok' := fun _ => True) (fun _ _ => trivial)); have HP7 := Aside0.mk (Kd.R_mono (Kd.R_keep (Kd.R_types HP6.out HBK6.out (by decide)) hK7 (fun _ hk => hk.2)) (ok' := fun _ => True) (fun _ _ => trivial)); have HI7 := Aside0.mk hI7; have HB7 := Aside0.mk hB7; have HX7 := Aside0.mk (hK7.blk HX6.out HNE.out (by simp)); clear hI7 hB7 hK7 hh0 hh1 hh2 hc60 hc61) | ((with_reducible refine gate_builtin (b := .append) (xs := #[.tmp 32, .tmp 35]) rfl ?_); at_builtin; refine Kd.R_append (Kd.int .u32) (w0 := w) w.heap.size rfl (.tmp 32) (.tmp 35) 46 22 (.int .u32 0) 4 rfl Try.underlying46 info22 rfl (by decide) (by omega) u8 cs (nv (tk (ent xs false).2.1 (ent xs false).2.2 4).1) [.int .u32 (nv (tk (ent xs false).2.1 (ent xs false).2.2 4).1)] (fun _ => True) (fun _ => False) rfl (by first | (go_simp; done) | (go_simp; rfl)) ?aP (fun _ hk => hk.elim) ?aF ?aO ?aB ?aS ?aL ?_; (case aP => exact rfl); (case aB => exact (by repeat (first | (with_reducible first | exact HB7.out | apply below_alloc | apply pw_below_drewN | apply below_drew1) | exact HB7.out))); (case aF => exact (fun _ _ => trivial)); (case aO => exact (by (with_reducible repeat (first | apply Kd.R_alloc | apply Kd.R_drewN | apply Kd.R_drew)); exact HP7.out)); (case aS => exact (below_size (by repeat (first | (with_reducible first | exact HB7.out | apply below_alloc | apply pw_below_drewN | apply below_drew1) | exact HB7.out)))); (case aL => have := HG.out.len; have := HCL.out; omega); intro v8 w8 ho hb hg_ hat; have HP8 := Aside0.mk ho; have HB8 := Aside0.mk hb; have HI8 := Aside0.mk (grown_curI (by first | exact HI7.out | exact HI7.out.alloc _) (by first | exact HP7.out | exact Kd.R_alloc HP7.out _) hg_); have HX8 := Aside0.mk (blk_grown (by first | exact HX7.out | exact blk_alloc HX7.out _) hg_ (Kd.R_ne (by first | exact HP7.out | exact Kd.R_alloc HP7.out _) (by first | exact HX7.out | exact blk_alloc HX7.out _) (by decide))); have HO8 := Aside0.mk (Kd.R_grown2 (by first | exact HO7.out | exact Kd.R_alloc HO7.out _) rfl hg_ (apart2 (by first | exact HO7.out | exact Kd.R_alloc HO7.out _) (by first | exact HP7.out | exact Kd.R_alloc HP7.out _) (by decide))); obtain ⟨A8, cc8, hbk8⟩ := HI8.out.blk; have HBK8 := Aside0.mk hbk8; have hc80 := (blk_cell hbk8 0).trans rfl; have hc81 := (blk_cell hbk8 1).trans rfl; have hh0 := (blk_cell HX8.out 0).trans rfl; have hh1 := (blk_cell HX8.out 1).trans rfl; have hh2 := (blk_cell HX8.out 2).trans rfl; clear hbk8; clear ho hb hg_ hat))
        go_roundg k1
        case measure => have := HK1.out; omega
        case rel =>
          have h1 := HI_.out
          have h3 := HK1.out
          have h4 := HC2.out
          exact ⟨_, _, i + 1, _, by rw [Byt.u16_eq, show (i + 1) % 65536 = i + 1 by omega], ⟨by omega⟩, HS3, HP8, HO8, HI8, HX8, HB8, ⟨HG.out.stepI HV.out⟩, ⟨by rw [List.length_append, List.length_append, List.length_singleton, List.length_singleton, HCL.out]⟩⟩
    · have c2b0 : decide (i < c0) = false := decide_eq_false c2
      have hk0 : gk = 0 := by have := HI_.out; omega
      have HS1 := HS.out
      rw [hk0, gi, fini] at HS1
      simp only at HS1
      obtain ⟨A7, c7, e7⟩ := Kd.R_slice HP.out
      subst e7
      obtain ⟨A8, c8, e8⟩ := Kd.R_slice HO.out
      subst e8
      have hpy := putI_by cs rows
      obtain ⟨p1, hp1⟩ : ∃ p, (putI cs rows).1 = p := ⟨_, rfl⟩
      obtain ⟨p2, hp2⟩ : ∃ p, (putI cs rows).2 = p := ⟨_, rfl⟩
      rw [hp1] at hpy
      rw [hp1, hp2] at HS1
      have HQP := Aside0.mk (And.intro hp1 (And.intro hp2 hpy))
      clear c2 hk0 hp1 hp2 hpy
      by_cases he : p2 = 0
      · have d0 : (p2 != 0) = false := by simpa using he
        by_cases hq : p1 = b
        · have HQ := Aside0.mk (show decide (p1 = b) = true from decide_eq_true hq)
          rw [if_pos ⟨he, hq⟩] at HS1
          have HS3 := Aside0.mk HS1
          clear HS1 he hq
          go_wp2_with (first | (go_at_call 23; (with_reducible refine (putInner_is HQP.out.1 HQP.out.2.1 _ A7 c7 A8 c8 HG.out.good (Kd.R_reads' HO.out).2.2 (Kd.R_reads' HO.out).2.1 (Kd.R_reads' HP.out).2.2 (by have := HG.out.len; have := HCL.out; omega)).mono ?_); rintro en w9 ⟨A9, c9, rfl, hc9, hC9, hb9⟩; have HC9 := Aside0.mk (And.intro hc9 hC9); have HB9 := Aside0.mk (below_then HB.out HB.out.size hb9); have HO9 := Aside0.mk (Kd.R_below HO.out hb9); have HP9 := Aside0.mk (Kd.R_below HP.out hb9); clear hc9 hC9 hb9 hh0 hh1 hh2 hc0 hc1) | (go_at_call 46; (with_reducible refine (equal_is HQ.out _ HC9.out.2 HC9.out.1 (Kd.C_below HC.out.1 HB9.out) HC.out.2.1 HQP.out.2.2 HC.out.2.2).mono ?_); rintro en w10 ⟨rfl, hb10⟩; have HB10 := Aside0.mk (below_then HB9.out HB9.out.size hb10); have HO10 := Aside0.mk (Kd.R_below HO9.out hb10); have HP10 := Aside0.mk (Kd.R_below HP9.out hb10); clear hb10))
          go_ret3
          rw [← HS3.out]
          exact ⟨_, _, rfl, HP10.out, HO10.out, HB10.out⟩
        · have HQ := Aside0.mk (show decide (p1 = b) = false from decide_eq_false hq)
          rw [if_neg (fun h => hq h.2)] at HS1
          have HS3 := Aside0.mk HS1
          clear HS1 he hq
          go_wp2_with (first | (go_at_call 23; (with_reducible refine (putInner_is HQP.out.1 HQP.out.2.1 _ A7 c7 A8 c8 HG.out.good (Kd.R_reads' HO.out).2.2 (Kd.R_reads' HO.out).2.1 (Kd.R_reads' HP.out).2.2 (by have := HG.out.len; have := HCL.out; omega)).mono ?_); rintro en w9 ⟨A9, c9, rfl, hc9, hC9, hb9⟩; have HC9 := Aside0.mk (And.intro hc9 hC9); have HB9 := Aside0.mk (below_then HB.out HB.out.size hb9); have HO9 := Aside0.mk (Kd.R_below HO.out hb9); have HP9 := Aside0.mk (Kd.R_below HP.out hb9); clear hc9 hC9 hb9 hh0 hh1 hh2 hc0 hc1) | (go_at_call 46; (with_reducible refine (equal_is HQ.out _ HC9.out.2 HC9.out.1 (Kd.C_below HC.out.1 HB9.out) HC.out.2.1 HQP.out.2.2 HC.out.2.2).mono ?_); rintro en w10 ⟨rfl, hb10⟩; have HB10 := Aside0.mk (below_then HB9.out HB9.out.size hb10); have HO10 := Aside0.mk (Kd.R_below HO9.out hb10); have HP10 := Aside0.mk (Kd.R_below HP9.out hb10); clear hb10))
          go_ret3
          rw [← HS3.out]
          exact ⟨_, _, rfl, Kd.R_nil _ _ _ _ _, Kd.R_nil _ _ _ _ _, HB10.out⟩
      · have d0 : (p2 != 0) = true := by simpa using he
        rw [if_neg (fun h => he h.1)] at HS1
        have HS3 := Aside0.mk HS1
        clear HS1 he
        go_wp2_with (first | (go_at_call 23; (with_reducible refine (putInner_is HQP.out.1 HQP.out.2.1 _ A7 c7 A8 c8 HG.out.good (Kd.R_reads' HO.out).2.2 (Kd.R_reads' HO.out).2.1 (Kd.R_reads' HP.out).2.2 (by have := HG.out.len; have := HCL.out; omega)).mono ?_); rintro en w9 ⟨A9, c9, rfl, hc9, hC9, hb9⟩; have HC9 := Aside0.mk (And.intro hc9 hC9); have HB9 := Aside0.mk (below_then HB.out HB.out.size hb9); have HO9 := Aside0.mk (Kd.R_below HO.out hb9); have HP9 := Aside0.mk (Kd.R_below HP.out hb9); clear hc9 hC9 hb9 hh0 hh1 hh2 hc0 hc1))
        go_ret3
        rw [← HS3.out]
        exact ⟨_, _, rfl, Kd.R_nil _ _ _ _ _, Kd.R_nil _ _ _ _ _, HB9.out⟩
end Go.Proofs.Ytihmkdjambdfjaa.Lf
namespace Go.Proofs.Ytihmkdjambdfjaa.PureL
open Go.RowKit Go.Proofs.YtihmkdjambdfjaaW.PrintWords Go.Proofs.Ytihmkdjambdfjaa.XLeaf Go.Proofs.Ytihmkdjambdfjaa.Lf Go.Proofs.Ytihmkdjambdfjaa.Tk
set_option linter.unusedVariables false
set_option linter.unusedSimpArgs false
theorem str_bytes (s : ByteArray) : strOfNums (bytesOf s) = s := by
  apply ByteArray.ext
  apply Array.toList_inj.1
  simp only [strOfNums, bytesOf, List.map_map]
  have h : ((fun n : Int => UInt8.ofNat n.toNat) ∘ fun b : UInt8 => ((b.toNat : Nat) : Int)) = id := by
    funext b
    simp
  show (List.map ((fun n : Int => UInt8.ofNat n.toNat) ∘ fun b : UInt8 => ((b.toNat : Nat) : Int)) s.data.toList).toArray.toList = _
  rw [h]
  simp
theorem nv2 (x : Int) (h : 0 ≤ x ∧ x < 65536) : nv (Tk.be2 x) = x := by
  simp only [nv, Tk.be2, List.foldl_cons, List.foldl_nil]
  omega
theorem nv4 (x : Int) (h : 0 ≤ x ∧ x < 4294967296) : nv (Tk.be4 x) = x := by
  simp only [nv, Tk.be4, List.foldl_cons, List.foldl_nil]
  omega
theorem tk_app (a b : List Int) (s : Bool) (n : Int) (h : n = a.length) : tk (a ++ b) s n = (a, b, s) := by
  subst h
  rw [tk, if_pos (by rw [List.length_append]; omega)]
  simp
/-- An entry that fits its kinds. -/
def okE (x : S27) : Prop := x.f0.size < 65536 ∧ 0 ≤ x.f1.f0 ∧ x.f1.f0 < 4294967296 ∧ 0 ≤ x.f1.f1 ∧ x.f1.f1 < 65536
theorem ent_wr (x : S27) (hx : okE x) (rest : List Int) (s : Bool) : ent (wrE x.f0 x.f1.f0 x.f1.f1 ++ rest) s = ((bytesOf x.f0, x.f1.f0, x.f1.f1), rest, s) := by
  have e : wrE x.f0 x.f1.f0 x.f1.f1 ++ rest = Tk.be2 x.f0.size ++ (bytesOf x.f0 ++ (Tk.be4 x.f1.f0 ++ (Tk.be2 x.f1.f1 ++ rest))) := by simp [wrE]
  rw [e]
  simp only [ent]
  rw [tk_app _ _ _ 2 rfl, nv2 _ (by have := hx.1; omega)]
  simp only
  rw [tk_app _ _ _ _ (by rw [bytesOf_length])]
  simp only
  rw [tk_app _ _ _ 4 rfl]
  simp only
  rw [tk_app _ _ _ 2 rfl, nv4 _ ⟨hx.2.1, hx.2.2.1⟩, nv2 _ hx.2.2.2]
theorem mk_wr (x : S27) (rest : List Int) (s : Bool) : mkE ((bytesOf x.f0, x.f1.f0, x.f1.f1), rest, s) = x := by
  rw [mkE, str_bytes]
theorem gl_wr : ∀ (l rows : List S27) (rest : List Int), (∀ x ∈ l, okE x) → gl l.length rows (wrL l ++ rest) = some (rows ++ l)
  | [], rows, rest, h => by simp [gl]
  | x :: l, rows, rest, h => by
    have e : wrL (x :: l) ++ rest = wrE x.f0 x.f1.f0 x.f1.f1 ++ (wrL l ++ rest) := by simp [wrL]
    rw [e, List.length_cons, gl, ent_wr x (h x (List.mem_cons_self ..)), if_neg (by simp), mk_wr, gl_wr l _ rest (fun y hy => h y (List.mem_cons_of_mem _ hy))]
    simp
theorem dg_pg (k c n : Int) (bs : List Int) (hb : bs.length ≤ 504) (hc : 0 ≤ c ∧ c < 65536) (hn : 0 ≤ n ∧ n < 4294967296) : dg (pgF k c n bs) = (k, c, n, true) := by
  have hl : (pgF k c n bs).length = 512 := by
    rw [pgF, List.length_append, List.length_append, List.length_replicate]
    show 8 + bs.length + (504 - bs.length) = 512
    omega
  have e : pgF k c n bs = [k, 0, c / 256 % 256, c % 256] ++ (Tk.be4 n ++ (bs ++ List.replicate (504 - bs.length) 0)) := by simp [pgF, hd, Tk.be4]
  rw [dg, hl]
  have r0 : rd (pgF k c n bs) 0 = k := by rw [e]; rfl
  have r1 : rd (pgF k c n bs) 1 = 0 := by rw [e]; rfl
  have r2 : rd (pgF k c n bs) 2 = c / 256 % 256 := by rw [e]; rfl
  have r3 : rd (pgF k c n bs) 3 = c % 256 := by rw [e]; rfl
  have r4 : ((pgF k c n bs).take 8).drop 4 = Tk.be4 n := by rw [e]; simp [Tk.be4]
  rw [r0, r1, r2, r3, r4, nv4 n hn, if_pos ⟨rfl, rfl⟩, show c / 256 % 256 * 256 + c % 256 = c by omega]
theorem may_len {l : List S27} {n : Int} (h : mayE l n = 0) (hx : ∀ x ∈ l, 0 ≤ x.f1.f0 ∧ x.f1.f0 < 4294967296 ∧ 0 ≤ x.f1.f1 ∧ x.f1.f1 < 65536) : ∀ x ∈ l, okE x := fun x hm => by
  have h2 := (mayE_0 h).2.1
  have : ¬ (200 < x.f0.size) := fun hg => by
    rw [longB, List.any_eq_false] at h2
    exact h2 x hm (by simpa using hg)
  exact ⟨by omega, hx x hm⟩
/-- What was put is got. -/
theorem get_putL (next : Int) (l : List S27) (hn : 0 ≤ next ∧ next < 4294967296) (hx : ∀ x ∈ l, 0 ≤ x.f1.f0 ∧ x.f1.f0 < 4294967296 ∧ 0 ≤ x.f1.f1 ∧ x.f1.f1 < 65536) (h : (putL next l).2 = 0) : getL (putL next l).1 = (next, l, 0) := by
  by_cases hm : mayE l (8 + szE l) = 0
  · have e : putL next l = (pgF 2 l.length next (wrL l), 0) := by rw [putL, if_pos hm]
    have hw : (wrL l).length ≤ 504 := by
      have h1 := wrL_len l
      have h2 := (mayE_0 hm).2.2
      omega
    have hl : (l.length : Int) < 65536 := by
      have h1 := szE_len l
      have h2 := (mayE_0 hm).2.2
      omega
    rw [e]
    simp only
    rw [getL, dg_pg 2 _ _ _ hw ⟨by omega, hl⟩ hn, if_pos ⟨rfl, rfl⟩]
    simp only
    have e8 : (pgF 2 l.length next (wrL l)).drop 8 = wrL l ++ List.replicate (504 - (wrL l).length) 0 := by
      rw [pgF, List.append_assoc]
      rfl
    rw [e8, Int.toNat_natCast, gl_wr l [] _ (may_len hm hx), List.nil_append, fin, e, if_pos ⟨rfl, rfl⟩]
  · rw [putL, if_neg hm] at h
    exact absurd h hm
theorem getI_putL (next : Int) (l : List S27) (hn : 0 ≤ next ∧ next < 4294967296) (h : (putL next l).2 = 0) : getI (putL next l).1 = ([], [], 2) := by
  by_cases hm : mayE l (8 + szE l) = 0
  · have e : putL next l = (pgF 2 l.length next (wrL l), 0) := by rw [putL, if_pos hm]
    have hw : (wrL l).length ≤ 504 := by
      have h1 := wrL_len l
      have h2 := (mayE_0 hm).2.2
      omega
    have hl : (l.length : Int) < 65536 := by
      have h1 := szE_len l
      have h2 := (mayE_0 hm).2.2
      omega
    rw [e]
    simp only
    rw [getI, dg_pg 2 _ _ _ hw ⟨by omega, hl⟩ hn, if_neg (by simp)]
  · rw [putL, if_neg hm] at h
    exact absurd h hm
/-! ### inner pages -/
theorem rdT_cons (x : S27) (l : List S27) (i : Nat) : rd_T27 (x :: l) ((i + 1 : Nat) : Int) = rd_T27 l (i : Int) := rfl
theorem rd_cons (x : Int) (l : List Int) (i : Nat) : rd (x :: l) ((i + 1 : Nat) : Int) = rd l (i : Int) := rfl
/-- Entries' and children's writing, behind the first child. -/
def wrP : List Int → List S27 → List Int
  | c :: cs, x :: l => wrE x.f0 x.f1.f0 x.f1.f1 ++ Tk.be4 c ++ wrP cs l
  | _, _ => []
theorem flat_shift (l : List S27) (cs : List Int) : ∀ (n : Nat), n = l.length → cs.length = l.length → ((List.range n).flatMap fun (i : Nat) => wrE (rd_T27 l (i : Int)).f0 (rd_T27 l (i : Int)).f1.f0 (rd_T27 l (i : Int)).f1.f1 ++ Tk.be4 (rd cs (i : Int))) = wrP cs l := by
  induction l generalizing cs with
  | nil => intro n hn hc; subst hn; cases cs with | nil => rfl | cons c cs => cases hc
  | cons x l ih =>
    intro n hn hc
    subst hn
    cases cs with
    | nil => cases hc
    | cons c cs =>
      rw [List.length_cons, List.range_succ_eq_map, List.flatMap_cons, List.flatMap_map, wrP, ← ih cs _ rfl (by simpa using hc)]
      rfl
theorem wrI_eq (c : Int) (cs : List Int) (l : List S27) (h : cs.length = l.length) : wrI (c :: cs) l l.length = Tk.be4 c ++ wrP cs l := by
  rw [wrI, ← flat_shift l cs _ rfl h]
  rfl
theorem gi_wr : ∀ (l : List S27) (cs cs0 : List Int) (rows : List S27) (rest : List Int), cs.length = l.length → (∀ x ∈ l, okE x) → (∀ c ∈ cs, 0 ≤ c ∧ c < 4294967296) → gi l.length cs0 rows (wrP cs l ++ rest) = some (cs0 ++ cs, rows ++ l)
  | [], cs, cs0, rows, rest, hl, h, hc => by cases cs with | nil => simp [gi] | cons c cs => cases hl
  | x :: l, [], cs0, rows, rest, hl, h, hc => by cases hl
  | x :: l, c :: cs, cs0, rows, rest, hl, h, hc => by
    have e : wrP (c :: cs) (x :: l) ++ rest = wrE x.f0 x.f1.f0 x.f1.f1 ++ (Tk.be4 c ++ (wrP cs l ++ rest)) := by simp [wrP]
    rw [e, List.length_cons, gi, ent_wr x (h x (List.mem_cons_self ..))]
    simp only
    rw [tk_app _ _ _ 4 rfl, if_neg (by simp), mk_wr, nv4 c (hc c (List.mem_cons_self ..)), gi_wr l cs _ _ rest (by simpa using hl) (fun y hy => h y (List.mem_cons_of_mem _ hy)) (fun y hy => hc y (List.mem_cons_of_mem _ hy))]
    simp
theorem putI_0 {cs : List Int} {l : List S27} (h : (putI cs l).2 = 0) : l.length ≠ 0 ∧ cs.length = l.length + 1 ∧ mayE l (8 + szE l + 4 * ((l.length : Int) + 1)) = 0 ∧ putI cs l = (pgF 3 l.length 0 (wrI cs l l.length), 0) := by
  unfold putI at h ⊢
  split at h
  · cases h
  · rename_i h1
    split at h
    · rename_i h2
      exact ⟨fun e => h1 (.inl e), Decidable.of_not_not fun e => h1 (.inr e), h2, by rw [if_neg h1, if_pos h2]⟩
    · rename_i h2
      exact absurd h h2
theorem get_putI (cs : List Int) (l : List S27) (hcs : ∀ c ∈ cs, 0 ≤ c ∧ c < 4294967296) (hx : ∀ x ∈ l, 0 ≤ x.f1.f0 ∧ x.f1.f0 < 4294967296 ∧ 0 ≤ x.f1.f1 ∧ x.f1.f1 < 65536) (h : (putI cs l).2 = 0) : getI (putI cs l).1 = (cs, l, 0) := by
  obtain ⟨h0, h1, hm, e⟩ := putI_0 h
  have h2 := (mayE_0 hm).2.2
  have h3 := szE_len l
  have h4 := wrI_len cs l l.length (Nat.le_refl _)
  rw [List.take_length] at h4
  have hw : (wrI cs l l.length).length ≤ 504 := by omega
  rw [e]
  simp only
  rw [getI, dg_pg 3 _ _ _ hw ⟨by omega, by omega⟩ (by omega), if_pos ⟨rfl, rfl⟩]
  simp only
  have e8 : (pgF 3 l.length 0 (wrI cs l l.length)).drop 8 = wrI cs l l.length ++ List.replicate (504 - (wrI cs l l.length).length) 0 := by
    rw [pgF, List.append_assoc]
    rfl
  cases cs with
  | nil => cases h1
  | cons c cs =>
    have hl : cs.length = l.length := by simpa using h1
    rw [e8]
    generalize List.replicate (504 - (wrI (c :: cs) l l.length).length) (0 : Int) = zs
    rw [wrI_eq c cs l hl, List.append_assoc]
    have t4 : (Tk.be4 c ++ (wrP cs l ++ zs)).take 4 = Tk.be4 c := by simp [Tk.be4]
    have d4 : (Tk.be4 c ++ (wrP cs l ++ zs)).drop 4 = wrP cs l ++ zs := by simp [Tk.be4]
    rw [t4, d4, nv4 c (hcs c (List.mem_cons_self ..)), Int.toNat_natCast, gi_wr l cs _ _ _ hl (may_len hm hx) (fun y hy => hcs y (List.mem_cons_of_mem _ hy)), fini]
    simp only [List.nil_append, List.singleton_append]
    rw [e, if_pos ⟨rfl, by rw [← wrI_eq c cs l hl]⟩]
theorem getL_putI (cs : List Int) (l : List S27) (h : (putI cs l).2 = 0) : getL (putI cs l).1 = (0, [], 2) := by
  obtain ⟨h0, h1, hm, e⟩ := putI_0 h
  have h2 := (mayE_0 hm).2.2
  have h3 := szE_len l
  have h4 := wrI_len cs l l.length (Nat.le_refl _)
  rw [List.take_length] at h4
  have hw : (wrI cs l l.length).length ≤ 504 := by omega
  rw [e]
  simp only
  rw [getL, dg_pg 3 _ _ _ hw ⟨by omega, by omega⟩ (by omega), if_neg (by simp)]
end Go.Proofs.Ytihmkdjambdfjaa.PureL
namespace Go.Proofs.Ytihmkdjambdfjaa.PureL
open Go.RowKit Go.Proofs.YtihmkdjambdfjaaW.PrintWords Go.Proofs.Ytihmkdjambdfjaa.XLeaf Go.Proofs.Ytihmkdjambdfjaa.Lf Go.Proofs.Ytihmkdjambdfjaa.Byt
set_option linter.unusedVariables false
set_option linter.unusedSimpArgs false
theorem wrn (n : Int) (h : -9223372036854775808 ≤ n ∧ n ≤ 9223372036854775807) : wrap64 n = n := Lf.wr_in n h
theorem wrs (i n : Nat) (h : i < n) (hn : n ≤ 9223372036854775807) : wrap64 ((i : Int) + 1) = ((i + 1 : Nat) : Int) := Lf.wr_s i n h hn
theorem Ev.cat_ {A : Nat → Option ByteArray} {G : Nat → ByteArray → Option ByteArray} {S : ByteArray} {b : List Int} {r : ByteArray} (hA : Ev A (strOfNums b)) (hs : S.size + b.length ≤ 9223372036854775807) (h : Ev (fun k => G k (strOfNums b)) r) :
    Ev (fun k => (A k).bind fun t => if S.size + t.size ≤ 9223372036854775807 then G k t else none) r :=
  Ev.bind (f := fun k t => if S.size + t.size ≤ 9223372036854775807 then G k t else none) hA (Ev.congr (fun k => if_pos (by rw [str_size]; exact hs)) h)
theorem u64_in (n : Int) (h : 0 ≤ n ∧ n < 18446744073709551616) : IntKind.u64.wrap n = n := by rw [u64_eq]; omega
theorem num_round (x n : Int) (hx : 0 ≤ x ∧ x < 18446744073709551616) (acc : List Int) (i : Nat) (hi : (i : Int) < n) (hn : n ≤ 100) (ha : acc.length ≤ 1000) {r : ByteArray} (h : Ev (fun k => rowlockref06_Number.l0 k (x / 256) n (strOfNums ((x % 256) :: acc)) ((i + 1 : Nat) : Int)) r) :
    Ev (fun k => rowlockref06_Number.l0 k x n (strOfNums acc) (i : Int)) r := by
  refine Ev.step (fun k => ?_) h
  have e1 : Int.tmod x 256 = x % 256 := Int.tmod_eq_emod_of_nonneg hx.1
  have e2 : Int.tdiv x 256 = x / 256 := Int.tdiv_eq_ediv_of_nonneg hx.1
  have e3 : strOfNums [x % 256] ++ strOfNums acc = strOfNums ((x % 256) :: acc) := (str_append _ _).symm
  rw [rowlockref06_Number.l0, if_pos hi, Option.bind_some, e1, e2, show x % 256 % 256 = x % 256 by omega, if_pos (by rw [str_size, str_size]; simp; omega), e3, u64_in (x / 256) (by omega), wrn _ (by omega)]
  rfl
theorem num_end (x n : Int) (acc : List Int) (i : Nat) (hi : (i : Int) = n) : Ev (fun k => rowlockref06_Number.l0 k x n (strOfNums acc) (i : Int)) (strOfNums acc) :=
  Ev.step (f := fun _ => some (strOfNums acc)) (fun k => by rw [rowlockref06_Number.l0, if_neg (by omega)]) (Ev.now _)
theorem num2 (x : Int) (hx : 0 ≤ x ∧ x < 18446744073709551616) : Ev (fun k => rowlockref06_Number.f k x 2) (strOfNums (Tk.be2 x)) := by
  have h := num_round x 2 hx [] 0 (by omega) (by omega) (by simp) (num_round (x / 256) 2 (by omega) _ 1 (by omega) (by omega) (by simp) (num_end (x / 256 / 256) 2 _ 2 (by omega)))
  exact Ev.congr (fun k => by rw [rowlockref06_Number.f]; rfl) h
theorem num4 (x : Int) (hx : 0 ≤ x ∧ x < 18446744073709551616) : Ev (fun k => rowlockref06_Number.f k x 4) (strOfNums (Tk.be4 x)) := by
  have h := num_round x 4 hx [] 0 (by omega) (by omega) (by simp) (num_round (x / 256) 4 (by omega) _ 1 (by omega) (by omega) (by simp) (num_round (x / 256 / 256) 4 (by omega) _ 2 (by omega) (by omega) (by simp) (num_round (x / 256 / 256 / 256) 4 (by omega) _ 3 (by omega) (by omega) (by simp) (num_end (x / 256 / 256 / 256 / 256) 4 _ 4 (by omega)))))
  rw [show x / 256 / 256 / 256 = x / 16777216 by omega, show x / 256 / 256 = x / 65536 by omega] at h
  exact Ev.congr (fun k => by rw [rowlockref06_Number.f]; rfl) h
theorem be2_len (x : Int) : (Tk.be2 x).length = 2 := rfl
theorem be4_len (x : Int) : (Tk.be4 x).length = 4 := rfl
theorem eEntry (x : S27) (hx : okE x) : Ev (fun k => rowlockref10_entry.f k x.f0 x.f1.f0 x.f1.f1) (strOfNums (Tk.wrE x.f0 x.f1.f0 x.f1.f1)) := by
  obtain ⟨h0, h1, h2, h3, h4⟩ := hx
  have e : strOfNums (Tk.wrE x.f0 x.f1.f0 x.f1.f1) = ((strOfNums (Tk.be2 x.f0.size) ++ x.f0) ++ strOfNums (Tk.be4 x.f1.f0)) ++ strOfNums (Tk.be2 x.f1.f1) := by
    rw [Tk.wrE, str_append, str_append, str_append, str_bytes]
  rw [e]
  refine Ev.congr (fun k => by rw [rowlockref10_entry.f, u64_in _ (by omega), u64_in _ (by omega), u64_in _ (by omega)]) ?_
  refine bind_ev (num2 _ ⟨by omega, by omega⟩) ?_
  refine Ev.congr (fun k => if_pos (by rw [str_size, be2_len]; omega)) ?_
  refine Ev.cat_ (num4 _ ⟨by omega, by omega⟩) (by rw [ByteArray.size_append, str_size, be2_len, be4_len]; omega) ?_
  refine Ev.cat_ (num2 _ ⟨by omega, by omega⟩) (by rw [ByteArray.size_append, ByteArray.size_append, str_size, str_size, be2_len, be4_len, be2_len]; omega) ?_
  exact Ev.now _
theorem eHead (k c n : Int) (hc : 0 ≤ c ∧ c < 65536) (hn : 0 ≤ n ∧ n < 4294967296) : Ev (fun q => rowlockref06_Head.f q k c n) (strOfNums (Tk.hd k c n ++ List.replicate 504 0)) := by
  have e : strOfNums (Tk.hd k c n ++ List.replicate 504 0) = ((strOfNums [k, 0] ++ strOfNums (Tk.be2 c)) ++ strOfNums (Tk.be4 n)) ++ strOfNums (List.replicate 504 0) := by
    rw [← str_append, ← str_append, ← str_append]
    rfl
  have hz : Ev (fun _ : Nat => rowlockref06_zeros.f 504) (strOfNums (List.replicate 504 0)) := Ev.congr (fun k => by rw [rowlockref06_zeros.f, if_pos (by decide), if_pos (by decide)]; rfl) (Ev.now _)
  rw [e]
  refine Ev.congr (fun q => by rw [rowlockref06_Head.f, Option.bind_some, u64_in _ (by omega), u64_in _ (by omega)]) ?_
  refine Ev.cat_ (num2 _ ⟨by omega, by omega⟩) (by rw [str_size, be2_len]; simp) ?_
  refine Ev.cat_ (num4 _ ⟨by omega, by omega⟩) (by rw [ByteArray.size_append, str_size, str_size, be2_len, be4_len]; simp) ?_
  refine Ev.cat_ hz (by rw [ByteArray.size_append, ByteArray.size_append, str_size, str_size, str_size, be2_len, be4_len, List.length_replicate]; simp) ?_
  exact Ev.now _
theorem hd_len (k c n : Int) : (Tk.hd k c n).length = 8 := rfl
theorem ePage (k c n : Int) (bs : List Int) (hc : 0 ≤ c ∧ c < 65536) (hn : 0 ≤ n ∧ n < 4294967296) (hb : bs.length ≤ 504) : Ev (fun q => rowlockref10_page.f q k c n (strOfNums bs)) (strOfNums (pgF k c n bs)) := by
  refine Ev.congr (fun q => by rw [rowlockref10_page.f]) (bind_ev (eHead k c n hc hn) ?_)
  have e8 : (strOfNums (Tk.hd k c n ++ List.replicate 504 0)).extract 0 8 = strOfNums (Tk.hd k c n) := by rw [str_extract]; rfl
  have hs : ((strOfNums (Tk.hd k c n) ++ strOfNums bs).size : Int) = 8 + bs.length := by rw [ByteArray.size_append, str_size, str_size, hd_len]; omega
  have hw : wrap64 (512 - ((strOfNums (Tk.hd k c n) ++ strOfNums bs).size : Int)) = 504 - bs.length := by rw [hs, wrn _ (by omega)]; omega
  have hw2 : (504 - (bs.length : Int)).toNat = 504 - bs.length := by omega
  simp only [e8]
  refine Ev.congr (fun q => ?_) (Ev.now (strOfNums (pgF k c n bs)))
  rw [hw, hw2, if_pos (by decide), if_pos (by rw [str_size, List.length_append, hd_len, List.length_replicate]; decide), if_pos (by rw [str_size, str_size, hd_len]; omega), if_pos (by omega), if_pos (by omega), Option.bind_some, if_pos (by rw [ByteArray.size_append, str_size, str_size, str_size, hd_len, List.length_replicate]; omega), pgF, str_append, str_append]
/-! ### may they be? -/
theorem rRise (l : List S27) (hl : l.length ≤ 9223372036854775806) : Ev (fun k => rowlockref10_Rise.f k l) (riseB l) := by
  have hend : ∀ n : Nat, l.length ≤ n → EvB (fun k => rowlockref10_Rise.l0 k l (l.length : Int) (n : Int)) True := fun n hn => EvB.step (f := fun _ => some true) (fun k => by rw [rowlockref10_Rise.l0, if_neg (by omega)]) (EvB.yes trivial)
  have key : EvB (fun k => rowlockref10_Rise.f k l) (riseB l = true) := by
    have h := EvB.loop (g := fun i k => rowlockref10_Rise.l0 k l (l.length : Int) ((i + 1 : Nat) : Int)) (l.length - 1) (fun i => cmpE (rd_T27 l (i : Int)) (rd_T27 l ((i + 1 : Nat) : Int)) < 0) True (hend _ (by omega)) (fun i Q hi h => by
      have e1 : wrap64 (((i + 1 : Nat) : Int) - 1) = (i : Int) := by rw [wrn _ (by omega)]; omega
      have e2 : wrap64 (((i + 1 : Nat) : Int) + 1) = ((i + 1 + 1 : Nat) : Int) := by rw [wrn _ (by omega)]; omega
      have hr := cmp_rng (rd_T27 l (i : Int)) (rd_T27 l ((i + 1 : Nat) : Int))
      refine EvB.step (f := fun k => if ls (rd_T27 l (i : Int)) (rd_T27 l ((i + 1 : Nat) : Int)) = true then rowlockref10_Rise.l0 k l (l.length : Int) ((i + 1 + 1 : Nat) : Int) else some false) (fun k => by
        rw [rowlockref10_Rise.l0, if_pos (by omega), if_pos (by omega), e1, e2, if_pos (by omega), if_pos (by omega), if_pos (by omega), if_pos (by omega), eLess, Option.bind_some]) ?_
      refine EvB.iteT (fun hc => h.imp ?_) (fun hc => EvB.no ?_)
      · have : cmpE (rd_T27 l (i : Int)) (rd_T27 l ((i + 1 : Nat) : Int)) = -1 := by simpa [ls] using hc
        exact ⟨fun h => ⟨by omega, h⟩, fun h => h.2⟩
      · have : ¬ cmpE (rd_T27 l (i : Int)) (rd_T27 l ((i + 1 : Nat) : Int)) = -1 := by simpa [ls] using hc
        exact fun h => this (by have := h.1; omega)) (l.length - 1) 0 (by omega)
    have h1 : EvB (fun k => rowlockref10_Rise.l0 k l (l.length : Int) 0) ((∀ i, 0 ≤ i → i < l.length - 1 → cmpE (rd_T27 l (i : Int)) (rd_T27 l ((i + 1 : Nat) : Int)) < 0) ∧ True) := by
      by_cases h0 : 0 < l.length
      · exact EvB.step (fun k => by rw [rowlockref10_Rise.l0, if_pos (by omega), if_neg (by omega), wrn _ (by omega)]; rfl) h
      · exact (hend 0 (by omega)).imp ⟨fun _ => ⟨fun i _ hi => absurd hi (by omega), trivial⟩, fun _ => trivial⟩
    exact (EvB.congr (fun k => by rw [rowlockref10_Rise.f]) h1).imp ⟨fun h => (riseB_iff l).2 (fun i hi => h.1 i (Nat.zero_le _) (by omega)), fun h => ⟨fun i h1 hi => (riseB_iff l).1 h i (by omega), trivial⟩⟩
  obtain ⟨r, hr, he⟩ := key
  have : r = riseB l := by cases r <;> cases h : riseB l <;> simp_all
  rw [← this]
  exact hr
theorem rSizeL8 (l : List S27) (hl : l.length ≤ 1000000) (hx : ∀ x ∈ l, x.f0.size ≤ 70000) : ∀ (m i : Nat) (a : Int), i + m = l.length → 0 ≤ a → a ≤ 70012 * (i : Int) + 12 → Ev (fun k => rowlockref10_Size.l0 k l 8 a (l.length : Int) (i : Int)) (a + szE (l.drop i))
  | 0, i, a, h, h0, h1 => by
    rw [List.drop_of_length_le (by omega), szE, show a + 0 = a by omega]
    exact Ev.step (f := fun _ => some a) (fun k => by rw [rowlockref10_Size.l0, if_neg (by omega)]) (Ev.now _)
  | m + 1, i, a, h, h0, h1 => by
    have hm : (rd_T27 l (i : Int)).f0.size ≤ 70000 := by rw [rd_at l i (by omega)]; exact hx _ (List.getElem_mem _)
    have ih := rSizeL8 l hl hx m (i + 1) (a + (((rd_T27 l (i : Int)).f0.size : Int) + 8)) (by omega) (by omega) (by omega)
    rw [Lf.drop_rd l i (by omega), szE, show a + (8 + ((rd_T27 l (i : Int)).f0.size : Int) + szE (l.drop (i + 1))) = a + (((rd_T27 l (i : Int)).f0.size : Int) + 8) + szE (l.drop (i + 1)) by omega]
    exact Ev.step (fun k => by rw [rowlockref10_Size.l0, if_pos (by omega), if_pos (by omega), if_pos (by omega), wrn (((rd_T27 l (i : Int)).f0.size : Int) + 8) (by omega), wrn (a + _) (by omega), wrs i l.length (by omega) (by omega)]) ih
theorem rSizeL12 (l : List S27) (hl : l.length ≤ 1000000) (hx : ∀ x ∈ l, x.f0.size ≤ 70000) : ∀ (m i : Nat) (a : Int), i + m = l.length → 0 ≤ a → a ≤ 70012 * (i : Int) + 12 → Ev (fun k => rowlockref10_Size.l0 k l 12 a (l.length : Int) (i : Int)) (a + szE (l.drop i) + 4 * (m : Int))
  | 0, i, a, h, h0, h1 => by
    rw [List.drop_of_length_le (by omega), szE, show a + 0 + 4 * ((0 : Nat) : Int) = a by omega]
    exact Ev.step (f := fun _ => some a) (fun k => by rw [rowlockref10_Size.l0, if_neg (by omega)]) (Ev.now _)
  | m + 1, i, a, h, h0, h1 => by
    have hm : (rd_T27 l (i : Int)).f0.size ≤ 70000 := by rw [rd_at l i (by omega)]; exact hx _ (List.getElem_mem _)
    have ih := rSizeL12 l hl hx m (i + 1) (a + (((rd_T27 l (i : Int)).f0.size : Int) + 12)) (by omega) (by omega) (by omega)
    rw [Lf.drop_rd l i (by omega), szE, show a + (8 + ((rd_T27 l (i : Int)).f0.size : Int) + szE (l.drop (i + 1))) + 4 * ((m + 1 : Nat) : Int) = a + (((rd_T27 l (i : Int)).f0.size : Int) + 12) + szE (l.drop (i + 1)) + 4 * (m : Int) by omega]
    exact Ev.step (fun k => by rw [rowlockref10_Size.l0, if_pos (by omega), if_pos (by omega), if_pos (by omega), wrn (((rd_T27 l (i : Int)).f0.size : Int) + 12) (by omega), wrn (a + _) (by omega), wrs i l.length (by omega) (by omega)]) ih
theorem rSize8 (l : List S27) (hg : goodE l) : Ev (fun k => rowlockref10_Size.f k l 8 8) (8 + szE l) := by
  have h := rSizeL8 l (by have := hg.1; omega) (fun x hx => (hg.2 x hx).1) l.length 0 8 (by omega) (by omega) (by omega)
  rw [List.drop_zero] at h
  exact Ev.congr (fun k => by rw [rowlockref10_Size.f]; rfl) h
theorem rSize12 (l : List S27) (hg : goodE l) : Ev (fun k => rowlockref10_Size.f k l 12 12) (8 + szE l + 4 * ((l.length : Int) + 1)) := by
  have h := rSizeL12 l (by have := hg.1; omega) (fun x hx => (hg.2 x hx).1) l.length 0 12 (by omega) (by omega) (by omega)
  rw [List.drop_zero, show (12 : Int) + szE l + 4 * (l.length : Int) = 8 + szE l + 4 * ((l.length : Int) + 1) by omega] at h
  exact Ev.congr (fun k => by rw [rowlockref10_Size.f]; rfl) h
theorem rMayL (l : List S27) (n : Int) (hl : l.length ≤ 9223372036854775806) : ∀ (m i : Nat), i + m = l.length → Ev (fun k => rowlockref10_may.l0 k l n (l.length : Int) (i : Int)) (if longB (l.drop i) = true then 1 else if n > 512 then 7 else 0)
  | 0, i, h => by
    rw [List.drop_of_length_le (by omega), if_neg (by simp [longB])]
    refine Ev.step (f := fun _ => if n > 512 then some 7 else some 0) (fun k => by rw [rowlockref10_may.l0, if_neg (by omega)]) ?_
    by_cases c : n > 512
    · simp only [if_pos c]; exact Ev.now _
    · simp only [if_neg c]; exact Ev.now _
  | m + 1, i, h => by
    have ih := rMayL l n hl m (i + 1) (by omega)
    rw [Lf.drop_rd l i (by omega)]
    by_cases c : ((rd_T27 l (i : Int)).f0.size : Int) > 200
    · rw [if_pos (by simp only [longB, List.any_cons, Bool.or_eq_true, decide_eq_true_eq]; exact .inl (by omega))]
      exact Ev.step (f := fun _ => some 1) (fun k => by rw [rowlockref10_may.l0, if_pos (by omega), if_pos (by omega), if_pos (by omega), if_pos c]) (Ev.now _)
    · have e : longB (rd_T27 l (i : Int) :: l.drop (i + 1)) = longB (l.drop (i + 1)) := by
        simp only [longB, List.any_cons]
        rw [decide_eq_false (by omega), Bool.false_or]
      rw [e]
      exact Ev.step (fun k => by rw [rowlockref10_may.l0, if_pos (by omega), if_pos (by omega), if_pos (by omega), if_neg c, wrs i l.length (by omega) (by omega)]) ih
theorem rMay (l : List S27) (n : Int) (hl : l.length ≤ 9223372036854775806) : Ev (fun k => rowlockref10_may.f k l n) (mayE l n) := by
  refine Ev.congr (fun k => by rw [rowlockref10_may.f]) (bind_ev (rRise l hl) ?_)
  have h := rMayL l n hl l.length 0 (by omega)
  rw [List.drop_zero] at h
  unfold mayE
  cases hr : riseB l
  · rw [if_pos (.inl rfl)]
    exact Ev.congr (fun k => if_neg (by simp)) (Ev.now _)
  · refine Ev.congr (fun k => if_pos rfl) ?_
    cases hb : longB l
    · rw [hb, if_neg (by simp)] at h
      rw [if_neg (by simp)]
      exact h
    · rw [hb, if_pos rfl] at h
      rw [if_pos (.inr rfl)]
      exact h
/-! ### the leaf's page -/
theorem rLeafL (next : Int) (l : List S27) (hn : 0 ≤ next ∧ next < 4294967296) (hx : ∀ x ∈ l, okE x) (hm : mayE l (8 + szE l) = 0) : ∀ (m i : Nat), i + m = l.length → Ev (fun k => rowlockref10_Leaf.l0 k next l (strOfNums (wrL (l.take i))) (l.length : Int) (i : Int)) (strOfNums (pgF 2 l.length next (wrL l)), 0)
  | 0, i, h => by
    have h1 := wrL_len l
    have h2 := (mayE_0 hm).2.2
    have h3 := szE_len l
    rw [List.take_of_length_le (by omega)]
    refine Ev.step (f := fun k => (rowlockref10_page.f k 2 (l.length : Int) next (strOfNums (wrL l))).bind fun t => some (t, 0)) (fun k => by
      rw [rowlockref10_Leaf.l0, if_neg (by omega), u16_eq, show (l.length : Int) % 65536 = l.length by omega]) ?_
    exact bind_ev (ePage 2 _ next _ ⟨by omega, by omega⟩ hn (by omega)) (Ev.now _)
  | m + 1, i, h => by
    have ih := rLeafL next l hn hx hm m (i + 1) (by omega)
    have h1 := wrL_len (l.take i)
    have h2 := szE_take l i
    have h3 := (mayE_0 hm).2.2
    have h4 := szE_len l
    rw [wrL_take l i (by omega), str_append] at ih
    have hxi : okE (rd_T27 l (i : Int)) := by rw [rd_at l i (by omega)]; exact hx _ (List.getElem_mem _)
    refine Ev.step (fun k => by rw [rowlockref10_Leaf.l0, if_pos (by omega), if_pos (by omega), if_pos (by omega)]) (bind_ev (eEntry _ hxi) ?_)
    refine Ev.congr (fun k => if_pos (by rw [str_size, str_size, wrE_len]; have := hxi.1; omega)) ?_
    exact Ev.congr (fun k => by rw [wrs i l.length (by omega) (by omega)]) ih
theorem eLeaf (next : Int) (l : List S27) (hn : 0 ≤ next ∧ next < 4294967296) (hg : goodE l) : Ev (fun k => rowlockref10_Leaf.f k next l) (strOfNums (putL next l).1, (putL next l).2) := by
  refine Ev.congr (fun k => by rw [rowlockref10_Leaf.f]) (bind_ev (rSize8 l hg) (bind_ev (rMay l _ (by have := hg.1; omega)) ?_))
  by_cases hm : mayE l (8 + szE l) = 0
  · refine Ev.congr (fun k => if_pos hm) ?_
    have h := rLeafL next l hn (may_len hm (fun x hx => (hg.2 x hx).2)) hm l.length 0 (by omega)
    rw [putL, if_pos hm]
    exact h
  · rw [putL, if_neg hm]
    exact Ev.congr (fun k => if_neg hm) (Ev.now _)
/-! ### the same entries -/
theorem eSame (l : List S27) (hl : l.length ≤ 9223372036854775806) : Ev (fun k => rowlockref10_Same.f k l l) true := by
  have key : ∀ (m i : Nat), i + m = l.length → Ev (fun k => rowlockref10_Same.l0 k l l (l.length : Int) (i : Int)) true := by
    intro m
    induction m with
    | zero => exact fun i h => Ev.step (f := fun _ => some true) (fun k => by rw [rowlockref10_Same.l0, if_neg (by omega)]) (Ev.now _)
    | succ m ih =>
      intro i h
      refine Ev.step (fun k => ?_) (ih (i + 1) (by omega))
      rw [rowlockref10_Same.l0, if_pos (by omega), if_pos (by omega), if_pos (by omega), if_pos (by omega), if_neg (by simp), wrs i l.length (by omega) (by omega)]
  exact Ev.congr (fun k => by rw [rowlockref10_Same.f, if_pos rfl]; rfl) (key l.length 0 (by omega))
/-! ### not more than is gone through -/
theorem eGreatS (l : List S27) (hl : l.length ≤ 9223372036854775807) : ∀ (m i : Nat) (a : Int), i + m = l.length → 0 ≤ a → a ≤ 9000 → ∃ r, Ev (fun k => rowlockref10_Great.l0 k l a (l.length : Int) (i : Int)) r ∧ (r = false → a + m ≤ 9000 ∧ ∀ x ∈ l.drop i, x.f0.size ≤ 9000)
  | 0, i, a, h, h0, h1 => ⟨false, Ev.step (f := fun _ => some false) (fun k => by rw [rowlockref10_Great.l0, if_neg (by omega)]) (Ev.now _), fun _ => ⟨by omega, fun x hx => by rw [List.drop_of_length_le (by omega)] at hx; cases hx⟩⟩
  | m + 1, i, a, h, h0, h1 => by
    obtain ⟨y, hy⟩ : ∃ y, y = a + (1 + (mn (((rd_T27 l (i : Int)).f0).size : Int) 9000)) := ⟨_, rfl⟩
    have hm : 0 ≤ mn (((rd_T27 l (i : Int)).f0).size : Int) 9000 ∧ mn (((rd_T27 l (i : Int)).f0).size : Int) 9000 ≤ 9000 := by
      unfold mn
      split <;> omega
    have hm2 : mn (((rd_T27 l (i : Int)).f0).size : Int) 9000 < 9000 → (rd_T27 l (i : Int)).f0.size ≤ 9000 := by
      unfold mn
      split <;> omega
    have hw : wrap64 y = y := wrn y (by omega)
    by_cases hg : y > 9000
    · exact ⟨true, Ev.step (f := fun _ => some true) (fun k => by rw [rowlockref10_Great.l0, if_pos (by omega), if_pos (by omega), if_pos (by omega), ← hy, hw, if_pos hg]) (Ev.now _), fun h => by cases h⟩
    · obtain ⟨r, hr, hp⟩ := eGreatS l hl m (i + 1) y (by omega) (by omega) (by omega)
      refine ⟨r, Ev.step (fun k => by rw [rowlockref10_Great.l0, if_pos (by omega), if_pos (by omega), if_pos (by omega), ← hy, hw, if_neg hg, wrs i l.length (by omega) (by omega)]) hr, fun h => ?_⟩
      obtain ⟨p1, p2⟩ := hp h
      refine ⟨by omega, fun x hx => ?_⟩
      rw [Lf.drop_rd l i (by omega)] at hx
      rcases List.mem_cons.1 hx with rfl | hx
      · exact hm2 (by omega)
      · exact p2 x hx
theorem eGreat' (l : List S27) (hl : l.length ≤ 9223372036854775807) : ∃ r, Ev (fun k => rowlockref10_Great.f k l) r ∧ (r = false → l.length ≤ 9000 ∧ ∀ x ∈ l, x.f0.size ≤ 9000) := by
  obtain ⟨r, hr, hp⟩ := eGreatS l hl l.length 0 0 (by omega) (by omega) (by omega)
  refine ⟨r, Ev.congr (fun k => by rw [rowlockref10_Great.f]; rfl) hr, fun h => ?_⟩
  obtain ⟨p1, p2⟩ := hp h
  rw [List.drop_zero] at p2
  exact ⟨by omega, p2⟩
end Go.Proofs.Ytihmkdjambdfjaa.PureL
namespace Go.Proofs.Ytihmkdjambdfjaa.PureL
open Go.RowKit Go.Proofs.YtihmkdjambdfjaaW.PrintWords Go.Proofs.YtihmkdjambdfjaaW.PrintLast Go.Proofs.YtihmkdjambdfjaaW.PrintMore Go.Proofs.Ytihmkdjambdfjaa.XLeaf Go.Proofs.Ytihmkdjambdfjaa.Lf
set_option linter.unusedVariables false
set_option linter.unusedSimpArgs false
set_option maxRecDepth 100000
theorem ba_self (x : ByteArray) : (x != x) = false := by
  have : (x == x) = true := by
    show x.beq x = true
    cases x
    simp [ByteArray.beq]
  show (!(x == x)) = false
  rw [this]; rfl
theorem bytes_str {l : List Int} (h : Tk.By l) : bytesOf (strOfNums l) = l := Byt.str_inj (fun x hx => Lf.bytesOf_by _ x hx) h (str_bytes _)
theorem conv_C (W : World) (xs : List Int) (hy : Tk.By xs) (hl : xs.length ≤ 9223372036854775807) : Kd.C (Kd.int .u8) (Lib.bytesWorld W 5 (strOfNums xs)) (some ⟨W.heap.size, 0, none⟩) xs.length xs := by
  have h := bytes_reads W 5 (strOfNums xs) (by rw [Byt.str_size]; exact hl)
  rw [Byt.str_size, bytes_str hy] at h
  exact Kd.C_of_reads (enc := Value.int .u8) (d := (0 : Int)) (h1 := fun _ => rfl) h
theorem clear_pg {W : World} {base : Nat} {ok : Nat → Prop} {A : Option Addr} {n c : Nat} {xs : List Int} (h : Kd.R (Kd.int .u8) 5 W base ok (.slice A n c) xs) : ∃ w1, (Builtin.clear_ #[36] 0 #[.slice A n c]).run Try.prog W = .ok (.tuple #[]) w1 ∧ W.grownBy w1 (Value.slice A n c).ownBlock :=
  Clr.clear_own Try.underlying36 (fun w => by obtain ⟨i0, hi0, hz, _⟩ := info_parts Tk.info5; simp [zeroValue, typeInfo, hi0, hz]) h 0
theorem put_is {next : Int} {l : List S27} {p : List Int} {e : Int} (h1 : (putL next l).1 = p) (h2 : (putL next l).2 = e) (w : World) (A : Option Addr) (c : Nat) (hg : goodE l) (hC : Kd.C k27 w A l.length l) (hc : l.length ≤ c) :
    Calls Try.prog 14 #[.int .u32 next, .slice A l.length c] w fun en w' => ∃ v, en = .returned (.tuple #[v, .int .i64 e]) ∧ Kd.R (Kd.int .u8) 5 w' w.heap.size (fun _ => True) v p ∧ Below w.heap.size w w' := by
  subst h1 h2
  exact putLeaf_ok w next A c l hg hC hc
theorem get_is {b : List Int} {n : Int} {l : List S27} {e : Int} (h : getL b = (n, l, e)) (w : World) (A : Option Addr) (c : Nat) (hC : Kd.C (Kd.int .u8) w A b.length b) (hc : b.length ≤ c) (hb : Tk.By b) :
    Calls Try.prog 20 #[.slice A b.length c] w fun en w' => ∃ v, en = .returned (.tuple #[.int .u32 n, v, .int .i64 e]) ∧ Kd.R k27 27 w' w.heap.size (fun _ => True) v l ∧ Below w.heap.size w w' := by
  have := getLeaf_ok w A c b hC hc hb
  rw [h] at this
  exact this
theorem geti_is {b : List Int} {cs : List Int} {l : List S27} {e : Int} (h : getI b = (cs, l, e)) (w : World) (A : Option Addr) (c : Nat) (hC : Kd.C (Kd.int .u8) w A b.length b) (hc : b.length ≤ c) (hb : Tk.By b) :
    Calls Try.prog 21 #[.slice A b.length c] w fun en w' => ∃ v1 v2, en = .returned (.tuple #[v1, v2, .int .i64 e]) ∧ Below w.heap.size w w' := by
  have := getInner_ok w A c b hC hc hb
  rw [h] at this
  refine this.mono ?_
  rintro en w' ⟨v1, v2, rfl, _, _, hb⟩
  exact ⟨v1, v2, rfl, hb⟩
theorem size_is {l : List S27} {n : Int} (h : 8 + szE l = n) (A : Option Addr) (c : Nat) (w : World) (hC : Kd.C k27 w A l.length l) (hc : l.length ≤ c) (hg : goodE l) : Calls Try.prog 18 #[.slice A l.length c] w fun e w' => e = .returned (.int .i64 n) ∧ Below w.heap.size w w' := by
  subst h
  exact size_ok A c l w hC hc hg
theorem le_cap (W : World) (p : List Int) : p.length ≤ grownCap W p.length 0 5 := grownCap_ge W p.length 0 5
theorem putL_len (next : Int) (l : List S27) : (putL next l).1.length ≤ 512 := by
  unfold putL
  split
  · rename_i hm
    have h1 := wrL_len l
    have h2 := (mayE_0 hm).2.2
    show (pgF 2 l.length next (wrL l)).length ≤ 512
    rw [pgF, List.length_append, List.length_append, List.length_replicate, hd_len]
    omega
  · simp
theorem bne_self' (b : Bool) : (b != b) = false := by cases b <;> rfl
theorem ibne_self (n : Int) : (n != n) = false := by simp
theorem ba_self2 (x : ByteArray) : (x == x) = true := by
  show x.beq x = true
  cases x
  simp [ByteArray.beq]
theorem clr_step {w w1 w8 w9 : World} {A A2 A9 : Option Addr} {l : List S27} {p : List Int} {c2 c9 n2 : Nat} (h1 : Below w.heap.size w w1) (h9 : Below w.heap.size w w9) (hC : Kd.C k27 w A l.length l) (hO : Kd.R (Kd.int .u8) 5 w9 w1.heap.size (fun _ => True) (.slice A2 n2 c2) p) (ho : Kd.R k27 27 w9 w8.heap.size (fun _ => True) (.slice A9 l.length c9) l) :
    ∃ wc, (Builtin.clear_ #[36] 0 #[.slice A2 n2 c2]).run Try.prog w9 = .ok (.tuple #[]) wc ∧ Below w.heap.size w wc ∧ Kd.C k27 wc A l.length l ∧ l.length ≤ c9 ∧ Kd.C k27 wc A9 l.length l := by
  obtain ⟨wc, hcl, hgc⟩ := clear_pg hO
  have hB := Below.grown h9 hgc h9.size (fun k hk => Nat.le_trans h1.size (Kd.R_base hO k hk))
  have hR := Kd.R_over' ho (Kd.R_typed hO) (by decide) hgc
  have h3 := Kd.R_reads' hR
  exact ⟨wc, hcl, hB, Kd.C_below hC hB, h3.2.1, h3.2.2⟩
end Go.Proofs.Ytihmkdjambdfjaa.PureL
namespace Go.Proofs.Ytihmkdjambdfjaa.PureL
open Go.RowKit Go.Proofs.YtihmkdjambdfjaaW.PrintWords Go.Proofs.Ytihmkdjambdfjaa.XLeaf Go.Proofs.Ytihmkdjambdfjaa.Lf Go.Proofs.Ytihmkdjambdfjaa.Byt
set_option linter.unusedVariables false
set_option linter.unusedSimpArgs false
theorem rd_in {cs : List Int} (h : ∀ c ∈ cs, 0 ≤ c ∧ c < 4294967296) (i : Nat) (hi : i < cs.length) : 0 ≤ rd cs (i : Int) ∧ rd cs (i : Int) < 4294967296 := by
  have e : rd cs (i : Int) = cs[i] := by
    rw [rd, List.getD_eq_getElem?_getD, Int.toNat_natCast, List.getElem?_eq_getElem hi]
    rfl
  rw [e]
  exact h _ (List.getElem_mem _)
theorem rInnerL (cs : List Int) (l : List S27) (hcs : ∀ c ∈ cs, 0 ≤ c ∧ c < 4294967296) (hlen : cs.length = l.length + 1) (hx : ∀ x ∈ l, okE x) (hm : mayE l (8 + szE l + 4 * ((l.length : Int) + 1)) = 0) : ∀ (m i : Nat), i + m = l.length → Ev (fun k => rowlockref10_Inner.l0 k cs l (strOfNums (wrI cs l i)) (l.length : Int) (i : Int)) (strOfNums (pgF 3 l.length 0 (wrI cs l l.length)), 0)
  | 0, i, h => by
    have h1 := wrI_len cs l l.length (Nat.le_refl _)
    rw [List.take_length] at h1
    have h2 := (mayE_0 hm).2.2
    have h3 := szE_len l
    obtain rfl : i = l.length := by omega
    refine Ev.step (f := fun k => (rowlockref10_page.f k 3 (l.length : Int) 0 (strOfNums (wrI cs l l.length))).bind fun t => some (t, 0)) (fun k => by
      rw [rowlockref10_Inner.l0, if_neg (by omega), u16_eq, show (l.length : Int) % 65536 = l.length by omega]) ?_
    exact bind_ev (ePage 3 _ 0 _ ⟨by omega, by omega⟩ (by omega) (by omega)) (Ev.now _)
  | m + 1, i, h => by
    have ih := rInnerL cs l hcs hlen hx hm m (i + 1) (by omega)
    have h1 := wrI_len cs l i (by omega)
    have h2 := szE_take l i
    have h3 := (mayE_0 hm).2.2
    have h4 := szE_len l
    have hc := rd_in hcs (i + 1) (by omega)
    rw [wrI_step, str_append, str_append] at ih
    have hxi : okE (rd_T27 l (i : Int)) := by rw [rd_at l i (by omega)]; exact hx _ (List.getElem_mem _)
    refine Ev.step (fun k => by rw [rowlockref10_Inner.l0, if_pos (by omega), if_pos (by omega), if_pos (by omega), wrs i l.length (by omega) (by omega)]) (bind_ev (eEntry _ hxi) ?_)
    refine Ev.congr (fun k => by rw [if_pos (by rw [str_size, str_size, wrE_len]; have := hxi.1; omega), if_pos (by omega), if_pos (by omega), u64_in (rd cs ((i + 1 : Nat) : Int)) (by omega)]) ?_
    refine bind_ev (num4 (rd cs ((i + 1 : Nat) : Int)) ⟨by omega, by omega⟩) (Ev.congr (fun k => if_pos ?_) ?_)
    · rw [str_size, ByteArray.size_append, str_size, str_size, wrE_len, be4_len]
      have := hxi.1
      omega
    · exact ih
theorem eInner (cs : List Int) (l : List S27) (hcs : ∀ c ∈ cs, 0 ≤ c ∧ c < 4294967296) (hg : goodE l) : Ev (fun k => rowlockref10_Inner.f k cs l) (strOfNums (putI cs l).1, (putI cs l).2) := by
  have hno : ∀ x : Bool, x = true → Ev (fun k => rowlockref10_Inner.j0 k cs l x) (strOfNums [], 1) := fun x hx => Ev.step (f := fun _ => some (strOfNums [], 1)) (fun k => by rw [rowlockref10_Inner.j0, if_pos hx]; rfl) (Ev.now _)
  by_cases h0 : l.length = 0
  · rw [putI, if_pos (.inl h0)]
    exact Ev.congr (fun k => by rw [rowlockref10_Inner.f, if_pos (by omega)]) (hno _ rfl)
  · have hw : wrap64 ((l.length : Int) + 1) = ((l.length + 1 : Nat) : Int) := by rw [wrn _ (by have := hg.1; omega)]; omega
    refine Ev.congr (g := fun k => rowlockref10_Inner.f k cs l) (f := fun k => rowlockref10_Inner.j0 k cs l ((cs.length : Int) != ((l.length + 1 : Nat) : Int))) (fun k => by rw [rowlockref10_Inner.f, if_neg (by omega), hw]) ?_
    by_cases h1 : cs.length = l.length + 1
    · have hb : ((cs.length : Int) != ((l.length + 1 : Nat) : Int)) = false := by simp [h1]
      rw [hb]
      refine Ev.step (fun k => by rw [rowlockref10_Inner.j0, if_neg (by decide)]) (bind_ev (rSize12 l hg) (bind_ev (rMay l _ (by have := hg.1; omega)) ?_))
      by_cases hm : mayE l (8 + szE l + 4 * ((l.length : Int) + 1)) = 0
      · rw [putI, if_neg (by omega), if_pos hm]
        have hc : 0 ≤ rd cs 0 ∧ rd cs 0 < 4294967296 := rd_in hcs 0 (by omega)
        refine Ev.congr (fun k => by rw [if_pos hm, if_pos (by omega), u64_in (rd cs 0) (by omega)]) (bind_ev (num4 (rd cs 0) ⟨by omega, by omega⟩) ?_)
        have h := rInnerL cs l hcs h1 (may_len hm (fun x hx => (hg.2 x hx).2)) hm l.length 0 (by omega)
        have e0 : wrI cs l 0 = Tk.be4 (rd cs ((0 : Nat) : Int)) := by simp [wrI]
        rw [e0] at h
        exact h
      · rw [putI, if_neg (by omega), if_neg hm]
        exact Ev.congr (fun k => if_neg hm) (Ev.now _)
    · rw [putI, if_pos (.inr h1)]
      exact hno _ (by simp; omega)
/-! ### the same children -/
theorem eSm (l : List Int) (hl : l.length ≤ 9223372036854775806) : Ev (fun k => rowlocklaw10_same.f k l l) true := by
  have key : ∀ (m i : Nat), i + m = l.length → Ev (fun k => rowlocklaw10_same.l0 k l l (l.length : Int) (i : Int)) true := by
    intro m
    induction m with
    | zero => exact fun i h => Ev.step (f := fun _ => some true) (fun k => by rw [rowlocklaw10_same.l0, if_neg (by omega)]) (Ev.now _)
    | succ m ih =>
      intro i h
      refine Ev.step (fun k => ?_) (ih (i + 1) (by omega))
      rw [rowlocklaw10_same.l0, if_pos (by omega), if_pos (by omega), if_pos (by omega), if_pos (by omega), if_pos rfl, wrs i l.length (by omega) (by omega)]
  exact Ev.congr (fun k => by rw [rowlocklaw10_same.f, if_pos rfl]; rfl) (key l.length 0 (by omega))
end Go.Proofs.Ytihmkdjambdfjaa.PureL
namespace Go.Proofs.Ytihmkdjambdfjaa.PureL
open Go.RowKit Go.Proofs.YtihmkdjambdfjaaW.PrintWords Go.Proofs.YtihmkdjambdfjaaW.PrintLast Go.Proofs.YtihmkdjambdfjaaW.PrintMore Go.Proofs.Ytihmkdjambdfjaa.XLeaf Go.Proofs.Ytihmkdjambdfjaa.Lf
set_option linter.unusedVariables false
set_option linter.unusedSimpArgs false
set_option maxRecDepth 100000
theorem geti_is2 {b : List Int} {cs : List Int} {l : List S27} {e : Int} (h : getI b = (cs, l, e)) (w : World) (A : Option Addr) (c : Nat) (hC : Kd.C (Kd.int .u8) w A b.length b) (hc : b.length ≤ c) (hb : Tk.By b) :
    Calls Try.prog 21 #[.slice A b.length c] w fun en w' => ∃ v1 v2, en = .returned (.tuple #[v1, v2, .int .i64 e]) ∧ Kd.R (Kd.int .u32) 22 w' w.heap.size (fun _ => True) v1 cs ∧ Kd.R k27 27 w' w.heap.size (fun _ => True) v2 l ∧ Below w.heap.size w w' := by
  have := getInner_ok w A c b hC hc hb
  rw [h] at this
  exact this
theorem getl_is {b : List Int} {n : Int} {l : List S27} {e : Int} (h : getL b = (n, l, e)) (w : World) (A : Option Addr) (c : Nat) (hC : Kd.C (Kd.int .u8) w A b.length b) (hc : b.length ≤ c) (hb : Tk.By b) :
    Calls Try.prog 20 #[.slice A b.length c] w fun en w' => ∃ v, en = .returned (.tuple #[.int .u32 n, v, .int .i64 e]) ∧ Below w.heap.size w w' := by
  refine (get_is h w A c hC hc hb).mono ?_
  rintro en w' ⟨v, rfl, _, hb⟩
  exact ⟨v, rfl, hb⟩
theorem isize_is {l : List S27} {n : Int} (h : 8 + szE l + 4 * ((l.length : Int) + 1) = n) (A : Option Addr) (c : Nat) (w : World) (hC : Kd.C k27 w A l.length l) (hc : l.length ≤ c) (hg : goodE l) : Calls Try.prog 25 #[.slice A l.length c] w fun e w' => e = .returned (.int .i64 n) ∧ Below w.heap.size w w' := by
  subst h
  exact isize_ok A c l w hC hc hg
theorem cut_in {n : Nat} {cs ds : List Int} (hds : (([] ++ cs) ++ List.replicate ((n : Int) + 1).toNat (0 : Int)).take ((n : Int) + 1).toNat = ds) {w1 : World} {base : Nat} {ok : Nat → Prop} {v : Value} (h : Kd.R (Kd.int .u32) 22 w1 base ok v (([] ++ cs) ++ List.replicate ((n : Int) + 1).toNat (0 : Int))) :
    ∃ B d N, v = .slice B N d ∧ (∀ W, (Instr.slice 46 (.slice B N d) none (some (.int .i64 ((n : Int) + 1))) none).run Try.prog W = .ok (.slice B ds.length d) W) ∧ ds.length ≤ d ∧ Kd.C (Kd.int .u32) w1 B ds.length ds := by
  subst hds
  obtain ⟨A, c, rfl⟩ := Kd.R_slice h
  obtain ⟨_, h2, h3⟩ := Kd.R_reads' h
  obtain ⟨i0, hi0, _, hsz, _⟩ := info_parts info22
  have p := print_take_of (P := Try.prog) (Value.int .u32) 0 46 22 .i64 Try.underlying46 hi0 hsz A c (([] ++ cs) ++ List.replicate ((n : Int) + 1).toNat (0 : Int)) ((n : Int) + 1) (by omega) (by simp; omega) h2
  exact ⟨A, c, _, rfl, p.1, p.2.2, Kd.C_of_reads (h1 := fun _ => rfl) (p.2.1 w1 (Kd.reads_of_C h3))⟩
end Go.Proofs.Ytihmkdjambdfjaa.PureL
namespace Go.Proofs.Ytihmkdjambdfjaa.PureL
open Go.RowKit Go.Proofs.YtihmkdjambdfjaaW.PrintWords Go.Proofs.Ytihmkdjambdfjaa.XLeaf Go.Proofs.Ytihmkdjambdfjaa.Lf Go.Proofs.Ytihmkdjambdfjaa.Tk
set_option linter.unusedVariables false
set_option linter.unusedSimpArgs false
theorem len2 {l : List Int} (h : l.length = 2) : ∃ a b, l = [a, b] := by
  match l, h with
  | [a, b], _ => exact ⟨a, b, rfl⟩
theorem len4 {l : List Int} (h : l.length = 4) : ∃ a b c d, l = [a, b, c, d] := by
  match l, h with
  | [a, b, c, d], _ => exact ⟨a, b, c, d, rfl⟩
theorem be2_nv {l : List Int} (hy : By l) (h : l.length = 2) : Tk.be2 (nv l) = l := by
  obtain ⟨a, b, rfl⟩ := len2 h
  have ha := hy a (by simp)
  have hb := hy b (by simp)
  simp only [nv, Tk.be2, List.foldl_cons, List.foldl_nil]
  congr 1
  · omega
  · congr 1
    omega
theorem be4_nv {l : List Int} (hy : By l) (h : l.length = 4) : Tk.be4 (nv l) = l := by
  obtain ⟨a, b, c, d, rfl⟩ := len4 h
  have ha := hy a (by simp)
  have hb := hy b (by simp)
  have hc := hy c (by simp)
  have hd := hy d (by simp)
  simp only [nv, Tk.be4, List.foldl_cons, List.foldl_nil]
  congr 1
  · omega
  · congr 1
    · omega
    · congr 1
      · omega
      · congr 1
        omega
theorem tk_split {xs : List Int} {s : Bool} {n : Int} (h : (tk xs s n).2.2 = false) : xs = (tk xs s n).1 ++ (tk xs s n).2.1 := by
  obtain ⟨_, _, e⟩ := tk_false h
  rw [e]
  simp
theorem bytes_str' {l : List Int} (h : Tk.By l) : bytesOf (strOfNums l) = l := Byt.str_inj (fun x hx => Lf.bytesOf_by _ x hx) h (str_bytes _)
/-- What was there is written so. -/
theorem ent_inv {xs : List Int} (hy : By xs) (h : (ent xs false).2.2 = false) : xs = wrE (mkE (ent xs false)).f0 (mkE (ent xs false)).f1.f0 (mkE (ent xs false)).f1.f1 ++ (ent xs false).2.1 ∧ okE (mkE (ent xs false)) ∧ (mkE (ent xs false)).f0.size = (ent xs false).1.1.length := by
  simp only [ent, mkE] at h ⊢
  obtain ⟨s3, d2, d3⟩ := tk_false h
  obtain ⟨s2, c2, c3⟩ := tk_false s3
  obtain ⟨s1, b2, b3⟩ := tk_false s2
  obtain ⟨s0, a2, a3⟩ := tk_false s1
  have hA := tk_split s1
  have hB := tk_split s2
  have hC := tk_split s3
  have hD := tk_split h
  have yA1 := By.tk1 hy false 2
  have yA := By.tk2 hy false 2
  have lA := tk_len xs false 2 (by omega)
  have nA := nv_bd yA1
  generalize tk xs false 2 = A at *
  have lB := tk_len A.2.1 A.2.2 (nv A.1) nA.1
  have yB1 := By.tk1 yA A.2.2 (nv A.1)
  have yB := By.tk2 yA A.2.2 (nv A.1)
  generalize tk A.2.1 A.2.2 (nv A.1) = B at *
  have lC := tk_len B.2.1 B.2.2 4 (by omega)
  have yC1 := By.tk1 yB B.2.2 4
  have yC := By.tk2 yB B.2.2 4
  generalize tk B.2.1 B.2.2 4 = C at *
  have lD := tk_len C.2.1 C.2.2 2 (by omega)
  have yD1 := By.tk1 yC C.2.2 2
  generalize tk C.2.1 C.2.2 2 = D at *
  have e2 : (2 : Int).toNat = 2 := rfl
  have e4 : (4 : Int).toNat = 4 := rfl
  rw [e2] at lA lD
  rw [e4] at lC
  have nC := nv_bd yC1
  have nD := nv_bd yD1
  rw [lC] at nC
  rw [lD] at nD
  rw [lA] at nA
  have es : ((strOfNums B.1).size : Int) = nv A.1 := by rw [Byt.str_size, lB]; omega
  refine ⟨?_, ⟨by rw [Byt.str_size, lB]; omega, nC.1, by show nv C.1 < _; omega, nD.1, by show nv D.1 < _; omega⟩, Byt.str_size _⟩
  rw [wrE, es, be2_nv yA1 lA, be4_nv yC1 lC, be2_nv yD1 lD, bytes_str' yB1]
  conv => lhs; rw [hA, hB, hC, hD]
  simp
/-- Entries that are read, so many, none of which has too long a key, and what is left. -/
def pR : Nat → List S27 → List Int → Option (List S27 × List Int)
  | 0, rows, xs => some (rows, xs)
  | n + 1, rows, xs => if (ent xs false).2.2 = true ∨ 200 < (ent xs false).1.1.length then none else pR n (rows ++ [mkE (ent xs false)]) (ent xs false).2.1
theorem pR_inv : ∀ (n : Nat) (rows : List S27) (xs : List Int) (r : List S27) (rest : List Int), By xs → pR n rows xs = some (r, rest) → ∃ l, r = rows ++ l ∧ l.length = n ∧ xs = wrL l ++ rest ∧ (∀ x ∈ l, okE x ∧ x.f0.size ≤ 200)
  | 0, rows, xs, r, rest, hy, h => by
    simp only [pR, Option.some.injEq, Prod.mk.injEq] at h
    exact ⟨[], by simp [h.1], rfl, by simp [wrL, h.2], fun x hx => by cases hx⟩
  | n + 1, rows, xs, r, rest, hy, h => by
    rw [pR] at h
    split at h
    · cases h
    · rename_i hc
      have hs : (ent xs false).2.2 = false := by
        cases hb : (ent xs false).2.2
        · rfl
        · exact absurd (.inl hb) hc
      have hk : ¬ 200 < (ent xs false).1.1.length := fun h => hc (.inr h)
      obtain ⟨e1, e2, e3⟩ := ent_inv hy hs
      obtain ⟨l, h1, h2, h3, h4⟩ := pR_inv n _ _ _ _ (ent_rng hy false).1 h
      refine ⟨mkE (ent xs false) :: l, by rw [h1]; simp, by rw [List.length_cons, h2], ?_, fun x hx => ?_⟩
      · conv => lhs; rw [e1, h3]
        simp [wrL]
      · rcases List.mem_cons.1 hx with rfl | hx
        · exact ⟨e2, by omega⟩
        · exact h4 x hx
theorem pR_wr : ∀ (l rows : List S27) (rest : List Int), (∀ x ∈ l, okE x ∧ x.f0.size ≤ 200) → pR l.length rows (wrL l ++ rest) = some (rows ++ l, rest)
  | [], rows, rest, h => by simp [pR, wrL]
  | x :: l, rows, rest, h => by
    have e : wrL (x :: l) ++ rest = wrE x.f0 x.f1.f0 x.f1.f1 ++ (wrL l ++ rest) := by simp [wrL]
    have hx := h x (List.mem_cons_self ..)
    rw [e, List.length_cons, pR, ent_wr x hx.1, if_neg (by rw [bytesOf_length]; rintro (h | h); cases h; have := hx.2; omega), mk_wr, pR_wr l _ rest (fun y hy => h y (List.mem_cons_of_mem _ hy))]
    simp
theorem By.drop' {xs : List Int} (h : By xs) (n : Nat) : By (xs.drop n) := fun x hx => h x (List.mem_of_mem_drop hx)
/-- All are zeros. -/
def zs (l : List Int) : Bool := l.all fun x => decide (x = 0)
theorem zs_eq : ∀ {l : List Int}, zs l = true → l = List.replicate l.length 0
  | [], h => rfl
  | x :: l, h => by
    rw [zs, List.all_cons, Bool.and_eq_true] at h
    have h1 : x = 0 := by simpa using h.1
    rw [List.length_cons, List.replicate_succ, ← zs_eq h.2, h1]
theorem zs_rep (n : Nat) : zs (List.replicate n 0) = true := by
  simp [zs]
/-- What a page's head is made of. -/
theorem dg_inv {b : List Int} (hy : By b) {k c n : Int} (h : dg b = (k, c, n, true)) : b.length = 512 ∧ b = Tk.hd k c n ++ b.drop 8 ∧ 0 ≤ k ∧ k ≤ 255 ∧ 0 ≤ c ∧ c < 65536 ∧ 0 ≤ n ∧ n < 4294967296 := by
  rw [dg] at h
  split at h
  · rename_i hc
    obtain ⟨h1, h2⟩ := hc
    simp only [Prod.mk.injEq, and_true] at h
    obtain ⟨k0, k1, k2⟩ := h
    match b, h1 with
    | b0 :: b1 :: b2 :: b3 :: b4 :: b5 :: b6 :: b7 :: t, h1 =>
      have r0 : rd (b0 :: b1 :: b2 :: b3 :: b4 :: b5 :: b6 :: b7 :: t) 0 = b0 := rfl
      have r1 : rd (b0 :: b1 :: b2 :: b3 :: b4 :: b5 :: b6 :: b7 :: t) 1 = b1 := rfl
      have r2 : rd (b0 :: b1 :: b2 :: b3 :: b4 :: b5 :: b6 :: b7 :: t) 2 = b2 := rfl
      have r3 : rd (b0 :: b1 :: b2 :: b3 :: b4 :: b5 :: b6 :: b7 :: t) 3 = b3 := rfl
      have r4 : ((b0 :: b1 :: b2 :: b3 :: b4 :: b5 :: b6 :: b7 :: t).take 8).drop 4 = [b4, b5, b6, b7] := rfl
      rw [r0] at k0
      rw [r1] at h2
      rw [r2, r3] at k1
      rw [r4] at k2
      have y0 := hy b0 (by simp)
      have y2 := hy b2 (by simp)
      have y3 := hy b3 (by simp)
      have y4 := hy b4 (by simp)
      have y5 := hy b5 (by simp)
      have y6 := hy b6 (by simp)
      have y7 := hy b7 (by simp)
      have hn := be4_nv (l := [b4, b5, b6, b7]) (fun x hx => by
        simp only [List.mem_cons, List.not_mem_nil, or_false] at hx
        rcases hx with rfl | rfl | rfl | rfl <;> assumption) rfl
      rw [k2] at hn
      have hb := nv_bd (bs := [b4, b5, b6, b7]) (fun x hx => by
        simp only [List.mem_cons, List.not_mem_nil, or_false] at hx
        rcases hx with rfl | rfl | rfl | rfl <;> assumption)
      rw [k2] at hb
      have e4 : ([b4, b5, b6, b7] : List Int).length = 4 := rfl
      rw [e4] at hb
      have hb2 : n < 4294967296 := by have := hb.2; clear h1; omega
      have q : 0 ≤ k ∧ k ≤ 255 ∧ 0 ≤ c ∧ c < 65536 := by
        clear h1 r0 r1 r2 r3 r4 hn hb hy k2
        omega
      refine ⟨h1, ?_, q.1, q.2.1, q.2.2.1, q.2.2.2, hb.1, hb2⟩
      have e : Tk.hd k c n = [k, 0, c / 256 % 256, c % 256] ++ Tk.be4 n := rfl
      rw [e, hn, h2, ← k0]
      show _ = [b0, 0, c / 256 % 256, c % 256, b4, b5, b6, b7] ++ t
      have e1 : c / 256 % 256 = b2 := by omega
      have e2 : c % 256 = b3 := by omega
      rw [e1, e2]
      rfl
  · cases h
/-- A leaf's page: where it leads, its entries. -/
def pgL (b : List Int) : Option (Int × List S27) :=
  if (dg b).2.2.2 = true ∧ (dg b).1 = 2 then
    match pR (dg b).2.1.toNat [] (b.drop 8) with
    | none => none
    | some p => if zs p.2 = true ∧ riseB p.1 = true then some ((dg b).2.2.1, p.1) else none
  else none
theorem hd_drop (k c n : Int) (l : List Int) : (Tk.hd k c n ++ l).drop 8 = l := rfl
theorem long_of {l : List S27} (h : ∀ x ∈ l, okE x ∧ x.f0.size ≤ 200) : longB l = false := by
  rw [longB, List.any_eq_false]
  intro x hx
  have := (h x hx).2
  simp
  omega
theorem of_long {l : List S27} (h : longB l = false) : ∀ x ∈ l, x.f0.size ≤ 200 := fun x hx => by
  rw [longB, List.any_eq_false] at h
  have := h x hx
  simp at this
  omega
theorem may_of {l : List S27} {n : Int} (h1 : riseB l = true) (h2 : longB l = false) (h3 : n ≤ 512) : mayE l n = 0 := by
  rw [mayE, h1, h2, if_neg (by simp), if_neg (by omega)]
theorem pgL_some {b : List Int} (hy : By b) {n : Int} {l : List S27} (h : pgL b = some (n, l)) : getL b = (n, l, 0) ∧ putL n l = (b, 0) ∧ (dg b).1 = 2 := by
  rw [pgL] at h
  split at h
  · rename_i hc
    obtain ⟨k, c, nx, o, hd⟩ : ∃ k0 c0 n0 o, dg b = (k0, c0, n0, o) := ⟨_, _, _, _, rfl⟩
    rw [hd] at hc h ⊢
    obtain ⟨rfl, rfl⟩ : o = true ∧ k = 2 := hc
    simp only at h
    obtain ⟨i1, i2, i3, i4, i5, i6, i7, i8⟩ := dg_inv hy hd
    split at h
    · cases h
    · rename_i p hp
      split at h
      · rename_i hz
        obtain ⟨rows, rest⟩ := p
        simp only [Option.some.injEq, Prod.mk.injEq] at h
        obtain ⟨rfl, rfl⟩ := h
        obtain ⟨l, h1, h2, h3, h4⟩ := pR_inv _ _ _ _ _ (By.drop' hy 8) hp
        simp only at hz
        simp only [List.nil_append] at h1
        subst h1
        have hz2 := zs_eq hz.1
        have hlen : (b.drop 8).length = 504 := by rw [List.length_drop]; omega
        have hlen2 := congrArg List.length h3
        rw [List.length_append, hlen] at hlen2
        have hsz := wrL_len rows
        have hm : mayE rows (8 + szE rows) = 0 := may_of hz.2 (long_of h4) (by omega)
        have hc' : ((rows.length : Nat) : Int) = c := by rw [h2]; omega
        have hp2 : putL nx rows = (b, 0) := by
          rw [putL, if_pos hm, hc', pgF]
          congr 1
          have e : List.replicate (504 - (wrL rows).length) (0 : Int) = rest := by rw [hz2]; congr 1; omega
          rw [e, List.append_assoc, ← h3]
          exact i2.symm
        have hg := get_putL nx rows ⟨i7, i8⟩ (fun x hx => (h4 x hx).1.2) (by rw [hp2])
        rw [hp2] at hg
        exact ⟨hg, hp2, rfl⟩
      · cases h
  · cases h
theorem fin_cases (nx : Int) (b : List Int) (o : Option (List S27)) : fin nx b o = (0, [], 2) ∨ ∃ l, o = some l ∧ fin nx b o = (nx, l, 0) ∧ putL nx l = (b, 0) := by
  cases o with
  | none => exact .inl rfl
  | some l =>
    rw [fin]
    split
    · rename_i h
      exact .inr ⟨l, rfl, rfl, Prod.ext h.2 h.1⟩
    · exact .inl rfl
theorem gl_rng : ∀ (n : Nat) (rows : List S27) (xs : List Int) (l : List S27), By xs → (∀ x ∈ rows, 0 ≤ x.f1.f0 ∧ x.f1.f0 < 4294967296 ∧ 0 ≤ x.f1.f1 ∧ x.f1.f1 < 65536) → gl n rows xs = some l → ∀ x ∈ l, 0 ≤ x.f1.f0 ∧ x.f1.f0 < 4294967296 ∧ 0 ≤ x.f1.f1 ∧ x.f1.f1 < 65536
  | 0, rows, xs, l, hy, hr, h => by
    rw [gl] at h
    injection h with h
    subst h
    exact hr
  | n + 1, rows, xs, l, hy, hr, h => by
    rw [gl] at h
    split at h
    · cases h
    · refine gl_rng n _ _ l (ent_rng hy false).1 (fun x hx => ?_) h
      rcases List.mem_append.1 hx with hx | hx
      · exact hr x hx
      · rw [List.mem_singleton.1 hx]
        exact (ent_rng hy false).2
theorem pgL_none {b : List Int} (hy : By b) (h : pgL b = none) : getL b = (0, [], 2) := by
  rw [getL]
  split
  · rename_i hc
    rcases fin_cases (dg b).2.2.1 b (gl (dg b).2.1.toNat [] (b.drop 8)) with h0 | ⟨l, h1, h2, h3⟩
    · exact h0
    · exfalso
      obtain ⟨k, c, nx, o, hd⟩ : ∃ k0 c0 n0 o, dg b = (k0, c0, n0, o) := ⟨_, _, _, _, rfl⟩
      have hr := gl_rng _ _ _ _ (By.drop' hy 8) (fun x hx => by cases hx) h1
      rw [hd] at hc h3
      obtain ⟨rfl, rfl⟩ : o = true ∧ k = 2 := hc
      simp only at h3
      obtain ⟨i1, i2, i3, i4, i5, i6, i7, i8⟩ := dg_inv hy hd
      by_cases hm : mayE l (8 + szE l) = 0
      · rw [putL, if_pos hm] at h3
        have h4 : pgF 2 l.length nx (wrL l) = b := congrArg Prod.fst h3
        obtain ⟨m1, m2, m3⟩ := mayE_0 hm
        have hok := may_len hm hr
        have hlg := of_long m2
        have hw := wrL_len l
        have hsz := szE_len l
        have hd2 := dg_pg 2 l.length nx (wrL l) (by omega) ⟨by omega, by omega⟩ ⟨i7, i8⟩
        rw [h4, hd] at hd2
        have hcl : c = (l.length : Int) := congrArg (fun p : Int × Int × Int × Bool => p.2.1) hd2
        have h8 : b.drop 8 = wrL l ++ List.replicate (504 - (wrL l).length) 0 := by rw [← h4, pgF, List.append_assoc]; rfl
        rw [pgL, hd, if_pos ⟨rfl, rfl⟩, h8] at h
        simp only at h
        rw [hcl, Int.toNat_natCast, pR_wr l [] _ (fun x hx => ⟨hok x hx, hlg x hx⟩)] at h
        simp only [List.nil_append] at h
        rw [if_pos ⟨zs_rep _, m1⟩] at h
        cases h
      · rw [putL, if_neg hm] at h3
        exact hm (congrArg Prod.snd h3)
  · rfl
/-! ### inner pages -/
/-- Entries and children that are read, so many, and what is left. -/
def pI : Nat → List Int → List S27 → List Int → Option (List Int × List S27 × List Int)
  | 0, cs, rows, xs => some (cs, rows, xs)
  | n + 1, cs, rows, xs => if (tk (ent xs false).2.1 (ent xs false).2.2 4).2.2 = true ∨ 200 < (ent xs false).1.1.length then none else pI n (cs ++ [nv (tk (ent xs false).2.1 (ent xs false).2.2 4).1]) (rows ++ [mkE (ent xs false)]) (tk (ent xs false).2.1 (ent xs false).2.2 4).2.1
theorem pI_inv : ∀ (n : Nat) (cs : List Int) (rows : List S27) (xs : List Int) (q : List Int) (r : List S27) (rest : List Int), By xs → pI n cs rows xs = some (q, r, rest) → ∃ ds l, q = cs ++ ds ∧ r = rows ++ l ∧ l.length = n ∧ ds.length = n ∧ xs = wrP ds l ++ rest ∧ (∀ x ∈ l, okE x ∧ x.f0.size ≤ 200) ∧ (∀ c ∈ ds, 0 ≤ c ∧ c < 4294967296)
  | 0, cs, rows, xs, q, r, rest, hy, h => by
    simp only [pI, Option.some.injEq, Prod.mk.injEq] at h
    exact ⟨[], [], by simp [h.1], by simp [h.2.1], rfl, rfl, by simp [wrP, h.2.2], fun x hx => (by cases hx), fun x hx => (by cases hx)⟩
  | n + 1, cs, rows, xs, q, r, rest, hy, h => by
    rw [pI] at h
    split at h
    · cases h
    · rename_i hc
      have hs : (tk (ent xs false).2.1 (ent xs false).2.2 4).2.2 = false := by
        cases hb : (tk (ent xs false).2.1 (ent xs false).2.2 4).2.2
        · rfl
        · exact absurd (.inl hb) hc
      have hk : ¬ 200 < (ent xs false).1.1.length := fun h => hc (.inr h)
      obtain ⟨hs1, hs2, hs3⟩ := tk_false hs
      obtain ⟨e1, e2, e3⟩ := ent_inv hy hs1
      have yE := (ent_rng hy false).1
      have hT := tk_split hs
      have y4 := By.tk1 yE (ent xs false).2.2 4
      have l4 := tk_len (ent xs false).2.1 (ent xs false).2.2 4 (by omega)
      have e4 : (4 : Int).toNat = 4 := rfl
      rw [e4] at l4
      have n4 := nv_bd y4
      rw [l4] at n4
      obtain ⟨ds, l, h1, h2, h3, h4, h5, h6, h7⟩ := pI_inv n _ _ _ _ _ _ (By.tk2 yE _ _) h
      refine ⟨nv (tk (ent xs false).2.1 (ent xs false).2.2 4).1 :: ds, mkE (ent xs false) :: l, by rw [h1]; simp, by rw [h2]; simp, by rw [List.length_cons, h3], by rw [List.length_cons, h4], ?_, fun x hx => ?_, fun x hx => ?_⟩
      · conv => lhs; rw [e1, hT, h5]
        rw [wrP, be4_nv y4 l4]
        simp
      · rcases List.mem_cons.1 hx with rfl | hx
        · exact ⟨e2, by omega⟩
        · exact h6 x hx
      · rcases List.mem_cons.1 hx with rfl | hx
        · exact ⟨n4.1, n4.2⟩
        · exact h7 x hx
theorem pI_wr : ∀ (l : List S27) (ds cs : List Int) (rows : List S27) (rest : List Int), ds.length = l.length → (∀ x ∈ l, okE x ∧ x.f0.size ≤ 200) → (∀ c ∈ ds, 0 ≤ c ∧ c < 4294967296) → pI l.length cs rows (wrP ds l ++ rest) = some (cs ++ ds, rows ++ l, rest)
  | [], ds, cs, rows, rest, hl, h, hc => by cases ds with | nil => simp [pI, wrP] | cons c ds => cases hl
  | x :: l, [], cs, rows, rest, hl, h, hc => by cases hl
  | x :: l, c :: ds, cs, rows, rest, hl, h, hc => by
    have e : wrP (c :: ds) (x :: l) ++ rest = wrE x.f0 x.f1.f0 x.f1.f1 ++ (Tk.be4 c ++ (wrP ds l ++ rest)) := by simp [wrP]
    have hx := h x (List.mem_cons_self ..)
    rw [e, List.length_cons, pI, ent_wr x hx.1]
    simp only
    rw [tk_app _ _ _ 4 rfl, if_neg (by rw [bytesOf_length]; rintro (h | h); cases h; have := hx.2; omega), mk_wr, nv4 c (hc c (List.mem_cons_self ..)), pI_wr l ds _ _ rest (by simpa using hl) (fun y hy => h y (List.mem_cons_of_mem _ hy)) (fun y hy => hc y (List.mem_cons_of_mem _ hy))]
    simp
/-- An inner page: its children, its separators. -/
def pgI (b : List Int) : Option (List Int × List S27) :=
  if (dg b).2.2.2 = true ∧ (dg b).1 = 3 ∧ (dg b).2.2.1 = 0 ∧ (dg b).2.1 ≠ 0 then
    match pI (dg b).2.1.toNat [nv ((b.drop 8).take 4)] [] ((b.drop 8).drop 4) with
    | none => none
    | some p => if zs p.2.2 = true ∧ riseB p.2.1 = true then some (p.1, p.2.1) else none
  else none
theorem pgI_some {b : List Int} (hy : By b) {cs : List Int} {l : List S27} (h : pgI b = some (cs, l)) : getI b = (cs, l, 0) ∧ putI cs l = (b, 0) ∧ (dg b).1 = 3 := by
  rw [pgI] at h
  split at h
  · rename_i hc
    obtain ⟨k, c, nx, o, hd⟩ : ∃ k0 c0 n0 o, dg b = (k0, c0, n0, o) := ⟨_, _, _, _, rfl⟩
    rw [hd] at hc h ⊢
    obtain ⟨rfl, rfl, rfl, hc0⟩ : o = true ∧ k = 3 ∧ nx = 0 ∧ c ≠ 0 := hc
    simp only at h
    obtain ⟨i1, i2, i3, i4, i5, i6, i7, i8⟩ := dg_inv hy hd
    split at h
    · cases h
    · rename_i p hp
      split at h
      · rename_i hz
        obtain ⟨qs, rows, rest⟩ := p
        simp only [Option.some.injEq, Prod.mk.injEq] at h
        obtain ⟨rfl, rfl⟩ := h
        have y8 := By.drop' hy 8
        have yt : By ((b.drop 8).take 4) := fun x hx => y8 x (List.mem_of_mem_take hx)
        have hlen : (b.drop 8).length = 504 := by rw [List.length_drop]; omega
        have lt : ((b.drop 8).take 4).length = 4 := by rw [List.length_take]; omega
        have nt := nv_bd yt
        rw [lt] at nt
        obtain ⟨ds, l, h1, h2, h3, h4, h5, h6, h7⟩ := pI_inv _ _ _ _ _ _ _ (By.drop' y8 4) hp
        simp only at hz
        simp only [List.nil_append] at h2
        subst h2
        have hz2 := zs_eq hz.1
        have h8 : b.drop 8 = Tk.be4 (nv ((b.drop 8).take 4)) ++ (wrP ds rows ++ rest) := by
          rw [be4_nv yt lt, ← h5, List.take_append_drop]
        have hlr : ds.length = rows.length := by omega
        have hwI := wrI_eq (nv ((b.drop 8).take 4)) ds rows hlr
        have hcs : ∀ x ∈ qs, 0 ≤ x ∧ x < 4294967296 := fun x hx => by
          rw [h1] at hx
          rcases List.mem_append.1 hx with hx | hx
          · rw [List.mem_singleton.1 hx]; exact ⟨nt.1, nt.2⟩
          · exact h7 x hx
        have hq : qs = nv ((b.drop 8).take 4) :: ds := by rw [h1]; rfl
        rw [← hq] at hwI
        have hwl := wrI_len qs rows rows.length (Nat.le_refl _)
        rw [List.take_length] at hwl
        have hwI2 : (b.drop 8) = wrI qs rows rows.length ++ rest := by rw [hwI, List.append_assoc]; exact h8
        have hlen2 := congrArg List.length hwI2
        rw [List.length_append, hlen] at hlen2
        have hm : mayE rows (8 + szE rows + 4 * ((rows.length : Int) + 1)) = 0 := may_of hz.2 (long_of h6) (by omega)
        have hc' : ((rows.length : Nat) : Int) = c := by rw [h3]; omega
        have hp2 : putI qs rows = (b, 0) := by
          rw [putI, if_neg (by rintro (h | h); omega; exact h (by rw [hq, List.length_cons]; omega)), if_pos hm, hc', pgF]
          congr 1
          have e : List.replicate (504 - (wrI qs rows rows.length).length) (0 : Int) = rest := by rw [hz2]; congr 1; omega
          rw [e, List.append_assoc, ← hwI2]
          exact i2.symm
        have hg := get_putI qs rows hcs (fun x hx => (h6 x hx).1.2) (by rw [hp2])
        rw [hp2] at hg
        exact ⟨hg, hp2, rfl⟩
      · cases h
  · cases h
theorem fini_cases (b : List Int) (o : Option (List Int × List S27)) : fini b o = ([], [], 2) ∨ ∃ cs l, o = some (cs, l) ∧ fini b o = (cs, l, 0) ∧ putI cs l = (b, 0) := by
  cases o with
  | none => exact .inl rfl
  | some p =>
    rw [fini]
    split
    · rename_i h
      exact .inr ⟨p.1, p.2, rfl, rfl, Prod.ext h.2 h.1⟩
    · exact .inl rfl
theorem gi_rng : ∀ (n : Nat) (cs : List Int) (rows : List S27) (xs : List Int) (qs : List Int) (l : List S27), By xs → (∀ x ∈ rows, 0 ≤ x.f1.f0 ∧ x.f1.f0 < 4294967296 ∧ 0 ≤ x.f1.f1 ∧ x.f1.f1 < 65536) → (∀ c ∈ cs, 0 ≤ c ∧ c < 4294967296) → gi n cs rows xs = some (qs, l) → (∀ x ∈ l, 0 ≤ x.f1.f0 ∧ x.f1.f0 < 4294967296 ∧ 0 ≤ x.f1.f1 ∧ x.f1.f1 < 65536) ∧ (∀ c ∈ qs, 0 ≤ c ∧ c < 4294967296)
  | 0, cs, rows, xs, qs, l, hy, hr, hc, h => by
    rw [gi] at h
    injection h with h
    simp only [Prod.mk.injEq] at h
    rw [← h.1, ← h.2]
    exact ⟨hr, hc⟩
  | n + 1, cs, rows, xs, qs, l, hy, hr, hc, h => by
    rw [gi] at h
    split at h
    · cases h
    · have yE := (ent_rng hy false).1
      have y4 := By.tk1 yE (ent xs false).2.2 4
      have l4 := tk_len (ent xs false).2.1 (ent xs false).2.2 4 (by omega)
      have e4 : (4 : Int).toNat = 4 := rfl
      rw [e4] at l4
      have n4 := nv_bd y4
      rw [l4] at n4
      refine gi_rng n _ _ _ qs l (By.tk2 yE _ _) (fun x hx => ?_) (fun x hx => ?_) h
      · rcases List.mem_append.1 hx with hx | hx
        · exact hr x hx
        · rw [List.mem_singleton.1 hx]
          exact (ent_rng hy false).2
      · rcases List.mem_append.1 hx with hx | hx
        · exact hc x hx
        · rw [List.mem_singleton.1 hx]
          exact ⟨n4.1, n4.2⟩
theorem pgI_none {b : List Int} (hy : By b) (h : pgI b = none) : getI b = ([], [], 2) := by
  rw [getI]
  split
  · rename_i hc
    rcases fini_cases b (gi (dg b).2.1.toNat [nv ((b.drop 8).take 4)] [] ((b.drop 8).drop 4)) with h0 | ⟨qs, l, h1, h2, h3⟩
    · exact h0
    · exfalso
      obtain ⟨k, c, nx, o, hd⟩ : ∃ k0 c0 n0 o, dg b = (k0, c0, n0, o) := ⟨_, _, _, _, rfl⟩
      have y8 := By.drop' hy 8
      have yt : By ((b.drop 8).take 4) := fun x hx => y8 x (List.mem_of_mem_take hx)
      rw [hd] at hc
      obtain ⟨rfl, rfl⟩ : o = true ∧ k = 3 := hc
      obtain ⟨i1, i2, i3, i4, i5, i6, i7, i8⟩ := dg_inv hy hd
      have hlen : (b.drop 8).length = 504 := by rw [List.length_drop]; omega
      have lt : ((b.drop 8).take 4).length = 4 := by rw [List.length_take]; omega
      have nt := nv_bd yt
      rw [lt] at nt
      obtain ⟨hr, hcs⟩ := gi_rng _ _ _ _ _ _ (By.drop' y8 4) (fun x hx => by cases hx) (fun x hx => by rw [List.mem_singleton.1 hx]; exact ⟨nt.1, nt.2⟩) h1
      obtain ⟨p0, p1, hm, p2⟩ := putI_0 (by rw [h3] : (putI qs l).2 = 0)
      have h4 : pgF 3 l.length 0 (wrI qs l l.length) = b := by rw [h3] at p2; exact (congrArg Prod.fst p2).symm
      obtain ⟨m1, m2, m3⟩ := mayE_0 hm
      have hok := may_len hm hr
      have hlg := of_long m2
      have hw := wrI_len qs l l.length (Nat.le_refl _)
      rw [List.take_length] at hw
      have hsz := szE_len l
      have hd2 := dg_pg 3 l.length 0 (wrI qs l l.length) (by omega) ⟨by omega, by omega⟩ ⟨by omega, by omega⟩
      rw [h4, hd] at hd2
      have hcl : c = (l.length : Int) := congrArg (fun p : Int × Int × Int × Bool => p.2.1) hd2
      have hnl : nx = 0 := congrArg (fun p : Int × Int × Int × Bool => p.2.2.1) hd2
      subst hnl
      have h8 : b.drop 8 = wrI qs l l.length ++ List.replicate (504 - (wrI qs l l.length).length) 0 := by rw [← h4, pgF, List.append_assoc]; rfl
      match qs, p1, hcs, h8 with
      | q :: ds, p1, hcs, h8 =>
        have hlr : ds.length = l.length := by simpa using p1
        have hzr := zs_rep (504 - (wrI (q :: ds) l l.length).length)
        generalize List.replicate (504 - (wrI (q :: ds) l l.length).length) (0 : Int) = zr at h8 hzr
        have hq := hcs q (List.mem_cons_self ..)
        rw [wrI_eq q ds l hlr, List.append_assoc] at h8
        have t4 : (b.drop 8).take 4 = Tk.be4 q := by rw [h8]; simp [Tk.be4]
        have d4 : (b.drop 8).drop 4 = wrP ds l ++ zr := by rw [h8]; simp [Tk.be4]
        rw [pgI, hd, if_pos ⟨rfl, rfl, rfl, by show c ≠ 0; omega⟩, t4, d4, nv4 q hq] at h
        simp only at h
        rw [hcl, Int.toNat_natCast, pI_wr l ds [q] [] _ hlr (fun x hx => ⟨hok x hx, hlg x hx⟩) (fun x hx => hcs x (List.mem_cons_of_mem _ hx))] at h
        simp only [List.nil_append, List.singleton_append] at h
        rw [if_pos ⟨hzr, m1⟩] at h
        cases h
  · rfl
end Go.Proofs.Ytihmkdjambdfjaa.PureL
namespace Go.Proofs.Ytihmkdjambdfjaa.PureL
open Go.RowKit Go.Proofs.YtihmkdjambdfjaaW.PrintWords Go.Proofs.Ytihmkdjambdfjaa.XLeaf Go.Proofs.Ytihmkdjambdfjaa.Lf Go.Proofs.Ytihmkdjambdfjaa.Tk
set_option linter.unusedVariables false
set_option linter.unusedSimpArgs false
theorem wr1 (i : Nat) (h : i ≤ 1000000) : wrap64 ((i : Int) + 1) = ((i + 1 : Nat) : Int) := by rw [wrn _ (by omega)]; omega
theorem wr2 (i : Nat) (h : i ≤ 1000000) : wrap64 ((i : Int) + 2) = ((i + 2 : Nat) : Int) := by rw [wrn _ (by omega)]; omega
theorem wr4 (i : Nat) (h : i ≤ 1000000) : wrap64 ((i : Int) + 4) = ((i + 4 : Nat) : Int) := by rw [wrn _ (by omega)]; omega
theorem wr6 (i : Nat) (h : i ≤ 1000000) : wrap64 ((i : Int) + 6) = ((i + 6 : Nat) : Int) := by rw [wrn _ (by omega)]; omega
theorem wrN (i n : Nat) (h : i ≤ 1000000) (hn : n ≤ 1000000) : wrap64 ((i : Int) + (n : Int)) = ((i + n : Nat) : Int) := by rw [wrn _ (by omega)]; omega
theorem Ev.val {α : Type} {g : Nat → Option α} {r r' : α} (h : Ev g r) (e : r = r') : Ev g r' := e ▸ h
theorem nv_succ (l : List Int) (i : Nat) (h : i < l.length) : nv (l.take (i + 1)) = nv (l.take i) * 256 + rd l (i : Int) := by
  have e : rd l (i : Int) = l[i] := by
    rw [rd, List.getD_eq_getElem?_getD, Int.toNat_natCast, List.getElem?_eq_getElem h]
    rfl
  rw [List.take_succ_eq_append_getElem h, nv, List.foldl_append, e]
  rfl
theorem by_bt {l : List Int} (h : By l) (i : Int) : bt (strOfNums l) i = rd l i := Byt.str_bt (l := l) h i
theorem eValue (l : List Int) (hy : By l) (hl : l.length ≤ 4) : Ev (fun k => rowlockref06_Value.f k (strOfNums l)) (nv l) := by
  have key : ∀ (m i : Nat), i + m = l.length → Ev (fun k => rowlockref06_Value.l0 k (strOfNums l) (nv (l.take i)) (i : Int)) (nv l) := by
    intro m
    induction m with
    | zero => exact fun i h => Ev.step (f := fun _ => some (nv l)) (fun k => by rw [rowlockref06_Value.l0, if_neg (by rw [Byt.str_size]; omega), List.take_of_length_le (by omega)]) (Ev.now _)
    | succ m ih =>
      intro i h
      have hb := rdb hy (i : Int)
      have hn := nv_bd (By.take hy i)
      have hp : (256 : Int) ^ (l.take i).length ≤ 16777216 := by
        have h3 : (l.take i).length ≤ 3 := by rw [List.length_take]; omega
        generalize (l.take i).length = q at h3 ⊢
        match q, h3 with
        | 0, _ => decide
        | 1, _ => decide
        | 2, _ => decide
        | 3, _ => decide
      refine Ev.step (fun k => ?_) (ih (i + 1) (by omega))
      rw [rowlockref06_Value.l0, if_pos (by rw [Byt.str_size]; omega), if_pos (by omega), nv_succ l i (by omega), by_bt hy, wrs i l.length (by omega) (by omega), u64_in (256 * nv (l.take i)) (by omega), u64_in (rd l (i : Int)) (by omega), u64_in _ (by omega), Int.mul_comm]
  have h := key l.length 0 (by omega)
  exact h
theorem two_nv {b : List Int} (h : b.length = 512) : nv ((b.take 4).drop 2) = rd b 2 * 256 + rd b 3 := by
  match b, h with
  | b0 :: b1 :: b2 :: b3 :: t, h =>
    have r2 : rd (b0 :: b1 :: b2 :: b3 :: t) 2 = b2 := rfl
    have r3 : rd (b0 :: b1 :: b2 :: b3 :: t) 3 = b3 := rfl
    rw [r2, r3]
    show (0 * 256 + b2) * 256 + b3 = _
    omega
theorem By.ex {b : List Int} (h : By b) (i j : Nat) : By ((b.take j).drop i) := fun x hx => h x (List.mem_of_mem_take (List.mem_of_mem_drop hx))
theorem eGet6 (b : List Int) (hy : By b) : Ev (fun k => rowlockref06_Get.f k (strOfNums b)) (dg b) := by
  have hs : (strOfNums b).size = b.length := Byt.str_size b
  have hno : ∀ x : Bool, x = true → Ev (fun k => rowlockref06_Get.j0 k (strOfNums b) x) (0, 0, 0, false) := fun x hx => Ev.step (f := fun _ => some (0, 0, 0, false)) (fun k => by rw [rowlockref06_Get.j0, if_pos hx]) (Ev.now _)
  rw [dg]
  by_cases hl : b.length = 512
  · by_cases h1 : rd b 1 = 0
    · rw [if_pos ⟨hl, h1⟩]
      refine Ev.congr (f := fun k => rowlockref06_Get.j0 k (strOfNums b) false) (fun k => by rw [rowlockref06_Get.f, if_pos (by omega), if_pos (by omega), by_bt hy, h1]; rfl) (Ev.step (fun k => by rw [rowlockref06_Get.j0, if_neg (by decide), if_pos (by omega), if_pos (by omega), if_pos (by omega), Byt.str_extract]) ?_)
      refine bind_ev (eValue _ (By.ex hy 2 4) (by simp; omega)) (Ev.congr (fun k => by rw [if_pos (by omega), if_pos (by omega), Byt.str_extract]) ?_)
      refine bind_ev (eValue _ (By.ex hy 4 8) (by simp; omega)) ?_
      have h2 := rdb hy 2
      have h3 := rdb hy 3
      have h4 := nv_bd (By.ex hy 4 8)
      have e4 : ((b.take 8).drop 4).length = 4 := by simp; omega
      rw [e4] at h4
      rw [two_nv hl, Byt.u16_eq, by_bt hy, show (rd b 2 * 256 + rd b 3) % 65536 = rd b 2 * 256 + rd b 3 by omega, show nv ((b.take 8).drop 4) % 4294967296 = nv ((b.take 8).drop 4) by omega]
      exact Ev.now _
    · rw [if_neg (fun h => h1 h.2)]
      exact Ev.congr (fun k => by rw [rowlockref06_Get.f, if_pos (by omega), if_pos (by omega)]) (hno _ (by rw [by_bt hy]; simpa using h1))
  · rw [if_neg (fun h => hl h.1)]
    exact Ev.congr (fun k => by rw [rowlockref06_Get.f, if_neg (by omega)]) (hno _ rfl)
/-! ### an entry that stands at a place -/
theorem tk_true (xs : List Int) (n : Int) : (tk xs true n).2.2 = true := by
  rw [tk]
  split <;> rfl
theorem ent_few {xs : List Int} (h : xs.length < 2) : (ent xs false).2.2 = true := by
  simp only [ent]
  have e : tk xs false 2 = (List.replicate 2 0, xs, true) := by rw [tk, if_neg (by omega)]; rfl
  rw [e]
  simp only [tk_true]
theorem ent_key {xs : List Int} (hy : By xs) (h : 2 ≤ xs.length) : ((ent xs false).1.1.length : Int) = nv (xs.take 2) := by
  have hn := (nv_bd (By.take hy 2)).1
  simp only [ent]
  have e : tk xs false 2 = (xs.take 2, xs.drop 2, false) := by rw [tk, if_pos (by omega)]; rfl
  rw [e]
  simp only
  rw [tk_len _ _ _ hn]
  omega
theorem ent_all {xs : List Int} (hy : By xs) (n : Nat) (h : 2 ≤ xs.length) (hn : nv (xs.take 2) = n) (hl : 8 + n ≤ xs.length) : ent xs false = (((xs.drop 2).take n, nv ((xs.drop (2 + n)).take 4), nv ((xs.drop (6 + n)).take 2)), xs.drop (8 + n), false) := by
  simp only [ent]
  have e : tk xs false 2 = (xs.take 2, xs.drop 2, false) := by rw [tk, if_pos (by omega)]; rfl
  rw [e]
  simp only
  rw [hn]
  have e2 : tk (xs.drop 2) false (n : Int) = ((xs.drop 2).take n, xs.drop (2 + n), false) := by rw [tk, if_pos (by rw [List.length_drop]; omega), Int.toNat_natCast, List.drop_drop]
  rw [e2]
  simp only
  have e3 : tk (xs.drop (2 + n)) false 4 = ((xs.drop (2 + n)).take 4, xs.drop (6 + n), false) := by rw [tk, if_pos (by rw [List.length_drop]; omega), show (4 : Int).toNat = 4 from rfl, List.drop_drop, show 2 + n + 4 = 6 + n by omega]
  rw [e3]
  simp only
  have e4 : tk (xs.drop (6 + n)) false 2 = ((xs.drop (6 + n)).take 2, xs.drop (8 + n), false) := by rw [tk, if_pos (by rw [List.length_drop]; omega), show (2 : Int).toNat = 2 from rfl, List.drop_drop, show 6 + n + 2 = 8 + n by omega]
  rw [e4]
theorem ent_short {xs : List Int} (hy : By xs) (n : Nat) (h : 2 ≤ xs.length) (hn : nv (xs.take 2) = n) (hl : ¬ 8 + n ≤ xs.length) : (ent xs false).2.2 = true := by
  simp only [ent]
  have e : tk xs false 2 = (xs.take 2, xs.drop 2, false) := by rw [tk, if_pos (by omega)]; rfl
  rw [e]
  simp only
  rw [hn]
  by_cases h1 : 2 + n ≤ xs.length
  · have e2 : tk (xs.drop 2) false (n : Int) = ((xs.drop 2).take n, xs.drop (2 + n), false) := by rw [tk, if_pos (by rw [List.length_drop]; omega), Int.toNat_natCast, List.drop_drop]
    rw [e2]
    simp only
    by_cases h2 : 6 + n ≤ xs.length
    · have e3 : tk (xs.drop (2 + n)) false 4 = ((xs.drop (2 + n)).take 4, xs.drop (6 + n), false) := by rw [tk, if_pos (by rw [List.length_drop]; omega), show (4 : Int).toNat = 4 from rfl, List.drop_drop, show 2 + n + 4 = 6 + n by omega]
      rw [e3]
      simp only
      rw [tk, if_neg (by rw [List.length_drop]; omega)]
    · have e3 : tk (xs.drop (2 + n)) false 4 = (List.replicate 4 0, xs.drop (2 + n), true) := by rw [tk, if_neg (by rw [List.length_drop]; omega)]; rfl
      rw [e3]
      simp only [tk_true]
  · have e2 : tk (xs.drop 2) false (n : Int) = (List.replicate n 0, xs.drop 2, true) := by rw [tk, if_neg (by rw [List.length_drop]; omega), Int.toNat_natCast]
    rw [e2]
    simp only [tk_true]
/-- The entry at a place, as the reference reads it. -/
def oneR (b : List Int) (at_ : Nat) : ByteArray × Int × Int × Int × Bool :=
  if (ent (b.drop at_) false).2.2 = true ∨ 200 < (ent (b.drop at_) false).1.1.length then (⟨#[]⟩, 0, 0, 0, false)
  else (strOfNums (ent (b.drop at_) false).1.1, (ent (b.drop at_) false).1.2.1, (ent (b.drop at_) false).1.2.2, ((at_ + 8 + (ent (b.drop at_) false).1.1.length : Nat) : Int), true)
theorem ex_drop (b : List Int) (i j : Nat) : (b.take (i + j)).drop i = (b.drop i).take j := by rw [List.drop_take]; congr 1; omega
theorem eOne (b : List Int) (hy : By b) (hb : b.length ≤ 100000) (i : Nat) (hi : i ≤ b.length) : Ev (fun k => rowlockref10_one.f k (strOfNums b) (i : Int)) (oneR b i) := by
  have hs : (strOfNums b).size = b.length := Byt.str_size b
  have hl : (b.drop i).length = b.length - i := List.length_drop
  have yx := By.drop' hy i
  rw [oneR]
  by_cases h2 : b.length < i + 2
  · rw [if_pos (.inl (ent_few (by omega)))]
    exact Ev.congr (fun k => by rw [rowlockref10_one.f, wr2 i (by omega), if_pos (by omega)]) (Ev.now _)
  · have hx2 : 2 ≤ (b.drop i).length := by omega
    have hk := ent_key yx hx2
    have yt := By.take yx 2
    have lt : ((b.drop i).take 2).length = 2 := by rw [List.length_take]; omega
    have hnb : 0 ≤ nv ((b.drop i).take 2) ∧ nv ((b.drop i).take 2) < 65536 := by
      have hnb := nv_bd yt
      rw [lt] at hnb
      omega
    obtain ⟨n, hn⟩ := Int.eq_ofNat_of_zero_le hnb.1
    refine Ev.congr (fun k => by rw [rowlockref10_one.f, wr2 i (by omega), if_neg (by omega), if_pos (by omega), if_pos (by omega), if_pos (by omega), Int.toNat_natCast, Int.toNat_natCast, Byt.str_extract, ex_drop]) ?_
    refine bind_ev (eValue _ yt (by omega)) ?_
    rw [hn] at hk hnb ⊢
    have hn6 : n < 65536 := by omega
    rw [wrn (n : Int) (by omega), wrN (i + 2) n (by omega) (by omega)]
    have hno : ∀ x : Bool, x = true → Ev (fun k => rowlockref10_one.j0 k (strOfNums b) (i : Int) ((i + 2 + n : Nat) : Int) x ⟨#[]⟩ 0 0) (⟨#[]⟩, 0, 0, 0, false) := fun x hx => Ev.step (f := fun _ => some (⟨#[]⟩, 0, 0, 0, false)) (fun k => by rw [rowlockref10_one.j0, if_pos hx]) (Ev.now _)
    by_cases h200 : (200 : Int) < n
    · rw [if_pos (.inr (by omega))]
      exact Ev.congr (fun k => by rw [if_pos h200]) (hno _ rfl)
    · refine Ev.congr (fun k => by rw [if_neg h200, wr6 (i + 2 + n) (by omega)]) ?_
      by_cases hl8 : 8 + n ≤ (b.drop i).length
      · have ea := ent_all yx n hx2 hn hl8
        rw [ea]
        simp only
        have lkn : (((b.drop i).drop 2).take n).length = n := by rw [List.length_take, List.length_drop]; omega
        rw [if_neg (by rw [lkn]; rintro (h | h); cases h; omega), lkn]
        have hd : decide (((i + 2 + n + 6 : Nat) : Int) > ((strOfNums b).size : Int)) = false := decide_eq_false (by omega)
        rw [hd]
        have e1 : (b.take (i + 2 + n + 4)).drop (i + 2 + n) = ((b.drop i).drop (2 + n)).take 4 := by
          rw [List.drop_drop, ← Nat.add_assoc, ← ex_drop]
        have e2 : (b.take (i + 2 + n + 6)).drop (i + 2 + n + 4) = ((b.drop i).drop (6 + n)).take 2 := by
          rw [List.drop_drop, show i + (6 + n) = i + 2 + n + 4 by omega, ← ex_drop]
        have e3 : (b.take (i + 2 + n)).drop (i + 2) = ((b.drop i).drop 2).take n := by
          rw [List.drop_drop, ← ex_drop]
        refine Ev.step (fun k => by rw [rowlockref10_one.j0, if_neg (by decide), wr2 i (by omega), wr4 (i + 2 + n) (by omega), wr6 (i + 2 + n) (by omega), if_pos (by omega), if_pos (by omega), if_pos (by omega), if_pos (by omega), if_pos (by omega), if_pos (by omega), Int.toNat_natCast, Int.toNat_natCast, Int.toNat_natCast, Int.toNat_natCast, Byt.str_extract, Byt.str_extract, Byt.str_extract, e1, e2, e3]) ?_
        have y4 := By.take (By.drop' yx (2 + n)) 4
        have l4 : (((b.drop i).drop (2 + n)).take 4).length = 4 := by rw [List.length_take, List.length_drop]; omega
        have y2 := By.take (By.drop' yx (6 + n)) 2
        have l2 : (((b.drop i).drop (6 + n)).take 2).length = 2 := by rw [List.length_take, List.length_drop]; omega
        have n4 := nv_bd y4
        have n2 := nv_bd y2
        rw [l4] at n4
        rw [l2] at n2
        refine bind_ev (eValue _ y4 (by omega)) (Ev.congr (fun k => by rw [if_pos (by omega), if_pos (by omega), if_pos (by omega)]) (bind_ev (eValue _ y2 (by omega)) ?_))
        rw [Byt.u16_eq, show nv (((b.drop i).drop (2 + n)).take 4) % 4294967296 = nv (((b.drop i).drop (2 + n)).take 4) by omega, show nv (((b.drop i).drop (6 + n)).take 2) % 65536 = nv (((b.drop i).drop (6 + n)).take 2) by omega, show i + 2 + n + 6 = i + 8 + n by omega]
        exact Ev.now _
      · rw [if_pos (.inl (ent_short yx n hx2 hn hl8))]
        exact hno _ (decide_eq_true (by omega))
/-! ### a page -/
theorem eTail (b : List Int) (hy : By b) (hb : b.length ≤ 100000) (rows : List S27) (hr : rows.length ≤ 100000) (cs : List Int) (kd c nx : Int) (hk : 2 ≤ kd ∧ kd ≤ 3) : ∀ (m i : Nat), i + m = b.length → Ev (fun k => rowlockref10_Page.l1 k (strOfNums b) rows cs (i : Int) kd c nx) (if zs (b.drop i) = true ∧ riseB rows = true then (kd - 2, nx, cs, rows) else (-1, 0, [], []))
  | 0, i, h => by
    have hs : (strOfNums b).size = b.length := Byt.str_size b
    refine Ev.step (fun k => by rw [rowlockref10_Page.l1, if_neg (by omega), wrn kd (by omega), wrn (kd - 2) (by omega)]) (bind_ev (rRise rows (by omega)) ?_)
    rw [List.drop_of_length_le (by omega)]
    cases hR : riseB rows
    · rw [if_neg (by simp), if_neg (by simp)]
      exact Ev.now _
    · rw [if_pos rfl, if_pos ⟨rfl, rfl⟩]
      exact Ev.now _
  | m + 1, i, h => by
    have hs : (strOfNums b).size = b.length := Byt.str_size b
    have ed : b.drop i = rd b (i : Int) :: b.drop (i + 1) := by
      rw [List.drop_eq_getElem_cons (by omega)]
      congr 1
      rw [rd, List.getD_eq_getElem?_getD, Int.toNat_natCast, List.getElem?_eq_getElem (by omega)]
      rfl
    rw [ed, zs, List.all_cons]
    by_cases hz : rd b (i : Int) = 0
    · have ih := eTail b hy hb rows hr cs kd c nx hk m (i + 1) (by omega)
      rw [decide_eq_true hz, Bool.true_and]
      refine Ev.step (fun k => ?_) ih
      rw [rowlockref10_Page.l1, if_pos (by omega), if_pos (by omega), by_bt hy, if_pos hz, wrs i b.length (by omega) (by omega)]
    · rw [decide_eq_false hz, Bool.false_and, if_neg (by simp)]
      exact Ev.step (f := fun _ => some (-1, 0, [], [])) (fun k => by rw [rowlockref10_Page.l1, if_pos (by omega), if_pos (by omega), by_bt hy, if_neg hz]) (Ev.now _)
def tailR (kd nx : Int) (cs : List Int) (rows : List S27) (rest : List Int) : Int × Int × List Int × List S27 := if zs rest = true ∧ riseB rows = true then (kd - 2, nx, cs, rows) else (-1, 0, [], [])
theorem ent_rest {b : List Int} (hy : By b) {i : Nat} (hi : i ≤ b.length) (h : ¬ ((ent (b.drop i) false).2.2 = true ∨ 200 < (ent (b.drop i) false).1.1.length)) : (ent (b.drop i) false).2.1 = b.drop (i + 8 + (ent (b.drop i) false).1.1.length) ∧ i + 8 + (ent (b.drop i) false).1.1.length ≤ b.length := by
  have yx := By.drop' hy i
  have hf : (ent (b.drop i) false).2.2 = false := by
    cases hb : (ent (b.drop i) false).2.2
    · rfl
    · exact absurd (.inl hb) h
  have hx2 : 2 ≤ (b.drop i).length := by
    rcases Nat.lt_or_ge (b.drop i).length 2 with h2 | h2
    · rw [ent_few h2] at hf; cases hf
    · exact h2
  have hk := ent_key yx hx2
  have hl8 : 8 + (ent (b.drop i) false).1.1.length ≤ (b.drop i).length := by
    rcases Nat.lt_or_ge (b.drop i).length (8 + (ent (b.drop i) false).1.1.length) with h2 | h2
    · rw [ent_short yx _ hx2 hk.symm (by omega)] at hf; cases hf
    · exact h2
  have ea := ent_all yx _ hx2 hk.symm hl8
  have hl : (b.drop i).length = b.length - i := List.length_drop
  refine ⟨?_, by omega⟩
  generalize hq : (ent (b.drop i) false).1.1.length = q at *
  rw [ea]
  show (b.drop i).drop (8 + q) = _
  rw [List.drop_drop, Nat.add_assoc]
theorem mk_one {b : List Int} {i : Nat} : (⟨strOfNums (ent (b.drop i) false).1.1, (⟨(ent (b.drop i) false).1.2.1, (ent (b.drop i) false).1.2.2⟩ : S25)⟩ : S27) = mkE (ent (b.drop i) false) := rfl
/-- The loop over a leaf's entries. -/
theorem eLoopL (b : List Int) (hy : By b) (hb : b.length ≤ 100000) (c nx : Int) (hc : 0 ≤ c ∧ c < 65536) : ∀ (m : Nat) (n at_ : Nat) (rows : List S27), (n : Int) + m = c → rows.length = n → at_ ≤ b.length → Ev (fun k => rowlockref10_Page.l0 k (strOfNums b) rows [] (at_ : Int) (n : Int) 2 c nx) (match pR m rows (b.drop at_) with | none => (-1, 0, [], []) | some p => tailR 2 nx [] p.1 p.2)
  | 0, n, at_, rows, hn, hr, ha => by
    refine Ev.step (fun k => by rw [rowlockref10_Page.l0, wrn c (by omega), if_neg (by omega)]) ?_
    exact eTail b hy hb rows (by omega) [] 2 c nx (by omega) (b.length - at_) at_ (by omega)
  | m + 1, n, at_, rows, hn, hr, ha => by
    refine Ev.step (fun k => by rw [rowlockref10_Page.l0, wrn c (by omega), if_pos (by omega)]) (bind_ev (eOne b hy hb at_ ha) ?_)
    rw [pR, oneR]
    by_cases hbad : (ent (b.drop at_) false).2.2 = true ∨ 200 < (ent (b.drop at_) false).1.1.length
    · rw [if_pos hbad, if_pos hbad]
      exact Ev.congr (fun k => if_neg (by decide)) (Ev.step (f := fun _ => some (-1, 0, [], [])) (fun k => by rw [rowlockref10_Page.j3, if_pos rfl]) (Ev.now _))
    · obtain ⟨e1, e2⟩ := ent_rest hy ha hbad
      rw [if_neg hbad, if_neg hbad]
      have ih := eLoopL b hy hb c nx hc m (n + 1) (at_ + 8 + (ent (b.drop at_) false).1.1.length) (rows ++ [mkE (ent (b.drop at_) false)]) (by omega) (by simp [hr]) e2
      rw [← e1] at ih
      refine Ev.congr (fun k => by rw [if_pos rfl, if_neg (by decide)]) (Ev.step (fun k => ?_) ih)
      rw [rowlockref10_Page.j3, if_neg (by decide), if_pos (by omega), Option.bind_some, if_neg (by decide), mk_one, wr1 n (by omega)]
/-- The loop over an inner page's entries and children. -/
theorem eLoopI (b : List Int) (hy : By b) (hb : b.length ≤ 100000) (c nx : Int) (hc : 0 ≤ c ∧ c < 65536) : ∀ (m : Nat) (n at_ : Nat) (cs : List Int) (rows : List S27), (n : Int) + m = c → rows.length = n → cs.length = n + 1 → at_ ≤ b.length → Ev (fun k => rowlockref10_Page.l0 k (strOfNums b) rows cs (at_ : Int) (n : Int) 3 c nx) (match pI m cs rows (b.drop at_) with | none => (-1, 0, [], []) | some p => tailR 3 nx p.1 p.2.1 p.2.2)
  | 0, n, at_, cs, rows, hn, hr, hcs, ha => by
    refine Ev.step (fun k => by rw [rowlockref10_Page.l0, wrn c (by omega), if_neg (by omega)]) ?_
    exact eTail b hy hb rows (by omega) cs 3 c nx (by omega) (b.length - at_) at_ (by omega)
  | m + 1, n, at_, cs, rows, hn, hr, hcs, ha => by
    have hs : (strOfNums b).size = b.length := Byt.str_size b
    refine Ev.step (fun k => by rw [rowlockref10_Page.l0, wrn c (by omega), if_pos (by omega)]) (bind_ev (eOne b hy hb at_ ha) ?_)
    have hfail : ∀ (x13 : Int) (x89 : Bool) (t : ByteArray) (y z : Int), x89 = true → Ev (fun k => rowlockref10_Page.j3 k (strOfNums b) rows cs (n : Int) x13 x89 3 c nx t y z) (-1, 0, [], []) := fun x13 x89 t y z hx => Ev.step (f := fun _ => some (-1, 0, [], [])) (fun k => by rw [rowlockref10_Page.j3, if_pos hx]) (Ev.now _)
    rw [pI, oneR]
    by_cases hbad : (ent (b.drop at_) false).2.2 = true ∨ 200 < (ent (b.drop at_) false).1.1.length
    · have hbad2 : (tk (ent (b.drop at_) false).2.1 (ent (b.drop at_) false).2.2 4).2.2 = true ∨ 200 < (ent (b.drop at_) false).1.1.length := by
        rcases hbad with h | h
        · left; rw [h, tk_true]
        · exact .inr h
      rw [if_pos hbad, if_pos hbad2]
      exact Ev.congr (fun k => if_neg (by decide)) (hfail _ _ _ _ _ rfl)
    · obtain ⟨e1, e2⟩ := ent_rest hy ha hbad
      have hf : (ent (b.drop at_) false).2.2 = false := by
        cases hb : (ent (b.drop at_) false).2.2
        · rfl
        · exact absurd (.inl hb) hbad
      have hk : ¬ 200 < (ent (b.drop at_) false).1.1.length := fun h => hbad (.inr h)
      rw [if_neg hbad, e1, hf]
      generalize hq : at_ + 8 + (ent (b.drop at_) false).1.1.length = q at *
      have hld : (b.drop q).length = b.length - q := List.length_drop
      by_cases h4 : q + 4 ≤ b.length
      · have et : tk (b.drop q) false 4 = ((b.drop q).take 4, b.drop (q + 4), false) := by rw [tk, if_pos (by omega), show (4 : Int).toNat = 4 from rfl, List.drop_drop]
        rw [et]
        simp only
        rw [if_neg (by rintro (h | h); cases h; exact hk h)]
        have y4 := By.take (By.drop' hy q) 4
        have l4 : ((b.drop q).take 4).length = 4 := by rw [List.length_take]; omega
        have n4 := nv_bd y4
        rw [l4] at n4
        have ih := eLoopI b hy hb c nx hc m (n + 1) (q + 4) (cs ++ [nv ((b.drop q).take 4)]) (rows ++ [mkE (ent (b.drop at_) false)]) (by omega) (by simp [hr]) (by simp [hcs]) (by omega)
        have hd : decide (((q + 4 : Nat) : Int) > ((strOfNums b).size : Int)) = false := decide_eq_false (by omega)
        refine Ev.congr (fun k => by rw [if_pos trivial, if_pos trivial, wr4 q (by omega), hd]) (Ev.step (fun k => by rw [rowlockref10_Page.j3, if_neg (by decide), if_pos (by omega), Option.bind_some, if_pos rfl, wr4 q (by omega), if_pos (by omega), if_pos (by omega), if_pos (by omega), Int.toNat_natCast, Int.toNat_natCast, Byt.str_extract, ex_drop]) ?_)
        refine bind_ev (eValue _ y4 (by omega)) ?_
        refine Ev.congr (fun k => ?_) ih
        rw [if_pos (by omega), mk_one, wr1 n (by omega), show nv ((b.drop q).take 4) % 4294967296 = nv ((b.drop q).take 4) by omega]
      · have et : (tk (b.drop q) false 4).2.2 = true := by rw [tk, if_neg (by omega)]
        rw [if_pos (.inl et)]
        exact Ev.congr (fun k => by simp only [if_true]; rw [wr4 q (by omega)]) (hfail _ _ _ _ _ (decide_eq_true (by omega)))
/-- What any bytes are as a page. -/
def pageR (b : List Int) : Int × Int × List Int × List S27 :=
  match pgL b with
  | some p => (0, p.1, [], p.2)
  | none => match pgI b with
    | some p => (1, 0, p.1, p.2)
    | none => (-1, 0, [], [])
theorem pageR_bad {b : List Int} {kd c nx : Int} {o : Bool} (hd : dg b = (kd, c, nx, o)) (h1 : ¬ (o = true ∧ kd = 2)) (h2 : ¬ (o = true ∧ kd = 3 ∧ nx = 0 ∧ c ≠ 0)) : pageR b = (-1, 0, [], []) := by
  rw [pageR, pgL, pgI, hd, if_neg h1, if_neg h2]
theorem pageR_L {b : List Int} {c nx : Int} (hd : dg b = (2, c, nx, true)) : pageR b = (match pR c.toNat [] (b.drop 8) with | none => (-1, 0, [], []) | some p => tailR 2 nx [] p.1 p.2) := by
  have e : pgI b = none := by rw [pgI, hd, if_neg (by simp)]
  rw [pageR, e, pgL, hd, if_pos ⟨rfl, rfl⟩]
  simp only
  cases pR c.toNat [] (b.drop 8) with
  | none => rfl
  | some p =>
    simp only [tailR]
    by_cases hz : zs p.2 = true ∧ riseB p.1 = true
    · rw [if_pos hz, if_pos hz]
      rfl
    · rw [if_neg hz, if_neg hz]
theorem pageR_I {b : List Int} {c : Int} (hd : dg b = (3, c, 0, true)) (hc : c ≠ 0) : pageR b = (match pI c.toNat [nv ((b.drop 8).take 4)] [] (b.drop 12) with | none => (-1, 0, [], []) | some p => tailR 3 0 p.1 p.2.1 p.2.2) := by
  have e : pgL b = none := by rw [pgL, hd, if_neg (by simp)]
  rw [pageR, e, pgI, hd, if_pos ⟨rfl, rfl, rfl, hc⟩]
  simp only
  rw [List.drop_drop]
  cases pI c.toNat [nv ((b.drop 8).take 4)] [] (b.drop 12) with
  | none => rfl
  | some p =>
    simp only [tailR]
    by_cases hz : zs p.2.2 = true ∧ riseB p.2.1 = true
    · rw [if_pos hz, if_pos hz]
      rfl
    · rw [if_neg hz, if_neg hz]
theorem ePageR (b : List Int) (hy : By b) : Ev (fun k => rowlockref10_Page.f k (strOfNums b)) (pageR b) := by
  have hs : (strOfNums b).size = b.length := Byt.str_size b
  refine Ev.congr (fun k => rfl) (bind_ev (eGet6 b hy) ?_)
  have hno : ∀ (x : Bool) (y z v : Int), x = true → Ev (fun k => rowlockref10_Page.j0 k (strOfNums b) [] [] x y z v) (-1, 0, [], []) := fun x y z v hx => Ev.step (f := fun _ => some (-1, 0, [], [])) (fun k => by rw [rowlockref10_Page.j0, if_pos hx]) (Ev.now _)
  obtain ⟨kd, c, nx, o, hd⟩ : ∃ k0 c0 n0 o, dg b = (k0, c0, n0, o) := ⟨_, _, _, _, rfl⟩
  rw [hd]
  cases o
  · rw [pageR_bad hd (by simp) (by simp)]
    exact hno _ _ _ _ rfl
  · obtain ⟨i1, i2, i3, i4, i5, i6, i7, i8⟩ := dg_inv hy hd
    by_cases h2 : kd = 2
    · subst h2
      rw [pageR_L hd]
      refine (show Ev (fun k => rowlockref10_Page.j0 k (strOfNums b) [] [] false 2 c nx) _ from ?_)
      refine Ev.step (fun k => by rw [rowlockref10_Page.j0, if_neg (by decide), if_neg (by decide)]) (Ev.step (fun k => by rw [rowlockref10_Page.j1]) ?_)
      exact eLoopL b hy (by omega) c nx ⟨i5, i6⟩ c.toNat 0 8 [] (by omega) rfl (by omega)
    · by_cases h3 : kd = 3
      · subst h3
        by_cases hn : nx = 0
        · subst hn
          refine (show Ev (fun k => rowlockref10_Page.j0 k (strOfNums b) [] [] (c == 0) 3 c 0) _ from ?_)
          by_cases hc0 : c = 0
          · subst hc0
            rw [pageR_bad hd (by simp) (by simp)]
            exact hno _ _ _ _ rfl
          · rw [pageR_I hd hc0]
            have hb0 : (c == 0) = false := by simpa using hc0
            have y4 := By.ex hy 8 12
            have l4 : ((b.take 12).drop 8).length = 4 := by rw [List.length_drop, List.length_take]; omega
            have n4 := nv_bd y4
            rw [l4] at n4
            have e12 : (b.take 12).drop 8 = (b.drop 8).take 4 := ex_drop b 8 4
            have h := eLoopI b hy (by omega) c 0 ⟨i5, i6⟩ c.toNat 0 12 [nv ((b.drop 8).take 4)] [] (by omega) rfl rfl (by omega)
            rw [hb0]
            refine Ev.step (fun k => by rw [rowlockref10_Page.j0, if_neg (by decide), if_pos rfl, if_pos (by omega), if_pos (by omega), Byt.str_extract]) (bind_ev (eValue _ y4 (by omega)) (Ev.congr (fun k => by rw [if_pos (by decide)]) (Ev.step (fun k => by rw [rowlockref10_Page.j1]) ?_)))
            rw [show nv ((b.take 12).drop 8) % 4294967296 = nv ((b.take 12).drop 8) by omega, e12]
            exact h
        · rw [pageR_bad hd (by simp) (fun h => hn h.2.2.1)]
          refine Ev.congr (g := fun k => if nx = 0 then rowlockref10_Page.j0 k (strOfNums b) [] [] (c == 0) 3 c nx else rowlockref10_Page.j0 k (strOfNums b) [] [] true 3 c nx) (fun k => if_neg hn) (hno _ _ _ _ rfl)
      · rw [pageR_bad hd (fun h => h2 h.2) (fun h => h3 h.2.1)]
        refine Ev.congr (g := fun k => if kd = 2 then (if kd = 3 then (if nx = 0 then rowlockref10_Page.j0 k (strOfNums b) [] [] (c == 0) kd c nx else rowlockref10_Page.j0 k (strOfNums b) [] [] true kd c nx) else rowlockref10_Page.j0 k (strOfNums b) [] [] false kd c nx) else (if kd = 3 then (if nx = 0 then rowlockref10_Page.j0 k (strOfNums b) [] [] (c == 0) kd c nx else rowlockref10_Page.j0 k (strOfNums b) [] [] true kd c nx) else rowlockref10_Page.j0 k (strOfNums b) [] [] true kd c nx)) (fun k => by rw [if_neg h2, if_neg h3]) (hno _ _ _ _ rfl)
end Go.Proofs.Ytihmkdjambdfjaa.PureL
namespace Go.Proofs.Ytihmkdjambdfjaa.PureL
open Go.RowKit Go.Proofs.YtihmkdjambdfjaaW.PrintWords Go.Proofs.Ytihmkdjambdfjaa.XLeaf Go.Proofs.Ytihmkdjambdfjaa.Lf Go.Proofs.Ytihmkdjambdfjaa.Tk
set_option linter.unusedVariables false
set_option linter.unusedSimpArgs false
theorem good_of {l : List S27} (h : ∀ x ∈ l, okE x ∧ x.f0.size ≤ 200) (hl : l.length ≤ 10000) : goodE l := ⟨hl, fun x hx => ⟨by have := (h x hx).2; omega, (h x hx).1.2⟩⟩
theorem pgL_good {b : List Int} (hy : By b) {n : Int} {l : List S27} (h : pgL b = some (n, l)) : (0 ≤ n ∧ n < 4294967296) ∧ goodE l ∧ l.length ≤ 504 := by
  rw [pgL] at h
  split at h
  · rename_i hc
    obtain ⟨k, c, nx, o, hd⟩ : ∃ k0 c0 n0 o, dg b = (k0, c0, n0, o) := ⟨_, _, _, _, rfl⟩
    rw [hd] at hc h
    obtain ⟨rfl, rfl⟩ : o = true ∧ k = 2 := hc
    simp only at h
    obtain ⟨i1, i2, i3, i4, i5, i6, i7, i8⟩ := dg_inv hy hd
    split at h
    · cases h
    · rename_i p hp
      split at h
      · obtain ⟨rows, rest⟩ := p
        simp only [Option.some.injEq, Prod.mk.injEq] at h
        obtain ⟨rfl, rfl⟩ := h
        obtain ⟨l, h1, h2, h3, h4⟩ := pR_inv _ _ _ _ _ (By.drop' hy 8) hp
        simp only [List.nil_append] at h1
        subst h1
        have hlen : (b.drop 8).length = 504 := by rw [List.length_drop]; omega
        have hlen2 := congrArg List.length h3
        rw [List.length_append, hlen] at hlen2
        have hsz := wrL_len rows
        have hsl := szE_len rows
        exact ⟨⟨i7, i8⟩, good_of h4 (by omega), by omega⟩
      · cases h
  · cases h
theorem pgI_good {b : List Int} (hy : By b) {cs : List Int} {l : List S27} (h : pgI b = some (cs, l)) : goodE l ∧ l.length ≤ 504 ∧ cs.length ≤ 1000 := by
  rw [pgI] at h
  split at h
  · rename_i hc
    obtain ⟨k, c, nx, o, hd⟩ : ∃ k0 c0 n0 o, dg b = (k0, c0, n0, o) := ⟨_, _, _, _, rfl⟩
    rw [hd] at hc h
    obtain ⟨rfl, rfl, rfl, hc0⟩ : o = true ∧ k = 3 ∧ nx = 0 ∧ c ≠ 0 := hc
    simp only at h
    obtain ⟨i1, i2, i3, i4, i5, i6, i7, i8⟩ := dg_inv hy hd
    split at h
    · cases h
    · rename_i p hp
      split at h
      · obtain ⟨qs, rows, rest⟩ := p
        simp only [Option.some.injEq, Prod.mk.injEq] at h
        obtain ⟨rfl, rfl⟩ := h
        have y8 := By.drop' hy 8
        have hlen : (b.drop 8).length = 504 := by rw [List.length_drop]; omega
        obtain ⟨ds, l, h1, h2, h3, h4, h5, h6, h7⟩ := pI_inv _ _ _ _ _ _ _ (By.drop' y8 4) hp
        simp only [List.nil_append] at h2
        subst h2
        have hlen2 := congrArg List.length h5
        have hlr : ds.length = rows.length := by omega
        have hwI := wrI_eq 0 ds rows hlr
        have hwl := wrI_len (0 :: ds) rows rows.length (Nat.le_refl _)
        rw [List.take_length, hwI] at hwl
        simp only [List.length_append, be4_len, List.length_drop, List.length_cons] at hwl hlen2
        have hsl := szE_len rows
        have hq : qs.length = ds.length + 1 := by rw [h1]; simp [Nat.add_comm]
        exact ⟨good_of h6 (by omega), by omega, by omega⟩
      · cases h
  · cases h
theorem putI_len (cs : List Int) (l : List S27) : (putI cs l).1.length ≤ 512 := by
  unfold putI
  split
  · simp
  · rename_i h0
    split
    · rename_i hm
      have h1 := wrI_len cs l l.length (Nat.le_refl _)
      rw [List.take_length] at h1
      have h2 := (mayE_0 hm).2.2
      show (pgF 3 l.length 0 (wrI cs l l.length)).length ≤ 512
      rw [pgF, List.length_append, List.length_append, List.length_replicate, hd_len]
      omega
    · simp
theorem xor_byte (a b : Int) : 0 ≤ Go.bits .xor .u8 a b ∧ Go.bits .xor .u8 a b ≤ 255 := by
  obtain ⟨v, hv⟩ : ∃ v : Int, Go.bits .xor .u8 a b = v % 256 := ⟨_, rfl⟩
  rw [hv]
  omega
theorem by_set {l : List Int} (h : By l) (m : Nat) {u : Int} (hu : 0 ≤ u ∧ u ≤ 255) : By (l.set m u) := fun x hx => by
  rcases List.mem_or_eq_of_mem_set hx with hx | rfl
  · exact h x hx
  · exact hu
/-- The three kinds of pages. -/
theorem kinds (b : List Int) (hy : By b) :
    (∃ n l, pageR b = (0, n, [], l) ∧ getL b = (n, l, 0) ∧ getI b = ([], [], 2) ∧ putL n l = (b, 0) ∧ (0 ≤ n ∧ n < 4294967296) ∧ goodE l ∧ l.length ≤ 504) ∨
    (∃ cs l, pageR b = (1, 0, cs, l) ∧ getL b = (0, [], 2) ∧ getI b = (cs, l, 0) ∧ putI cs l = (b, 0) ∧ goodE l ∧ l.length ≤ 504 ∧ cs.length ≤ 1000) ∨
    (pageR b = (-1, 0, [], []) ∧ getL b = (0, [], 2) ∧ getI b = ([], [], 2)) := by
  cases hL : pgL b with
  | some p =>
    obtain ⟨n, l⟩ := p
    obtain ⟨h1, h2, h3⟩ := pgL_some hy hL
    obtain ⟨h4, h5, h6⟩ := pgL_good hy hL
    have hI : pgI b = none := by rw [pgI, if_neg (fun h => by have := h.2.1; omega)]
    exact .inl ⟨n, l, by rw [pageR, hL], h1, pgI_none hy hI, h2, h4, h5, h6⟩
  | none =>
    have hg := pgL_none hy hL
    cases hI : pgI b with
    | some p =>
      obtain ⟨cs, l⟩ := p
      obtain ⟨h1, h2, h3⟩ := pgI_some hy hI
      obtain ⟨h4, h5, h6⟩ := pgI_good hy hI
      exact .inr (.inl ⟨cs, l, by rw [pageR, hL, hI], hg, h1, h2, h4, h5, h6⟩)
    | none => exact .inr (.inr ⟨by rw [pageR, hL, hI], hg, pgI_none hy hI⟩)
end Go.Proofs.Ytihmkdjambdfjaa.PureL
namespace Go.Proofs.Ytihmkdjambdfjaa.PureL
open Go.RowKit Go.Proofs.YtihmkdjambdfjaaW.PrintWords Go.Proofs.YtihmkdjambdfjaaW.PrintLast Go.Proofs.YtihmkdjambdfjaaW.PrintMore Go.Proofs.Ytihmkdjambdfjaa.XLeaf Go.Proofs.Ytihmkdjambdfjaa.Lf
set_option linter.unusedVariables false
set_option linter.unusedSimpArgs false
set_option maxRecDepth 100000
theorem LeafGets_big (A0 : Option Addr) (c0 : Nat) (l : List S27) (inner : Bool) (A1 : Option Addr) (n1 c1 : Nat) (A2 : Option Addr) (n2 c2 : Nat) (sz : Int) (w : World) (hC : Kd.C k27 w A0 l.length l) (hc : l.length ≤ c0) (kg : Nat) (r : Bool) (hkg : rowlockref10_Great.f kg l = some r) (h : r = true ∨ 20 < n1 ∨ n1 ≠ n2) :
    Calls Try.prog 7 #[.slice A0 l.length c0, .bool inner, .slice A1 n1 c1, .slice A2 n2 c2, .int .i64 sz] w fun e w' => e = .returned (.bool true) ∧ Below w.heap.size w w' := by
  have HC := Aside0.mk (And.intro hC hc)
  have HGR := Aside0.mk hkg
  clear hC hc hkg
  cases r
  · by_cases h3 : n1 = n2
    · have h2 : 20 < n1 := by rcases h with h | h | h; cases h; exact h; exact absurd h3 h
      subst h3
      have c3 : ((n1 : Int) != (n1 : Int)) = false := by simp
      have c2' : decide (20 < (n1 : Int)) = true := decide_eq_true (by omega)
      have c2b : decide (20 < n1) = true := decide_eq_true h2
      clear h h2
      go_enter Try.func7, Try.ntmps7
      go_wp2_with (first
        | (go_at_call 9; (with_reducible refine (rowlockref10_Great.calls kg A0 c0 l false w HC.out.1 HC.out.2 HGR.out).mono ?_); rintro en w1 ⟨rfl, hb⟩; have HB1 := Aside0.mk hb; clear hb)
        | (go_at_call 10; (with_reducible refine (fixed_ok w1).mono ?_); rintro en w4 ⟨rfl, hb⟩; have HB4 := Aside0.mk (below_then HB1.out HB1.out.size hb); clear hb))
      go_ret
      exact ⟨rfl, HB4.out⟩
    · have c3 : ((n1 : Int) != (n2 : Int)) = true := bne_iff_ne.mpr (by omega)
      have c3b : (n1 != n2) = true := bne_iff_ne.mpr h3
      clear h h3
      go_enter Try.func7, Try.ntmps7
      go_wp2_with (first
        | (go_at_call 9; (with_reducible refine (rowlockref10_Great.calls kg A0 c0 l false w HC.out.1 HC.out.2 HGR.out).mono ?_); rintro en w1 ⟨rfl, hb⟩; have HB1 := Aside0.mk hb; clear hb)
        | (go_at_call 10; (with_reducible refine (fixed_ok w1).mono ?_); rintro en w4 ⟨rfl, hb⟩; have HB4 := Aside0.mk (below_then HB1.out HB1.out.size hb); clear hb))
      go_ret
      exact ⟨rfl, HB4.out⟩
  · clear h
    go_enter Try.func7, Try.ntmps7
    go_wp2_with (first
      | (go_at_call 9; (with_reducible refine (rowlockref10_Great.calls kg A0 c0 l true w HC.out.1 HC.out.2 HGR.out).mono ?_); rintro en w1 ⟨rfl, hb⟩; have HB1 := Aside0.mk hb; clear hb)
      | (go_at_call 10; (with_reducible refine (fixed_ok w1).mono ?_); rintro en w4 ⟨rfl, hb⟩; have HB4 := Aside0.mk (below_then HB1.out HB1.out.size hb); clear hb))
    go_ret
    exact ⟨rfl, HB4.out⟩
theorem cut_by {m : Nat} {xs ys : List Int} (hy : (xs.take m) = ys) (hm : m ≤ xs.length) {w1 : World} {base : Nat} {ok : Nat → Prop} {v : Value} (h : Kd.R (Kd.int .u8) 5 w1 base ok v xs) :
    ∃ B d nn, v = .slice B nn d ∧ (∀ W, (Instr.slice 36 (.slice B nn d) none (some (.int .i64 (m : Int))) none).run Try.prog W = .ok (.slice B ys.length d) W) ∧ ys.length ≤ d ∧ Kd.R (Kd.int .u8) 5 w1 base ok (.slice B ys.length d) ys := by
  subst hy
  obtain ⟨A, c, rfl⟩ := Kd.R_slice h
  obtain ⟨_, h2, h3⟩ := Kd.R_reads' h
  obtain ⟨i0, hi0, _, hsz, _⟩ := info_parts Tk.info5
  have p := print_take_of (P := Try.prog) (Value.int .u8) 0 36 5 .i64 Try.underlying36 hi0 hsz A c xs (m : Int) (by omega) (by omega) h2
  rw [Int.toNat_natCast] at p
  refine ⟨A, c, _, rfl, p.1, p.2.2, ?_⟩
  have hl : (xs.take m).length = m := by rw [List.length_take]; omega
  rw [hl]
  exact Kd.R_take h hm
theorem own_head {w1 : World} {base : Nat} {ok : Nat → Prop} {B : Option Addr} {nn d : Nat} {ys : List Int} (h : Kd.R (Kd.int .u8) 5 w1 base ok (.slice B nn d) ys) (h0 : 0 < ys.length) : ∃ g, B = some ⟨g, 0, none⟩ ∧ base ≤ g := by
  obtain ⟨g, cap, e, hg, _, _⟩ := Kd.R_form h h0
  injection e with e1 e2 e3
  exact ⟨g, e1, hg⟩
set_option maxHeartbeats 8000000 in
theorem LeafGets_walk (A0 : Option Addr) (c0 : Nat) (l : List S27) (inner : Bool) (A1 : Option Addr) (c1 : Nat) (ats : List Int) (A2 : Option Addr) (c2 : Nat) (bys : List Int) (n : Nat) (sz : Int) (w : World) (hC : Kd.C k27 w A0 l.length l) (hc : l.length ≤ c0) (hg : goodE l) (kg : Nat) (hkg : rowlockref10_Great.f kg l = some false)
    (hC1 : Kd.C (Kd.int .u16) w A1 n ats) (hC2 : Kd.C (Kd.int .u8) w A2 n bys) (hn : n ≤ 20) (hn1 : ats.length = n) (hn2 : bys.length = n) (hy1 : ∀ x ∈ ats, 0 ≤ x ∧ x < 65536) (hy2 : Tk.By bys) :
    Calls Try.prog 7 #[.slice A0 l.length c0, .bool inner, .slice A1 n c1, .slice A2 n c2, .int .i64 sz] w fun e w' => e = .returned (.bool true) ∧ Below w.heap.size w w' := by
  have k2 : decide (20 < (n : Int)) = false := decide_eq_false (by omega)
  have k2b : decide (20 < n) = false := decide_eq_false (by omega)
  have k3 : ((n : Int) != (n : Int)) = false := by simp
  have HC := Aside0.mk (And.intro hC (And.intro hc hg))
  have HGR := Aside0.mk hkg
  have HC1 := Aside0.mk (And.intro hC1 (And.intro hn1 hy1))
  have HC2 := Aside0.mk (And.intro hC2 (And.intro hn2 hy2))
  have HN := Aside0.mk hn
  have hll : l.length ≤ 10000 := hg.1
  clear hC hc hg hkg hC1 hC2 hn hn1 hn2 hy1 hy2
  go_enter Try.func7, Try.ntmps7
  go_upto_if 43 with (go_at_call 9; (with_reducible refine (rowlockref10_Great.calls kg A0 c0 l false w HC.out.1 HC.out.2.1 HGR.out).mono ?_); rintro en w1 ⟨rfl, hb⟩; have HB1 := Aside0.mk hb; clear hb)
  go_cut [11] (fun s11 wc => ∃ (A : Option Addr) (c : Nat) (xs : List Int), s11 = .slice A xs.length c ∧ Aside0 (xs.length ≤ c) ∧ Aside0 (Kd.C (Kd.int .u8) wc A xs.length xs) ∧ Aside0 (Tk.By xs ∧ xs.length ≤ 512) ∧ Aside0 (Below w.heap.size w wc))
  case first =>
    cases inner
    · obtain ⟨p, hp1⟩ : ∃ p, (putL 3 l).1 = p := ⟨_, rfl⟩
      obtain ⟨e, hp2⟩ : ∃ e, (putL 3 l).2 = e := ⟨_, rfl⟩
      have HP := Aside0.mk (And.intro hp1 hp2)
      have HPB := Aside0.mk (show Tk.By p ∧ p.length ≤ 512 by rw [← hp1]; exact ⟨putL_by 3 l, putL_len 3 l⟩)
      clear hp1 hp2
      go_wp2_with (go_at_call 14; (with_reducible refine (put_is HP.out.1 HP.out.2 w1 A0 c0 HC.out.2.2 (Kd.C_below HC.out.1 HB1.out) HC.out.2.1).mono ?_); rintro en w2 ⟨v, rfl, ho, hb⟩; (obtain ⟨A5, c5, e5⟩ := Kd.R_slice ho; subst e5); have HX := Aside0.mk (Kd.R_reads' ho).2.2; have HXL := Aside0.mk (Kd.R_reads' ho).2.1; have HB2 := Aside0.mk (below_then HB1.out HB1.out.size hb); clear ho hb)
      go_meet
      exact ⟨A5, c5, p, rfl, HXL, HX, HPB, HB2⟩
    · obtain ⟨zr, hzr⟩ : ∃ zr, List.replicate ((l.length : Int) + 1).toNat (0 : Int) = zr := ⟨_, rfl⟩
      obtain ⟨p, hp1⟩ : ∃ p, (putI zr l).1 = p := ⟨_, rfl⟩
      obtain ⟨e, hp2⟩ : ∃ e, (putI zr l).2 = e := ⟨_, rfl⟩
      have HP := Aside0.mk (And.intro hp1 hp2)
      have HPB := Aside0.mk (show Tk.By p ∧ p.length ≤ 512 by rw [← hp1]; exact ⟨putI_by zr l, putI_len zr l⟩)
      have HZR := Aside0.mk (show List.replicate ((l.length : Int) + 1).toNat (0 : Int) = zr ∧ zr.length ≤ 1000000 from ⟨hzr, by rw [← hzr, List.length_replicate]; omega⟩)
      have HLM := Aside0.mk (show ((l.length : Int) + 1).toNat * 4 ≤ 281474976710656 by omega)
      clear hp1 hp2 hzr
      go_wp2_with (first
        | ((with_reducible refine gate_dst (N := 48) rfl ?_); refine Kd.R_make (Kd.int .u32) (w0 := w) w.heap.size 22 ?hg (N := 48) ?hd 46 (.tmp 47) (.tmp 47) rfl ((l.length : Int) + 1) ?hx ?hy Try.underlying46 (.int .u32 0) 4 info22 rfl (by decide) (by decide) (0 : Int) (ok := fun _ => True) (okp := fun _ => False) rfl (fun _ h => h.elim) trivial (by omega) HLM.out HB1.out HB1.out.size ?_; (case hd => rfl); (case hg => rfl); (case hx => first | rfl | (go_simp; done) | (go_simp; rfl)); (case hy => first | rfl | (go_simp; done) | (go_simp; rfl)); intro v48 w2 ho hb hg hn; rw [HZR.out.1] at ho; (obtain ⟨A48, c48, e48⟩ := Kd.R_slice ho; subst e48); have HD2 := Aside0.mk (Kd.R_reads' ho).2.2; have HLC2 := Aside0.mk (Kd.R_reads' ho).2.1; have HB2 := Aside0.mk hb; have HC2 := Aside0.mk (Kd.C_below HC.out.1 hb); clear ho hb hg hn)
        | (go_at_call 23; (with_reducible refine (putInner_is HP.out.1 HP.out.2 _ A48 c48 A0 c0 HC.out.2.2 HC2.out HC.out.2.1 HD2.out HZR.out.2).mono ?_); rintro en w3 ⟨A5, c5, rfl, hcX, hCX, hb⟩; have HX := Aside0.mk hCX; have HXL := Aside0.mk hcX; have HB3 := Aside0.mk (below_then HB2.out HB2.out.size hb); clear hcX hCX hb))
      go_meet
      exact ⟨A5, c5, p, rfl, HXL, HX, HPB, HB3⟩
  case rest =>
    clear HB1 hll
    obtain ⟨A, c, xs, rfl, HLc, HC, HX, HB⟩ := hcut
    obtain ⟨ys0, hys⟩ : ∃ ys, ((([] ++ xs) ++ List.replicate (512 : Int).toNat (0 : Int)).take 512) = ys := ⟨_, rfl⟩
    have hyl : ys0.length = 512 := by rw [← hys, List.length_take, List.length_append, List.length_replicate, show (512 : Int).toNat = 512 from rfl]; omega
    have HYS := Aside0.mk (show ((([] ++ xs) ++ List.replicate (512 : Int).toNat (0 : Int)).take 512) = ys0 ∧ 512 ≤ (([] ++ xs) ++ List.replicate (512 : Int).toNat (0 : Int)).length ∧ 0 < ys0.length ∧ True from ⟨hys, by rw [List.length_append, List.length_replicate, show (512 : Int).toNat = 512 from rfl]; omega, by omega, trivial⟩)
    have HY0 := Aside0.mk (show Tk.By ys0 ∧ ys0.length = 512 from ⟨fun x hx => by
      rw [← hys] at hx
      rcases List.mem_append.1 (List.mem_of_mem_take hx) with h | h
      · exact HX.out.1 x (by simpa using h)
      · rw [List.eq_of_mem_replicate h]; omega, hyl⟩)
    have HL := Aside0.mk (show (([] : List Int).length + xs.length) * 1 ≤ 140737488355328 ∧ (([] ++ xs : List Int).length + (512 : Int).toNat) * 1 ≤ 140737488355328 by have := HX.out.2; constructor <;> simp <;> omega)
    clear hys
    go_step
    go_step
    go_cut [11] (fun s11 wc => ∃ (g d9 : Nat), s11 = .slice (some ⟨g, 0, none⟩) 512 d9 ∧ Aside0 (w.heap.size ≤ g) ∧ Aside0 (Kd.R (Kd.int .u8) 5 wc w.heap.size (fun _ => True) (.slice (some ⟨g, 0, none⟩) 512 d9) ys0) ∧ Aside0 (Below w.heap.size w wc))
    case first =>
      go_wp2_with (first
        | ((with_reducible refine gate_dst (N := 58) rfl ?_); refine Kd.R_lit (Kd.int .u8) (w0 := w) w.heap.size 5 ?hg (N := 58) ?hd (xs := ([] : List Int)) (inner := []) (ok := fun _ => True) (okp := fun _ => True) ?hr ?hp (fun _ hk => hk) trivial HB.out HB.out.size (by simp) ?_; (case hd => rfl); (case hg => rfl); (case hr => first | (go_simp; done) | (go_simp; rfl)); (case hp => exact Reps.none _ _); intro v58 wy ho hb hg hn; (obtain ⟨A58, c58, e58⟩ := Kd.R_slice ho; subst e58); have hbx := Below.grown (Below.refl _ _) hg (Nat.le_refl _) (fun k hk => by cases hk); have HOy := Aside0.mk ho; have HBy := Aside0.mk hb; have HCy := Aside0.mk (Kd.C_below HC.out hbx); clear ho hb hg hn hbx)
        | ((with_reducible refine gate_builtin (b := .append) (xs := #[.tmp 58, .tmp 59]) rfl ?_); at_builtin; refine Kd.R_append_row (Value.int .u8) (0 : Int) (w0 := w) w.heap.size rfl (.tmp 58) (.tmp 59) 36 5 (.int .u8 0) 1 rfl Try.underlying36 Tk.info5 rfl (by decide) _ [] xs A xs.length c (fun _ => True) rfl rfl (fun _ _ => trivial) HOy.out HCy.out HBy.out HBy.out.size HL.out.1 ?_; intro v60 wz ho hb hg hat; (obtain ⟨A60, c60, e60⟩ := Kd.R_slice ho; subst e60); have HOz := Aside0.mk ho; have HBz := Aside0.mk hb; clear ho hb hg hat)
        | ((with_reducible refine gate_builtin (b := .append) (xs := #[.tmp 60, (.const (.int .i64 512))]) rfl ?_); at_builtin; refine Kd.R_append_zeros (kx := .i64) (k := .i64) (Kd.int .u8) (w0 := w) w.heap.size rfl (.tmp 60) (.const (.int .i64 512)) 36 3 5 (.int .u8 0) 1 rfl Try.underlying36 Try.underlying3 Tk.info5 rfl (by decide) (by decide) _ ([] ++ xs) (0 : Int) (512 : Int) (fun _ => True) rfl rfl ?ez (fun _ _ => trivial) HOz.out (by decide) HBz.out HBz.out.size ?eL ?_; (case ez => exact rfl); (case eL => exact HL.out.2); intro v61 w1 ho hb hg hat; obtain ⟨B9, d9, N9, e9, hcut9, hd9, hR9⟩ := cut_by (m := 512) HYS.out.1 HYS.out.2.1 ho; subst e9; (obtain ⟨g, eg, hgb⟩ := own_head hR9 HYS.out.2.2.1; subst eg); replace hcut9 : ∀ W : World, (Instr.slice 36 (.slice (some ⟨g, 0, none⟩) N9 d9) none (some (.int .i64 512)) none).run Try.prog W = .ok (.slice (some ⟨g, 0, none⟩) 512 d9) W := (fun W => by have h9 := hcut9 W; rw [HY0.out.2] at h9; exact h9); have HO1 := Aside0.mk hR9; have HB1 := Aside0.mk hb; have HGB := Aside0.mk hgb; clear ho hb hg hat hd9 hR9 hgb))
      rw [hyl] at HO1
      go_meet
      exact ⟨g, d9, rfl, HGB, HO1, HB1⟩
    case rest =>
     clear HC HX HLc HB HYS HL hyl
     obtain ⟨g, d9, rfl, HGB, HO1, HB1⟩ := hcut
     go_step
     go_step
     go_cut [11] (fun s11 wc => ∃ ys : List Int, s11 = .slice (some ⟨g, 0, none⟩) 512 d9 ∧ Aside0 (Tk.By ys ∧ ys.length = 512) ∧ Aside0 (Kd.R (Kd.int .u8) 5 wc w.heap.size (fun _ => True) (.slice (some ⟨g, 0, none⟩) 512 d9) ys) ∧ Aside0 (Below w.heap.size w wc))
     case first =>
       go_wp2
       go_loopg [65] n (fun kq v65 w' => ∃ (i : Int) (ys : List Int), v65 = .int .i64 i ∧ Aside0 (0 ≤ i ∧ (kq : Int) + i = n) ∧ Aside0 (Tk.By ys ∧ ys.length = 512) ∧ Aside0 (Kd.R (Kd.int .u8) 5 w' w.heap.size (fun _ => True) (.slice (some ⟨g, 0, none⟩) 512 d9) ys) ∧ Aside0 (Below w.heap.size w w'))
       case atStart => exact ⟨0, ys0, rfl, ⟨by omega⟩, HY0, HO1, HB1⟩
       case round =>
         clear HO1 HB1 HY0
         obtain ⟨i, ys, rfl, HI, HY, HO, HB⟩ := hrel
         by_cases c5 : i < (n : Int)
         · have c5b : decide (i < (n : Int)) = true := decide_eq_true c5
           obtain ⟨ad1, e1, hx1⟩ := Kd.at_int HC1.out.1 i HI.out.1 c5
           obtain ⟨ad2, e2, hx2⟩ := Kd.at_int HC2.out.1 i HI.out.1 c5
           subst e1
           subst e2
           replace hx1 := (HB.out.cell (World.block_lt_of_cell? w _ hx1)).trans hx1
           replace hx2 := (HB.out.cell (World.block_lt_of_cell? w _ hx2)).trans hx2
           have hxb : 0 ≤ rd ats i ∧ rd ats i < 65536 := HC1.out.2.2 _ (by
             have hi : i.toNat < ats.length := by have := HI.out.1; have := HC1.out.2.1; omega
             rw [rd, List.getD_eq_getElem?_getD, List.getElem?_eq_getElem hi]
             exact List.getElem_mem hi)
           obtain ⟨x, hx⟩ : ∃ x, x = rd ats i := ⟨_, rfl⟩
           obtain ⟨y, hy⟩ : ∃ y, y = rd bys i := ⟨_, rfl⟩
           rw [← hx] at hx1 hxb
           rw [← hy] at hx2
           obtain ⟨m, hm, hm2⟩ : ∃ m : Nat, Int.tmod x 512 = (m : Int) ∧ m < 512 := ⟨(x % 512).toNat, by rw [Int.tmod_eq_emod_of_nonneg hxb.1]; omega, by omega⟩
           have wx : wrap64 x = x := wrn x (by omega)
           have hz := (Kd.R_cell (0 : Int) (HY.out.2 ▸ HO.out) (m : Int) (by omega) (by have := HY.out.2; omega))
           rw [Int.toNat_natCast] at hz
           obtain ⟨hz1, hz2⟩ := hz
           obtain ⟨z, hzz⟩ : ∃ z, z = rdOf (0 : Int) ys (m : Int) := ⟨_, rfl⟩
           rw [← hzz] at hz1
           have ea : Addr.add ⟨g, 0, none⟩ m = ⟨g, m, none⟩ := Tk.add0 _ _
           have p9 : (0 ≤ i) = True := eq_true HI.out.1
           have q9 : (i < (n : Int)) = True := eq_true c5
           have p8 : (0 ≤ (m : Int)) = True := eq_true (by omega)
           have q8 : ((m : Int) < 512) = True := eq_true (by omega)
           have q8b : (m < 512) = True := eq_true hm2
           have HC5 := Aside0.mk c5
           have HM := Aside0.mk hm2
           clear c5 hx hy hxb hzz hm2
           go_upto_region 11 with fail
           go_region
           go_wp2
           go_roundg (gk - 1)
           case measure => have h1 := HI.out; have h2 := HC5.out; omega
           case rel =>
             have h1 := HI.out
             have h2 := HC5.out
             have h3 := HN.out
             exact ⟨i + 1, ys.set m (Go.bits .xor .u8 z y), by rw [wrn (i + 1) (by omega)], ⟨by omega⟩, ⟨by_set HY.out.1 m (xor_byte z y), by rw [List.length_set]; exact HY.out.2⟩, ⟨Kd.R_drew (HY.out.2 ▸ (Kd.R_put (HY.out.2 ▸ HO.out) (m : Int) (Go.bits .xor .u8 z y)).1)⟩, ⟨below_drew1 (below_set HB.out HGB.out)⟩⟩
         · have c5b : decide (i < (n : Int)) = false := decide_eq_false c5
           clear c5 HI
           go_wp2
           go_meet
           exact ⟨ys, rfl, HY, HO, HB⟩
     case rest =>
       clear HO1 HB1 HY0
       obtain ⟨ys, rfl, HY, HO, HB⟩ := hcut
       go_step
       go_step
       go_cut [11] (fun s11 wc => ∃ (A : Option Addr) (c : Nat) (zs : List Int), s11 = .slice A zs.length c ∧ Aside0 (zs.length ≤ c) ∧ Aside0 (Kd.C (Kd.int .u8) wc A zs.length zs) ∧ Aside0 (Tk.By zs) ∧ Aside0 (Below w.heap.size w wc))
       case first =>
         have HK := Aside0.mk (And.intro (Kd.R_reads' HO.out).2.1 (Kd.R_reads' HO.out).2.2)
         by_cases s1 : 0 ≤ sz
         · have s1b : decide (0 ≤ sz) = true := decide_eq_true s1
           by_cases s2 : sz < 600
           · have s2b : decide (sz < 600) = true := decide_eq_true s2
             obtain ⟨m, rfl⟩ := Int.eq_ofNat_of_zero_le s1
             obtain ⟨zs, hzs⟩ : ∃ zs, (ys ++ List.replicate (88 : Int).toNat (0 : Int)).take m = zs := ⟨_, rfl⟩
             have HZS := Aside0.mk (show (ys ++ List.replicate (88 : Int).toNat (0 : Int)).take m = zs ∧ m ≤ (ys ++ List.replicate (88 : Int).toNat (0 : Int)).length ∧ True from ⟨hzs, by rw [List.length_append, HY.out.2, List.length_replicate, show (88 : Int).toNat = 88 from rfl]; omega, trivial⟩)
             have HL2 := Aside0.mk (show (ys.length + (88 : Int).toNat) * 1 ≤ 140737488355328 by rw [HY.out.2]; decide)
             have HZB := Aside0.mk (show Tk.By zs from fun x hx => by
               rw [← hzs] at hx
               rcases List.mem_append.1 (List.mem_of_mem_take hx) with h | h
               · exact HY.out.1 x h
               · rw [List.eq_of_mem_replicate h]; omega)
             clear s1 s2 hzs
             go_wp2_with (((with_reducible refine gate_builtin (b := .append) (xs := #[.tmp 89, (.const (.int .i64 88))]) rfl ?_); at_builtin; refine Kd.R_append_zeros (kx := .i64) (k := .i64) (Kd.int .u8) (w0 := w) w.heap.size rfl (.tmp 89) (.const (.int .i64 88)) 36 3 5 (.int .u8 0) 1 rfl Try.underlying36 Try.underlying3 Tk.info5 rfl (by decide) (by decide) _ ys (0 : Int) (88 : Int) (fun _ => True) rfl rfl ?ez (fun _ _ => trivial) HO.out (by decide) HB.out HB.out.size ?eL ?_; (case ez => exact rfl); (case eL => exact HL2.out); intro v90 w8 ho hb hg hat; obtain ⟨B8, d8, N8, e8, hcut8, hd8, hR8⟩ := cut_by (m := m) HZS.out.1 HZS.out.2.1 ho; subst e8; have HD8 := Aside0.mk hd8; have HC8 := Aside0.mk (Kd.R_reads' hR8).2.2; have HB8 := Aside0.mk hb; clear ho hb hg hat hd8 hR8))
             go_meet
             exact ⟨B8, d8, zs, rfl, HD8, HC8, HZB, HB8⟩
           · have s2b : decide (sz < 600) = false := decide_eq_false s2
             clear s1 s2
             go_wp2
             go_meet
             exact ⟨some ⟨g, 0, none⟩, d9, ys, by rw [HY.out.2], ⟨by rw [HY.out.2]; exact HK.out.1⟩, ⟨HK.out.2⟩, ⟨HY.out.1⟩, HB⟩
         · have s1b : decide (0 ≤ sz) = false := decide_eq_false s1
           clear s1
           go_wp2
           go_meet
           exact ⟨some ⟨g, 0, none⟩, d9, ys, by rw [HY.out.2], ⟨by rw [HY.out.2]; exact HK.out.1⟩, ⟨HK.out.2⟩, ⟨HY.out.1⟩, HB⟩
       case rest =>
         clear HB HO HY
         obtain ⟨A, c, zs, rfl, HLc, HC, HZ, HB⟩ := hcut
         have hcv := Kd.C_string (P := Try.prog) (c := c) Try.underlying36 Try.underlying5 Try.underlying9 HC.out
         obtain ⟨kp, hkp⟩ := (ePageR zs HZ.out).rounds
         rcases kinds zs HZ.out with ⟨nx, l, e1, e2, e3, e4, e5, e6, e7⟩ | ⟨cs, l, e1, e2, e3, e4, e5, e6, e7⟩ | ⟨e1, e2, e3⟩
         · rw [e1] at hkp
           obtain ⟨kq, hkq⟩ := (eSame l (by omega)).rounds
           have HP := Aside0.mk hkp
           have HGL := Aside0.mk e2
           have HGI := Aside0.mk e3
           have HPU := Aside0.mk (show (putL nx l).1 = zs ∧ (putL nx l).2 = 0 by rw [e4]; exact ⟨rfl, rfl⟩)
           have HG := Aside0.mk e6
           have HK := Aside0.mk hkq
           have b1 : (nx == nx) = true := beq_self_eq_true nx
           have b2 := ba_self2 (strOfNums zs)
           clear hkp e1 e2 e3 e4 e5 e6 e7 hkq
           go_wp2_with (first
            | (go_at_call 27; (with_reducible refine (rowlockref10_Page.calls kp (strOfNums zs) (0) nx [] l wc HP.out).mono ?_); rintro en w1 ⟨v2, v3, rfl, ho2, ho3, hb⟩; obtain ⟨AP, cP, eP⟩ := Kd.R_slice ho2; subst eP; have HP1 := Aside0.mk (Kd.R_reads' ho2).2.2; have HLP := Aside0.mk (Kd.R_reads' ho2).2.1; obtain ⟨AW, cW, eW⟩ := Kd.R_slice ho3; subst eW; have HW1 := Aside0.mk (Kd.R_reads' ho3).2.2; have HLW := Aside0.mk (Kd.R_reads' ho3).2.1; have HC1 := Aside0.mk (Kd.C_below HC.out hb); have HB1 := Aside0.mk (below_then HB.out HB.out.size hb); clear ho2 ho3 hb hcv)
            | (go_at_call 20; (with_reducible refine (get_is HGL.out w1 A c HC1.out HLc.out HZ.out).mono ?_); rintro en w2 ⟨v4, rfl, ho, hb⟩; obtain ⟨AX, cX, eX⟩ := Kd.R_slice ho; subst eX; have HX2 := Aside0.mk (Kd.R_reads' ho).2.2; have HLX := Aside0.mk (Kd.R_reads' ho).2.1; have HB2 := Aside0.mk (below_then HB1.out HB1.out.size hb); have HC2 := Aside0.mk (Kd.C_below HC1.out hb); have HP2 := Aside0.mk (Kd.C_below HP1.out hb); have HW2 := Aside0.mk (Kd.C_below HW1.out hb); clear ho hb)
            | (go_at_call 21; (with_reducible refine (geti_is2 HGI.out w2 A c HC2.out HLc.out HZ.out).mono ?_); rintro en w3 ⟨v5, v6, rfl, ho5, ho6, hb⟩; obtain ⟨AY, cY, eY⟩ := Kd.R_slice ho5; subst eY; have HY3 := Aside0.mk (Kd.R_reads' ho5).2.2; have HLY := Aside0.mk (Kd.R_reads' ho5).2.1; obtain ⟨AZ, cZ, eZ⟩ := Kd.R_slice ho6; subst eZ; have HZ3 := Aside0.mk (Kd.R_reads' ho6).2.2; have HLZ := Aside0.mk (Kd.R_reads' ho6).2.1; have HB3 := Aside0.mk (below_then HB2.out HB2.out.size hb); have HC3 := Aside0.mk (Kd.C_below HC2.out hb); have HP3 := Aside0.mk (Kd.C_below HP2.out hb); have HW3 := Aside0.mk (Kd.C_below HW2.out hb); have HX3 := Aside0.mk (Kd.C_below HX2.out hb); clear ho5 ho6 hb)
            | (go_at_call 14; (with_reducible refine (put_is HPU.out.1 HPU.out.2 w3 AX cX HG.out HX3.out HLX.out).mono ?_); rintro en w4 ⟨v7, rfl, ho, hb⟩; obtain ⟨AU, cU, eU⟩ := Kd.R_slice ho; subst eU; have HU4 := Aside0.mk (Kd.R_reads' ho).2.2; have HLU := Aside0.mk (Kd.R_reads' ho).2.1; have HB4 := Aside0.mk (below_then HB3.out HB3.out.size hb); have HC4 := Aside0.mk (Kd.C_below HC3.out hb); have HW4 := Aside0.mk (Kd.C_below HW3.out hb); have HX4 := Aside0.mk (Kd.C_below HX3.out hb); clear ho hb)
            | (go_at_call 10; (with_reducible refine (fixed_ok w4).mono ?_); rintro en w5 ⟨rfl, hb⟩; have HB5 := Aside0.mk (below_then HB4.out HB4.out.size hb); have HC5 := Aside0.mk (Kd.C_below HC4.out hb); have HW5 := Aside0.mk (Kd.C_below HW4.out hb); have HX5 := Aside0.mk (Kd.C_below HX4.out hb); have HU5 := Aside0.mk (Kd.C_below HU4.out hb); clear hb)
            | (go_at_call 22; (with_reducible refine (rowlockref10_Same.calls kq AX cX l AW cW l true w5 HX5.out HLX.out HW5.out HLW.out HK.out).mono ?_); rintro en w6 ⟨rfl, hd⟩; have hb := hd.below; have HB6 := Aside0.mk (below_then HB5.out HB5.out.size hb); have HC6 := Aside0.mk (Kd.C_below HC5.out hb); have HU6 := Aside0.mk (Kd.C_below HU5.out hb); have hcva := Kd.C_string (P := Try.prog) (c := cU) Try.underlying36 Try.underlying5 Try.underlying9 HU6.out; have hcvb := Kd.C_string (P := Try.prog) (c := c) Try.underlying36 Try.underlying5 Try.underlying9 HC6.out; clear hb hd))
           go_ret
           exact ⟨rfl, HB6.out⟩
         · rw [e1] at hkp
           obtain ⟨kq, hkq⟩ := (eSame l (by omega)).rounds
           obtain ⟨km, hkm⟩ := (eSm cs (by omega)).rounds
           have HP := Aside0.mk hkp
           have HGL := Aside0.mk e2
           have HGI := Aside0.mk e3
           have HPU := Aside0.mk (show (putI cs l).1 = zs ∧ (putI cs l).2 = 0 by rw [e4]; exact ⟨rfl, rfl⟩)
           have HG := Aside0.mk e5
           have HLQ := Aside0.mk (show cs.length ≤ 1000000 by omega)
           have HK := Aside0.mk (And.intro hkm hkq)
           have b2 := ba_self2 (strOfNums zs)
           clear hkp e1 e2 e3 e4 e5 e6 e7 hkq hkm
           go_wp2_with (first
            | (go_at_call 27; (with_reducible refine (rowlockref10_Page.calls kp (strOfNums zs) (1) 0 cs l wc HP.out).mono ?_); rintro en w1 ⟨v2, v3, rfl, ho2, ho3, hb⟩; obtain ⟨AP, cP, eP⟩ := Kd.R_slice ho2; subst eP; have HP1 := Aside0.mk (Kd.R_reads' ho2).2.2; have HLP := Aside0.mk (Kd.R_reads' ho2).2.1; obtain ⟨AW, cW, eW⟩ := Kd.R_slice ho3; subst eW; have HW1 := Aside0.mk (Kd.R_reads' ho3).2.2; have HLW := Aside0.mk (Kd.R_reads' ho3).2.1; have HC1 := Aside0.mk (Kd.C_below HC.out hb); have HB1 := Aside0.mk (below_then HB.out HB.out.size hb); clear ho2 ho3 hb hcv)
            | (go_at_call 20; (with_reducible refine (get_is HGL.out w1 A c HC1.out HLc.out HZ.out).mono ?_); rintro en w2 ⟨v4, rfl, ho, hb⟩; obtain ⟨AX, cX, eX⟩ := Kd.R_slice ho; subst eX; have HX2 := Aside0.mk (Kd.R_reads' ho).2.2; have HLX := Aside0.mk (Kd.R_reads' ho).2.1; have HB2 := Aside0.mk (below_then HB1.out HB1.out.size hb); have HC2 := Aside0.mk (Kd.C_below HC1.out hb); have HP2 := Aside0.mk (Kd.C_below HP1.out hb); have HW2 := Aside0.mk (Kd.C_below HW1.out hb); clear ho hb)
            | (go_at_call 21; (with_reducible refine (geti_is2 HGI.out w2 A c HC2.out HLc.out HZ.out).mono ?_); rintro en w3 ⟨v5, v6, rfl, ho5, ho6, hb⟩; obtain ⟨AY, cY, eY⟩ := Kd.R_slice ho5; subst eY; have HY3 := Aside0.mk (Kd.R_reads' ho5).2.2; have HLY := Aside0.mk (Kd.R_reads' ho5).2.1; obtain ⟨AZ, cZ, eZ⟩ := Kd.R_slice ho6; subst eZ; have HZ3 := Aside0.mk (Kd.R_reads' ho6).2.2; have HLZ := Aside0.mk (Kd.R_reads' ho6).2.1; have HB3 := Aside0.mk (below_then HB2.out HB2.out.size hb); have HC3 := Aside0.mk (Kd.C_below HC2.out hb); have HP3 := Aside0.mk (Kd.C_below HP2.out hb); have HW3 := Aside0.mk (Kd.C_below HW2.out hb); have HX3 := Aside0.mk (Kd.C_below HX2.out hb); clear ho5 ho6 hb)
            | (go_at_call 23; (with_reducible refine (putInner_is HPU.out.1 HPU.out.2 w3 AY cY AZ cZ HG.out HZ3.out HLZ.out HY3.out HLQ.out).mono ?_); rintro en w4 ⟨AU, cU, rfl, hcU, hCU, hb⟩; have HU4 := Aside0.mk hCU; have HLU := Aside0.mk hcU; have HB4 := Aside0.mk (below_then HB3.out HB3.out.size hb); have HC4 := Aside0.mk (Kd.C_below HC3.out hb); have HP4 := Aside0.mk (Kd.C_below HP3.out hb); have HW4 := Aside0.mk (Kd.C_below HW3.out hb); have HY4 := Aside0.mk (Kd.C_below HY3.out hb); have HZ4 := Aside0.mk (Kd.C_below HZ3.out hb); clear hcU hCU hb)
            | (go_at_call 10; (with_reducible refine (fixed_ok w4).mono ?_); rintro en w5 ⟨rfl, hb⟩; have HB5 := Aside0.mk (below_then HB4.out HB4.out.size hb); have HC5 := Aside0.mk (Kd.C_below HC4.out hb); have HU5 := Aside0.mk (Kd.C_below HU4.out hb); have HP5 := Aside0.mk (Kd.C_below HP4.out hb); have HW5 := Aside0.mk (Kd.C_below HW4.out hb); have HY5 := Aside0.mk (Kd.C_below HY4.out hb); have HZ5 := Aside0.mk (Kd.C_below HZ4.out hb); clear hb)
            | (go_at_call 26; (with_reducible refine (rowlocklaw10_same.calls km AY cY cs AP cP cs true w5 HY5.out HLY.out HP5.out HLP.out HK.out.1).mono ?_); rintro en w6 ⟨rfl, hd⟩; have hb := hd.below; have HB6 := Aside0.mk (below_then HB5.out HB5.out.size hb); have HC6 := Aside0.mk (Kd.C_below HC5.out hb); have HU6 := Aside0.mk (Kd.C_below HU5.out hb); have HZ6 := Aside0.mk (Kd.C_below HZ5.out hb); have HW6 := Aside0.mk (Kd.C_below HW5.out hb); clear hb hd)
            | (go_at_call 22; (with_reducible refine (rowlockref10_Same.calls kq AZ cZ l AW cW l true w6 HZ6.out HLZ.out HW6.out HLW.out HK.out.2).mono ?_); rintro en w7 ⟨rfl, hd⟩; have hb := hd.below; have HB7 := Aside0.mk (below_then HB6.out HB6.out.size hb); have HC7 := Aside0.mk (Kd.C_below HC6.out hb); have HU7 := Aside0.mk (Kd.C_below HU6.out hb); have hcva := Kd.C_string (P := Try.prog) (c := cU) Try.underlying36 Try.underlying5 Try.underlying9 HU7.out; have hcvb := Kd.C_string (P := Try.prog) (c := c) Try.underlying36 Try.underlying5 Try.underlying9 HC7.out; clear hb hd))
           go_ret
           exact ⟨rfl, HB7.out⟩
         · rw [e1] at hkp
           have HP := Aside0.mk hkp
           have HGL := Aside0.mk e2
           have HGI := Aside0.mk e3
           clear hkp e1 e2 e3
           go_wp2_with (first
            | (go_at_call 27; (with_reducible refine (rowlockref10_Page.calls kp (strOfNums zs) (-1) 0 [] [] wc HP.out).mono ?_); rintro en w1 ⟨v2, v3, rfl, ho2, ho3, hb⟩; obtain ⟨AP, cP, eP⟩ := Kd.R_slice ho2; subst eP; have HP1 := Aside0.mk (Kd.R_reads' ho2).2.2; have HLP := Aside0.mk (Kd.R_reads' ho2).2.1; obtain ⟨AW, cW, eW⟩ := Kd.R_slice ho3; subst eW; have HW1 := Aside0.mk (Kd.R_reads' ho3).2.2; have HLW := Aside0.mk (Kd.R_reads' ho3).2.1; have HC1 := Aside0.mk (Kd.C_below HC.out hb); have HB1 := Aside0.mk (below_then HB.out HB.out.size hb); clear ho2 ho3 hb hcv)
            | (go_at_call 20; (with_reducible refine (get_is HGL.out w1 A c HC1.out HLc.out HZ.out).mono ?_); rintro en w2 ⟨v4, rfl, ho, hb⟩; obtain ⟨AX, cX, eX⟩ := Kd.R_slice ho; subst eX; have HX2 := Aside0.mk (Kd.R_reads' ho).2.2; have HLX := Aside0.mk (Kd.R_reads' ho).2.1; have HB2 := Aside0.mk (below_then HB1.out HB1.out.size hb); have HC2 := Aside0.mk (Kd.C_below HC1.out hb); have HP2 := Aside0.mk (Kd.C_below HP1.out hb); have HW2 := Aside0.mk (Kd.C_below HW1.out hb); clear ho hb)
            | (go_at_call 21; (with_reducible refine (geti_is2 HGI.out w2 A c HC2.out HLc.out HZ.out).mono ?_); rintro en w3 ⟨v5, v6, rfl, ho5, ho6, hb⟩; obtain ⟨AY, cY, eY⟩ := Kd.R_slice ho5; subst eY; have HY3 := Aside0.mk (Kd.R_reads' ho5).2.2; have HLY := Aside0.mk (Kd.R_reads' ho5).2.1; obtain ⟨AZ, cZ, eZ⟩ := Kd.R_slice ho6; subst eZ; have HZ3 := Aside0.mk (Kd.R_reads' ho6).2.2; have HLZ := Aside0.mk (Kd.R_reads' ho6).2.1; have HB3 := Aside0.mk (below_then HB2.out HB2.out.size hb); have HC3 := Aside0.mk (Kd.C_below HC2.out hb); have HP3 := Aside0.mk (Kd.C_below HP2.out hb); have HW3 := Aside0.mk (Kd.C_below HW2.out hb); have HX3 := Aside0.mk (Kd.C_below HX2.out hb); clear ho5 ho6 hb)
            | (go_at_call 10; (with_reducible refine (fixed_ok w3).mono ?_); rintro en w4 ⟨rfl, hb⟩; have HB4 := Aside0.mk (below_then HB3.out HB3.out.size hb); clear hb))
           go_ret
           exact ⟨rfl, HB4.out⟩
theorem LeafGets_ok (A0 : Option Addr) (c0 : Nat) (l : List S27) (inner : Bool) (A1 : Option Addr) (c1 : Nat) (ats : List Int) (A2 : Option Addr) (c2 : Nat) (bys : List Int) (sz : Int) (w : World) (hC : Kd.C k27 w A0 l.length l) (hc : l.length ≤ c0) (hl : l.length ≤ 9223372036854775807) (hx : ∀ x ∈ l, 0 ≤ x.f1.f0 ∧ x.f1.f0 < 4294967296 ∧ 0 ≤ x.f1.f1 ∧ x.f1.f1 < 65536)
    (hC1 : Kd.C (Kd.int .u16) w A1 ats.length ats) (hC2 : Kd.C (Kd.int .u8) w A2 bys.length bys) (hy1 : ∀ x ∈ ats, 0 ≤ x ∧ x < 65536) (hy2 : Tk.By bys) :
    Calls Try.prog 7 #[.slice A0 l.length c0, .bool inner, .slice A1 ats.length c1, .slice A2 bys.length c2, .int .i64 sz] w fun e w' => e = .returned (.bool true) ∧ Below w.heap.size w w' := by
  obtain ⟨r, hr, hp⟩ := eGreat' l (by omega)
  obtain ⟨kg, hkg⟩ := hr.rounds
  by_cases h : r = true ∨ 20 < ats.length ∨ ats.length ≠ bys.length
  · exact LeafGets_big A0 c0 l inner A1 _ c1 A2 _ c2 sz w hC hc kg r hkg h
  · obtain rfl : r = false := by
      cases r
      · rfl
      · exact absurd (.inl rfl) h
    have hn : ats.length = bys.length := Decidable.of_not_not fun h3 => h (.inr (.inr h3))
    obtain ⟨p1, p2⟩ := hp rfl
    have hg : goodE l := ⟨by omega, fun x hm => ⟨by have := p2 x hm; omega, hx x hm⟩⟩
    have h20 : ats.length ≤ 20 := by
      rcases Nat.lt_or_ge 20 ats.length with h2 | h2
      · exact absurd (.inr (.inl h2)) h
      · exact h2
    have := LeafGets_walk A0 c0 l inner A1 c1 ats A2 c2 bys ats.length sz w hC hc hg kg hkg hC1 (hn ▸ hC2) h20 rfl hn.symm hy1 hy2
    rw [← hn]
    exact this
end Go.Proofs.Ytihmkdjambdfjaa.PureL
