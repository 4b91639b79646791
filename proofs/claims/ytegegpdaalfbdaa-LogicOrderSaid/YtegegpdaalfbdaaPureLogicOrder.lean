/- Pure part of LogicOrder: truths in another order, and in groups, come to the same; no conditions. -/
import Derived.Test.YtegegpdaalfbdaaTLogicOrder
namespace Go.Proofs.Ytegegpdaalfbdaa.Pure
open Go.RowKit Go.Proofs.Ytegegpdaalfbdaa.PLogicOrder Go.Proofs.YtegegpdaalfbdaaW.PrintWords Go.Proofs.YtegegpdaalfbdaaW.PrintLast
set_option linter.unusedVariables false
def tl (x : Int) : Int := if x > 3 then 2 else x
def nt (x : Int) : Int := if x = 0 then 3 else if x = 3 then 0 else tl x
def mf (m : List Int) (a : Int) : Int := m.foldl mn a

theorem u8_wf {x : Int} (h : (Lit.int .u8 x).wf = true) : 0 ≤ x ∧ x < 256 := by
  simp [Lit.wf, IntKind.min, IntKind.max, IntKind.signed, IntKind.bits] at h
  omega

theorem mf_spec (m : List Int) : ∀ a, (mf m a = a ∨ mf m a ∈ m) ∧ mf m a ≤ a ∧ ∀ x ∈ m, mf m a ≤ x := by
  induction m with
  | nil => intro a; exact ⟨.inl rfl, Int.le_refl _, fun x hx => by cases hx⟩
  | cons y m ih =>
    intro a
    obtain ⟨h1, h2, h3⟩ := ih (mn a y)
    have e : mf (y :: m) a = mf m (mn a y) := rfl
    rw [e]
    have hm : (mn a y = a ∨ mn a y = y) ∧ mn a y ≤ a ∧ mn a y ≤ y := by unfold mn; split <;> omega
    refine ⟨?_, by omega, fun x hx => ?_⟩
    · rcases h1 with h1 | h1
      · rcases hm.1 with h | h
        · exact .inl (h1.trans h)
        · exact .inr (by rw [h1, h]; exact List.mem_cons_self)
      · exact .inr (List.mem_cons_of_mem _ h1)
    · rcases List.mem_cons.1 hx with rfl | hx
      · omega
      · exact h3 x hx

theorem mf_le_of_mem {m m' : List Int} {a : Int} (h : ∀ x ∈ m, x ∈ m') : mf m' a ≤ mf m a := by
  obtain ⟨h1, h2, h3⟩ := mf_spec m a
  obtain ⟨_, k2, k3⟩ := mf_spec m' a
  rcases h1 with h1 | h1
  · omega
  · exact k3 _ (h _ h1)

theorem mf_eq_of_mem {m m' : List Int} {a : Int} (h : ∀ x, x ∈ m ↔ x ∈ m') : mf m a = mf m' a :=
  Int.le_antisymm (mf_le_of_mem fun x hx => (h x).2 hx) (mf_le_of_mem fun x hx => (h x).1 hx)

theorem mf_pair (A B : List Int) : mf [mf A 3, mf B 3] 3 = mf (A ++ B) 3 := by
  obtain ⟨a1, a2, a3⟩ := mf_spec A 3
  obtain ⟨b1, b2, b3⟩ := mf_spec B 3
  obtain ⟨c1, c2, c3⟩ := mf_spec (A ++ B) 3
  obtain ⟨d1, d2, d3⟩ := mf_spec [mf A 3, mf B 3] 3
  have da := d3 (mf A 3) (by simp)
  have db := d3 (mf B 3) (by simp)
  apply Int.le_antisymm
  · rcases c1 with h | h
    · omega
    · rcases List.mem_append.1 h with h | h
      · have := a3 _ h; omega
      · have := b3 _ h; omega
  · have ha : mf (A ++ B) 3 ≤ mf A 3 := by
      rcases a1 with h | h
      · omega
      · exact c3 _ (List.mem_append_left _ h)
    have hb : mf (A ++ B) 3 ≤ mf B 3 := by
      rcases b1 with h | h
      · omega
      · exact c3 _ (List.mem_append_right _ h)
    rcases d1 with h | h
    · omega
    · have h : mf [mf A 3, mf B 3] 3 = mf A 3 ∨ mf [mf A 3, mf B 3] 3 = mf B 3 := by simpa using h
      omega

theorem tl_rng {x : Int} (h : 0 ≤ x) : 0 ≤ tl x ∧ tl x ≤ 3 := by unfold tl; split <;> omega
theorem nt_rng {x : Int} (h : 0 ≤ x) : 0 ≤ nt x ∧ nt x ≤ 3 := by
  have := tl_rng h
  unfold nt; split <;> (try split) <;> omega
theorem tl_id {x : Int} (h : x ≤ 3) : tl x = x := by unfold tl; split <;> omega
theorem nt_nt {x : Int} (h : 0 ≤ x) : nt (nt x) = tl x := by
  unfold nt tl; repeat' split
  all_goals omega
theorem mf_rng {m : List Int} (h : ∀ x ∈ m, 0 ≤ x) : 0 ≤ mf m 3 ∧ mf m 3 ≤ 3 := by
  obtain ⟨h1, h2, h3⟩ := mf_spec m 3
  refine ⟨?_, h2⟩
  rcases h1 with e | e
  · omega
  · exact h _ e

theorem drop_rd (l : List Int) (i : Nat) (h : i < l.length) : l.drop i = rd l (i : Int) :: l.drop (i + 1) := by
  rw [List.drop_eq_getElem_cons h]
  simp [rd, h]
theorem wrap_succ {i n : Nat} (h : i < n) (hn : n ≤ 140737488351232) : wrap64 ((i : Int) + 1) = ((i + 1 : Nat) : Int) := by
  unfold wrap64; omega

theorem told_f (x : Int) : logic_told.f x = some (tl x) := by unfold logic_told.f tl; split <;> rfl
theorem not_f (x : Int) : logic_Not.f x = some (nt x) := by
  unfold logic_Not.f nt
  split
  · rfl
  · split
    · rfl
    · rw [told_f]; rfl

theorem and_l0 (l : List Int) (hn : l.length ≤ 140737488351232) (d : Nat) : ∀ (k i : Nat) (acc : Int), i ≤ l.length → l.length - i = d → d < k →
    logic_And.l0 k acc l (l.length : Int) (i : Int) = some (mf ((l.drop i).map tl) acc) := by
  induction d with
  | zero =>
    intro k i acc hi hd hk
    obtain ⟨k, rfl⟩ : ∃ m, k = m + 1 := ⟨k - 1, by omega⟩
    simp only [logic_And.l0]
    rw [if_neg (by omega), List.drop_of_length_le (by omega)]; rfl
  | succ d ih =>
    intro k i acc hi hd hk
    obtain ⟨k, rfl⟩ : ∃ m, k = m + 1 := ⟨k - 1, by omega⟩
    have hlt : i < l.length := by omega
    simp only [logic_And.l0]
    rw [if_pos (by omega), if_pos (by omega), if_pos (by omega), told_f]
    simp only [Option.bind_some]
    rw [wrap_succ hlt hn, ih k (i + 1) _ (by omega) (by omega) (by omega), drop_rd l i hlt]; rfl
theorem and_f (l : List Int) (hn : l.length ≤ 140737488351232) (k : Nat) (hk : l.length < k) : logic_And.f k l = some (mf (l.map tl) 3) := by
  have := and_l0 l hn l.length k 0 3 (by omega) (by omega) hk
  simpa [logic_And.f] using this

theorem or_l0 (l : List Int) (hn : l.length ≤ 140737488351232) (d : Nat) : ∀ (k i : Nat) (acc : Int), i ≤ l.length → l.length - i = d → d < k →
    logic_Or.l0 k acc l (l.length : Int) (i : Int) = some (nt (mf ((l.drop i).map nt) acc)) := by
  induction d with
  | zero =>
    intro k i acc hi hd hk
    obtain ⟨k, rfl⟩ : ∃ m, k = m + 1 := ⟨k - 1, by omega⟩
    simp only [logic_Or.l0]
    rw [if_neg (by omega), List.drop_of_length_le (by omega), not_f]; rfl
  | succ d ih =>
    intro k i acc hi hd hk
    obtain ⟨k, rfl⟩ : ∃ m, k = m + 1 := ⟨k - 1, by omega⟩
    have hlt : i < l.length := by omega
    simp only [logic_Or.l0]
    rw [if_pos (by omega), if_pos (by omega), if_pos (by omega), not_f]
    simp only [Option.bind_some]
    rw [wrap_succ hlt hn, ih k (i + 1) _ (by omega) (by omega) (by omega), drop_rd l i hlt]; rfl
theorem or_f (l : List Int) (hn : l.length ≤ 140737488351232) (k : Nat) (hk : l.length < k) : logic_Or.f k l = some (nt (mf (l.map nt) 3)) := by
  have := or_l0 l hn l.length k 0 3 (by omega) (by omega) hk
  simpa [logic_Or.f] using this

theorem fixed_f (k : Nat) (hk : 5 < k) : rowlocklaw02_fixed.f k = some true := by
  unfold rowlocklaw02_fixed.f
  rw [and_f _ (by simp) k (by simp; omega), or_f _ (by simp) k (by simp; omega), and_f _ (by simp) k (by simp; omega), or_f _ (by simp) k (by simp; omega)]
  decide

theorem rot_mem (l : List Int) (n : Nat) (f : Int → Int) (x : Int) : x ∈ (l.drop n ++ l.take n).map f ↔ x ∈ l.map f := by
  have h : ∀ y, y ∈ l.drop n ++ l.take n ↔ y ∈ l := by
    intro y
    rw [List.mem_append, Or.comm, ← List.mem_append, List.take_append_drop]
  simp only [List.mem_map, h]

theorem mf_tl_id (l : List Int) : tl (mf (l.map tl) 3) = mf (l.map tl) 3 := tl_id (mf_spec _ 3).2.1

theorem nt_nt_id {x : Int} (h0 : 0 ≤ x) (h3 : x ≤ 3) : nt (nt x) = x := by rw [nt_nt h0, tl_id h3]

theorem ro_rng (l : List Int) (hw : ∀ x ∈ l, 0 ≤ x ∧ x < 256) : 0 ≤ mf (l.map nt) 3 ∧ mf (l.map nt) 3 ≤ 3 := mf_rng fun x hx => by
  obtain ⟨y, hy, rfl⟩ := List.mem_map.1 hx
  exact (nt_rng (hw y hy).1).1

theorem j1_f (l : List Int) (hw : ∀ x ∈ l, 0 ≤ x ∧ x < 256) (hn : l.length ≤ 3000) (j : Nat) (hj : j ≤ l.length) (k : Nat) (hk : l.length + 10 < k) :
    rowlocklaw02_LogicOrder.j1 k l (j : Int) false = some true := by
  obtain ⟨k, rfl⟩ : ∃ m, k = m + 1 := ⟨k - 1, by omega⟩
  have ht := List.length_take_le j l
  have hd : (l.drop j).length ≤ l.length := by rw [List.length_drop]; omega
  have wt : ∀ x ∈ l.take j, 0 ≤ x ∧ x < 256 := fun x hx => hw x (List.mem_of_mem_take hx)
  have wd : ∀ x ∈ l.drop j, 0 ≤ x ∧ x < 256 := fun x hx => hw x (List.mem_of_mem_drop hx)
  have r1 := ro_rng _ wt
  have r2 := ro_rng _ wd
  have e1 : mf ([mf ((l.take j).map tl) 3, mf ((l.drop j).map tl) 3].map tl) 3 = mf (l.map tl) 3 := by
    simp only [List.map_cons, List.map_nil, mf_tl_id]
    rw [mf_pair, ← List.map_append, List.take_append_drop]
  have e2 : mf ([nt (mf ((l.take j).map nt) 3), nt (mf ((l.drop j).map nt) 3)].map nt) 3 = mf (l.map nt) 3 := by
    simp only [List.map_cons, List.map_nil]
    rw [nt_nt_id r1.1 r1.2, nt_nt_id r2.1 r2.2, mf_pair, ← List.map_append, List.take_append_drop]
  simp only [rowlocklaw02_LogicOrder.j1]
  rw [if_neg (by simp), fixed_f _ (by omega)]
  simp only [Option.bind_some, if_true]
  rw [if_pos (by omega), if_pos (by omega), Int.toNat_natCast]
  rw [and_f (l.take j) (by omega) _ (by omega), and_f (l.drop j) (by omega) _ (by omega), and_f l (by omega) _ (by omega),
    or_f (l.take j) (by omega) _ (by omega), or_f (l.drop j) (by omega) _ (by omega), or_f l (by omega) _ (by omega)]
  simp only [Option.bind_some]
  rw [and_f _ (by simp) _ (by simp; omega), or_f _ (by simp) _ (by simp; omega)]
  simp only [Option.bind_some]
  rw [e1, e2, if_pos rfl]
  simp

theorem j0_f (l : List Int) (hw : ∀ x ∈ l, 0 ≤ x ∧ x < 256) (hn : l.length ≤ 3000) (h0 : 0 < l.length) (a : Int) (ha : 0 ≤ a ∧ a < 256) (k : Nat) (hk : l.length + 20 < k) :
    rowlocklaw02_LogicOrder.j0 k l a false = some true := by
  obtain ⟨k, rfl⟩ : ∃ m, k = m + 1 := ⟨k - 1, by omega⟩
  obtain ⟨j, hj, hlt⟩ : ∃ j : Nat, Int.tmod (wrap64 a) (l.length : Int) = (j : Int) ∧ j < l.length := by
    have hwr : wrap64 a = a := by unfold wrap64; omega
    have hp : (0 : Int) < l.length := by omega
    have h1 := Int.tmod_nonneg (l.length : Int) ha.1
    have h2 := Int.tmod_lt_of_pos a hp
    refine ⟨(Int.tmod a (l.length : Int)).toNat, ?_, ?_⟩
    · rw [hwr]; omega
    · omega
  have ht := List.length_take_le j l
  have hd : (l.drop j).length ≤ l.length := by rw [List.length_drop]; omega
  have ha2 : (l.drop j ++ l.take j).length ≤ 6000 := by rw [List.length_append]; omega
  have ha3 : (l.drop j ++ l.take j).length ≤ l.length := by rw [List.length_append, List.length_drop, List.length_take]; omega
  simp only [rowlocklaw02_LogicOrder.j0]
  rw [if_neg (by simp), if_neg (by omega), hj, Int.toNat_natCast]
  simp only [Option.bind_some]
  rw [if_pos (by omega), if_pos (by omega), if_pos (by simp; omega)]
  simp only [List.nil_append]
  rw [if_pos (by omega)]
  rw [and_f _ (by omega) _ (by omega), or_f _ (by omega) _ (by omega), and_f l (by omega) _ (by omega), or_f l (by omega) _ (by omega)]
  simp only [Option.bind_some]
  rw [mf_eq_of_mem (rot_mem l j tl), mf_eq_of_mem (rot_mem l j nt), if_pos rfl]
  have : (nt (mf (l.map nt) 3) != nt (mf (l.map nt) 3)) = false := by simp
  rw [this]
  exact j1_f l hw hn j (by omega) k (by omega)

theorem LogicOrder : rowlocklaw02_LogicOrder.Pure := by
  intro l a _ hs hw hwa
  have hw : ∀ x ∈ l, 0 ≤ x ∧ x < 256 := fun x hx => u8_wf (hw x hx)
  have ha := u8_wf hwa
  refine ⟨l.length + 30, ?_⟩
  have hfix : ∀ b, rowlocklaw02_LogicOrder.j0 (l.length + 30) l b true = some true := by
    intro b
    rw [show l.length + 30 = (l.length + 29) + 1 from rfl]
    simp only [rowlocklaw02_LogicOrder.j0, if_true]
    rw [fixed_f _ (by omega)]; rfl
  unfold rowlocklaw02_LogicOrder.f
  by_cases hl : (l.length : Int) > 3000
  · rw [if_pos hl]; exact hfix a
  · rw [if_neg hl]
    by_cases h0 : l.length = 0
    · rw [show ((l.length : Int) == 0) = true by simp [h0]]; exact hfix a
    · rw [show ((l.length : Int) == 0) = false from beq_eq_false_iff_ne.mpr (by omega)]
      exact j0_f l hw (by omega) (by omega) a ha _ (by omega)

end Go.Proofs.Ytegegpdaalfbdaa.Pure
