/- Pure part of LogicTurned: Not of And is Or of Not of each, and the other way; Not of Not is the truth itself; no conditions. -/
import Derived.Test.YtegegpdaalfbdaaPLogicTurnedx1
namespace Go.Proofs.Ytegegpdaalfbdaa.Pure
open Go.RowKit Go.Proofs.Ytegegpdaalfbdaa.PLogicTurned Go.Proofs.YtegegpdaalfbdaaW.PrintWords Go.Proofs.YtegegpdaalfbdaaW.PrintLast
set_option linter.unusedVariables false
def tl (x : Int) : Int := if x > 3 then 2 else x
def nt (x : Int) : Int := if x = 0 then 3 else if x = 3 then 0 else tl x
def mf (m : List Int) (a : Int) : Int := m.foldl mn a

theorem u8_wf {x : Int} (h : (Lit.int .u8 x).wf = true) : 0 ≤ x ∧ x < 256 := by
  simp [Lit.wf, IntKind.min, IntKind.max, IntKind.signed, IntKind.bits] at h
  omega

theorem mf_spec (m : List Int) : ∀ a, (mf m a = a ∨ mf m a ∈ m) ∧ mf m a ≤ a ∧ ∀ x ∈ m, mf m a ≤ x := by
  induction m with
  | nil => intro a; exact ⟨.inl rfl, Int.le_refl _, fun x hx => by cases hx⟩
  | cons y m ih =>
    intro a
    obtain ⟨h1, h2, h3⟩ := ih (mn a y)
    have e : mf (y :: m) a = mf m (mn a y) := rfl
    rw [e]
    have hm : (mn a y = a ∨ mn a y = y) ∧ mn a y ≤ a ∧ mn a y ≤ y := by unfold mn; split <;> omega
    refine ⟨?_, by omega, fun x hx => ?_⟩
    · rcases h1 with h1 | h1
      · rcases hm.1 with h | h
        · exact .inl (h1.trans h)
        · exact .inr (by rw [h1, h]; exact List.mem_cons_self)
      · exact .inr (List.mem_cons_of_mem _ h1)
    · rcases List.mem_cons.1 hx with rfl | hx
      · omega
      · exact h3 x hx

theorem mf_le_of_mem {m m' : List Int} {a : Int} (h : ∀ x ∈ m, x ∈ m') : mf m' a ≤ mf m a := by
  obtain ⟨h1, h2, h3⟩ := mf_spec m a
  obtain ⟨_, k2, k3⟩ := mf_spec m' a
  rcases h1 with h1 | h1
  · omega
  · exact k3 _ (h _ h1)

theorem mf_eq_of_mem {m m' : List Int} {a : Int} (h : ∀ x, x ∈ m ↔ x ∈ m') : mf m a = mf m' a :=
  Int.le_antisymm (mf_le_of_mem fun x hx => (h x).2 hx) (mf_le_of_mem fun x hx => (h x).1 hx)

theorem mf_pair (A B : List Int) : mf [mf A 3, mf B 3] 3 = mf (A ++ B) 3 := by
  obtain ⟨a1, a2, a3⟩ := mf_spec A 3
  obtain ⟨b1, b2, b3⟩ := mf_spec B 3
  obtain ⟨c1, c2, c3⟩ := mf_spec (A ++ B) 3
  obtain ⟨d1, d2, d3⟩ := mf_spec [mf A 3, mf B 3] 3
  have da := d3 (mf A 3) (by simp)
  have db := d3 (mf B 3) (by simp)
  apply Int.le_antisymm
  · rcases c1 with h | h
    · omega
    · rcases List.mem_append.1 h with h | h
      · have := a3 _ h; omega
      · have := b3 _ h; omega
  · have ha : mf (A ++ B) 3 ≤ mf A 3 := by
      rcases a1 with h | h
      · omega
      · exact c3 _ (List.mem_append_left _ h)
    have hb : mf (A ++ B) 3 ≤ mf B 3 := by
      rcases b1 with h | h
      · omega
      · exact c3 _ (List.mem_append_right _ h)
    rcases d1 with h | h
    · omega
    · have h : mf [mf A 3, mf B 3] 3 = mf A 3 ∨ mf [mf A 3, mf B 3] 3 = mf B 3 := by simpa using h
      omega

theorem tl_rng {x : Int} (h : 0 ≤ x) : 0 ≤ tl x ∧ tl x ≤ 3 := by unfold tl; split <;> omega
theorem nt_rng {x : Int} (h : 0 ≤ x) : 0 ≤ nt x ∧ nt x ≤ 3 := by
  have := tl_rng h
  unfold nt; split <;> (try split) <;> omega
theorem tl_id {x : Int} (h : x ≤ 3) : tl x = x := by unfold tl; split <;> omega
theorem nt_nt {x : Int} (h : 0 ≤ x) : nt (nt x) = tl x := by
  unfold nt tl; repeat' split
  all_goals omega
theorem mf_rng {m : List Int} (h : ∀ x ∈ m, 0 ≤ x) : 0 ≤ mf m 3 ∧ mf m 3 ≤ 3 := by
  obtain ⟨h1, h2, h3⟩ := mf_spec m 3
  refine ⟨?_, h2⟩
  rcases h1 with e | e
  · omega
  · exact h _ e

theorem drop_rd (l : List Int) (i : Nat) (h : i < l.length) : l.drop i = rd l (i : Int) :: l.drop (i + 1) := by
  rw [List.drop_eq_getElem_cons h]
  simp [rd, h]
theorem wrap_succ {i n : Nat} (h : i < n) (hn : n ≤ 140737488351232) : wrap64 ((i : Int) + 1) = ((i + 1 : Nat) : Int) := by
  unfold wrap64; omega

theorem told_f (x : Int) : logic_told.f x = some (tl x) := by unfold logic_told.f tl; split <;> rfl
theorem not_f (x : Int) : logic_Not.f x = some (nt x) := by
  unfold logic_Not.f nt
  split
  · rfl
  · split
    · rfl
    · rw [told_f]; rfl

theorem and_l0 (l : List Int) (hn : l.length ≤ 140737488351232) (d : Nat) : ∀ (k i : Nat) (acc : Int), i ≤ l.length → l.length - i = d → d < k →
    logic_And.l0 k acc l (l.length : Int) (i : Int) = some (mf ((l.drop i).map tl) acc) := by
  induction d with
  | zero =>
    intro k i acc hi hd hk
    obtain ⟨k, rfl⟩ : ∃ m, k = m + 1 := ⟨k - 1, by omega⟩
    simp only [logic_And.l0]
    rw [if_neg (by omega), List.drop_of_length_le (by omega)]; rfl
  | succ d ih =>
    intro k i acc hi hd hk
    obtain ⟨k, rfl⟩ : ∃ m, k = m + 1 := ⟨k - 1, by omega⟩
    have hlt : i < l.length := by omega
    simp only [logic_And.l0]
    rw [if_pos (by omega), if_pos (by omega), if_pos (by omega), told_f]
    simp only [Option.bind_some]
    rw [wrap_succ hlt hn, ih k (i + 1) _ (by omega) (by omega) (by omega), drop_rd l i hlt]; rfl
theorem and_f (l : List Int) (hn : l.length ≤ 140737488351232) (k : Nat) (hk : l.length < k) : logic_And.f k l = some (mf (l.map tl) 3) := by
  have := and_l0 l hn l.length k 0 3 (by omega) (by omega) hk
  simpa [logic_And.f] using this

theorem or_l0 (l : List Int) (hn : l.length ≤ 140737488351232) (d : Nat) : ∀ (k i : Nat) (acc : Int), i ≤ l.length → l.length - i = d → d < k →
    logic_Or.l0 k acc l (l.length : Int) (i : Int) = some (nt (mf ((l.drop i).map nt) acc)) := by
  induction d with
  | zero =>
    intro k i acc hi hd hk
    obtain ⟨k, rfl⟩ : ∃ m, k = m + 1 := ⟨k - 1, by omega⟩
    simp only [logic_Or.l0]
    rw [if_neg (by omega), List.drop_of_length_le (by omega), not_f]; rfl
  | succ d ih =>
    intro k i acc hi hd hk
    obtain ⟨k, rfl⟩ : ∃ m, k = m + 1 := ⟨k - 1, by omega⟩
    have hlt : i < l.length := by omega
    simp only [logic_Or.l0]
    rw [if_pos (by omega), if_pos (by omega), if_pos (by omega), not_f]
    simp only [Option.bind_some]
    rw [wrap_succ hlt hn, ih k (i + 1) _ (by omega) (by omega) (by omega), drop_rd l i hlt]; rfl
theorem or_f (l : List Int) (hn : l.length ≤ 140737488351232) (k : Nat) (hk : l.length < k) : logic_Or.f k l = some (nt (mf (l.map nt) 3)) := by
  have := or_l0 l hn l.length k 0 3 (by omega) (by omega) hk
  simpa [logic_Or.f] using this

theorem fixed_f (k : Nat) (hk : 5 < k) : rowlocklaw02_fixed.f k = some true := by
  unfold rowlocklaw02_fixed.f
  rw [and_f _ (by simp) k (by simp; omega), or_f _ (by simp) k (by simp; omega), and_f _ (by simp) k (by simp; omega), or_f _ (by simp) k (by simp; omega)]
  decide

theorem nt_of_tl {x : Int} (h : 0 ≤ x) : nt (tl x) = nt x := by
  unfold nt tl; repeat' split
  all_goals omega
theorem tl_of_nt {x : Int} (h : 0 ≤ x) : tl (nt x) = nt x := tl_id (nt_rng h).2
theorem rtold_f {x : Int} (h : 0 ≤ x ∧ x < 256) : rowlockref02_Told.f x = some (tl x) := by
  unfold rowlockref02_Told.f tl
  split
  · rfl
  · rw [show wrap64 x = x by unfold wrap64; omega]
theorem rd_mem (l : List Int) (i : Nat) (h : i < l.length) : rd l (i : Int) ∈ l := by
  simp [rd, h]
theorem wrap_small {x : Int} (h : 0 ≤ x) (h' : x ≤ 3) : wrap64 x = x := by unfold wrap64; omega

theorem end_f (l : List Int) (hw : ∀ x ∈ l, 0 ≤ x ∧ x < 256) (hn : l.length ≤ 3000) (k : Nat) (hk : l.length + 6 < k) :
    ((rowlocklaw02_fixed.f k).bind fun t126 => (if t126 = true then ((logic_And.f k l).bind fun t127 => ((logic_Not.f t127).bind fun t128 => ((logic_Or.f k (l.map nt)).bind fun t129 => (if t128 = t129 then ((logic_Or.f k l).bind fun t130 => ((logic_Not.f t130).bind fun t131 => ((logic_And.f k (l.map nt)).bind fun t132 => (some (t131 == t132))))) else (some false))))) else (some false))) = some true := by
  have h0 : ∀ x ∈ l, 0 ≤ x := fun x hx => (hw x hx).1
  have e1 : (l.map nt).map nt = l.map tl := by
    rw [List.map_map]
    exact List.map_congr_left fun x hx => nt_nt (h0 x hx)
  have e2 : (l.map nt).map tl = l.map nt := by
    rw [List.map_map]
    exact List.map_congr_left fun x hx => tl_of_nt (h0 x hx)
  have ro := mf_rng (m := l.map nt) fun x hx => by
    obtain ⟨y, hy, rfl⟩ := List.mem_map.1 hx
    exact (nt_rng (h0 y hy)).1
  rw [fixed_f _ (by omega), and_f l (by omega) _ (by omega), or_f l (by omega) _ (by omega), and_f (l.map nt) (by simp; omega) _ (by simp; omega), or_f (l.map nt) (by simp; omega) _ (by simp; omega), e1, e2]
  simp only [Option.bind_some, if_true, not_f]
  rw [nt_nt ro.1, tl_id ro.2]
  simp

theorem turned_l0 (l : List Int) (hw : ∀ x ∈ l, 0 ≤ x ∧ x < 256) (hn : l.length ≤ 3000) (d : Nat) : ∀ (k i : Nat), i ≤ l.length → l.length - i = d → d + (l.length + 10) < k →
    rowlocklaw02_LogicTurned.l0 k l ((l.take i).map nt) l (l.length : Int) (i : Int) = some true := by
  induction d with
  | zero =>
    intro k i hi hd hk
    obtain ⟨k, rfl⟩ : ∃ m, k = m + 1 := ⟨k - 1, by omega⟩
    simp only [rowlocklaw02_LogicTurned.l0]
    rw [if_neg (by omega), List.take_of_length_le (by omega)]
    exact end_f l hw hn k (by omega)
  | succ d ih =>
    intro k i hi hd hk
    obtain ⟨k, rfl⟩ : ∃ m, k = m + 1 := ⟨k - 1, by omega⟩
    have hlt : i < l.length := by omega
    have hx := hw _ (rd_mem l i hlt)
    have ht := tl_rng hx.1
    simp only [rowlocklaw02_LogicTurned.l0]
    rw [if_pos (by omega), if_pos (by omega), if_pos (by omega), not_f]
    simp only [Option.bind_some]
    rw [if_pos (by simp; omega), not_f, rtold_f hx]
    simp only [Option.bind_some]
    rw [nt_nt hx.1, wrap_small ht.1 ht.2, if_pos rfl, wrap_succ hlt (by omega)]
    have e : (l.take i).map nt ++ [nt (rd l (i : Int))] = (l.take (i + 1)).map nt := by
      rw [List.take_succ_eq_append_getElem hlt, List.map_append]
      simp only [rd, Int.toNat_natCast, List.map_cons, List.map_nil, List.getD_eq_getElem?_getD, List.getElem?_eq_getElem hlt, Option.getD_some]
    rw [e]
    exact ih k (i + 1) (by omega) (by omega) (by omega)

theorem LogicTurned : rowlocklaw02_LogicTurned.Pure := by
  intro l _ hs hw
  have hw : ∀ x ∈ l, 0 ≤ x ∧ x < 256 := fun x hx => u8_wf (hw x hx)
  refine ⟨2 * l.length + 20, ?_⟩
  unfold rowlocklaw02_LogicTurned.f
  by_cases hl : (l.length : Int) > 3000
  · rw [if_pos hl, fixed_f _ (by omega)]; rfl
  · rw [if_neg hl]
    exact turned_l0 l hw (by omega) l.length _ 0 (by omega) (by omega) (by omega)

end Go.Proofs.Ytegegpdaalfbdaa.Pure
