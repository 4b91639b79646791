/- Pure part of LogicIs: And, Or and Not of any truths are what the reference tells; no conditions. -/
import Derived.Test.YtegegpdaalfbdaaTLogicIs
namespace Go.Proofs.Ytegegpdaalfbdaa.Pure
open Go.RowKit Go.Proofs.Ytegegpdaalfbdaa.PLogicIs Go.Proofs.YtegegpdaalfbdaaW.PrintWords Go.Proofs.YtegegpdaalfbdaaW.PrintLast
set_option linter.unusedVariables false
def tl (x : Int) : Int := if x > 3 then 2 else x
def nt (x : Int) : Int := if x = 0 then 3 else if x = 3 then 0 else tl x
def mf (m : List Int) (a : Int) : Int := m.foldl mn a

theorem u8_wf {x : Int} (h : (Lit.int .u8 x).wf = true) : 0 ≤ x ∧ x < 256 := by
  simp [Lit.wf, IntKind.min, IntKind.max, IntKind.signed, IntKind.bits] at h
  omega

theorem mf_spec (m : List Int) : ∀ a, (mf m a = a ∨ mf m a ∈ m) ∧ mf m a ≤ a ∧ ∀ x ∈ m, mf m a ≤ x := by
  induction m with
  | nil => intro a; exact ⟨.inl rfl, Int.le_refl _, fun x hx => by cases hx⟩
  | cons y m ih =>
    intro a
    obtain ⟨h1, h2, h3⟩ := ih (mn a y)
    have e : mf (y :: m) a = mf m (mn a y) := rfl
    rw [e]
    have hm : (mn a y = a ∨ mn a y = y) ∧ mn a y ≤ a ∧ mn a y ≤ y := by unfold mn; split <;> omega
    refine ⟨?_, by omega, fun x hx => ?_⟩
    · rcases h1 with h1 | h1
      · rcases hm.1 with h | h
        · exact .inl (h1.trans h)
        · exact .inr (by rw [h1, h]; exact List.mem_cons_self)
      · exact .inr (List.mem_cons_of_mem _ h1)
    · rcases List.mem_cons.1 hx with rfl | hx
      · omega
      · exact h3 x hx

theorem mf_le_of_mem {m m' : List Int} {a : Int} (h : ∀ x ∈ m, x ∈ m') : mf m' a ≤ mf m a := by
  obtain ⟨h1, h2, h3⟩ := mf_spec m a
  obtain ⟨_, k2, k3⟩ := mf_spec m' a
  rcases h1 with h1 | h1
  · omega
  · exact k3 _ (h _ h1)

theorem mf_eq_of_mem {m m' : List Int} {a : Int} (h : ∀ x, x ∈ m ↔ x ∈ m') : mf m a = mf m' a :=
  Int.le_antisymm (mf_le_of_mem fun x hx => (h x).2 hx) (mf_le_of_mem fun x hx => (h x).1 hx)

theorem mf_pair (A B : List Int) : mf [mf A 3, mf B 3] 3 = mf (A ++ B) 3 := by
  obtain ⟨a1, a2, a3⟩ := mf_spec A 3
  obtain ⟨b1, b2, b3⟩ := mf_spec B 3
  obtain ⟨c1, c2, c3⟩ := mf_spec (A ++ B) 3
  obtain ⟨d1, d2, d3⟩ := mf_spec [mf A 3, mf B 3] 3
  have da := d3 (mf A 3) (by simp)
  have db := d3 (mf B 3) (by simp)
  apply Int.le_antisymm
  · rcases c1 with h | h
    · omega
    · rcases List.mem_append.1 h with h | h
      · have := a3 _ h; omega
      · have := b3 _ h; omega
  · have ha : mf (A ++ B) 3 ≤ mf A 3 := by
      rcases a1 with h | h
      · omega
      · exact c3 _ (List.mem_append_left _ h)
    have hb : mf (A ++ B) 3 ≤ mf B 3 := by
      rcases b1 with h | h
      · omega
      · exact c3 _ (List.mem_append_right _ h)
    rcases d1 with h | h
    · omega
    · have h : mf [mf A 3, mf B 3] 3 = mf A 3 ∨ mf [mf A 3, mf B 3] 3 = mf B 3 := by simpa using h
      omega

theorem tl_rng {x : Int} (h : 0 ≤ x) : 0 ≤ tl x ∧ tl x ≤ 3 := by unfold tl; split <;> omega
theorem nt_rng {x : Int} (h : 0 ≤ x) : 0 ≤ nt x ∧ nt x ≤ 3 := by
  have := tl_rng h
  unfold nt; split <;> (try split) <;> omega
theorem tl_id {x : Int} (h : x ≤ 3) : tl x = x := by unfold tl; split <;> omega
theorem nt_nt {x : Int} (h : 0 ≤ x) : nt (nt x) = tl x := by
  unfold nt tl; repeat' split
  all_goals omega
theorem mf_rng {m : List Int} (h : ∀ x ∈ m, 0 ≤ x) : 0 ≤ mf m 3 ∧ mf m 3 ≤ 3 := by
  obtain ⟨h1, h2, h3⟩ := mf_spec m 3
  refine ⟨?_, h2⟩
  rcases h1 with e | e
  · omega
  · exact h _ e

theorem drop_rd (l : List Int) (i : Nat) (h : i < l.length) : l.drop i = rd l (i : Int) :: l.drop (i + 1) := by
  rw [List.drop_eq_getElem_cons h]
  simp [rd, h]
theorem wrap_succ {i n : Nat} (h : i < n) (hn : n ≤ 140737488351232) : wrap64 ((i : Int) + 1) = ((i + 1 : Nat) : Int) := by
  unfold wrap64; omega

theorem told_f (x : Int) : logic_told.f x = some (tl x) := by unfold logic_told.f tl; split <;> rfl
theorem not_f (x : Int) : logic_Not.f x = some (nt x) := by
  unfold logic_Not.f nt
  split
  · rfl
  · split
    · rfl
    · rw [told_f]; rfl

theorem and_l0 (l : List Int) (hn : l.length ≤ 140737488351232) (d : Nat) : ∀ (k i : Nat) (acc : Int), i ≤ l.length → l.length - i = d → d < k →
    logic_And.l0 k acc l (l.length : Int) (i : Int) = some (mf ((l.drop i).map tl) acc) := by
  induction d with
  | zero =>
    intro k i acc hi hd hk
    obtain ⟨k, rfl⟩ : ∃ m, k = m + 1 := ⟨k - 1, by omega⟩
    simp only [logic_And.l0]
    rw [if_neg (by omega), List.drop_of_length_le (by omega)]; rfl
  | succ d ih =>
    intro k i acc hi hd hk
    obtain ⟨k, rfl⟩ : ∃ m, k = m + 1 := ⟨k - 1, by omega⟩
    have hlt : i < l.length := by omega
    simp only [logic_And.l0]
    rw [if_pos (by omega), if_pos (by omega), if_pos (by omega), told_f]
    simp only [Option.bind_some]
    rw [wrap_succ hlt hn, ih k (i + 1) _ (by omega) (by omega) (by omega), drop_rd l i hlt]; rfl
theorem and_f (l : List Int) (hn : l.length ≤ 140737488351232) (k : Nat) (hk : l.length < k) : logic_And.f k l = some (mf (l.map tl) 3) := by
  have := and_l0 l hn l.length k 0 3 (by omega) (by omega) hk
  simpa [logic_And.f] using this

theorem or_l0 (l : List Int) (hn : l.length ≤ 140737488351232) (d : Nat) : ∀ (k i : Nat) (acc : Int), i ≤ l.length → l.length - i = d → d < k →
    logic_Or.l0 k acc l (l.length : Int) (i : Int) = some (nt (mf ((l.drop i).map nt) acc)) := by
  induction d with
  | zero =>
    intro k i acc hi hd hk
    obtain ⟨k, rfl⟩ : ∃ m, k = m + 1 := ⟨k - 1, by omega⟩
    simp only [logic_Or.l0]
    rw [if_neg (by omega), List.drop_of_length_le (by omega), not_f]; rfl
  | succ d ih =>
    intro k i acc hi hd hk
    obtain ⟨k, rfl⟩ : ∃ m, k = m + 1 := ⟨k - 1, by omega⟩
    have hlt : i < l.length := by omega
    simp only [logic_Or.l0]
    rw [if_pos (by omega), if_pos (by omega), if_pos (by omega), not_f]
    simp only [Option.bind_some]
    rw [wrap_succ hlt hn, ih k (i + 1) _ (by omega) (by omega) (by omega), drop_rd l i hlt]; rfl
theorem or_f (l : List Int) (hn : l.length ≤ 140737488351232) (k : Nat) (hk : l.length < k) : logic_Or.f k l = some (nt (mf (l.map nt) 3)) := by
  have := or_l0 l hn l.length k 0 3 (by omega) (by omega) hk
  simpa [logic_Or.f] using this

theorem fixed_f (k : Nat) (hk : 5 < k) : rowlocklaw02_fixed.f k = some true := by
  unfold rowlocklaw02_fixed.f
  rw [and_f _ (by simp) k (by simp; omega), or_f _ (by simp) k (by simp; omega), and_f _ (by simp) k (by simp; omega), or_f _ (by simp) k (by simp; omega)]
  decide

theorem has_l0 (l : List Int) (a : Int) (hn : l.length ≤ 140737488351232) (d : Nat) : ∀ (k i : Nat), i ≤ l.length → l.length - i = d → d < k →
    rowlockref02_has.l0 k l a (l.length : Int) (i : Int) = some (decide (a ∈ l.drop i)) := by
  induction d with
  | zero =>
    intro k i hi hd hk
    obtain ⟨k, rfl⟩ : ∃ m, k = m + 1 := ⟨k - 1, by omega⟩
    simp only [rowlockref02_has.l0]
    rw [if_neg (by omega), List.drop_of_length_le (by omega)]; rfl
  | succ d ih =>
    intro k i hi hd hk
    obtain ⟨k, rfl⟩ : ∃ m, k = m + 1 := ⟨k - 1, by omega⟩
    have hlt : i < l.length := by omega
    simp only [rowlockref02_has.l0]
    rw [if_pos (by omega), if_pos (by omega), if_pos (by omega), wrap_succ hlt hn, ih k (i + 1) (by omega) (by omega) (by omega), drop_rd l i hlt]
    by_cases h : rd l (i : Int) = a
    · rw [if_pos h]; simp [h]
    · rw [if_neg h]
      have h' : ¬ a = rd l (i : Int) := fun e => h e.symm
      simp [h']
theorem has_f (l : List Int) (a : Int) (hn : l.length ≤ 140737488351232) (k : Nat) (hk : l.length < k) : rowlockref02_has.f k l a = some (decide (a ∈ l)) := by
  have := has_l0 l a hn l.length k 0 (by omega) (by omega) hk
  simpa [rowlockref02_has.f] using this

theorem rtold_f {x : Int} (h : 0 ≤ x ∧ x < 256) : rowlockref02_Told.f x = some (tl x) := by
  unfold rowlockref02_Told.f tl
  split
  · rfl
  · rw [show wrap64 x = x by unfold wrap64; omega]

theorem rd_mem (l : List Int) (i : Nat) (h : i < l.length) : rd l (i : Int) ∈ l := by
  simp [rd, h]

theorem tolds_l0 (l : List Int) (hw : ∀ x ∈ l, 0 ≤ x ∧ x < 256) (hn : l.length ≤ 3000) (d : Nat) : ∀ (k i : Nat) (acc : List Int), i ≤ l.length → acc.length = i → l.length - i = d → d < k →
    rowlocklaw02_told.l0 k acc l (l.length : Int) (i : Int) = some (acc ++ (l.drop i).map tl) := by
  induction d with
  | zero =>
    intro k i acc hi ha hd hk
    obtain ⟨k, rfl⟩ : ∃ m, k = m + 1 := ⟨k - 1, by omega⟩
    simp only [rowlocklaw02_told.l0]
    rw [if_neg (by omega), List.drop_of_length_le (by omega)]; simp
  | succ d ih =>
    intro k i acc hi ha hd hk
    obtain ⟨k, rfl⟩ : ∃ m, k = m + 1 := ⟨k - 1, by omega⟩
    have hlt : i < l.length := by omega
    simp only [rowlocklaw02_told.l0]
    rw [if_pos (by omega), if_pos (by omega), if_pos (by omega), rtold_f (hw _ (rd_mem l i hlt))]
    simp only [Option.bind_some]
    rw [if_pos (by omega), wrap_succ hlt (by omega), ih k (i + 1) _ (by omega) (by simp [ha]) (by omega) (by omega), drop_rd l i hlt]
    simp
theorem tolds_f (l : List Int) (hw : ∀ x ∈ l, 0 ≤ x ∧ x < 256) (hn : l.length ≤ 3000) (k : Nat) (hk : l.length < k) : rowlocklaw02_told.f k l = some (l.map tl) := by
  have := tolds_l0 l hw hn l.length k 0 [] (by omega) rfl (by omega) hk
  simpa [rowlocklaw02_told.f] using this

theorem rand_f (m : List Int) (hn : m.length ≤ 3000) (hm : ∀ x ∈ m, 0 ≤ x ∧ x ≤ 3) (k : Nat) (hk : m.length < k) : rowlockref02_And.f k m = some (mf m 3) := by
  unfold rowlockref02_And.f
  rw [has_f m 0 (by omega) k hk, has_f m 1 (by omega) k hk, has_f m 2 (by omega) k hk]
  obtain ⟨h1, h2, h3⟩ := mf_spec m 3
  have hr := mf_rng fun x hx => (hm x hx).1
  simp only [Option.bind_some, decide_eq_true_eq]
  by_cases c0 : (0 : Int) ∈ m
  · have := h3 _ c0
    rw [if_pos c0]; congr 1; omega
  · rw [if_neg c0]
    by_cases c1 : (1 : Int) ∈ m
    · have := h3 _ c1
      have : mf m 3 ≠ 0 := fun e => by
        rcases h1 with h1 | h1
        · omega
        · exact c0 (e ▸ h1)
      rw [if_pos c1]; congr 1; omega
    · rw [if_neg c1]
      have n0 : mf m 3 ≠ 0 := fun e => by
        rcases h1 with h1 | h1
        · omega
        · exact c0 (e ▸ h1)
      have n1 : mf m 3 ≠ 1 := fun e => by
        rcases h1 with h1 | h1
        · omega
        · exact c1 (e ▸ h1)
      by_cases c2 : (2 : Int) ∈ m
      · have := h3 _ c2
        rw [if_pos c2]; congr 1; omega
      · have n2 : mf m 3 ≠ 2 := fun e => by
          rcases h1 with h1 | h1
          · omega
          · exact c2 (e ▸ h1)
        rw [if_neg c2]; congr 1; omega

theorem nt_of_tl {x : Int} (h : 0 ≤ x) : nt (tl x) = nt x := by
  unfold nt tl; repeat' split
  all_goals omega

theorem ror_f (m : List Int) (hn : m.length ≤ 3000) (hm : ∀ x ∈ m, 0 ≤ x ∧ x ≤ 3) (k : Nat) (hk : m.length < k) : rowlockref02_Or.f k m = some (nt (mf (m.map nt) 3)) := by
  unfold rowlockref02_Or.f
  rw [has_f m 3 (by omega) k hk, has_f m 1 (by omega) k hk, has_f m 2 (by omega) k hk]
  obtain ⟨h1, h2, h3⟩ := mf_spec (m.map nt) 3
  have hr := mf_rng (m := m.map nt) fun x hx => by
    obtain ⟨y, hy, rfl⟩ := List.mem_map.1 hx
    exact (nt_rng (hm y hy).1).1
  have inv : ∀ x, 0 ≤ x → x ≤ 3 → ∀ y, 0 ≤ y → y ≤ 3 → nt x = y → x = nt y := by
    intro x hx hx' y hy hy' e
    have := nt_nt hx
    rw [e, tl_id hx'] at this
    exact this.symm
  have mem : ∀ y, 0 ≤ y → y ≤ 3 → (y ∈ m.map nt ↔ nt y ∈ m) := by
    intro y hy hy'
    constructor
    · intro h
      obtain ⟨x, hx, e⟩ := List.mem_map.1 h
      rw [← inv x (hm x hx).1 (hm x hx).2 y hy hy' e]; exact hx
    · intro h
      refine List.mem_map.2 ⟨_, h, ?_⟩
      rw [nt_nt hy, tl_id hy']
  have m0 : (0 : Int) ∈ m.map nt ↔ (3 : Int) ∈ m := mem 0 (by omega) (by omega)
  have m1 : (1 : Int) ∈ m.map nt ↔ (1 : Int) ∈ m := mem 1 (by omega) (by omega)
  have m2 : (2 : Int) ∈ m.map nt ↔ (2 : Int) ∈ m := mem 2 (by omega) (by omega)
  simp only [Option.bind_some, decide_eq_true_eq]
  have n0 : mf (m.map nt) 3 = 0 → (3 : Int) ∈ m := fun e => by
    rcases h1 with h1 | h1
    · omega
    · exact m0.1 (e ▸ h1)
  have n1 : mf (m.map nt) 3 = 1 → (1 : Int) ∈ m := fun e => by
    rcases h1 with h1 | h1
    · omega
    · exact m1.1 (e ▸ h1)
  have n2 : mf (m.map nt) 3 = 2 → (2 : Int) ∈ m := fun e => by
    rcases h1 with h1 | h1
    · omega
    · exact m2.1 (e ▸ h1)
  have fin : ∀ y, mf (m.map nt) 3 = y → nt (mf (m.map nt) 3) = nt y := fun y e => by rw [e]
  by_cases c0 : (3 : Int) ∈ m
  · have := h3 _ (m0.2 c0)
    rw [if_pos c0, fin 0 (by omega)]; rfl
  · rw [if_neg c0]
    have k0 : mf (m.map nt) 3 ≠ 0 := fun e => c0 (n0 e)
    by_cases c1 : (1 : Int) ∈ m
    · have := h3 _ (m1.2 c1)
      rw [if_pos c1, fin 1 (by omega)]; rfl
    · rw [if_neg c1]
      have k1 : mf (m.map nt) 3 ≠ 1 := fun e => c1 (n1 e)
      by_cases c2 : (2 : Int) ∈ m
      · have := h3 _ (m2.2 c2)
        rw [if_pos c2, fin 2 (by omega)]; rfl
      · have k2 : mf (m.map nt) 3 ≠ 2 := fun e => c2 (n2 e)
        rw [if_neg c2, fin 3 (by omega)]; rfl

theorem rnot_f {x : Int} (h : 0 ≤ x ∧ x < 256) : rowlockref02_Not.f (tl x) = some (nt x) := by
  have hr := tl_rng h.1
  have hx : tl x = 0 ∨ tl x = 1 ∨ tl x = 2 ∨ tl x = 3 := by omega
  rw [← nt_of_tl h.1]
  rcases hx with e | e | e | e <;> rw [e] <;> decide

theorem wrap_small {x : Int} (h : 0 ≤ x) (h' : x ≤ 3) : wrap64 x = x := by unfold wrap64; omega

theorem LogicIs : rowlocklaw02_LogicIs.Pure := by
  intro l a _ hs hw hwa
  have hw : ∀ x ∈ l, 0 ≤ x ∧ x < 256 := fun x hx => u8_wf (hw x hx)
  have ha := u8_wf hwa
  refine ⟨l.length + 10, ?_⟩
  unfold rowlocklaw02_LogicIs.f
  rw [fixed_f _ (by omega)]
  by_cases hl : (l.length : Int) > 3000
  · rw [if_pos hl]; rfl
  · rw [if_neg hl]
    have hm : ∀ x ∈ l.map tl, 0 ≤ x ∧ x ≤ 3 := fun x hx => by
      obtain ⟨y, hy, rfl⟩ := List.mem_map.1 hx
      exact tl_rng (hw y hy).1
    have hnn : (l.map tl).map nt = l.map nt := by
      rw [List.map_map]
      exact List.map_congr_left fun x hx => nt_of_tl (hw x hx).1
    have ra := mf_rng fun x hx => (hm x hx).1
    have ro := mf_rng (m := l.map nt) fun x hx => by
      obtain ⟨y, hy, rfl⟩ := List.mem_map.1 hx
      exact (nt_rng (hw y hy).1).1
    have rn := nt_rng ro.1
    have rq := nt_rng ha.1
    rw [and_f l (by omega) _ (by omega), or_f l (by omega) _ (by omega), tolds_f l hw (by omega) _ (by omega), not_f, rtold_f ha]
    simp only [Option.bind_some, if_true]
    rw [rand_f _ (by rw [List.length_map]; omega) hm _ (by rw [List.length_map]; omega)]
    simp only [Option.bind_some]
    rw [wrap_small ra.1 ra.2, if_pos rfl, ror_f _ (by rw [List.length_map]; omega) hm _ (by rw [List.length_map]; omega), hnn]
    simp only [Option.bind_some]
    rw [wrap_small rn.1 rn.2, if_pos rfl, rnot_f ha, wrap_small rq.1 rq.2]
    simp

end Go.Proofs.Ytegegpdaalfbdaa.Pure
