/- Pure part of LogicValues: values as truths, and truths as values, are as said; no conditions. -/
import Derived.Test.YtegegpdaalfbdaaPLogicValuesx3
namespace Go.Proofs.Ytegegpdaalfbdaa.Pure
open Go.RowKit Go.Proofs.Ytegegpdaalfbdaa.PLogicValues Go.Proofs.YtegegpdaalfbdaaW.PrintWords Go.Proofs.YtegegpdaalfbdaaW.PrintLast
set_option linter.unusedVariables false
def tl (x : Int) : Int := if x > 3 then 2 else x
def nt (x : Int) : Int := if x = 0 then 3 else if x = 3 then 0 else tl x
def mf (m : List Int) (a : Int) : Int := m.foldl mn a

theorem u8_wf {x : Int} (h : (Lit.int .u8 x).wf = true) : 0 ≤ x ∧ x < 256 := by
  simp [Lit.wf, IntKind.min, IntKind.max, IntKind.signed, IntKind.bits] at h
  omega

theorem mf_spec (m : List Int) : ∀ a, (mf m a = a ∨ mf m a ∈ m) ∧ mf m a ≤ a ∧ ∀ x ∈ m, mf m a ≤ x := by
  induction m with
  | nil => intro a; exact ⟨.inl rfl, Int.le_refl _, fun x hx => by cases hx⟩
  | cons y m ih =>
    intro a
    obtain ⟨h1, h2, h3⟩ := ih (mn a y)
    have e : mf (y :: m) a = mf m (mn a y) := rfl
    rw [e]
    have hm : (mn a y = a ∨ mn a y = y) ∧ mn a y ≤ a ∧ mn a y ≤ y := by unfold mn; split <;> omega
    refine ⟨?_, by omega, fun x hx => ?_⟩
    · rcases h1 with h1 | h1
      · rcases hm.1 with h | h
        · exact .inl (h1.trans h)
        · exact .inr (by rw [h1, h]; exact List.mem_cons_self)
      · exact .inr (List.mem_cons_of_mem _ h1)
    · rcases List.mem_cons.1 hx with rfl | hx
      · omega
      · exact h3 x hx

theorem mf_le_of_mem {m m' : List Int} {a : Int} (h : ∀ x ∈ m, x ∈ m') : mf m' a ≤ mf m a := by
  obtain ⟨h1, h2, h3⟩ := mf_spec m a
  obtain ⟨_, k2, k3⟩ := mf_spec m' a
  rcases h1 with h1 | h1
  · omega
  · exact k3 _ (h _ h1)

theorem mf_eq_of_mem {m m' : List Int} {a : Int} (h : ∀ x, x ∈ m ↔ x ∈ m') : mf m a = mf m' a :=
  Int.le_antisymm (mf_le_of_mem fun x hx => (h x).2 hx) (mf_le_of_mem fun x hx => (h x).1 hx)

theorem mf_pair (A B : List Int) : mf [mf A 3, mf B 3] 3 = mf (A ++ B) 3 := by
  obtain ⟨a1, a2, a3⟩ := mf_spec A 3
  obtain ⟨b1, b2, b3⟩ := mf_spec B 3
  obtain ⟨c1, c2, c3⟩ := mf_spec (A ++ B) 3
  obtain ⟨d1, d2, d3⟩ := mf_spec [mf A 3, mf B 3] 3
  have da := d3 (mf A 3) (by simp)
  have db := d3 (mf B 3) (by simp)
  apply Int.le_antisymm
  · rcases c1 with h | h
    · omega
    · rcases List.mem_append.1 h with h | h
      · have := a3 _ h; omega
      · have := b3 _ h; omega
  · have ha : mf (A ++ B) 3 ≤ mf A 3 := by
      rcases a1 with h | h
      · omega
      · exact c3 _ (List.mem_append_left _ h)
    have hb : mf (A ++ B) 3 ≤ mf B 3 := by
      rcases b1 with h | h
      · omega
      · exact c3 _ (List.mem_append_right _ h)
    rcases d1 with h | h
    · omega
    · have h : mf [mf A 3, mf B 3] 3 = mf A 3 ∨ mf [mf A 3, mf B 3] 3 = mf B 3 := by simpa using h
      omega

theorem tl_rng {x : Int} (h : 0 ≤ x) : 0 ≤ tl x ∧ tl x ≤ 3 := by unfold tl; split <;> omega
theorem nt_rng {x : Int} (h : 0 ≤ x) : 0 ≤ nt x ∧ nt x ≤ 3 := by
  have := tl_rng h
  unfold nt; split <;> (try split) <;> omega
theorem tl_id {x : Int} (h : x ≤ 3) : tl x = x := by unfold tl; split <;> omega
theorem nt_nt {x : Int} (h : 0 ≤ x) : nt (nt x) = tl x := by
  unfold nt tl; repeat' split
  all_goals omega
theorem mf_rng {m : List Int} (h : ∀ x ∈ m, 0 ≤ x) : 0 ≤ mf m 3 ∧ mf m 3 ≤ 3 := by
  obtain ⟨h1, h2, h3⟩ := mf_spec m 3
  refine ⟨?_, h2⟩
  rcases h1 with e | e
  · omega
  · exact h _ e

theorem drop_rd (l : List Int) (i : Nat) (h : i < l.length) : l.drop i = rd l (i : Int) :: l.drop (i + 1) := by
  rw [List.drop_eq_getElem_cons h]
  simp [rd, h]
theorem wrap_succ {i n : Nat} (h : i < n) (hn : n ≤ 140737488351232) : wrap64 ((i : Int) + 1) = ((i + 1 : Nat) : Int) := by
  unfold wrap64; omega

theorem told_f (x : Int) : logic_told.f x = some (tl x) := by unfold logic_told.f tl; split <;> rfl
theorem not_f (x : Int) : logic_Not.f x = some (nt x) := by
  unfold logic_Not.f nt
  split
  · rfl
  · split
    · rfl
    · rw [told_f]; rfl

theorem and_l0 (l : List Int) (hn : l.length ≤ 140737488351232) (d : Nat) : ∀ (k i : Nat) (acc : Int), i ≤ l.length → l.length - i = d → d < k →
    logic_And.l0 k acc l (l.length : Int) (i : Int) = some (mf ((l.drop i).map tl) acc) := by
  induction d with
  | zero =>
    intro k i acc hi hd hk
    obtain ⟨k, rfl⟩ : ∃ m, k = m + 1 := ⟨k - 1, by omega⟩
    simp only [logic_And.l0]
    rw [if_neg (by omega), List.drop_of_length_le (by omega)]; rfl
  | succ d ih =>
    intro k i acc hi hd hk
    obtain ⟨k, rfl⟩ : ∃ m, k = m + 1 := ⟨k - 1, by omega⟩
    have hlt : i < l.length := by omega
    simp only [logic_And.l0]
    rw [if_pos (by omega), if_pos (by omega), if_pos (by omega), told_f]
    simp only [Option.bind_some]
    rw [wrap_succ hlt hn, ih k (i + 1) _ (by omega) (by omega) (by omega), drop_rd l i hlt]; rfl
theorem and_f (l : List Int) (hn : l.length ≤ 140737488351232) (k : Nat) (hk : l.length < k) : logic_And.f k l = some (mf (l.map tl) 3) := by
  have := and_l0 l hn l.length k 0 3 (by omega) (by omega) hk
  simpa [logic_And.f] using this

theorem or_l0 (l : List Int) (hn : l.length ≤ 140737488351232) (d : Nat) : ∀ (k i : Nat) (acc : Int), i ≤ l.length → l.length - i = d → d < k →
    logic_Or.l0 k acc l (l.length : Int) (i : Int) = some (nt (mf ((l.drop i).map nt) acc)) := by
  induction d with
  | zero =>
    intro k i acc hi hd hk
    obtain ⟨k, rfl⟩ : ∃ m, k = m + 1 := ⟨k - 1, by omega⟩
    simp only [logic_Or.l0]
    rw [if_neg (by omega), List.drop_of_length_le (by omega), not_f]; rfl
  | succ d ih =>
    intro k i acc hi hd hk
    obtain ⟨k, rfl⟩ : ∃ m, k = m + 1 := ⟨k - 1, by omega⟩
    have hlt : i < l.length := by omega
    simp only [logic_Or.l0]
    rw [if_pos (by omega), if_pos (by omega), if_pos (by omega), not_f]
    simp only [Option.bind_some]
    rw [wrap_succ hlt hn, ih k (i + 1) _ (by omega) (by omega) (by omega), drop_rd l i hlt]; rfl
theorem or_f (l : List Int) (hn : l.length ≤ 140737488351232) (k : Nat) (hk : l.length < k) : logic_Or.f k l = some (nt (mf (l.map nt) 3)) := by
  have := or_l0 l hn l.length k 0 3 (by omega) (by omega) hk
  simpa [logic_Or.f] using this

theorem fixed_f (k : Nat) (hk : 5 < k) : rowlocklaw02_fixed.f k = some true := by
  unfold rowlocklaw02_fixed.f
  rw [and_f _ (by simp) k (by simp; omega), or_f _ (by simp) k (by simp; omega), and_f _ (by simp) k (by simp; omega), or_f _ (by simp) k (by simp; omega)]
  decide

def ofv (a b : Int) : Int := if a = 0 then 1 else if a = 2 then (if b = 0 then 0 else 3) else 2
theorem of_f (a b : Int) (s : ByteArray) : logic_Of.f a b s = some (ofv a b) := by
  unfold logic_Of.f ofv logic_of.f
  by_cases h0 : a = 0
  · rw [if_pos h0, if_pos h0]
  · rw [if_neg h0, if_neg h0]
    by_cases h2 : a = 2
    · rw [if_pos h2, if_pos h2]
      by_cases hb : b = 0
      · subst hb; rfl
      · have : (b != 0) = true := bne_iff_ne.mpr hb
        rw [this, if_neg hb]; rfl
    · rw [if_neg h2, if_neg h2]
theorem rof_f (a b : Int) (s : ByteArray) : rowlockref02_Of.f a b s = some (ofv a b) := by
  unfold rowlockref02_Of.f ofv
  repeat' split
  all_goals rfl
theorem ofv_wrap (a b : Int) : wrap64 (ofv a b) = ofv a b := by
  have h : 0 ≤ ofv a b ∧ ofv a b ≤ 3 := by
    unfold ofv
    repeat' split
    all_goals omega
  unfold wrap64
  omega
theorem j0_f (a b : Int) (s : ByteArray) (k : Nat) (hk : 10 < k) : rowlocklaw02_LogicValues.j0 k false a b s = some true := by
  obtain ⟨k, rfl⟩ : ∃ m, k = m + 1 := ⟨k - 1, by omega⟩
  simp only [rowlocklaw02_LogicValues.j0]
  rw [if_neg (by simp), fixed_f _ (by omega)]
  simp only [Option.bind_some, if_true]
  rw [of_f, rof_f]
  simp only [Option.bind_some, ofv_wrap]
  simp
theorem LogicValues (a b : Int) (s : ByteArray) (t : Int) (ht : (Lit.int .u8 t).wf = true) : ∃ k, rowlocklaw02_LogicValues.f k a b s t = some true := by
  have ht := u8_wf ht
  refine ⟨20, ?_⟩
  have hj := j0_f a b s 20 (by omega)
  unfold rowlocklaw02_LogicValues.f
  by_cases h4 : t ≤ 3
  · have hc : t = 0 ∨ t = 1 ∨ t = 2 ∨ t = 3 := by omega
    rcases hc with rfl | rfl | rfl | rfl
    · simpa [logic_Value.f, of_f, ofv] using hj
    · simpa [logic_Value.f, of_f, ofv] using hj
    · simpa [logic_Value.f, of_f, ofv] using hj
    · simpa [logic_Value.f, of_f, ofv] using hj
  · have e : logic_Value.f t = some (0, 0, (⟨#[]⟩ : ByteArray), false) := by
      unfold logic_Value.f
      rw [if_neg (by omega), if_neg (by omega), if_neg (by omega)]
    rw [e]
    simp only [Option.bind_some]
    rw [if_neg h4]
    simpa using hj
end Go.Proofs.Ytegegpdaalfbdaa.Pure
