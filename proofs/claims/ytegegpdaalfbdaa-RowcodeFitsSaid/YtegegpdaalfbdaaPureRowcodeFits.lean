/- Pure part of RowcodeFits: whether a row's values are of some kinds is what the reference tells; no conditions. -/
import Derived.Test.YtegegpdaalfbdaaXRowcodeFitsx6
namespace Go.Proofs.Ytegegpdaalfbdaa.Pure
open Go.RowKit Go.Proofs.Ytegegpdaalfbdaa.XRowcodeFits Go.Proofs.YtegegpdaalfbdaaW.PrintWords Go.Proofs.YtegegpdaalfbdaaW.PrintLast
set_option linter.unusedVariables false
set_option linter.unusedSimpArgs false
/-- May a value be? -/
def mayv (k i : Int) (s : ByteArray) : Bool :=
  if k = 0 then decide (i = 0 ∧ s.toList = []) else if k = 1 then decide (s.toList = []) else if k = 2 then decide (s.toList = [] ∧ (i = 0 ∨ i = 1)) else
  if k = 3 then decide (i = 0 ∧ (s.size : Int) ≤ 48) else false
theorem may_f (k i : Int) (s : ByteArray) : val_May.f k i s = some (mayv k i s) := by
  unfold val_May.f mayv
  by_cases h0 : k = 0
  · rw [if_pos h0, if_pos h0]; subst h0; congr 1
    rw [Bool.eq_iff_iff]; simp
  · rw [if_neg h0, if_neg h0]
    by_cases h1 : k = 1
    · rw [if_pos h1, if_pos h1]; congr 1
      rw [Bool.eq_iff_iff]; simp
    · rw [if_neg h1, if_neg h1]
      by_cases h2 : k = 2
      · rw [if_pos h2, if_pos h2]
        by_cases hs : s.toList = []
        · rw [if_pos hs]
          by_cases hi : i = 0
          · rw [if_pos hi]; congr 1; simp [hs, hi]
          · rw [if_neg hi]; congr 1; rw [Bool.eq_iff_iff]; simp [hs, hi]
        · rw [if_neg hs]; congr 1; simp [hs]
      · rw [if_neg h2, if_neg h2]
        by_cases h3 : k = 3
        · rw [if_pos h3, if_pos h3]
          by_cases hi : i = 0
          · rw [if_pos hi]; congr 1; simp [hi]
          · rw [if_neg hi]; congr 1; simp [hi]
        · rw [if_neg h3, if_neg h3]
theorem rmay_f (k i : Int) (s : ByteArray) : rowlockref01_May.f k i s = some (mayv k i s) := by
  unfold rowlockref01_May.f mayv
  by_cases h0 : k = 0
  · rw [if_pos h0, if_pos h0]
    by_cases hi : i = 0
    · rw [if_pos hi]; congr 1; rw [Bool.eq_iff_iff]; simp [hi]
    · rw [if_neg hi]; congr 1; simp [hi]
  · rw [if_neg h0, if_neg h0]
    by_cases h1 : k = 1
    · rw [if_pos h1, if_pos h1]; congr 1
      rw [Bool.eq_iff_iff]; simp
    · rw [if_neg h1, if_neg h1]
      by_cases h2 : k = 2
      · rw [if_pos h2, if_pos h2]
        by_cases hs : s.toList = []
        · rw [if_pos hs]
          by_cases hi : i ≥ 0
          · rw [if_pos hi]; congr 1; rw [Bool.eq_iff_iff]; simp [hs]; omega
          · rw [if_neg hi]; congr 1; simp [hs]; omega
        · rw [if_neg hs]; congr 1; simp [hs]
      · rw [if_neg h2, if_neg h2]
        by_cases h3 : k = 3
        · rw [if_pos h3, if_pos h3]
          by_cases hi : i = 0
          · rw [if_pos hi]; congr 1; simp [hi]
          · rw [if_neg hi]; congr 1; simp [hi]
        · rw [if_neg h3, if_neg h3]
/-- What 'Great' sums up: of each value 1 and its text's bytes, 9000 at most. -/
def bulk : List S36 → Int
  | [] => 0
  | v :: l => 1 + mn (v.f2.size : Int) 9000 + bulk l
theorem drop_rd36 (l : List S36) (i : Nat) (h : i < l.length) : l.drop i = rd_T36 l (i : Int) :: l.drop (i + 1) := by
  rw [List.drop_eq_getElem_cons h]
  simp [rd_T36, h]
theorem great_l0 (l : List S36) (hn : l.length ≤ 9223372036854775807) (d : Nat) : ∀ (q n : Nat) (acc : Int), 0 ≤ acc → acc ≤ 5000 → n ≤ l.length → l.length - n = d → d < q →
    ∃ b, rowlockref01_Great.l0 q l acc (l.length : Int) (n : Int) = some b ∧ (b = false → acc + bulk (l.drop n) ≤ 5000) := by
  induction d with
  | zero =>
    intro q n acc h0 h5 hi hd hq
    obtain ⟨q, rfl⟩ : ∃ m, q = m + 1 := ⟨q - 1, by omega⟩
    refine ⟨false, ?_, fun _ => ?_⟩
    · simp only [rowlockref01_Great.l0]; rw [if_neg (by omega)]
    · rw [List.drop_of_length_le (by omega)]; simp only [bulk]; omega
  | succ d ih =>
    intro q n acc h0 h5 hi hd hq
    obtain ⟨q, rfl⟩ : ∃ m, q = m + 1 := ⟨q - 1, by omega⟩
    have hlt : n < l.length := by omega
    have hm : 0 ≤ mn ((rd_T36 l (n : Int)).f2.size : Int) 9000 ∧ mn ((rd_T36 l (n : Int)).f2.size : Int) 9000 ≤ 9000 := by unfold mn; split <;> omega
    simp only [rowlockref01_Great.l0]
    rw [if_pos (by omega), if_pos (by omega), if_pos (by omega), drop_rd36 l n hlt]
    rw [show wrap64 (acc + (1 + mn ((rd_T36 l (n : Int)).f2.size : Int) 9000)) = acc + (1 + mn ((rd_T36 l (n : Int)).f2.size : Int) 9000) by unfold wrap64; omega,
      show wrap64 ((n : Int) + 1) = ((n + 1 : Nat) : Int) by unfold wrap64; omega]
    by_cases hg : acc + (1 + mn ((rd_T36 l (n : Int)).f2.size : Int) 9000) > 5000
    · rw [if_pos hg]; exact ⟨true, rfl, fun h => by cases h⟩
    · rw [if_neg hg]
      obtain ⟨b, hb, hs⟩ := ih q (n + 1) (acc + (1 + mn ((rd_T36 l (n : Int)).f2.size : Int) 9000)) (by omega) (by omega) (by omega) (by omega) (by omega)
      refine ⟨b, hb, fun h => ?_⟩
      have := hs h
      simp only [bulk]; omega
theorem great_f (l : List S36) (hn : l.length ≤ 9223372036854775807) (q : Nat) (hq : l.length < q) : ∃ b, rowlockref01_Great.f q l = some b ∧ (b = false → bulk l ≤ 5000) := by
  obtain ⟨b, hb, hs⟩ := great_l0 l hn l.length q 0 0 (by omega) (by omega) (by omega) (by omega) hq
  exact ⟨b, by simpa [rowlockref01_Great.f] using hb, fun h => by simpa using hs h⟩

theorem fixed_f (k : Nat) (hk : 20 ≤ k) : rowlocklaw04_fixed.f k = some true :=
  at_rounds rowlocklaw04_fixed.mono hk (by decide +kernel)

theorem fits_eq (l : List S36) (m : List Int) (hn : l.length = m.length) (hl : l.length ≤ 9223372036854775807) (d : Nat) : ∀ (q n : Nat), n ≤ l.length → l.length - n = d → d < q →
    ∃ b, rowcode_Fits.l0 q m l (l.length : Int) (n : Int) = some b ∧ rowlockref04_Fits.l0 q l m (l.length : Int) (n : Int) = some b := by
  induction d with
  | zero =>
    intro q n hi hd hq
    obtain ⟨q, rfl⟩ : ∃ m, q = m + 1 := ⟨q - 1, by omega⟩
    refine ⟨true, ?_, ?_⟩
    · simp only [rowcode_Fits.l0]; rw [if_neg (by omega)]
    · simp only [rowlockref04_Fits.l0]; rw [if_neg (by omega)]
  | succ d ih =>
    intro q n hi hd hq
    obtain ⟨q, rfl⟩ : ∃ m, q = m + 1 := ⟨q - 1, by omega⟩
    obtain ⟨b, h1, h2⟩ := ih q (n + 1) (by omega) (by omega) (by omega)
    have c1 : (n : Int) < (l.length : Int) := by omega
    have c2 : (0 : Int) ≤ (n : Int) := by omega
    have c3 : (n : Int) < (m.length : Int) := by omega
    have hw : wrap64 ((n : Int) + 1) = ((n + 1 : Nat) : Int) := by unfold wrap64; omega
    simp only [rowcode_Fits.l0, rowlockref04_Fits.l0, c1, c2, c3, if_true, may_f, rmay_f, hw, h1, h2, Option.bind_some]
    repeat' split
    all_goals exact ⟨_, rfl, rfl⟩

theorem RowcodeFits (l : List S36) (m : List Int) (hl : l.length ≤ 9223372036854775807) : ∃ k, rowlocklaw04_RowcodeFits.f k l m = some true := by
  refine ⟨l.length + 60, ?_⟩
  have hfix : rowlocklaw04_RowcodeFits.j0 (l.length + 60) l m true = some true := by
    simp only [rowlocklaw04_RowcodeFits.j0]
    rw [if_pos trivial, fixed_f _ (by omega)]; rfl
  obtain ⟨b, hb, _⟩ := great_f l hl (l.length + 60) (by omega)
  unfold rowlocklaw04_RowcodeFits.f
  rw [hb]
  simp only [Option.bind_some]
  cases b with
  | true => rw [if_pos rfl]; exact hfix
  | false =>
    rw [if_neg (by simp)]
    by_cases h : (m.length : Int) > 5000
    · rw [decide_eq_true h]; exact hfix
    · rw [decide_eq_false h]
      simp only [rowlocklaw04_RowcodeFits.j0]
      rw [if_neg (by simp), fixed_f _ (by omega)]
      simp only [Option.bind_some, if_true]
      unfold rowcode_Fits.f rowlockref04_Fits.f
      by_cases e : (l.length : Int) = (m.length : Int)
      · rw [if_pos e, if_pos e]
        obtain ⟨b, h1, h2⟩ := fits_eq l m (by omega) hl l.length (l.length + 59) 0 (by omega) (by omega) (by omega)
        have h1' : rowcode_Fits.l0 (l.length + 59) m l (l.length : Int) 0 = some b := h1
        have h2' : rowlockref04_Fits.l0 (l.length + 59) l m (l.length : Int) 0 = some b := h2
        rw [h1', h2']
        simp
      · rw [if_neg e, if_neg e]; simp

end Go.Proofs.Ytegegpdaalfbdaa.Pure
