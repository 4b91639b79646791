/- The reference's Great is total. -/
import Derived.Test.YtpfegfkniilobaaPureSchA0
import Derived.Test.YtpfegfkniilobaaXSchemax2
namespace Go.Proofs.Ytpfegfkniilobaa.PureS
open Go.RowKit Go.Proofs.YtpfegfkniilobaaW.PrintWords Go.Proofs.YtpfegfkniilobaaW.PrintLast Go.Proofs.YtpfegfkniilobaaW.PrintMore
open Go.Proofs.Ytpfegfkniilobaa.XSchema
set_option linter.unusedVariables false
set_option linter.unusedSimpArgs false
set_option maxRecDepth 100000
theorem mn_le (a b : Int) (ha : 0 ≤ a) (hb : 0 ≤ b) : 0 ≤ mn a b ∧ mn a b ≤ b := by
  unfold mn
  split <;> omega
/-- The indexes' loop. -/
theorem great2 (T : List S84) (X : List S135) (hX : X.length ≤ 140737488355328) : ∀ (n i : Nat) (x : Int), i + n = X.length → 0 ≤ x → x ≤ 1000000000000000000 → ∃ k r, rowlockref12_Great.l2 k x (X.length : Int) (i : Int) T X = some r
  | 0, i, x, hi, h0, h1 => ⟨1, _, by rw [rowlockref12_Great.l2, if_neg (by omega)]⟩
  | n + 1, i, x, hi, h0, h1 => by
    obtain ⟨ha, hb⟩ := mn_le (((rd_T135 X (i : Int)).f0).size : Int) 3000 (by omega) (by omega)
    obtain ⟨hc, hd⟩ := mn_le (((rd_T135 X (i : Int)).f2).length : Int) 3000 (by omega) (by omega)
    obtain ⟨he, hf⟩ := mn_le (((rd_T135 X (i : Int)).f6).length : Int) 3000 (by omega) (by omega)
    obtain ⟨y, hy⟩ : ∃ y, y = x + (((1 + (mn (((rd_T135 X (i : Int)).f0).size : Int) 3000)) + (mn (((rd_T135 X (i : Int)).f2).length : Int) 3000)) + (mn (((rd_T135 X (i : Int)).f6).length : Int) 3000)) := ⟨_, rfl⟩
    have hy0 : 0 ≤ y ∧ y ≤ 1000000000000010000 := by omega
    have hw : wrap64 y = y := wr_in y (by omega)
    have hw1 : wrap64 ((i : Int) + 1) = ((i + 1 : Nat) : Int) := by rw [wr_in ((i : Int) + 1) (by omega)]; omega
    by_cases hg : y > 6000
    · refine ⟨1, true, ?_⟩
      rw [rowlockref12_Great.l2, if_pos (by omega), if_pos (by omega), if_pos (by omega), ← hy, hw, if_pos hg]
    · obtain ⟨k, r, h⟩ := great2 T X hX n (i + 1) y (by omega) (by omega) (by omega)
      refine ⟨k + 1, r, ?_⟩
      rw [rowlockref12_Great.l2, if_pos (by omega), if_pos (by omega), if_pos (by omega), ← hy, hw, if_neg hg, hw1]
      exact h
/-- A table's columns' loop, when the next tables' loop is total from any sum. -/
theorem great1 (T : List S84) (X : List S135) (j : Nat) (hj : j < T.length) (hT : T.length ≤ 140737488355328)
    (ih : ∀ x : Int, 0 ≤ x → x ≤ 3001 * (j + 1 : Int) + 3000 → ∃ k r, rowlockref12_Great.l0 k x (T.length : Int) ((j + 1 : Nat) : Int) T X = some r ∧ (r = false → ∀ q : Nat, j + 1 ≤ q → q < T.length → (rd_T84 T (q : Int)).f1.length ≤ 3000)) :
    ∀ (n i : Nat) (x : Int), i + n = (rd_T84 T (j : Int)).f1.length → 0 ≤ x → x ≤ 3001 * (j + 1 : Int) + 3000 → (0 < i → x ≤ 3000 ∧ (i : Int) ≤ x) → ∃ k r, rowlockref12_Great.l1 k x (j : Int) (T.length : Int) (j : Int) ((rd_T84 T (j : Int)).f1.length : Int) (i : Int) T X = some r ∧ (r = false → ∀ q : Nat, j ≤ q → q < T.length → (rd_T84 T (q : Int)).f1.length ≤ 3000)
  | 0, i, x, hi, h0, h1, h2 => by
    obtain ⟨k, r, h, hr⟩ := ih x h0 h1
    refine ⟨k + 1, r, ?_, fun hf q hq hql => ?_⟩
    · rw [rowlockref12_Great.l1, if_neg (by omega), wr_in ((j : Int) + 1) (by omega)]
      exact h
    · by_cases he : q = j
      · subst he
        rcases Nat.eq_zero_or_pos i with hz | hz
        · omega
        · have := h2 hz
          omega
      · exact hr hf q (by omega) hql
  | n + 1, i, x, hi, h0, h1, h2 => by
    obtain ⟨ha, hb⟩ := mn_le (((rd_T87 ((rd_T84 T (j : Int)).f1) (i : Int)).f0).size : Int) 3000 (by omega) (by omega)
    obtain ⟨y, hy⟩ : ∃ y, y = x + (1 + (mn (((rd_T87 ((rd_T84 T (j : Int)).f1) (i : Int)).f0).size : Int) 3000)) := ⟨_, rfl⟩
    have hy0 : x + 1 ≤ y ∧ y ≤ x + 3001 := by omega
    have hi3 : i ≤ 3001 := by
      rcases Nat.eq_zero_or_pos i with hz | hz
      · omega
      · have := h2 hz
        omega
    have hw : wrap64 y = y := wr_in y (by omega)
    have hw1 : wrap64 ((i : Int) + 1) = ((i + 1 : Nat) : Int) := by rw [wr_in ((i : Int) + 1) (by omega)]; omega
    by_cases hg : y > 3000
    · refine ⟨1, true, ?_, fun h => by cases h⟩
      rw [rowlockref12_Great.l1, if_pos (by omega), if_pos (by omega), if_pos (by omega), if_pos (by omega), if_pos (by omega), ← hy, hw, if_pos hg]
    · obtain ⟨k, r, h, hr⟩ := great1 T X j hj hT ih n (i + 1) y (by omega) (by omega) (by omega) (fun _ => ⟨by omega, by
        rcases Nat.eq_zero_or_pos i with hz | hz
        · omega
        · have := h2 hz
          omega⟩)
      refine ⟨k + 1, r, ?_, hr⟩
      rw [rowlockref12_Great.l1, if_pos (by omega), if_pos (by omega), if_pos (by omega), if_pos (by omega), if_pos (by omega), ← hy, hw, if_neg hg, hw1]
      exact h
theorem great0 (T : List S84) (X : List S135) (hT : T.length ≤ 140737488355328) (hX : X.length ≤ 140737488355328) :
    ∀ (n j : Nat) (x : Int), j + n = T.length → 0 ≤ x → x ≤ 3001 * (j : Int) + 3000 → ∃ k r, rowlockref12_Great.l0 k x (T.length : Int) (j : Int) T X = some r ∧ (r = false → ∀ q : Nat, j ≤ q → q < T.length → (rd_T84 T (q : Int)).f1.length ≤ 3000)
  | 0, j, x, hi, h0, h1 => by
    obtain ⟨k, r, h⟩ := great2 T X hX X.length 0 x (by omega) h0 (by omega)
    refine ⟨k + 1, r, ?_, fun _ q hq hql => by omega⟩
    rw [rowlockref12_Great.l0, if_neg (by omega)]
    exact h
  | n + 1, j, x, hi, h0, h1 => by
    have hlt : j < T.length := by omega
    obtain ⟨ha, hb⟩ := mn_le (((rd_T84 T (j : Int)).f0).size : Int) 3000 (by omega) (by omega)
    obtain ⟨y, hy⟩ : ∃ y, y = x + (1 + (mn (((rd_T84 T (j : Int)).f0).size : Int) 3000)) := ⟨_, rfl⟩
    have hw : wrap64 y = y := wr_in y (by omega)
    obtain ⟨k, r, h, hr⟩ := great1 T X j hlt hT (fun x hx0 hx1 => great0 T X hT hX n (j + 1) x (by omega) hx0 (by omega)) (rd_T84 T (j : Int)).f1.length 0 y (by omega) (by omega) (by omega) (fun h => absurd h (by omega))
    refine ⟨k + 1, r, ?_, hr⟩
    rw [rowlockref12_Great.l0, if_pos (by omega), if_pos (by omega), if_pos (by omega), ← hy, hw]
    exact h
theorem great_f (T : List S84) (X : List S135) (hT : T.length ≤ 140737488355328) (hX : X.length ≤ 140737488355328) : ∃ k r, rowlockref12_Great.f k T X = some r ∧ (r = false → ∀ q : Nat, q < T.length → (rd_T84 T (q : Int)).f1.length ≤ 3000) := by
  obtain ⟨k, r, h, hr⟩ := great0 T X hT hX T.length 0 0 (by omega) (by omega) (by omega)
  exact ⟨k, r, h, fun hf q hq => hr hf q (Nat.zero_le _) hq⟩
end Go.Proofs.Ytpfegfkniilobaa.PureS
