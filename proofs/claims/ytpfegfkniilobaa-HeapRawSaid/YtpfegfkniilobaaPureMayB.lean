/- Any bytes as a heap page: the reference's read answers, and what it takes apart is a heap page; a heap page is taken apart. -/
import Derived.Test.YtpfegfkniilobaaPureSlotsC
import Derived.Test.YtpfegfkniilobaaXHeapx10
import Derived.Test.YtpfegfkniilobaaXHeapx11
import Derived.Test.YtpfegfkniilobaaPureMayA
namespace Go.Proofs.Ytpfegfkniilobaa.PureSl
open Go.RowKit Go.Proofs.YtpfegfkniilobaaW.PrintWords Go.Proofs.YtpfegfkniilobaaW.PrintLast Go.Proofs.YtpfegfkniilobaaW.PrintMore Go.Proofs.Ytpfegfkniilobaa.XHeap Go.Proofs.Ytpfegfkniilobaa.Byt Go.Proofs.Ytpfegfkniilobaa.Slb
set_option linter.unusedVariables false
set_option linter.unusedSimpArgs false
theorem value2 (k : Nat) (l : List Int) (hy : By l) (hl : l.length = 2) : rowlockref06_Value.f (k + 9) (strOfNums l) = some (rd l 0 * 256 + rd l 1) := by
  have w0 : wrap64 (0 + 1) = 1 := w64_in _ (by omega)
  have w1 : wrap64 (1 + 1) = 2 := w64_in _ (by omega)
  have b0 := hy.rdb 0
  have b1 := hy.rdb 1
  rw [rowlockref06_Value.f, rowlockref06_Value.l0, str_size, hl, if_pos (by decide), if_pos (by omega), str_bt hy, w0]
  rw [rowlockref06_Value.l0, str_size, hl, if_pos (by decide), if_pos (by omega), str_bt hy, w1]
  rw [rowlockref06_Value.l0, str_size, hl, if_neg (by decide)]
  simp only [u64_eq]
  congr 1
  omega
theorem value4 (k : Nat) (l : List Int) (hy : By l) (hl : l.length = 4) : rowlockref06_Value.f (k + 9) (strOfNums l) = some (((rd l 0 * 256 + rd l 1) * 256 + rd l 2) * 256 + rd l 3) := by
  have w0 : wrap64 (0 + 1) = 1 := w64_in _ (by omega)
  have w1 : wrap64 (1 + 1) = 2 := w64_in _ (by omega)
  have w2 : wrap64 (2 + 1) = 3 := w64_in _ (by omega)
  have w3 : wrap64 (3 + 1) = 4 := w64_in _ (by omega)
  have b0 := hy.rdb 0
  have b1 := hy.rdb 1
  have b2 := hy.rdb 2
  have b3 := hy.rdb 3
  rw [rowlockref06_Value.f, rowlockref06_Value.l0, str_size, hl, if_pos (by decide), if_pos (by omega), str_bt hy, w0]
  rw [rowlockref06_Value.l0, str_size, hl, if_pos (by decide), if_pos (by omega), str_bt hy, w1]
  rw [rowlockref06_Value.l0, str_size, hl, if_pos (by decide), if_pos (by omega), str_bt hy, w2]
  rw [rowlockref06_Value.l0, str_size, hl, if_pos (by decide), if_pos (by omega), str_bt hy, w3]
  rw [rowlockref06_Value.l0, str_size, hl, if_neg (by decide)]
  simp only [u64_eq]
  congr 1
  omega
theorem ref_get (k : Nat) (l : List Int) (hy : By l) : rowlockref06_Get.f (k + 10) (strOfNums l) = some (getR l) := by
  rw [rowlockref06_Get.f, getR, str_size]
  by_cases h : l.length = 512
  · rw [if_pos (by omega), if_pos (by omega), str_bt hy]
    by_cases h1 : rd l 1 = 0
    · rw [if_pos ⟨h, h1⟩, show (rd l 1 != 0) = false from bne_eq_false_iff_eq.mpr h1]
      have hl2 : ((l.take 4).drop 2).length = 2 := by rw [List.length_drop, List.length_take]; omega
      have hl4 : ((l.take 8).drop 4).length = 4 := by rw [List.length_drop, List.length_take]; omega
      have b2 := hy.rdb 2
      have b3 := hy.rdb 3
      have b4 := hy.rdb 4
      have b5 := hy.rdb 5
      have b6 := hy.rdb 6
      have b7 := hy.rdb 7
      rw [rowlockref06_Get.j0, if_neg (by decide), str_size, if_pos (by omega), if_pos (by omega), if_pos (by omega), str_extract, value2 k _ ((hy.take _).drop _) hl2]
      rw [show rd ((l.take 4).drop 2) 0 = rd l 2 from rd_drop_take l 2 4 0 (by omega) (by omega), show rd ((l.take 4).drop 2) 1 = rd l 3 from rd_drop_take l 2 4 1 (by omega) (by omega)]
      simp only [Option.bind_some]
      rw [if_pos (by omega), if_pos (by omega), str_extract, value4 k _ ((hy.take _).drop _) hl4]
      rw [show rd ((l.take 8).drop 4) 0 = rd l 4 from rd_drop_take l 4 8 0 (by omega) (by omega), show rd ((l.take 8).drop 4) 1 = rd l 5 from rd_drop_take l 4 8 1 (by omega) (by omega), show rd ((l.take 8).drop 4) 2 = rd l 6 from rd_drop_take l 4 8 2 (by omega) (by omega), show rd ((l.take 8).drop 4) 3 = rd l 7 from rd_drop_take l 4 8 3 (by omega) (by omega)]
      simp only [Option.bind_some, str_bt hy, u16_eq]
      congr 4 <;> omega
    · rw [if_neg (by omega), show (rd l 1 != 0) = true from bne_iff_ne.mpr h1, rowlockref06_Get.j0, if_pos rfl]
  · rw [if_neg (by omega), if_neg (by omega), rowlockref06_Get.j0, if_pos rfl]
theorem take1 (b : List Int) (n : Nat) (h : n < b.length) : b.take (n + 1) = b.take n ++ [rd b (n : Int)] := by
  rw [List.take_succ_eq_append_getElem h, rd, Int.toNat_natCast]
  simp [List.getD_eq_getElem?_getD, List.getElem?_eq_getElem h]
theorem take4 (b : List Int) (n : Nat) (h : n + 4 ≤ b.length) : b.take (n + 4) = b.take n ++ [rd b (n : Int), rd b ((n + 1 : Nat) : Int), rd b ((n + 2 : Nat) : Int), rd b ((n + 3 : Nat) : Int)] := by
  rw [take1 b (n + 3) (by omega), take1 b (n + 2) (by omega), take1 b (n + 1) (by omega), take1 b n (by omega)]
  simp
theorem drop_cut (b : List Int) (f e : Nat) (h : f ≤ e) (he : e ≤ b.length) : b.drop f = (b.take e).drop f ++ b.drop e := by
  have h1 : b = b.take e ++ b.drop e := (List.take_append_drop e b).symm
  have h2 : f ≤ (b.take e).length := by rw [List.length_take]; omega
  calc b.drop f = (b.take e ++ b.drop e).drop f := by rw [← h1]
    _ = (b.take e).drop f ++ b.drop e := List.drop_append_of_le_length h2
theorem slots_snoc : ∀ (rs : List (List Int)) (r : List Int) (e : Nat), slotsOf (rs ++ [r]) e = slotsOf rs e ++ sl4 (e - tot rs - r.length) r.length
  | [], r, e => by simp [slotsOf, tot]
  | q :: rs, r, e => by
    rw [List.cons_append, slotsOf, slots_snoc rs r (e - q.length), slotsOf, tot, List.append_assoc, show e - (q.length + tot rs) = e - q.length - tot rs by omega]
theorem back_snoc : ∀ (rs : List (List Int)) (r : List Int), back (rs ++ [r]) = r ++ back rs
  | [], r => by simp [back]
  | q :: rs, r => by rw [List.cons_append, back, back_snoc rs r, back, List.append_assoc]
/-- Bytes that are all nought. -/
theorem zeros_of (b : List Int) (f e : Nat) (he : e ≤ b.length) (hf : f ≤ e) (h : ∀ t : Nat, f ≤ t → t < e → rd b (t : Int) = 0) : (b.take e).drop f = List.replicate (e - f) 0 := by
  apply List.ext_getElem
  · rw [List.length_drop, List.length_take, List.length_replicate]
    omega
  · intro i h1 h2
    rw [List.length_drop, List.length_take] at h1
    rw [List.getElem_drop, List.getElem_take, List.getElem_replicate]
    have := h (f + i) (by omega) (by omega)
    rw [rd, Int.toNat_natCast, List.getD_eq_getElem?_getD, List.getElem?_eq_getElem (by omega)] at this
    exact this
theorem ref_l1 (b : List Int) (hy : By b) (e : Nat) (he : e ≤ b.length) (hb : b.length ≤ 512) (nx : Int) (acc : List ByteArray) : ∀ (n j : Nat), e - j < n → j ≤ 1000000 →
    (rowlockref08_Read.l1 n (strOfNums b) (e : Int) (j : Int) nx acc = some (nx, acc, true) ∧ ∀ t : Nat, j ≤ t → t < e → rd b (t : Int) = 0) ∨ (rowlockref08_Read.l1 n (strOfNums b) (e : Int) (j : Int) nx acc = some (0, [], false) ∧ ∃ t : Nat, j ≤ t ∧ t < e ∧ rd b (t : Int) ≠ 0)
  | 0, j, h, _ => absurd h (Nat.not_lt_zero _)
  | n + 1, j, h, hj => by
    rw [rowlockref08_Read.l1]
    by_cases c : (j : Int) < (e : Int)
    · rw [if_pos c, if_pos (Int.natCast_nonneg _), str_size, if_pos (by omega), str_bt hy]
      by_cases c2 : rd b (j : Int) = 0
      · rw [if_pos c2, show wrap64 ((j : Int) + 1) = ((j + 1 : Nat) : Int) from w64p j 1 (j + 1) hj (by decide) rfl]
        rcases ref_l1 b hy e he hb nx acc n (j + 1) (by omega) (by omega) with ⟨h1, h2⟩ | ⟨h1, t, h2, h3, h4⟩
        · refine Or.inl ⟨h1, fun t ht hte => ?_⟩
          rcases Nat.lt_or_ge j t with h | h
          · exact h2 t h hte
          · have : t = j := by omega
            rw [this]
            exact c2
        · exact Or.inr ⟨h1, t, by omega, h3, h4⟩
      · rw [if_neg c2]
        exact Or.inr ⟨rfl, j, Nat.le_refl _, by omega, c2⟩
    · rw [if_neg c]
      exact Or.inl ⟨rfl, fun t h1 h2 => by omega⟩
theorem w84 (i : Nat) (h : i ≤ 100000) : wrap64 (8 + wrap64 (4 * (i : Int))) = ((8 + 4 * i : Nat) : Int) := by
  rw [w64_in (4 * (i : Int)) (by omega), w64_in _ (by omega)]
  omega
theorem cut2 (k : Nat) (b : List Int) (hy : By b) (a : Nat) (h : a + 2 ≤ b.length) : rowlockref06_Value.f (k + 9) ((strOfNums b).extract a (a + 2)) = some (rd b (a : Int) * 256 + rd b ((a + 1 : Nat) : Int)) := by
  rw [str_extract, value2 k _ ((hy.take _).drop _) (by rw [List.length_drop, List.length_take]; omega), rd_drop_take b a (a + 2) 0 (by omega) (by omega), rd_drop_take b a (a + 2) 1 (by omega) (by omega)]
  rfl
/-- What the reference's reading of bytes answers: no page, or a page of just these bytes. -/
def RTold (nx : Int) (b : List Int) (r : Int × List ByteArray × Bool) : Prop := r.2.2 = true → ∃ rs, r = (nx, txt rs, true) ∧ Ok nx rs ∧ b = pg nx rs
theorem rtold_no (nx : Int) (b : List Int) : RTold nx b (0, [], false) := fun h => by cases h
theorem two_bytes (x y m : Int) (hx : 0 ≤ x ∧ x ≤ 255) (hy : 0 ≤ y ∧ y ≤ 255) (h : x * 256 + y = m) : x = m / 256 % 256 ∧ y = m % 256 := by omega
theorem ref_end (nx : Int) (hnx : 0 ≤ nx ∧ nx < 4294967296) (N : Nat) (b : List Int) (hb : b.length = 512) (hy : By b) (e n : Nat) (rs : List (List Int)) (hl : rs.length = N) (he : e + tot rs = 512) (hs : 8 + 4 * N ≤ e) (hr : ∀ r ∈ rs, 0 < r.length ∧ By r)
    (h1 : b.take (8 + 4 * rs.length) = hd8 (N : Int) nx ++ slotsOf rs 512) (h2 : b.drop e = back rs) (hn : e < n) : ∃ r, rowlockref08_Read.l1 n (strOfNums b) (e : Int) ((8 + 4 * N : Nat) : Int) nx (txt rs) = some r ∧ RTold nx b r := by
  rcases ref_l1 b hy e (by omega) (by omega) nx (txt rs) n (8 + 4 * N) (by omega) (by omega) with ⟨h, hz⟩ | ⟨h, _⟩
  · refine ⟨_, h, fun _ => ⟨rs, rfl, ⟨by omega, fun r h => (hr r h).1, fun r h => (hr r h).2, hnx⟩, ?_⟩⟩
    have z := zeros_of b (8 + 4 * N) e (by omega) hs hz
    have d := drop_cut b (8 + 4 * N) e hs (by omega)
    rw [z, h2] at d
    rw [hl] at h1
    rw [pg, hl, ← h1, show 504 - 4 * N - tot rs = e - (8 + 4 * N) by omega, List.append_assoc, ← d, List.take_append_drop]
  · exact ⟨_, h, rtold_no nx b⟩
theorem ref_l0 (kd nx : Int) (hnx : 0 ≤ nx ∧ nx < 4294967296) (N : Nat) (hN : N < 65536) (b : List Int) (hb : b.length = 512) (hy : By b) : ∀ (n e : Nat) (rs : List (List Int)), e + 600 < n → e ≤ 512 → rs.length ≤ N → e + tot rs = 512 → (rs = [] ∨ 8 + 4 * N ≤ e) → (∀ r ∈ rs, 0 < r.length ∧ By r) →
    b.take (8 + 4 * rs.length) = hd8 (N : Int) nx ++ slotsOf rs 512 → b.drop e = back rs → ∃ r, rowlockref08_Read.l0 n (strOfNums b) (e : Int) (rs.length : Int) kd (N : Int) nx nx (txt rs) = some r ∧ RTold nx b r
  | 0, e, rs, h, _, _, _, _, _, _, _ => absurd h (Nat.not_lt_zero _)
  | n + 1, e, rs, h, he, hi, ht, hs, hr, h1, h2 => by
    obtain ⟨q, rfl⟩ : ∃ q, n = q + 9 := ⟨n - 9, by omega⟩
    have wN : wrap64 (N : Int) = (N : Int) := w64_in _ (by omega)
    rw [rowlockref08_Read.l0, wN, w84 N (by omega)]
    by_cases c1 : rs.length < N
    · rw [if_pos (show (rs.length : Int) < (N : Int) by omega), w84 rs.length (by omega)]
      have w4 : wrap64 (((8 + 4 * rs.length : Nat) : Int) + 4) = ((8 + 4 * rs.length + 4 : Nat) : Int) := w64p (8 + 4 * rs.length) 4 _ (by clear wN; omega) (by decide) rfl
      rw [w4]
      by_cases c2 : ((8 + 4 * rs.length + 4 : Nat) : Int) > (e : Int)
      · rw [if_pos c2]
        exact ⟨_, rfl, rtold_no nx b⟩
      have g : 8 + 4 * rs.length + 4 ≤ e := by clear w4 wN; omega
      have w2 : wrap64 (((8 + 4 * rs.length : Nat) : Int) + 2) = ((8 + 4 * rs.length + 2 : Nat) : Int) := w64p (8 + 4 * rs.length) 2 _ (by clear w4 wN; omega) (by decide) rfl
      have g3 : (0 : Int) ≤ ((8 + 4 * rs.length : Nat) : Int) ∧ ((8 + 4 * rs.length : Nat) : Int) ≤ ((8 + 4 * rs.length + 2 : Nat) : Int) ∧ ((8 + 4 * rs.length + 2 : Nat) : Int) ≤ (b.length : Int) ∧ (0 : Int) ≤ ((8 + 4 * rs.length + 2 : Nat) : Int) ∧ ((8 + 4 * rs.length + 2 : Nat) : Int) ≤ ((8 + 4 * rs.length + 4 : Nat) : Int) ∧ ((8 + 4 * rs.length + 4 : Nat) : Int) ≤ (b.length : Int) ∧ 8 + 4 * rs.length + 2 ≤ b.length ∧ 8 + 4 * rs.length + 2 + 2 ≤ b.length := by clear w4 wN w2; omega
      obtain ⟨c3, c4, c5, c6, c7, c8, g4, g5⟩ := g3
      have b0 := hy.rdb ((8 + 4 * rs.length : Nat) : Int)
      have b1 := hy.rdb ((8 + 4 * rs.length + 1 : Nat) : Int)
      have b2 := hy.rdb ((8 + 4 * rs.length + 2 : Nat) : Int)
      have b3 := hy.rdb ((8 + 4 * rs.length + 3 : Nat) : Int)
      obtain ⟨f, hf⟩ : ∃ f : Nat, rd b ((8 + 4 * rs.length : Nat) : Int) * 256 + rd b ((8 + 4 * rs.length + 1 : Nat) : Int) = (f : Int) := ⟨_, (Int.toNat_of_nonneg (by clear w4 w2 wN; omega)).symm⟩
      obtain ⟨m, hm⟩ : ∃ m : Nat, rd b ((8 + 4 * rs.length + 2 : Nat) : Int) * 256 + rd b ((8 + 4 * rs.length + 3 : Nat) : Int) = (m : Int) := ⟨_, (Int.toNat_of_nonneg (by clear w4 w2 wN; omega)).symm⟩
      have v1 := cut2 q b hy (8 + 4 * rs.length) g4
      have v2 := cut2 q b hy (8 + 4 * rs.length + 2) g5
      rw [hf] at v1
      rw [show ((8 + 4 * rs.length + 2 + 1 : Nat) : Int) = ((8 + 4 * rs.length + 3 : Nat) : Int) from rfl, hm] at v2
      obtain ⟨x0, x1⟩ := two_bytes _ _ _ b0 b1 hf
      obtain ⟨x2, x3⟩ := two_bytes _ _ _ b2 b3 hm
      have hb4 := take4 b (8 + 4 * rs.length) (by clear w4 w2 wN; omega)
      rw [x0, x1, x2, x3] at hb4
      have hm2 : m ≤ 65535 ∧ f ≤ 65535 := by clear w4 w2 wN x0 x1 x2 x3 hb4; omega
      obtain ⟨hm2, hf2⟩ := hm2
      clear b0 b1 b2 b3 hm hf x0 x1 x2 x3
      have wf : wrap64 (f : Int) = (f : Int) := w64_in _ (by clear w4 w2 wN hb4; omega)
      have wm : wrap64 (m : Int) = (m : Int) := w64_in _ (by clear w4 w2 wN wf hb4; omega)
      have wfm : wrap64 ((f : Int) + (m : Int)) = (f : Int) + (m : Int) := w64_in _ (by clear w4 w2 wN wf wm hb4; omega)
      rw [if_neg c2, w2, str_size, if_pos c3, if_pos c4, if_pos c5, Int.toNat_natCast, Int.toNat_natCast, v1, Option.bind_some, if_pos c6, if_pos c7, if_pos c8, Int.toNat_natCast, v2, Option.bind_some, wf, wm, wfm]
      clear w4 w2 wN wf wm wfm v1 v2
      by_cases c9 : (m : Int) = 0
      · rw [if_pos c9]
        exact ⟨_, rfl, rtold_no nx b⟩
      rw [if_neg c9]
      by_cases c10 : (f : Int) + (m : Int) = (e : Int)
      · rw [if_pos c10]
        by_cases c11 : (f : Int) < ((8 + 4 * N : Nat) : Int)
        · rw [if_pos c11]
          exact ⟨_, rfl, rtold_no nx b⟩
        have g6 : f + m = e ∧ 8 + 4 * N ≤ f ∧ 0 < m := by clear hb4; omega
        obtain ⟨g6, g7, g8⟩ := g6
        have wi : wrap64 ((rs.length : Int) + 1) = ((rs.length + 1 : Nat) : Int) := w64p rs.length 1 _ (by clear hb4; omega) (by decide) rfl
        have hcl : ((b.take e).drop f).length = m := by
          rw [List.length_drop, List.length_take]
          clear wi hb4
          omega
        have hb' : By ((b.take e).drop f) := (hy.take _).drop _
        have hd := drop_cut b f e (by clear wi hb4; omega) (by clear wi hb4; omega)
        obtain ⟨r, hrr⟩ : ∃ r, r = (b.take e).drop f := ⟨_, rfl⟩
        rw [← hrr] at hcl hb' hd
        have hrec := ref_l0 kd nx hnx N hN b hb hy (q + 9) f (rs ++ [r]) (by clear wi hb4; omega) (by clear wi hb4; omega) (by rw [List.length_append]; exact c1) (by rw [tot_append, tot, tot, hcl]; clear wi hb4; omega) (Or.inr g7)
          (fun r' hr' => by
            rcases List.mem_append.1 hr' with hr' | hr'
            · exact hr r' hr'
            · rw [List.mem_singleton.1 hr', hcl]
              exact ⟨g8, hb'⟩)
          (by
            rw [slots_snoc, show 512 - tot rs - r.length = f by rw [hcl]; clear wi hb4; omega, ← List.append_assoc, ← h1, List.length_append, List.length_singleton, show 8 + 4 * (rs.length + 1) = 8 + 4 * rs.length + 4 by clear wi hb4; omega, hb4, sl4, hcl])
          (by rw [hd, h2, back_snoc])
        rw [if_neg c11, if_pos (Int.natCast_nonneg _), if_pos (show (f : Int) ≤ (e : Int) by clear wi hb4; omega), if_pos (show (e : Int) ≤ (b.length : Int) by clear wi hb4; omega), if_pos (show (txt rs).length < 8796093022208 by rw [txt_len]; clear wi hb4; omega), wi, Int.toNat_natCast, Int.toNat_natCast, str_extract, ← hrr, ← txt_more]
        rw [List.length_append, List.length_singleton] at hrec
        exact hrec
      · rw [if_neg c10]
        exact ⟨_, rfl, rtold_no nx b⟩
    · rw [if_neg (show ¬ (rs.length : Int) < (N : Int) by omega)]
      have hl : rs.length = N := by omega
      refine ref_end nx hnx N b hb hy e (q + 9) rs hl ht ?_ hr h1 h2 (by clear wN; omega)
      rcases hs with rfl | hs
      · rw [List.length_nil] at hl
        rw [tot] at ht
        clear wN
        omega
      · exact hs
theorem take8 (b : List Int) (h : 8 ≤ b.length) : b.take 8 = [rd b 0, rd b 1, rd b 2, rd b 3, rd b 4, rd b 5, rd b 6, rd b 7] := by
  have h1 := take4 b 0 (by omega)
  have h2 := take4 b 4 (by omega)
  rw [h1] at h2
  exact h2
theorem two_of (N : Int) (h : 0 ≤ N ∧ N < 65536) (x y : Int) (hx : 0 ≤ x ∧ x ≤ 255) (hy : 0 ≤ y ∧ y ≤ 255) (e : x * 256 + y = N) : N / 256 % 256 = x ∧ N % 256 = y := by omega
theorem four_of (n x y z u : Int) (hx : 0 ≤ x ∧ x ≤ 255) (hy : 0 ≤ y ∧ y ≤ 255) (hz : 0 ≤ z ∧ z ≤ 255) (hu : 0 ≤ u ∧ u ≤ 255) (e : n = ((x * 256 + y) * 256 + z) * 256 + u) : n / 16777216 % 256 = x ∧ n / 65536 % 256 = y ∧ n / 256 % 256 = z ∧ n % 256 = u ∧ 0 ≤ n ∧ n < 4294967296 := by omega
/-- The reference's read: it answers, and what it takes apart is a heap page. -/
theorem ref_told (b : List Int) (hy : By b) (k : Nat) : ∃ r, rowlockref08_Read.f (k + 2000) (strOfNums b) = some r ∧ (r.2.2 = true → ∃ nx rs, r = (nx, txt rs, true) ∧ Ok nx rs ∧ b = pg nx rs) := by
  rw [rowlockref08_Read.f, show k + 2000 = (k + 1990) + 10 by omega, ref_get (k + 1990) b hy, Option.bind_some, getR]
  by_cases h : b.length = 512 ∧ rd b 1 = 0
  · rw [if_pos h]
    have b2 := hy.rdb 2
    have b3 := hy.rdb 3
    have b4 := hy.rdb 4
    have b5 := hy.rdb 5
    have b6 := hy.rdb 6
    have b7 := hy.rdb 7
    obtain ⟨N, hN⟩ : ∃ N : Nat, rd b 2 * 256 + rd b 3 = (N : Int) := ⟨_, (Int.toNat_of_nonneg (by omega)).symm⟩
    have hN2 : N < 65536 := by omega
    obtain ⟨nx, hnx⟩ : ∃ nx, nx = ((rd b 4 * 256 + rd b 5) * 256 + rd b 6) * 256 + rd b 7 := ⟨_, rfl⟩
    obtain ⟨f1, f2⟩ := two_of (N : Int) (by omega) _ _ b2 b3 hN
    obtain ⟨f3, f4, f5, f6, f7, f8⟩ := four_of nx _ _ _ _ b4 b5 b6 b7 hnx
    rw [hN, ← hnx]
    clear hN hnx b2 b3 b4 b5 b6 b7
    show ∃ r, (if true = true then rowlockref08_Read.j0 (k + 1990 + 10) (strOfNums b) (rd b 0 != 1) (rd b 0) (N : Int) nx else _) = some r ∧ _
    rw [if_pos rfl, rowlockref08_Read.j0]
    by_cases hk : (rd b 0 != 1) = true
    · rw [if_pos hk]
      exact ⟨_, rfl, fun h => by cases h⟩
    · rw [if_neg hk]
      have h0 : rd b 0 = 1 := by
        rcases Decidable.em (rd b 0 = 1) with h | h
        · exact h
        · exact absurd (bne_iff_ne.mpr h) hk
      have ht : b.take 8 = hd8 (N : Int) nx := by
        rw [take8 b (by omega), hd8, XHeap.disk_Put.hd, f1, f2, f3, f4, f5, f6, h0, h.2]
      obtain ⟨r, h1, h2⟩ := ref_l0 (rd b 0) nx ⟨f7, f8⟩ N hN2 b h.1 hy (k + 1999) 512 [] (by omega) (by omega) (Nat.zero_le _) (by decide) (Or.inl rfl) (fun r h => nomatch h) (by rw [slotsOf, List.append_nil]; exact ht)
        (by rw [back]; exact List.drop_eq_nil_of_le (by rw [h.1]; exact Nat.le_refl _))
      exact ⟨r, h1, fun h => by
        obtain ⟨rs, e1, e2, e3⟩ := h2 h
        exact ⟨nx, rs, e1, e2, e3⟩⟩
  · rw [if_neg h]
    show ∃ r, (if false = true then _ else rowlockref08_Read.j0 (k + 1990 + 10) (strOfNums b) true 0 0 0) = some r ∧ _
    rw [if_neg (by decide), rowlockref08_Read.j0, if_pos rfl]
    exact ⟨_, rfl, fun h => by cases h⟩
theorem byte_two (f : Nat) (h : f ≤ 65535) : (f : Int) / 256 % 256 * 256 + (f : Int) % 256 = (f : Int) := by omega
theorem ref_part (kd nx : Int) (N : Nat) (hN : N < 65536) (b : List Int) (hb : b.length = 512) (hy : By b) : ∀ (todo : List (List Int)) (i e : Nat) (F : List Int) (m : Nat) (B : List Int) (pre : List (List Int)) (n : Nat), Part b todo i e F m B → N = i + todo.length → pre.length = i → (∀ r ∈ todo, 0 < r.length) → e + 600 < n →
    rowlockref08_Read.l0 n (strOfNums b) (e : Int) (i : Int) kd (N : Int) nx nx (txt pre) = some (nx, txt (pre ++ todo), true)
  | [], i, e, F, m, B, pre, n, hP, hi, hp, hr, hn => by
    obtain ⟨q, rfl⟩ : ∃ q, n = q + 1 := ⟨n - 1, by omega⟩
    have hs := hP.sz
    have hB := hP.lB
    have hF := hP.lF
    rw [List.length_nil] at hi hs
    rw [tot] at hs
    have wN : wrap64 (N : Int) = (N : Int) := w64_in _ (by omega)
    rw [rowlockref08_Read.l0, wN, w84 N (by omega), if_neg (by omega), List.append_nil]
    clear wN
    rcases ref_l1 b hy e (by omega) (by omega) nx (txt pre) q (8 + 4 * N) (by omega) (by omega) with ⟨h, _⟩ | ⟨_, t, h1, h2, h3⟩
    · exact h
    · refine absurd ?_ h3
      rw [hP.eq]
      simp only [slotsOf, back, List.append_nil, List.nil_append]
      rw [rd, Int.toNat_natCast, List.getD_eq_getElem?_getD, List.append_assoc, List.getElem?_append_right (by omega), List.getElem?_append_left (by rw [List.length_replicate]; omega), List.getElem?_replicate, if_pos (by omega)]
      rfl
  | r :: rs, i, e, F, m, B, pre, n, hP, hi, hp, hr, hn => by
    obtain ⟨q, rfl⟩ : ∃ q, n = q + 9 + 1 := ⟨n - 10, by omega⟩
    have hs := hP.sz
    have hB := hP.lB
    rw [List.length_cons] at hi hs
    rw [tot] at hs
    have hr0 : 0 < r.length := hr r List.mem_cons_self
    have hrec := ref_part kd nx N hN b hb hy rs (i + 1) (e - r.length) _ m (r ++ B) (pre ++ [r]) (q + 9) hP.next (by clear hr; omega) (by rw [List.length_append, hp]; rfl) (fun q hq => hr q (List.mem_cons_of_mem _ hq)) (by clear hr; omega)
    obtain ⟨s0, s1, s2, s3⟩ := hP.slot
    have hcut := hP.cut
    clear hP hr
    have g : i < N ∧ 8 + 4 * i + 4 ≤ e ∧ e ≤ 512 ∧ r.length ≤ e ∧ 8 + 4 * N ≤ e - r.length ∧ i ≤ 1000 ∧ N ≤ 1000 ∧ 8 + 4 * i + 2 ≤ b.length ∧ 8 + 4 * i + 2 + 2 ≤ b.length := by
      clear hrec s0 s1 s2 s3 hcut
      omega
    clear hs hB hi
    obtain ⟨g1, g2, g3, g4, g5, g6, g7, g8, g9⟩ := g
    obtain ⟨f, hf⟩ : ∃ f, f = e - r.length := ⟨_, rfl⟩
    have v1 := cut2 q b hy (8 + 4 * i) g8
    have v2 := cut2 q b hy (8 + 4 * i + 2) g9
    rw [s0, s1, ← hf, byte_two f (by clear hrec s0 s1 s2 s3 hcut v1 v2; omega)] at v1
    rw [show ((8 + 4 * i + 2 + 1 : Nat) : Int) = ((8 + 4 * i + 3 : Nat) : Int) from rfl, s2, s3, byte_two r.length (by clear hrec s0 s1 s2 s3 hcut v1 v2; omega)] at v2
    rw [← hf] at hcut hrec g5
    clear s0 s1 s2 s3
    have c : (i : Int) < (N : Int) ∧ ¬ ((8 + 4 * i + 4 : Nat) : Int) > (e : Int) ∧ (0 : Int) ≤ ((8 + 4 * i : Nat) : Int) ∧ ((8 + 4 * i : Nat) : Int) ≤ ((8 + 4 * i + 2 : Nat) : Int) ∧ ((8 + 4 * i + 2 : Nat) : Int) ≤ (b.length : Int) ∧ (0 : Int) ≤ ((8 + 4 * i + 2 : Nat) : Int) ∧ ((8 + 4 * i + 2 : Nat) : Int) ≤ ((8 + 4 * i + 4 : Nat) : Int) ∧ ((8 + 4 * i + 4 : Nat) : Int) ≤ (b.length : Int) ∧ ¬ (r.length : Int) = 0 ∧ (f : Int) + (r.length : Int) = (e : Int) ∧ ¬ (f : Int) < ((8 + 4 * N : Nat) : Int) ∧ (f : Int) ≤ (e : Int) ∧ (e : Int) ≤ (b.length : Int) ∧ f ≤ 512 ∧ r.length ≤ 512 := by
      clear hrec hcut v1 v2
      omega
    obtain ⟨c1, c2, c3, c4, c5, c6, c7, c8, c9, c10, c11, c12, c13, c14, c15⟩ := c
    have c16 : (txt pre).length < 8796093022208 := by
      rw [txt_len, hp]
      clear hrec hcut v1 v2
      omega
    have wN : wrap64 (N : Int) = (N : Int) := w64_in _ (by clear hrec hcut v1 v2; omega)
    have w4 : wrap64 (((8 + 4 * i : Nat) : Int) + 4) = ((8 + 4 * i + 4 : Nat) : Int) := w64p (8 + 4 * i) 4 _ (by clear wN hrec hcut v1 v2; omega) (by decide) rfl
    have w2 : wrap64 (((8 + 4 * i : Nat) : Int) + 2) = ((8 + 4 * i + 2 : Nat) : Int) := w64p (8 + 4 * i) 2 _ (by clear wN w4 hrec hcut v1 v2; omega) (by decide) rfl
    have wf : wrap64 (f : Int) = (f : Int) := w64_in _ (by clear wN w4 w2 hrec hcut v1 v2; omega)
    have wm : wrap64 (r.length : Int) = (r.length : Int) := w64_in _ (by clear wN w4 w2 wf hrec hcut v1 v2; omega)
    have we : wrap64 (e : Int) = (e : Int) := w64_in _ (by clear wN w4 w2 wf wm hrec hcut v1 v2; omega)
    have wi : wrap64 ((i : Int) + 1) = ((i + 1 : Nat) : Int) := w64p i 1 _ (Nat.le_trans g6 (by decide)) (by decide) rfl
    rw [rowlockref08_Read.l0, wN, w84 N (Nat.le_trans g7 (by decide)), w84 i (Nat.le_trans g6 (by decide)), w4, w2, if_pos c1, if_neg c2, str_size, if_pos c3, if_pos c4, if_pos c5, Int.toNat_natCast, Int.toNat_natCast, v1, Option.bind_some, if_pos c6, if_pos c7, if_pos c8, Int.toNat_natCast, v2, Option.bind_some, wf, wm, c10, we, if_neg c9, if_pos rfl, if_neg c11, if_pos (Int.natCast_nonneg _), if_pos c12, if_pos c13, if_pos c16, wi, Int.toNat_natCast, Int.toNat_natCast, str_extract, hcut, ← txt_more, hrec, List.append_assoc]
    rfl
theorem Ok.ref_read {nx : Int} {rs : List (List Int)} (h : Ok nx rs) (k : Nat) : rowlockref08_Read.f (k + 2000) (strOfNums (pg nx rs)) = some (nx, txt rs, true) := by
  have hs := h.sz
  have hn := h.nx_
  have hg := h.get 0
  rw [get_f 0 _ (pg_by nx rs h.by_)] at hg
  rw [rowlockref08_Read.f, show k + 2000 = (k + 1990) + 10 by omega, ref_get (k + 1990) _ (pg_by nx rs h.by_), hg, Option.bind_some]
  show (if true = true then rowlockref08_Read.j0 (k + 1990 + 10) (strOfNums (pg nx rs)) ((1 : Int) != 1) 1 (rs.length : Int) nx else _) = _
  rw [if_pos rfl, rowlockref08_Read.j0, if_neg (by decide)]
  have := ref_part 1 nx rs.length (by omega) (pg nx rs) h.len (pg_by nx rs h.by_) rs 0 512 _ _ _ [] (k + 1999) (Part.start nx rs hs) (by omega) rfl h.pos (by omega)
  rw [List.nil_append] at this
  exact this
/-- Both reads of the same bytes: either they are a heap page, and both take it apart, or both say no. -/
theorem both (b : List Int) (hy : By b) : (∃ nx rs, Ok nx rs ∧ b = pg nx rs) ∨ ((∀ k, ∃ x y, slots_read.f (k + 1000) b = some (x, y, false)) ∧ ∀ k, ∃ x y, rowlockref08_Read.f (k + 2000) (strOfNums b) = some (x, y, false)) := by
  rcases Classical.em (∃ nx rs, Ok nx rs ∧ b = pg nx rs) with h | h
  · exact Or.inl h
  · refine Or.inr ⟨fun k => ?_, fun k => ?_⟩
    · obtain ⟨⟨x, y, o⟩, h1, h2⟩ := read_told b hy k
      cases o
      · exact ⟨x, y, h1⟩
      · obtain ⟨nx, rs, _, e1, e2⟩ := h2 rfl
        exact absurd ⟨nx, rs, e1, e2⟩ h
    · obtain ⟨⟨x, y, o⟩, h1, h2⟩ := ref_told b hy k
      cases o
      · exact ⟨x, y, h1⟩
      · obtain ⟨nx, rs, _, e1, e2⟩ := h2 rfl
        exact absurd ⟨nx, rs, e1, e2⟩ h
end Go.Proofs.Ytpfegfkniilobaa.PureSl
