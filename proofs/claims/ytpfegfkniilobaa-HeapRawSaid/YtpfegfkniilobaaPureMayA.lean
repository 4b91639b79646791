/- Any bytes as a heap page: the program's read answers, and what it takes apart is a heap page. -/
import Derived.Test.YtpfegfkniilobaaPureSlotsC
namespace Go.Proofs.Ytpfegfkniilobaa.PureSl
open Go.RowKit Go.Proofs.YtpfegfkniilobaaW.PrintWords Go.Proofs.YtpfegfkniilobaaW.PrintLast Go.Proofs.YtpfegfkniilobaaW.PrintMore Go.Proofs.Ytpfegfkniilobaa.XHeap Go.Proofs.Ytpfegfkniilobaa.Byt Go.Proofs.Ytpfegfkniilobaa.Slb
set_option linter.unusedVariables false
set_option linter.unusedSimpArgs false
theorem toList_loop (b : ByteArray) : ∀ (n i : Nat) (r : List UInt8), b.size - i = n → ByteArray.toList.loop b i r = r.reverse ++ b.data.toList.drop i
  | 0, i, r, h => by
    rw [ByteArray.toList.loop, if_neg (by omega), List.drop_eq_nil_of_le (by rw [Array.length_toList]; exact (Nat.sub_eq_zero_iff_le.1 h)), List.append_nil]
  | n + 1, i, r, h => by
    have hi : i < b.size := by omega
    have hi' : i < b.data.toList.length := by rw [Array.length_toList]; exact hi
    rw [ByteArray.toList.loop, if_pos hi, toList_loop b n (i + 1) _ (by omega), List.reverse_cons, List.append_assoc, List.drop_eq_getElem_cons hi']
    have hg : b.get! i = b.data.toList[i] := by
      rw [ByteArray.get!, Array.getElem_toList]
      exact getElem!_pos b.data i hi
    rw [hg, List.singleton_append]
theorem toList_data (b : ByteArray) : b.toList = b.data.toList := by
  rw [ByteArray.toList, toList_loop b _ 0 [] rfl]
  rfl
theorem toList_inj {a b : ByteArray} (h : a.toList = b.toList) : a = b := by
  rw [toList_data, toList_data] at h
  exact ByteArray.ext (Array.toList_inj.1 h)
theorem str_eq {a b : List Int} (ha : By a) (hb : By b) (h : (strOfNums a).toList = (strOfNums b).toList) : a = b := str_inj ha hb (toList_inj h)
/-- What a reading of bytes answers: no page, or a page of just these bytes. -/
def Told (nx : Int) (b : List Int) (r : Int × List (List Int) × Bool) : Prop := r.2.2 = true → ∃ rs, r = (nx, rs, true) ∧ Ok nx rs ∧ b = pg nx rs
theorem told_no (nx : Int) (b : List Int) : Told nx b (0, [], false) := fun h => by cases h
theorem may_loop (nx : Int) (hnx : 0 ≤ nx ∧ nx < 4294967296) (N : Nat) (hN : N < 65536) (b : List Int) (hb : b.length = 512) (hy : By b) : ∀ (n e i : Nat) (acc : List (List Int)), e < n → e ≤ 512 → acc.length = i → i ≤ N → e + tot acc = 512 → (acc = [] ∨ 8 + 4 * N ≤ e) → (∀ r ∈ acc, 0 < r.length ∧ By r) →
    ∃ r, slots_read.l0 n b ((8 + 4 * N : Nat) : Int) (e : Int) ((8 + 4 * i : Nat) : Int) nx acc = some r ∧ Told nx b r
  | 0, e, i, acc, h, _, _, _, _, _, _ => absurd h (Nat.not_lt_zero _)
  | n + 1, e, i, acc, h, he, ha, hi, ht, hs, hr => by
    by_cases c1 : i < N
    · have c1' : ((8 + 4 * i : Nat) : Int) < ((8 + 4 * N : Nat) : Int) := by omega
      have w4 : wrap64 (((8 + 4 * i : Nat) : Int) + 4) = ((8 + 4 * (i + 1) : Nat) : Int) := w64p (8 + 4 * i) 4 _ (by omega) (by decide) (by omega)
      rw [slots_read.l0, if_pos c1', w4]
      by_cases c2 : ((8 + 4 * (i + 1) : Nat) : Int) > (e : Int)
      · rw [if_pos c2]
        exact ⟨_, rfl, told_no nx b⟩
      have g : 8 + 4 * i + 4 ≤ e ∧ i ≤ 512 := by clear w4; omega
      obtain ⟨g1, g2⟩ := g
      have w2 : wrap64 (((8 + 4 * i : Nat) : Int) + 2) = ((8 + 4 * i + 2 : Nat) : Int) := w64p (8 + 4 * i) 2 _ (by clear w4; omega) (by decide) rfl
      have w3 : wrap64 (((8 + 4 * i : Nat) : Int) + 3) = ((8 + 4 * i + 3 : Nat) : Int) := w64p (8 + 4 * i) 3 _ (by clear w4 w2; omega) (by decide) rfl
      have g3 : (0 : Int) ≤ ((8 + 4 * i + 2 : Nat) : Int) ∧ ((8 + 4 * i + 2 : Nat) : Int) < (b.length : Int) ∧ (0 : Int) ≤ ((8 + 4 * i + 3 : Nat) : Int) ∧ ((8 + 4 * i + 3 : Nat) : Int) < (b.length : Int) := by clear w4 w2 w3; omega
      obtain ⟨c3, c4, c5, c6⟩ := g3
      have b2 := hy.rdb ((8 + 4 * i + 2 : Nat) : Int)
      have b3 := hy.rdb ((8 + 4 * i + 3 : Nat) : Int)
      rw [if_neg c2, w2, w3, if_pos c3, if_pos c4, if_pos c5, if_pos c6, or64 _ _ b2 b3]
      obtain ⟨m, hm⟩ : ∃ m : Nat, rd b ((8 + 4 * i + 2 : Nat) : Int) * 256 + rd b ((8 + 4 * i + 3 : Nat) : Int) = (m : Int) := ⟨_, (Int.toNat_of_nonneg (by clear w4 w2 w3; omega)).symm⟩
      have hm2 : m ≤ 65535 := by clear w4 w2 w3; omega
      rw [hm]
      clear b2 b3 hm c3 c4 c5 c6 w2 w3
      by_cases c7 : (m : Int) = 0
      · rw [if_pos c7]
        exact ⟨_, rfl, told_no nx b⟩
      rw [if_neg c7]
      have we : wrap64 ((e : Int) - ((8 + 4 * N : Nat) : Int)) = (e : Int) - ((8 + 4 * N : Nat) : Int) := w64_in _ (by clear w4; omega)
      rw [we]
      by_cases c8 : (m : Int) > (e : Int) - ((8 + 4 * N : Nat) : Int)
      · rw [if_pos c8]
        exact ⟨_, rfl, told_no nx b⟩
      have g4 : 8 + 4 * N + m ≤ e ∧ 0 < m := by clear w4 we; omega
      obtain ⟨g5, g6⟩ := g4
      have wr : wrap64 ((e : Int) - (m : Int)) = ((e - m : Nat) : Int) := w64n e m (by clear w4 we; omega) (Nat.le_trans he (by decide))
      have g7 : (0 : Int) ≤ ((e - m : Nat) : Int) ∧ ((e - m : Nat) : Int) ≤ (e : Int) ∧ (e : Int) ≤ (b.length : Int) ∧ acc.length < 5864062014805 := by clear w4 we wr; omega
      obtain ⟨c9, c10, c11, c12⟩ := g7
      have hcl : ((b.take e).drop (e - m)).length = m := by
        rw [List.length_drop, List.length_take]
        clear w4 we wr
        omega
      have hrec := may_loop nx hnx N hN b hb hy n (e - m) (i + 1) (acc ++ [(b.take e).drop (e - m)]) (by clear w4 we wr; omega) (by clear w4 we wr; omega) (by rw [List.length_append, ha]; rfl) c1
        (by rw [tot_append, tot, tot, hcl]; clear w4 we wr; omega) (Or.inr (by clear w4 we wr; omega))
        (fun r hr' => by
          rcases List.mem_append.1 hr' with hr' | hr'
          · exact hr r hr'
          · rw [List.mem_singleton.1 hr']
            exact ⟨by rw [hcl]; exact g6, (hy.take _).drop _⟩)
      rw [if_neg c8, wr, if_pos c9, if_pos c10, if_pos c11, Int.toNat_natCast, Int.toNat_natCast, clone_f _ (by rw [hcl]; clear w4 we wr; omega), Option.bind_some, if_pos c12]
      exact hrec
    · have c1' : ¬ ((8 + 4 * i : Nat) : Int) < ((8 + 4 * N : Nat) : Int) := by omega
      have hsz : 4 * acc.length + tot acc ≤ 504 := by
        rcases hs with rfl | hs
        · decide
        · omega
      have hok : Ok nx acc := ⟨hsz, fun r h => (hr r h).1, fun r h => (hr r h).2, hnx⟩
      rw [slots_read.l0, if_neg c1', hok.page, Option.bind_some, bytes_Equal.f, Option.bind_some]
      refine ⟨_, rfl, fun hq => ⟨acc, ?_, hok, ?_⟩⟩
      · have hq' : ((strOfNums (pg nx acc)).toList == (strOfNums b).toList) = true := hq
        rw [hq']
      · exact (str_eq (pg_by nx acc hok.by_) hy (beq_iff_eq.1 hq)).symm
/-- The program's read: it answers, and what it takes apart is a heap page. -/
theorem read_told (b : List Int) (hy : By b) (k : Nat) : ∃ r, slots_read.f (k + 1000) b = some r ∧ (r.2.2 = true → ∃ nx rs, r = (nx, rs, true) ∧ Ok nx rs ∧ b = pg nx rs) := by
  rw [slots_read.f, show k + 1000 = (k + 990) + 10 by omega, get_f (k + 990) b hy, Option.bind_some, getR]
  by_cases h : b.length = 512 ∧ rd b 1 = 0
  · rw [if_pos h]
    have b2 := hy.rdb 2
    have b3 := hy.rdb 3
    have b4 := hy.rdb 4
    have b5 := hy.rdb 5
    have b6 := hy.rdb 6
    have b7 := hy.rdb 7
    obtain ⟨N, hN⟩ : ∃ N : Nat, rd b 2 * 256 + rd b 3 = (N : Int) := ⟨_, (Int.toNat_of_nonneg (by omega)).symm⟩
    have hN2 : N < 65536 := by omega
    obtain ⟨nx, hnx⟩ : ∃ nx, nx = ((rd b 4 * 256 + rd b 5) * 256 + rd b 6) * 256 + rd b 7 := ⟨_, rfl⟩
    have hnx2 : 0 ≤ nx ∧ nx < 4294967296 := by omega
    rw [hN, ← hnx]
    clear hN hnx b2 b3 b4 b5 b6 b7
    show ∃ r, (if true = true then slots_read.j0 (k + 990 + 10) b (rd b 0 != 1) (rd b 0) (N : Int) nx else _) = some r ∧ _
    rw [if_pos rfl, slots_read.j0]
    by_cases hk : (rd b 0 != 1) = true
    · rw [if_pos hk]
      exact ⟨_, rfl, fun h => by cases h⟩
    · rw [if_neg hk]
      have wN : wrap64 (8 + wrap64 (wrap64 (N : Int) * 4)) = ((8 + 4 * N : Nat) : Int) := by
        rw [w64_in (N : Int) (by omega), w64_in ((N : Int) * 4) (by omega), w64_in _ (by omega)]
        omega
      rw [wN]
      obtain ⟨r, h1, h2⟩ := may_loop nx hnx2 N hN2 b h.1 hy (k + 999) 512 0 [] (by omega) (by omega) rfl (by omega) (by decide) (Or.inl rfl) (fun r h => nomatch h)
      exact ⟨r, h1, fun h => by
        obtain ⟨rs, e1, e2, e3⟩ := h2 h
        exact ⟨nx, rs, e1, e2, e3⟩⟩
  · rw [if_neg h]
    show ∃ r, (if false = true then _ else slots_read.j0 (k + 990 + 10) b true 0 0 0) = some r ∧ _
    rw [if_neg (by decide), slots_read.j0, if_pos rfl]
    exact ⟨_, rfl, fun h => by cases h⟩
end Go.Proofs.Ytpfegfkniilobaa.PureSl
