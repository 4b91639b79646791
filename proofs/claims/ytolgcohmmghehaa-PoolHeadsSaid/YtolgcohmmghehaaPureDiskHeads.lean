/- Heads: the program's and the reference's answer alike. Conditions: numbers of their kinds, bytes. -/
import Derived.Test.YtolgcohmmghehaaTDiskHeads
import Derived.Test.YtolgcohmmghehaaByt
namespace Go.Proofs.Ytolgcohmmghehaa.PureH
open Go.RowKit Go.Proofs.YtolgcohmmghehaaW.PrintWords Go.Proofs.YtolgcohmmghehaaW.PrintLast Go.Proofs.YtolgcohmmghehaaW.PrintMore Go.Proofs.Ytolgcohmmghehaa.XDiskHeads Go.Proofs.Ytolgcohmmghehaa.Byt
set_option linter.unusedVariables false
set_option linter.unusedSimpArgs false
/-- What a page's head is. -/
def getR (l : List Int) : Int × Int × Int × Bool := if l.length = 512 ∧ rd l 1 = 0 then (rd l 0, rd l 2 * 256 + rd l 3, ((rd l 4 * 256 + rd l 5) * 256 + rd l 6) * 256 + rd l 7, true) else (0, 0, 0, false)
theorem get_f (l : List Int) (hy : By l) : disk_Get.f 10 l = some (getR l) := by
  rw [disk_Get.f, getR]
  by_cases h : l.length = 512
  · rw [if_pos (by omega), if_pos (by omega)]
    by_cases h1 : rd l 1 = 0
    · rw [if_pos ⟨h, h1⟩, show (rd l 1 != 0) = false from bne_eq_false_iff_eq.mpr h1]
      have hl : ((l.take 8).drop 4).length = 4 := by rw [List.length_drop, List.length_take]; omega
      have r0 : rd ((l.take 8).drop 4) 0 = rd l 4 := rd_drop_take l 4 8 0 (by omega) (by omega)
      have r1 : rd ((l.take 8).drop 4) 1 = rd l 5 := rd_drop_take l 4 8 1 (by omega) (by omega)
      have r2 : rd ((l.take 8).drop 4) 2 = rd l 6 := rd_drop_take l 4 8 2 (by omega) (by omega)
      have r3 : rd ((l.take 8).drop 4) 3 = rd l 7 := rd_drop_take l 4 8 3 (by omega) (by omega)
      have w0 : wrap64 (0 + 1) = 1 := w64_in _ (by omega)
      have w1 : wrap64 (1 + 1) = 2 := w64_in _ (by omega)
      have w2 : wrap64 (2 + 1) = 3 := w64_in _ (by omega)
      have w3 : wrap64 (3 + 1) = 4 := w64_in _ (by omega)
      have b4 := hy.rdb 4
      have b5 := hy.rdb 5
      have b6 := hy.rdb 6
      have b7 := hy.rdb 7
      have o0 : Go.bits .or .u32 ((0 * 256) % 4294967296) (rd l 4 % 4294967296) = rd l 4 := by rw [or32 0 _ (by omega) (by omega) b4.1 b4.2]; omega
      rw [disk_Get.j0, if_neg (by decide), if_pos (by omega), if_pos (by omega), hl]
      rw [disk_Get.l0, if_pos (by decide), if_pos (by omega), if_pos (by rw [hl]; omega), r0, w0, o0]
      rw [disk_Get.l0, if_pos (by decide), if_pos (by omega), if_pos (by rw [hl]; omega), r1, w1, or32 _ _ (by omega) (by omega) b5.1 b5.2]
      rw [disk_Get.l0, if_pos (by decide), if_pos (by omega), if_pos (by rw [hl]; omega), r2, w2, or32 _ _ (by omega) (by omega) b6.1 b6.2]
      rw [disk_Get.l0, if_pos (by decide), if_pos (by omega), if_pos (by rw [hl]; omega), r3, w3, or32 _ _ (by omega) (by omega) b7.1 b7.2]
      rw [disk_Get.l0, if_neg (by decide), if_pos (by omega), if_pos (by omega), if_pos (by omega), or16 _ _ (hy.rdb 2) (hy.rdb 3)]
    · rw [if_neg (by omega), show (rd l 1 != 0) = true from bne_iff_ne.mpr h1, disk_Get.j0, if_pos rfl]
  · rw [if_neg (by omega), if_neg (by omega), disk_Get.j0, if_pos rfl]
theorem value2 (l : List Int) (hy : By l) (hl : l.length = 2) : rowlockref06_Value.f 9 (strOfNums l) = some (rd l 0 * 256 + rd l 1) := by
  have w0 : wrap64 (0 + 1) = 1 := w64_in _ (by omega)
  have w1 : wrap64 (1 + 1) = 2 := w64_in _ (by omega)
  have b0 := hy.rdb 0
  have b1 := hy.rdb 1
  rw [rowlockref06_Value.f, rowlockref06_Value.l0, str_size, hl, if_pos (by decide), if_pos (by omega), str_bt hy, w0]
  rw [rowlockref06_Value.l0, str_size, hl, if_pos (by decide), if_pos (by omega), str_bt hy, w1]
  rw [rowlockref06_Value.l0, str_size, hl, if_neg (by decide)]
  simp only [u64_eq]
  congr 1
  omega
theorem value4 (l : List Int) (hy : By l) (hl : l.length = 4) : rowlockref06_Value.f 9 (strOfNums l) = some (((rd l 0 * 256 + rd l 1) * 256 + rd l 2) * 256 + rd l 3) := by
  have w0 : wrap64 (0 + 1) = 1 := w64_in _ (by omega)
  have w1 : wrap64 (1 + 1) = 2 := w64_in _ (by omega)
  have w2 : wrap64 (2 + 1) = 3 := w64_in _ (by omega)
  have w3 : wrap64 (3 + 1) = 4 := w64_in _ (by omega)
  have b0 := hy.rdb 0
  have b1 := hy.rdb 1
  have b2 := hy.rdb 2
  have b3 := hy.rdb 3
  rw [rowlockref06_Value.f, rowlockref06_Value.l0, str_size, hl, if_pos (by decide), if_pos (by omega), str_bt hy, w0]
  rw [rowlockref06_Value.l0, str_size, hl, if_pos (by decide), if_pos (by omega), str_bt hy, w1]
  rw [rowlockref06_Value.l0, str_size, hl, if_pos (by decide), if_pos (by omega), str_bt hy, w2]
  rw [rowlockref06_Value.l0, str_size, hl, if_pos (by decide), if_pos (by omega), str_bt hy, w3]
  rw [rowlockref06_Value.l0, str_size, hl, if_neg (by decide)]
  simp only [u64_eq]
  congr 1
  omega
theorem ref_f (l : List Int) (hy : By l) : rowlockref06_Get.f 10 (strOfNums l) = some (getR l) := by
  rw [rowlockref06_Get.f, getR, str_size]
  by_cases h : l.length = 512
  · rw [if_pos (by omega), if_pos (by omega), str_bt hy]
    by_cases h1 : rd l 1 = 0
    · rw [if_pos ⟨h, h1⟩, show (rd l 1 != 0) = false from bne_eq_false_iff_eq.mpr h1]
      have hl2 : ((l.take 4).drop 2).length = 2 := by rw [List.length_drop, List.length_take]; omega
      have hl4 : ((l.take 8).drop 4).length = 4 := by rw [List.length_drop, List.length_take]; omega
      have b2 := hy.rdb 2
      have b3 := hy.rdb 3
      have b4 := hy.rdb 4
      have b5 := hy.rdb 5
      have b6 := hy.rdb 6
      have b7 := hy.rdb 7
      rw [rowlockref06_Get.j0, if_neg (by decide), str_size, if_pos (by omega), if_pos (by omega), if_pos (by omega), str_extract, value2 _ ((hy.take _).drop _) hl2]
      rw [show rd ((l.take 4).drop 2) 0 = rd l 2 from rd_drop_take l 2 4 0 (by omega) (by omega), show rd ((l.take 4).drop 2) 1 = rd l 3 from rd_drop_take l 2 4 1 (by omega) (by omega)]
      simp only [Option.bind_some]
      rw [if_pos (by omega), if_pos (by omega), str_extract, value4 _ ((hy.take _).drop _) hl4]
      rw [show rd ((l.take 8).drop 4) 0 = rd l 4 from rd_drop_take l 4 8 0 (by omega) (by omega), show rd ((l.take 8).drop 4) 1 = rd l 5 from rd_drop_take l 4 8 1 (by omega) (by omega), show rd ((l.take 8).drop 4) 2 = rd l 6 from rd_drop_take l 4 8 2 (by omega) (by omega), show rd ((l.take 8).drop 4) 3 = rd l 7 from rd_drop_take l 4 8 3 (by omega) (by omega)]
      simp only [Option.bind_some, str_bt hy, u16_eq]
      congr 4 <;> omega
    · rw [if_neg (by omega), show (rd l 1 != 0) = true from bne_iff_ne.mpr h1, rowlockref06_Get.j0, if_pos rfl]
  · rw [if_neg (by omega), if_neg (by omega), rowlockref06_Get.j0, if_pos rfl]
theorem number2 (n : Int) (h : 0 ≤ n ∧ n < 65536) : rowlockref06_Number.f 10 (IntKind.u64.wrap n) 2 = some (strOfNums [n / 256 % 256, n % 256]) := by
  have w0 : wrap64 (0 + 1) = 1 := w64_in _ (by omega)
  have w1 : wrap64 (1 + 1) = 2 := w64_in _ (by omega)
  have u0 : IntKind.u64.wrap n = n := by rw [u64_eq]; omega
  have d0 : Int.tdiv n 256 = n / 256 := Int.tdiv_eq_ediv_of_nonneg h.1
  have u1 : IntKind.u64.wrap (n / 256) = n / 256 := by rw [u64_eq]; omega
  have m0 : Int.tmod n 256 % 256 = n % 256 := by rw [Int.tmod_eq_emod_of_nonneg h.1]; omega
  have m1 : Int.tmod (n / 256) 256 % 256 = n / 256 % 256 := by rw [Int.tmod_eq_emod_of_nonneg (by omega)]; omega
  have e0 : (⟨#[]⟩ : ByteArray) = strOfNums [] := rfl
  rw [rowlockref06_Number.f, u0, e0]
  rw [rowlockref06_Number.l0, if_pos (by decide), Option.bind_some, m0, d0, u1, w0, ← str_append, str_size, str_size, if_pos (by simp)]
  rw [rowlockref06_Number.l0, if_pos (by decide), Option.bind_some, m1, w1, ← str_append, str_size, str_size, if_pos (by simp)]
  rw [rowlockref06_Number.l0, if_neg (by decide)]
  rfl
theorem number4 (n : Int) (h : 0 ≤ n ∧ n < 4294967296) : rowlockref06_Number.f 10 (IntKind.u64.wrap n) 4 = some (strOfNums [n / 16777216 % 256, n / 65536 % 256, n / 256 % 256, n % 256]) := by
  have w0 : wrap64 (0 + 1) = 1 := w64_in _ (by omega)
  have w1 : wrap64 (1 + 1) = 2 := w64_in _ (by omega)
  have w2 : wrap64 (2 + 1) = 3 := w64_in _ (by omega)
  have w3 : wrap64 (3 + 1) = 4 := w64_in _ (by omega)
  have u0 : IntKind.u64.wrap n = n := by rw [u64_eq]; omega
  have d0 : IntKind.u64.wrap (Int.tdiv n 256) = n / 256 := by rw [Int.tdiv_eq_ediv_of_nonneg h.1, u64_eq]; omega
  have d1 : IntKind.u64.wrap (Int.tdiv (n / 256) 256) = n / 65536 := by rw [Int.tdiv_eq_ediv_of_nonneg (by omega), u64_eq]; omega
  have d2 : IntKind.u64.wrap (Int.tdiv (n / 65536) 256) = n / 16777216 := by rw [Int.tdiv_eq_ediv_of_nonneg (by omega), u64_eq]; omega
  have m0 : Int.tmod n 256 % 256 = n % 256 := by rw [Int.tmod_eq_emod_of_nonneg h.1]; omega
  have m1 : Int.tmod (n / 256) 256 % 256 = n / 256 % 256 := by rw [Int.tmod_eq_emod_of_nonneg (by omega)]; omega
  have m2 : Int.tmod (n / 65536) 256 % 256 = n / 65536 % 256 := by rw [Int.tmod_eq_emod_of_nonneg (by omega)]; omega
  have m3 : Int.tmod (n / 16777216) 256 % 256 = n / 16777216 % 256 := by rw [Int.tmod_eq_emod_of_nonneg (by omega)]; omega
  have e0 : (⟨#[]⟩ : ByteArray) = strOfNums [] := rfl
  rw [rowlockref06_Number.f, u0, e0]
  rw [rowlockref06_Number.l0, if_pos (by decide), Option.bind_some, m0, d0, w0, ← str_append, str_size, str_size, if_pos (by simp)]
  rw [rowlockref06_Number.l0, if_pos (by decide), Option.bind_some, m1, d1, w1, ← str_append, str_size, str_size, if_pos (by simp)]
  rw [rowlockref06_Number.l0, if_pos (by decide), Option.bind_some, m2, d2, w2, ← str_append, str_size, str_size, if_pos (by simp)]
  rw [rowlockref06_Number.l0, if_pos (by decide), Option.bind_some, m3, w3, ← str_append, str_size, str_size, if_pos (by simp)]
  rw [rowlockref06_Number.l0, if_neg (by decide)]
  rfl
theorem head_f (a b c : Int) (hb : 0 ≤ b ∧ b < 65536) (hc : 0 ≤ c ∧ c < 4294967296) : rowlockref06_Head.f 10 a b c = some (strOfNums (PL a b c)) := by
  rw [rowlockref06_Head.f, Option.bind_some, number2 b hb, Option.bind_some, str_size, str_size, if_pos (by simp), number4 c hc, Option.bind_some, ← str_append, str_size, str_size, if_pos (by simp)]
  rw [rowlockref06_zeros.f, if_pos (by decide), if_pos (by decide), Option.bind_some, ← str_append, str_size, str_size, if_pos (by simp only [List.length_append, List.length_cons, List.length_nil, List.length_replicate]; omega), ← str_append]
  congr 2
theorem PL_len (a b c : Int) : (PL a b c).length = 512 := by rw [PL, List.length_append, List.length_replicate]; rfl
theorem PL_by {a b c : Int} (ha : 0 ≤ a ∧ a < 256) : By (PL a b c) := by
  refine By.append ?_ (By.zeros 504)
  refine By.cons (by omega) (By.cons (by omega) (By.cons (by omega) (By.cons (by omega) (By.cons (by omega) (By.cons (by omega) (By.cons (by omega) (By.cons (by omega) By.nil)))))))
theorem getR_PL (a b c : Int) (ha : 0 ≤ a ∧ a < 256) (hb : 0 ≤ b ∧ b < 65536) (hc : 0 ≤ c ∧ c < 4294967296) : getR (PL a b c) = (a, b, c, true) := by
  rw [getR, if_pos ⟨PL_len a b c, rfl⟩]
  show (a, b / 256 % 256 * 256 + b % 256, ((c / 16777216 % 256 * 256 + c / 65536 % 256) * 256 + c / 256 % 256) * 256 + c % 256, true) = _
  congr 2
  · omega
  · congr 1
    omega
theorem DiskHeads_ok (h0 h1 h2 : Int) (A : Option Addr) (c : Nat) (l : List Int) (wh : Bool) (w : World) (hC : Kd.C (Kd.int .u8) w A l.length l) (hc : l.length ≤ c) (hy : ∀ x ∈ l, (Lit.int .u8 x).wf = true) (ha : (Lit.int .u8 h0).wf = true) (hb : (Lit.int .u16 h1).wf = true) (hn : (Lit.int .u32 h2).wf = true) :
    Calls Try.prog 3 #[.agg #[.int .u8 h0, .int .u16 h1, .int .u32 h2], .slice A l.length c, .bool wh] w fun e w' => e = .returned (.bool true) ∧ Below w.heap.size w w' := by
  have hy' : By l := fun x hx => by
    have := hy x hx
    simp [Lit.wf, IntKind.min, IntKind.max, IntKind.signed, IntKind.bits] at this
    omega
  simp [Lit.wf, IntKind.min, IntKind.max, IntKind.signed, IntKind.bits] at ha hb hn
  by_cases hl : 600 < l.length
  · exact DiskHeads_big h0 h1 h2 A l.length c wh w hl
  · have e1 : disk_Get.f 10 (PL h0 h1 h2) = some (h0, h1, h2, true) := by rw [get_f _ (PL_by (by omega)), getR_PL _ _ _ (by omega) (by omega) (by omega)]
    have e2 := head_f h0 h1 h2 (by omega) (by omega)
    cases wh
    · exact DiskHeads_walk 10 h0 h1 h2 A c l w hC hc (by omega) _ _ _ _ e1 e2 (get_f l hy') (ref_f l hy')
    · exact DiskHeads_whole 10 h0 h1 h2 A c l w hC hc (by omega) _ _ _ _ e1 e2 ((l ++ List.replicate 512 0).take 512) rfl (get_f _ ((hy'.append (By.zeros 512)).take 512)) (ref_f _ ((hy'.append (By.zeros 512)).take 512))
end Go.Proofs.Ytolgcohmmghehaa.PureH
