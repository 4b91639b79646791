/- Keys' numbers: a sign bit turned, bytes from the highest on; texts' zeros doubled. Conditions: numbers are of their kinds. -/
import Derived.Test.YthkanebmkeamlaaDoorXKeyx0
import Derived.Test.YthkanebmkeamlaaDoorByt
import Derived.Test.YthkanebmkeamlaaDoorKeyM
import Derived.Lib.Replace
import Derived.Lib.IndexBytes
import Derived.Lib.IndexLaws
namespace Go.Proofs.YthkanebmkeamlaaDoor.Ky
open Go.RowKit Go.Proofs.YthkanebmkeamlaaDoorW.PrintWords Go.Proofs.YthkanebmkeamlaaDoor.Byt
set_option linter.unusedVariables false
set_option linter.unusedSimpArgs false
theorem xor63 (n : Nat) (h : n < 2 ^ 63) : n ^^^ 2 ^ 63 = 2 ^ 63 + n := by
  apply Nat.eq_of_testBit_eq
  intro i
  rw [Nat.testBit_xor, Nat.testBit_two_pow]
  rcases Nat.lt_trichotomy i 63 with h1 | h1 | h1
  · rw [Nat.testBit_two_pow_add_gt h1, decide_eq_false (by omega), Bool.xor_false]
  · subst h1
    rw [Nat.testBit_two_pow_add_eq, Nat.testBit_lt_two_pow h]
    rfl
  · rw [decide_eq_false (by omega), Bool.xor_false, Nat.testBit_lt_two_pow (Nat.lt_of_lt_of_le h (Nat.pow_le_pow_right (by omega) (by omega))), Nat.testBit_lt_two_pow]
    have : 2 ^ 64 ≤ 2 ^ i := Nat.pow_le_pow_right (by omega) (by omega)
    omega
theorem xor63' (n : Nat) (h : n < 2 ^ 63) : (2 ^ 63 + n) ^^^ 2 ^ 63 = n := by
  rw [← xor63 n h, Nat.xor_assoc, Nat.xor_self, Nat.xor_zero]
theorem bitsX (m : Nat) (h : m < 18446744073709551616) : Go.bits .xor .u64 (m : Int) 9223372036854775808 = ((m ^^^ 2 ^ 63 : Nat) : Int) := by
  have e1 : BitVec.ofInt 64 (m : Int) = BitVec.ofNat 64 m := BitVec.ofInt_natCast ..
  have e2 : BitVec.ofInt 64 (9223372036854775808 : Int) = BitVec.ofNat 64 (2 ^ 63) := BitVec.ofInt_natCast 64 (2 ^ 63)
  simp only [Go.bits]
  rw [show IntKind.u64.bits = 64 from rfl, e1, e2, BitVec.toNat_xor, BitVec.toNat_ofNat, BitVec.toNat_ofNat, Nat.mod_eq_of_lt h, Nat.mod_eq_of_lt (by decide), u64_eq]
  have h2 : m ^^^ 2 ^ 63 < 2 ^ 64 := Nat.xor_lt_two_pow h (by decide)
  have h3 : (2 : Nat) ^ 64 = 18446744073709551616 := by decide
  omega
theorem flipN (n : Int) (h : -9223372036854775808 ≤ n ∧ n ≤ 9223372036854775807) : Go.bits .xor .u64 (IntKind.u64.wrap n) 9223372036854775808 = n + 9223372036854775808 := by
  have e63 : (2 : Nat) ^ 63 = 9223372036854775808 := by decide
  rw [u64_eq]
  by_cases h0 : 0 ≤ n
  · obtain ⟨m, rfl⟩ := Int.eq_ofNat_of_zero_le h0
    rw [show ((m : Int) % 18446744073709551616) = m by omega, bitsX m (by omega), xor63 m (by omega)]
    omega
  · obtain ⟨m, hm⟩ := Int.eq_ofNat_of_zero_le (show 0 ≤ n + 9223372036854775808 by omega)
    rw [show (n % 18446744073709551616) = ((2 ^ 63 + m : Nat) : Int) by omega, bitsX _ (by omega), xor63' m (by omega), hm]
theorem flipB (u : Int) (h : 0 ≤ u ∧ u < 18446744073709551616) : IntKind.i64.wrap (Go.bits .xor .u64 u 9223372036854775808) = u - 9223372036854775808 := by
  have e63 : (2 : Nat) ^ 63 = 9223372036854775808 := by decide
  obtain ⟨m, rfl⟩ := Int.eq_ofNat_of_zero_le h.1
  rw [bitsX m (by omega), w64_eq]
  by_cases h0 : m < 2 ^ 63
  · rw [xor63 m h0]
    unfold wrap64
    omega
  · obtain ⟨q, rfl⟩ : ∃ q, m = 2 ^ 63 + q := ⟨m - 2 ^ 63, by omega⟩
    rw [xor63' q (by omega)]
    unfold wrap64
    omega
/-- Eight bytes of a number, written out. -/
theorem be8 (n : Int) : KeyM.be 8 n = [n / 72057594037927936 % 256, n / 281474976710656 % 256, n / 1099511627776 % 256, n / 4294967296 % 256, n / 16777216 % 256, n / 65536 % 256, n / 256 % 256, n % 256] := by
  show [n / 256 / 256 / 256 / 256 / 256 / 256 / 256 % 256, n / 256 / 256 / 256 / 256 / 256 / 256 % 256, n / 256 / 256 / 256 / 256 / 256 % 256, n / 256 / 256 / 256 / 256 % 256, n / 256 / 256 / 256 % 256, n / 256 / 256 % 256, n / 256 % 256, n % 256] = _
  rw [show n / 256 / 256 / 256 / 256 / 256 / 256 / 256 = n / 72057594037927936 by omega, show n / 256 / 256 / 256 / 256 / 256 / 256 = n / 281474976710656 by omega, show n / 256 / 256 / 256 / 256 / 256 = n / 1099511627776 by omega, show n / 256 / 256 / 256 / 256 = n / 4294967296 by omega, show n / 256 / 256 / 256 = n / 16777216 by omega, show n / 256 / 256 = n / 65536 by omega]
/-! ### a text's zeros -/
def escU : List UInt8 → List UInt8
  | [] => []
  | c :: t => if c = 0 then 0 :: 255 :: escU t else c :: escU t
theorem escU_app : ∀ s t : List UInt8, (∀ c ∈ s, c ≠ 0) → escU (s ++ t) = s ++ escU t
  | [], t, h => rfl
  | c :: s, t, h => by
    show escU (c :: (s ++ t)) = _
    rw [escU, if_neg (h c (List.mem_cons_self ..)), escU_app s t (fun x hx => h x (List.mem_cons_of_mem _ hx))]
    rfl
theorem split0 {s : List UInt8} {i : Nat} (h : Lib.indexByte s 0 = i) : s = s.take i ++ 0 :: s.drop (i + 1) ∧ (∀ c ∈ s.take i, c ≠ 0) ∧ i < s.length := by
  obtain ⟨h1, h2⟩ := Lib.indexByte_some h
  have hi : i < s.length := by
    rcases Nat.lt_or_ge i s.length with h | h
    · exact h
    · rw [List.getElem?_eq_none h] at h1; cases h1
  have e : s[i] = 0 := by
    rw [List.getElem?_eq_getElem hi] at h1
    exact Option.some.inj h1
  refine ⟨?_, fun c hc => ?_, hi⟩
  · conv => lhs; rw [← List.take_append_drop i s, List.drop_eq_getElem_cons hi, e]
  · obtain ⟨j, hj, rfl⟩ := List.mem_iff_getElem.1 hc
    rw [List.length_take] at hj
    rw [List.getElem_take]
    intro e2
    exact h2 j (by omega) (by rw [List.getElem?_eq_getElem (by omega), e2])
theorem none0 {s : List UInt8} (h : Lib.indexByte s 0 = -1) : ∀ c ∈ s, c ≠ 0 := fun c hc => by
  obtain ⟨j, hj, rfl⟩ := List.mem_iff_getElem.1 hc
  intro e2
  exact Lib.indexByte_none h j (by rw [List.getElem?_eq_getElem hj, e2])
theorem escU_id {s : List UInt8} (h : ∀ c ∈ s, c ≠ 0) : escU s = s := by
  have := escU_app s [] h
  rw [List.append_nil] at this
  rw [this]
  simp [escU]
theorem repK_esc : ∀ (m : Nat) (s : List UInt8), s.length ≤ m → Lib.replaceK [0] [0, 255] (Lib.count s [0]) s = escU s
  | m, s, hm => by
    have hge := Lib.indexByte_ge s 0
    by_cases h : Lib.indexByte s 0 = -1
    · rw [Lib.count_miss (by rw [Lib.index_one, h]), Lib.replaceK, escU_id (none0 h)]
    · obtain ⟨i, hi⟩ := Int.eq_ofNat_of_zero_le (show 0 ≤ Lib.indexByte s 0 by omega)
      obtain ⟨h1, h2, h3⟩ := split0 hi
      have hix : Lib.index s [0] = (i : Int) := by rw [Lib.index_one, hi]
      match m, hm with
      | 0, hm => omega
      | m + 1, hm =>
        have ih := repK_esc m (s.drop (i + 1)) (by rw [List.length_drop]; omega)
        rw [Lib.count_hit (by simp) hix, show 1 + Lib.count (s.drop (i + [(0 : UInt8)].length)) [0] = Lib.count (s.drop (i + 1)) [0] + 1 from Nat.add_comm .., Lib.replaceK_hit _ _ _ _ _ hix]
        rw [show s.drop (i + [(0 : UInt8)].length) = s.drop (i + 1) from rfl, ih]
        conv => rhs; rw [h1]
        rw [escU_app _ _ h2, escU, if_pos rfl]
        simp
theorem rep_esc (s : List UInt8) : Lib.replaceAll s [0] [0, 255] = escU s := by
  unfold Lib.replaceAll Lib.replace Lib.replaceNum
  rw [if_neg (by decide), if_pos (.inl (by decide))]
  exact repK_esc s.length s (Nat.le_refl _)
theorem toB (s : List UInt8) : (escU s).map (fun b => (b.toNat : Int)) = KeyM.esc (s.map fun b => (b.toNat : Int)) := by
  induction s with
  | nil => rfl
  | cons c s ih =>
    rw [escU, List.map_cons, KeyM.esc]
    by_cases h : c = 0
    · subst h
      rw [if_pos rfl, if_pos (by decide), List.map_cons, List.map_cons, ih]
      rfl
    · have h2 : ¬ (c.toNat : Int) = 0 := fun e => h (UInt8.toNat_inj.1 (by simpa using e))
      rw [if_neg h, if_neg h2, List.map_cons, ih]
end Go.Proofs.YthkanebmkeamlaaDoor.Ky
