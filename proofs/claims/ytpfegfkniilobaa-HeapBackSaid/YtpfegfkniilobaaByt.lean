/- Bytes: lists of numbers as texts, bits put side by side. No conditions but that they are bytes. -/
import Derived.Test.YtpfegfkniilobaaWWords
import Derived.Test.YtpfegfkniilobaaWMore
import Derived.Laws.BitsLemmas
namespace Go.Proofs.Ytpfegfkniilobaa.Byt
open Go.RowKit Go.Proofs.YtpfegfkniilobaaW.PrintWords Go.Proofs.YtpfegfkniilobaaW.PrintLast Go.Proofs.YtpfegfkniilobaaW.PrintMore
set_option linter.unusedVariables false
set_option linter.unusedSimpArgs false
/-- All are bytes. -/
def By (l : List Int) : Prop := ∀ x ∈ l, 0 ≤ x ∧ x ≤ 255
theorem By.nil : By [] := fun _ h => by cases h
theorem By.cons {x : Int} {l : List Int} (hx : 0 ≤ x ∧ x ≤ 255) (h : By l) : By (x :: l) := fun y hy => by
  rcases List.mem_cons.1 hy with rfl | hy
  · exact hx
  · exact h y hy
theorem By.append {l m : List Int} (h : By l) (k : By m) : By (l ++ m) := fun y hy => (List.mem_append.1 hy).elim (h y) (k y)
theorem By.take {l : List Int} (h : By l) (n : Nat) : By (l.take n) := fun y hy => h y (List.mem_of_mem_take hy)
theorem By.drop {l : List Int} (h : By l) (n : Nat) : By (l.drop n) := fun y hy => h y (List.mem_of_mem_drop hy)
theorem By.zeros (n : Nat) : By (List.replicate n 0) := fun y hy => by rw [List.eq_of_mem_replicate hy]; omega
theorem By.rdb {l : List Int} (h : By l) (i : Int) : 0 ≤ rd l i ∧ rd l i ≤ 255 := by
  rw [rd, List.getD_eq_getElem?_getD]
  by_cases hi : i.toNat < l.length
  · rw [List.getElem?_eq_getElem hi]
    exact h _ (List.getElem_mem hi)
  · rw [List.getElem?_eq_none (by omega)]
    simp
theorem w64_eq (n : Int) : IntKind.i64.wrap n = wrap64 n := by rw [IntKind.wrap_i64]; unfold wrap64; rfl
theorem u32_eq (n : Int) : IntKind.u32.wrap n = n % 4294967296 := by simp [IntKind.wrap, IntKind.bits, IntKind.signed]
theorem u16_eq (n : Int) : IntKind.u16.wrap n = n % 65536 := by simp [IntKind.wrap, IntKind.bits, IntKind.signed]
theorem w64_in (n : Int) (h : -9223372036854775808 ≤ n ∧ n ≤ 9223372036854775807) : wrap64 n = n := by unfold wrap64; omega
theorem or32 (a x : Int) (ha : 0 ≤ a) (ha2 : a < 16777216) (h0 : 0 ≤ x) (h1 : x ≤ 255) : Go.bits .or .u32 ((a * 256) % 4294967296) (x % 4294967296) = a * 256 + x := by
  obtain ⟨b, rfl⟩ := Int.eq_ofNat_of_zero_le h0
  obtain ⟨m, rfl⟩ := Int.eq_ofNat_of_zero_le ha
  have e1 : BitVec.ofInt 32 (((m : Nat) : Int) * 256 % 4294967296) = BitVec.ofNat 32 (256 * m) := by
    apply BitVec.eq_of_toNat_eq
    rw [BitVec.toNat_ofInt, BitVec.toNat_ofNat]
    omega
  have e2 : BitVec.ofInt 32 (((b : Nat) : Int) % 4294967296) = BitVec.ofNat 32 b := by
    apply BitVec.eq_of_toNat_eq
    rw [BitVec.toNat_ofInt, BitVec.toNat_ofNat]
    omega
  have e3 : 256 * m ||| b = 256 * m + b := (Nat.two_pow_add_eq_or_of_lt (i := 8) (by omega) m).symm
  simp only [Go.bits]
  rw [show IntKind.u32.bits = 32 from rfl, e1, e2, ← BitVec.ofNat_or, e3, BitVec.toNat_ofNat, u32_eq]
  omega
theorem or16 (a x : Int) (ha : 0 ≤ a ∧ a ≤ 255) (hx : 0 ≤ x ∧ x ≤ 255) : Go.bits .or .u16 (IntKind.u16.wrap (IntKind.u16.wrap a * 256)) (IntKind.u16.wrap x) = a * 256 + x := by
  obtain ⟨b, rfl⟩ := Int.eq_ofNat_of_zero_le hx.1
  obtain ⟨m, rfl⟩ := Int.eq_ofNat_of_zero_le ha.1
  rw [u16_eq, u16_eq, u16_eq]
  have e1 : BitVec.ofInt 16 (((m : Nat) : Int) % 65536 * 256 % 65536) = BitVec.ofNat 16 (256 * m) := by
    apply BitVec.eq_of_toNat_eq
    rw [BitVec.toNat_ofInt, BitVec.toNat_ofNat]
    omega
  have e2 : BitVec.ofInt 16 (((b : Nat) : Int) % 65536) = BitVec.ofNat 16 b := by
    apply BitVec.eq_of_toNat_eq
    rw [BitVec.toNat_ofInt, BitVec.toNat_ofNat]
    omega
  have e3 : 256 * m ||| b = 256 * m + b := (Nat.two_pow_add_eq_or_of_lt (i := 8) (by omega) m).symm
  simp only [Go.bits]
  rw [show IntKind.u16.bits = 16 from rfl, e1, e2, ← BitVec.ofNat_or, e3, BitVec.toNat_ofNat, u16_eq]
  omega
theorem rd_drop_take (l : List Int) (a b : Nat) (i : Int) (h0 : 0 ≤ i) (h : a + i < b) : rd ((l.take b).drop a) i = rd l (a + i) := by
  rw [rd, rd, List.getD_eq_getElem?_getD, List.getD_eq_getElem?_getD, List.getElem?_drop, List.getElem?_take, show ((a : Int) + i).toNat = a + i.toNat by omega, if_pos (by omega)]
end Go.Proofs.Ytpfegfkniilobaa.Byt
