/- Eight bytes as a number, read and written; no conditions but that they are bytes. -/
import Derived.Test.YtegegpdaalfbdaaXRowcodeGetsx4
namespace Go.Proofs.Ytegegpdaalfbdaa.PureG
open Go.RowKit Go.Proofs.Ytegegpdaalfbdaa.XRowcodeGets Go.Proofs.YtegegpdaalfbdaaW.PrintWords Go.Proofs.YtegegpdaalfbdaaW.PrintLast Go.Proofs.YtegegpdaalfbdaaW.PrintMore
set_option linter.unusedVariables false
set_option linter.unusedSimpArgs false
theorem w64_eq (n : Int) : IntKind.i64.wrap n = wrap64 n := by rw [IntKind.wrap_i64]; unfold wrap64; rfl
theorem u64_eq (n : Int) : IntKind.u64.wrap n = n % 18446744073709551616 := by simp [IntKind.wrap, IntKind.bits, IntKind.signed]
theorem or_join (a x : Int) (h0 : 0 ≤ x) (h1 : x ≤ 255) : Go.bits .or .i64 (wrap64 (a * 256)) (wrap64 x) = wrap64 (a * 256 + x) := by
  obtain ⟨b, rfl⟩ := Int.eq_ofNat_of_zero_le h0
  have hx : wrap64 ((b : Nat) : Int) = b := by unfold wrap64; omega
  obtain ⟨m, hm⟩ : ∃ m : Nat, (m : Int) = a % 72057594037927936 := ⟨(a % 72057594037927936).toNat, by omega⟩
  have e1 : BitVec.ofInt 64 (wrap64 (a * 256)) = BitVec.ofNat 64 (256 * m) := by
    apply BitVec.eq_of_toNat_eq
    rw [BitVec.toNat_ofInt, BitVec.toNat_ofNat]
    unfold wrap64
    omega
  have e2 : BitVec.ofInt 64 (wrap64 ((b : Nat) : Int)) = BitVec.ofNat 64 b := by
    rw [hx]
    exact BitVec.ofInt_natCast ..
  have e3 : 256 * m ||| b = 256 * m + b := (Nat.two_pow_add_eq_or_of_lt (i := 8) (by omega) m).symm
  have hm2 : m < 72057594037927936 := by omega
  simp only [Go.bits]
  rw [show IntKind.i64.bits = 64 from rfl, e1, e2, ← BitVec.ofNat_or, e3, BitVec.toNat_ofNat, w64_eq]
  unfold wrap64
  omega
/-- Bytes as a number, the highest first. -/
def num (z : Int) (l : List Int) : Int := l.foldl (fun a x => a * 256 + x) z
theorem acc_num (l : List Int) (h : ∀ x ∈ l, 0 ≤ x ∧ x ≤ 255) : ∀ (z : Int), l.foldl (fun a x => Go.bits .or .i64 (wrap64 (a * 256)) (wrap64 x)) (wrap64 z) = wrap64 (num z l) := by
  induction l with
  | nil => intro z; rfl
  | cons x l ih =>
    intro z
    have hx := h x (List.mem_cons_self ..)
    rw [List.foldl_cons, or_join _ _ hx.1 hx.2, num, List.foldl_cons, show wrap64 (wrap64 z * 256 + x) = wrap64 (z * 256 + x) by unfold wrap64; omega]
    exact ih (fun y hy => h y (List.mem_cons_of_mem _ hy)) _
theorem acc8_num (l : List Int) (h : ∀ x ∈ l, 0 ≤ x ∧ x ≤ 255) : Rd.acc8 l = wrap64 (num 0 l) := by
  have := acc_num l h 0
  rw [show wrap64 0 = 0 by unfold wrap64; omega] at this
  exact this
theorem ref_num (x1 : Int) (xs : List Int) (hn : 8 ≤ xs.length) (hy : ∀ x ∈ xs, 0 ≤ x ∧ x ≤ 255) (d : Nat) : ∀ (q i : Nat) (u z : Int), i ≤ 8 → 8 - i = d → d < q → u = z % 18446744073709551616 →
    rowlockref04_value.l0 q x1 xs u (i : Int) = some (1, wrap64 (num z ((xs.take 8).drop i)), ⟨#[]⟩, wrap64 (x1 + 9), 0) := by
  induction d with
  | zero =>
    intro q i u z hi hd hq hu
    obtain ⟨q, rfl⟩ : ∃ m, q = m + 1 := ⟨q - 1, by omega⟩
    simp only [rowlockref04_value.l0]
    rw [if_neg (by omega), List.drop_of_length_le (by rw [List.length_take]; omega), num, List.foldl_nil, hu]
    congr 2
    unfold wrap64
    simp only [Prod.mk.injEq, and_true]
    omega
  | succ d ih =>
    intro q i u z hi hd hq hu
    obtain ⟨q, rfl⟩ : ∃ m, q = m + 1 := ⟨q - 1, by omega⟩
    have hl : i < (xs.take 8).length := by rw [List.length_take]; omega
    have hx : rd xs (i : Int) = (xs.take 8)[i] := by
      rw [Rd.rd_get (by simpa using (by omega : i < xs.length))]
      simp
    have hb := hy _ (List.mem_of_mem_take (List.getElem_mem hl))
    simp only [rowlockref04_value.l0]
    rw [if_pos (by omega), if_pos (by omega), if_pos (by omega), show wrap64 ((i : Int) + 1) = ((i + 1 : Nat) : Int) by unfold wrap64; omega]
    rw [List.drop_eq_getElem_cons hl, num, List.foldl_cons]
    refine ih q (i + 1) _ _ (by omega) (by omega) (by omega) ?_
    rw [hx, u64_eq, u64_eq, u64_eq, hu]
    omega
theorem one_num (k v : Int) (s : ByteArray) (d : Nat) : ∀ (q i : Nat) (out : List Int), i ≤ 8 → 8 - i = d → d < q → out.length + 8 < 140737488355328 + i →
    rowcode_one.l0 q out (i : Int) k v s = some (out ++ (List.range' i (8 - i)).map fun (j : Nat) => shr .i64 v (56 - 8 * (j : Int)) % 256) := by
  induction d with
  | zero =>
    intro q i out hi hd hq ho
    obtain ⟨q, rfl⟩ : ∃ m, q = m + 1 := ⟨q - 1, by omega⟩
    simp only [rowcode_one.l0]
    rw [if_neg (by omega), hd]
    simp
  | succ d ih =>
    intro q i out hi hd hq ho
    obtain ⟨q, rfl⟩ : ∃ m, q = m + 1 := ⟨q - 1, by omega⟩
    have hw : wrap64 (56 - wrap64 (8 * (i : Int))) = 56 - 8 * (i : Int) := by unfold wrap64; omega
    simp only [rowcode_one.l0, hw]
    rw [if_pos (by omega), if_pos (by omega), if_pos (by omega), show wrap64 ((i : Int) + 1) = ((i + 1 : Nat) : Int) by unfold wrap64; omega]
    rw [ih q (i + 1) _ (by omega) (by omega) (by omega) (by rw [List.length_append]; simp; omega)]
    rw [hd, List.range'_succ, show 8 - (i + 1) = d by omega]
    simp
theorem eight (l : List Int) (h : l.length = 8) : ∃ b0 b1 b2 b3 b4 b5 b6 b7, l = [b0, b1, b2, b3, b4, b5, b6, b7] := by
  match l, h with
  | [b0, b1, b2, b3, b4, b5, b6, b7], _ => exact ⟨b0, b1, b2, b3, b4, b5, b6, b7, rfl⟩
theorem back8 (l : List Int) (h : l.length = 8) (hy : ∀ x ∈ l, 0 ≤ x ∧ x ≤ 255) : ((List.range' 0 8).map fun (j : Nat) => shr .i64 (wrap64 (num 0 l)) (56 - 8 * (j : Int)) % 256) = l := by
  obtain ⟨b0, b1, b2, b3, b4, b5, b6, b7, rfl⟩ := eight l h
  simp only [List.mem_cons, List.not_mem_nil, or_false, forall_eq_or_imp, forall_eq] at hy
  obtain ⟨h0, h1, h2, h3, h4, h5, h6, h7⟩ := hy
  simp only [num, List.foldl_cons, List.foldl_nil, List.range', List.map_cons, List.map_nil, shr, IntKind.bits]
  unfold wrap64
  simp only [List.cons.injEq, and_true]
  refine ⟨?_, ?_, ?_, ?_, ?_, ?_, ?_, ?_⟩
  · rw [show (2 : Int) ^ min (56 - 8 * ((0 : Nat) : Int)).toNat 64 = 72057594037927936 by decide]; omega
  · rw [show (2 : Int) ^ min (56 - 8 * ((0 + 1 : Nat) : Int)).toNat 64 = 281474976710656 by decide]; omega
  · rw [show (2 : Int) ^ min (56 - 8 * ((0 + 1 + 1 : Nat) : Int)).toNat 64 = 1099511627776 by decide]; omega
  · rw [show (2 : Int) ^ min (56 - 8 * ((0 + 1 + 1 + 1 : Nat) : Int)).toNat 64 = 4294967296 by decide]; omega
  · rw [show (2 : Int) ^ min (56 - 8 * ((0 + 1 + 1 + 1 + 1 : Nat) : Int)).toNat 64 = 16777216 by decide]; omega
  · rw [show (2 : Int) ^ min (56 - 8 * ((0 + 1 + 1 + 1 + 1 + 1 : Nat) : Int)).toNat 64 = 65536 by decide]; omega
  · rw [show (2 : Int) ^ min (56 - 8 * ((0 + 1 + 1 + 1 + 1 + 1 + 1 : Nat) : Int)).toNat 64 = 256 by decide]; omega
  · rw [show (2 : Int) ^ min (56 - 8 * ((0 + 1 + 1 + 1 + 1 + 1 + 1 + 1 : Nat) : Int)).toNat 64 = 1 by decide]; omega
end Go.Proofs.Ytegegpdaalfbdaa.PureG
