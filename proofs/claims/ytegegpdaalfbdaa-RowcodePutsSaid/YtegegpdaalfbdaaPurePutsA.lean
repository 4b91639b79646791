/- Plain law of RowcodePuts, first part: what a value's writing is, by the program and by the reference. -/
import Derived.Test.YtegegpdaalfbdaaXRowcodePutsx5
import Derived.Test.YtegegpdaalfbdaaPureVal
namespace Go.Proofs.Ytegegpdaalfbdaa.PureP
open Go.RowKit Go.Proofs.Ytegegpdaalfbdaa.XRowcodePuts Go.Proofs.YtegegpdaalfbdaaW.PrintWords Go.Proofs.YtegegpdaalfbdaaW.PrintLast Go.Proofs.YtegegpdaalfbdaaW.PrintMore
open Go.Proofs.Ytegegpdaalfbdaa.PureG (mayv num acc8_num u64_eq eight tk_in bytes_str str_size)
set_option linter.unusedVariables false
set_option linter.unusedSimpArgs false
theorem may_f (k i : Int) (s : ByteArray) : val_May.f k i s = some (mayv k i s) := by
  unfold val_May.f mayv
  by_cases h0 : k = 0
  · rw [if_pos h0, if_pos h0]; subst h0; congr 1
    rw [Bool.eq_iff_iff]; simp
  · rw [if_neg h0, if_neg h0]
    by_cases h1 : k = 1
    · rw [if_pos h1, if_pos h1]; congr 1
      rw [Bool.eq_iff_iff]; simp
    · rw [if_neg h1, if_neg h1]
      by_cases h2 : k = 2
      · rw [if_pos h2, if_pos h2]
        by_cases hs : s.toList = []
        · rw [if_pos hs]
          by_cases hi : i = 0
          · rw [if_pos hi]; congr 1; simp [hs, hi]
          · rw [if_neg hi]; congr 1; rw [Bool.eq_iff_iff]; simp [hs, hi]
        · rw [if_neg hs]; congr 1; simp [hs]
      · rw [if_neg h2, if_neg h2]
        by_cases h3 : k = 3
        · rw [if_pos h3, if_pos h3]
          by_cases hi : i = 0
          · rw [if_pos hi]; congr 1; simp [hi]
          · rw [if_neg hi]; congr 1; simp [hi]
        · rw [if_neg h3, if_neg h3]
theorem rmay_f (k i : Int) (s : ByteArray) : rowlockref01_May.f k i s = some (mayv k i s) := by
  unfold rowlockref01_May.f mayv
  by_cases h0 : k = 0
  · rw [if_pos h0, if_pos h0]
    by_cases hi : i = 0
    · rw [if_pos hi]; congr 1; rw [Bool.eq_iff_iff]; simp [hi]
    · rw [if_neg hi]; congr 1; simp [hi]
  · rw [if_neg h0, if_neg h0]
    by_cases h1 : k = 1
    · rw [if_pos h1, if_pos h1]; congr 1
      rw [Bool.eq_iff_iff]; simp
    · rw [if_neg h1, if_neg h1]
      by_cases h2 : k = 2
      · rw [if_pos h2, if_pos h2]
        by_cases hs : s.toList = []
        · rw [if_pos hs]
          by_cases hi : i ≥ 0
          · rw [if_pos hi]; congr 1; rw [Bool.eq_iff_iff]; simp [hs]; omega
          · rw [if_neg hi]; congr 1; simp [hs]; omega
        · rw [if_neg hs]; congr 1; simp [hs]
      · rw [if_neg h2, if_neg h2]
        by_cases h3 : k = 3
        · rw [if_pos h3, if_pos h3]
          by_cases hi : i = 0
          · rw [if_pos hi]; congr 1; simp [hi]
          · rw [if_neg hi]; congr 1; simp [hi]
        · rw [if_neg h3, if_neg h3]
/-- A number's eight bytes. -/
def enc8 (v : Int) : List Int := [v / 72057594037927936 % 256, v / 281474976710656 % 256, v / 1099511627776 % 256, v / 4294967296 % 256, v / 16777216 % 256, v / 65536 % 256, v / 256 % 256, v % 256]
theorem enc8_len (v : Int) : (enc8 v).length = 8 := rfl
/-- A value's writing. -/
def wv (k i : Int) (s : ByteArray) : List Int := if k = 1 then 1 :: enc8 i else if k = 2 then [2, i % 256] else if k = 3 then 3 :: ((s.size : Int) % 256) :: bytesOf s else [k]
theorem one_num (k v : Int) (s : ByteArray) (d : Nat) : ∀ (q i : Nat) (out : List Int), i ≤ 8 → 8 - i = d → d < q → out.length + 8 < 140737488355328 + i →
    rowcode_one.l0 q out (i : Int) k v s = some (out ++ (List.range' i (8 - i)).map fun (j : Nat) => shr .i64 v (56 - 8 * (j : Int)) % 256) := by
  induction d with
  | zero =>
    intro q i out hi hd hq ho
    obtain ⟨q, rfl⟩ : ∃ m, q = m + 1 := ⟨q - 1, by omega⟩
    simp only [rowcode_one.l0]
    rw [if_neg (by omega), hd]
    simp
  | succ d ih =>
    intro q i out hi hd hq ho
    obtain ⟨q, rfl⟩ : ∃ m, q = m + 1 := ⟨q - 1, by omega⟩
    have hw : wrap64 (56 - wrap64 (8 * (i : Int))) = 56 - 8 * (i : Int) := by unfold wrap64; omega
    simp only [rowcode_one.l0, hw]
    rw [if_pos (by omega), if_pos (by omega), if_pos (by omega), show wrap64 ((i : Int) + 1) = ((i + 1 : Nat) : Int) by unfold wrap64; omega]
    rw [ih q (i + 1) _ (by omega) (by omega) (by omega) (by rw [List.length_append]; simp; omega)]
    rw [hd, List.range'_succ, show 8 - (i + 1) = d by omega]
    simp
theorem range_enc (v : Int) : ((List.range' 0 8).map fun (j : Nat) => shr .i64 v (56 - 8 * (j : Int)) % 256) = enc8 v := by
  simp only [List.range', List.map_cons, List.map_nil, shr, IntKind.bits, enc8]
  rw [show (2 : Int) ^ min (56 - 8 * ((0 : Nat) : Int)).toNat 64 = 72057594037927936 by decide]
  rw [show (2 : Int) ^ min (56 - 8 * ((0 + 1 : Nat) : Int)).toNat 64 = 281474976710656 by decide]
  rw [show (2 : Int) ^ min (56 - 8 * ((0 + 1 + 1 : Nat) : Int)).toNat 64 = 1099511627776 by decide]
  rw [show (2 : Int) ^ min (56 - 8 * ((0 + 1 + 1 + 1 : Nat) : Int)).toNat 64 = 4294967296 by decide]
  rw [show (2 : Int) ^ min (56 - 8 * ((0 + 1 + 1 + 1 + 1 : Nat) : Int)).toNat 64 = 16777216 by decide]
  rw [show (2 : Int) ^ min (56 - 8 * ((0 + 1 + 1 + 1 + 1 + 1 : Nat) : Int)).toNat 64 = 65536 by decide]
  rw [show (2 : Int) ^ min (56 - 8 * ((0 + 1 + 1 + 1 + 1 + 1 + 1 : Nat) : Int)).toNat 64 = 256 by decide]
  rw [show (2 : Int) ^ min (56 - 8 * ((0 + 1 + 1 + 1 + 1 + 1 + 1 + 1 : Nat) : Int)).toNat 64 = 1 by decide]
  rw [show v / 1 = v by omega]
theorem blen (s : ByteArray) : (bytesOf s).length = s.size := by
  simp only [bytesOf, List.length_map, Array.length_toList]
  rfl
theorem one_f (k i : Int) (s : ByteArray) (h : mayv k i s = true) (q : Nat) (out : List Int) (hq : 20 < q) (ho : out.length ≤ 100000) : rowcode_one.f q out k i s = some (out ++ wv k i s) := by
  unfold rowcode_one.f wv
  rw [if_pos (by omega)]
  simp only [Option.bind_some]
  by_cases h1 : k = 1
  · subst h1
    rw [if_pos rfl, if_pos rfl]
    have := one_num 1 i s 8 q 0 (out ++ [1]) (by omega) rfl (by omega) (by simp; omega)
    rw [show ((0 : Nat) : Int) = 0 from rfl, range_enc] at this
    rw [this]
    simp
  rw [if_neg h1, if_neg h1]
  by_cases h2 : k = 2
  · subst h2
    rw [if_pos rfl, if_pos rfl, if_pos (by simp only [List.length_append, List.length_cons, List.length_nil]; omega)]
    simp
  rw [if_neg h2, if_neg h2]
  by_cases h3 : k = 3
  · subst h3
    have hs : s.size ≤ 48 := by simp [mayv] at h; omega
    rw [if_pos rfl, if_pos rfl, if_pos (by simp only [List.length_append, List.length_cons, List.length_nil]; omega), if_pos (by simp only [List.length_append, List.length_cons, List.length_nil]; omega)]
    simp
  rw [if_neg h3, if_neg h3]
theorem number_f (n : Int) (q : Nat) (hq : 10 < q) : rowlockref04_Number.f q n = some (enc8 n) := by
  obtain ⟨q, rfl⟩ : ∃ m, q = m + 9 := ⟨q - 9, by omega⟩
  unfold rowlockref04_Number.f
  rw [if_pos (by decide), u64_eq]
  obtain ⟨u, hu⟩ := Int.eq_ofNat_of_zero_le (Int.emod_nonneg n (show (18446744073709551616 : Int) ≠ 0 by decide))
  have hdiv : ∀ a : Nat, a ≤ u → IntKind.u64.wrap (Int.tdiv (a : Int) 256) = ((a / 256 : Nat) : Int) := fun a ha => by
    rw [u64_eq, Int.tdiv_eq_ediv_of_nonneg (by omega)]
    omega
  have hmod : ∀ a : Nat, Int.tmod (a : Int) 256 % 256 = ((a % 256 : Nat) : Int) := fun a => by
    rw [Int.tmod_eq_emod_of_nonneg (by omega)]
    omega
  have w7 : wrap64 ((7 : Int) - 1) = 6 := by unfold wrap64; omega
  have w6 : wrap64 ((6 : Int) - 1) = 5 := by unfold wrap64; omega
  have w5 : wrap64 ((5 : Int) - 1) = 4 := by unfold wrap64; omega
  have w4 : wrap64 ((4 : Int) - 1) = 3 := by unfold wrap64; omega
  have w3 : wrap64 ((3 : Int) - 1) = 2 := by unfold wrap64; omega
  have w2 : wrap64 ((2 : Int) - 1) = 1 := by unfold wrap64; omega
  have w1 : wrap64 ((1 : Int) - 1) = 0 := by unfold wrap64; omega
  have w0 : wrap64 ((0 : Int) - 1) = -1 := by unfold wrap64; omega
  rw [hu]
  simp only [rowlockref04_Number.l0, w7, w6, w5, w4, w3, w2, w1, w0, hmod, hdiv u (by omega), hdiv (u / 256) (by omega), hdiv (u / 256 / 256) (by omega), hdiv (u / 256 / 256 / 256) (by omega), hdiv (u / 256 / 256 / 256 / 256) (by omega), hdiv (u / 256 / 256 / 256 / 256 / 256) (by omega), hdiv (u / 256 / 256 / 256 / 256 / 256 / 256) (by omega), hdiv (u / 256 / 256 / 256 / 256 / 256 / 256 / 256) (by omega), List.replicate]
  simp [enc8]
  omega
end Go.Proofs.Ytegegpdaalfbdaa.PureP
