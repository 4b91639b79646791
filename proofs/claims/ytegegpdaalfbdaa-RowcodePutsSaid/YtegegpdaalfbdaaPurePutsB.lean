/- Plain law of RowcodePuts, second part: what is written is read as it was; the numbers have 64 bits. -/
import Derived.Test.YtegegpdaalfbdaaPurePutsA
namespace Go.Proofs.Ytegegpdaalfbdaa.PureP
open Go.RowKit Go.Proofs.Ytegegpdaalfbdaa.XRowcodePuts Go.Proofs.YtegegpdaalfbdaaW.PrintWords Go.Proofs.YtegegpdaalfbdaaW.PrintLast Go.Proofs.YtegegpdaalfbdaaW.PrintMore
open Go.Proofs.Ytegegpdaalfbdaa.PureG (mayv num acc8_num u64_eq eight tk_in bytes_str str_size)
set_option linter.unusedVariables false
set_option linter.unusedSimpArgs false
theorem enc8_by (v : Int) : ∀ x ∈ enc8 v, 0 ≤ x ∧ x ≤ 255 := by
  intro x hx
  simp only [enc8, List.mem_cons, List.not_mem_nil, or_false] at hx
  rcases hx with h | h | h | h | h | h | h | h <;> omega
theorem horner (i q1 q2 q3 q4 q5 q6 q7 : Int) (h1 : q1 = i / 256) (h2 : q2 = q1 / 256) (h3 : q3 = q2 / 256) (h4 : q4 = q3 / 256) (h5 : q5 = q4 / 256) (h6 : q6 = q5 / 256) (h7 : q7 = q6 / 256) :
    (((((((0 * 256 + q7 % 256) * 256 + q6 % 256) * 256 + q5 % 256) * 256 + q4 % 256) * 256 + q3 % 256) * 256 + q2 % 256) * 256 + q1 % 256) * 256 + i % 256 = i - 18446744073709551616 * (q7 / 256) := by
  have a : ∀ x : Int, x % 256 = x - 256 * (x / 256) := fun x => by omega
  rw [a i, a q1, a q2, a q3, a q4, a q5, a q6, a q7, ← h1, ← h2, ← h3, ← h4, ← h5, ← h6, ← h7]
  omega
theorem dec8 (i : Int) (h : -9223372036854775808 ≤ i ∧ i ≤ 9223372036854775807) : wrap64 (num 0 (enc8 i)) = i := by
  have e2 : i / 65536 = i / 256 / 256 := by omega
  have e3 : i / 16777216 = i / 256 / 256 / 256 := by omega
  have e4 : i / 4294967296 = i / 256 / 256 / 256 / 256 := by omega
  have e5 : i / 1099511627776 = i / 256 / 256 / 256 / 256 / 256 := by omega
  have e6 : i / 281474976710656 = i / 256 / 256 / 256 / 256 / 256 / 256 := by omega
  have e7 : i / 72057594037927936 = i / 256 / 256 / 256 / 256 / 256 / 256 / 256 := by omega
  have hh := horner i _ _ _ _ _ _ _ rfl rfl rfl rfl rfl rfl rfl
  simp only [enc8, num, List.foldl_cons, List.foldl_nil, e2, e3, e4, e5, e6, e7]
  rw [hh]
  generalize i / 256 / 256 / 256 / 256 / 256 / 256 / 256 / 256 = z
  unfold wrap64
  omega
theorem str_bytes (s : ByteArray) : strOfNums (bytesOf s) = s := by
  cases s with
  | mk d =>
    simp only [strOfNums, bytesOf, List.map_map]
    congr 1
    apply Array.ext'
    simp only [List.toList_toArray]
    conv => rhs; rw [← List.map_id d.toList]
    apply List.map_congr_left
    intro x _
    simp
theorem may_kinds {k i : Int} {s : ByteArray} (h : mayv k i s = true) : (k = 0 ∧ i = 0 ∧ s = ⟨#[]⟩) ∨ (k = 1 ∧ s = ⟨#[]⟩) ∨ (k = 2 ∧ (i = 0 ∨ i = 1) ∧ s = ⟨#[]⟩) ∨ (k = 3 ∧ i = 0 ∧ s.size ≤ 48) := by
  have he : s.toList = [] → s = ⟨#[]⟩ := fun h => by
    cases s with
    | mk d =>
      rw [ByteArray.toList_eq] at h
      congr 1
      apply Array.ext'
      simpa using h
  unfold mayv at h
  by_cases h0 : k = 0
  · rw [if_pos h0] at h
    have := of_decide_eq_true h
    exact .inl ⟨h0, this.1, he this.2⟩
  rw [if_neg h0] at h
  by_cases h1 : k = 1
  · rw [if_pos h1] at h
    exact .inr (.inl ⟨h1, he (of_decide_eq_true h)⟩)
  rw [if_neg h1] at h
  by_cases h2 : k = 2
  · rw [if_pos h2] at h
    have := of_decide_eq_true h
    exact .inr (.inr (.inl ⟨h2, this.2, he this.1⟩))
  rw [if_neg h2] at h
  by_cases h3 : k = 3
  · rw [if_pos h3] at h
    have := of_decide_eq_true h
    exact .inr (.inr (.inr ⟨h3, this.1, by omega⟩))
  rw [if_neg h3] at h
  cases h
theorem tk_app (a b : List Int) (n : Nat) (h : a.length = n) : Rd.tk (a ++ b) 0 (n : Int) = (a, b, 0) := by
  rw [tk_in (a ++ b) n (by rw [List.length_append]; omega), ← h, List.take_left, List.drop_left]
theorem bb (s : ByteArray) : ∀ x ∈ bytesOf s, 0 ≤ x ∧ x ≤ 255 := by
  intro x hx
  simp only [bytesOf, List.mem_map] at hx
  obtain ⟨b, _, rfl⟩ := hx
  have := b.toNat_lt
  omega
theorem vl_wv (k i : Int) (s : ByteArray) (h : mayv k i s = true) (hi : -9223372036854775808 ≤ i ∧ i ≤ 9223372036854775807) (rest : List Int) :
    Rd.vl (wv k i s ++ rest) 0 = ((k, i, s), rest, 0) := by
  have ht1 : ∀ (x : Int) (ys : List Int), Rd.tk (x :: ys) 0 1 = ([x], ys, 0) := fun x ys => tk_in (x :: ys) 1 (by simp)
  have hr : ∀ x : Int, rd [x] 0 = x := fun _ => rfl
  rcases may_kinds h with ⟨rfl, rfl, rfl⟩ | ⟨rfl, rfl⟩ | ⟨rfl, hi2, rfl⟩ | ⟨rfl, rfl, hs⟩
  · simp only [wv, if_neg (show ¬ (0 : Int) = 1 by decide), if_neg (show ¬ (0 : Int) = 2 by decide), if_neg (show ¬ (0 : Int) = 3 by decide), List.cons_append, List.nil_append, Rd.vl, ht1, hr, if_true]
  · have e : Rd.tk (enc8 i ++ rest) 0 8 = (enc8 i, rest, 0) := tk_app (enc8 i) rest 8 (enc8_len i)
    simp only [wv, if_true, List.cons_append, Rd.vl, ht1, hr, if_neg (show ¬ (1 : Int) = 0 by decide), e]
    rw [acc8_num _ (enc8_by i), dec8 i hi]
  · have hm : i % 256 = i := by omega
    have hw : wrap64 i = i := by unfold wrap64; omega
    have h1 : ¬ 1 < i := by omega
    simp only [wv, if_neg (show ¬ (2 : Int) = 1 by decide), if_true, List.cons_append, List.nil_append, Rd.vl, ht1, hr, if_neg (show ¬ (2 : Int) = 0 by decide), hm, hw, if_neg h1]
  · have hm : (s.size : Int) % 256 = (s.size : Int) := by omega
    have hw : wrap64 (s.size : Int) = (s.size : Int) := by unfold wrap64; omega
    have h1 : ¬ 48 < (s.size : Int) := by omega
    have e := tk_app (bytesOf s) rest s.size (blen s)
    simp only [wv, if_neg (show ¬ (3 : Int) = 1 by decide), if_neg (show ¬ (3 : Int) = 2 by decide), if_true, List.cons_append, Rd.vl, ht1, hr, if_neg (show ¬ (3 : Int) = 0 by decide), hm, hw, if_neg h1, e, str_bytes]
theorem wv_len (k i : Int) (s : ByteArray) (h : mayv k i s = true) : (wv k i s).length ≤ 60 := by
  rcases may_kinds h with ⟨rfl, rfl, rfl⟩ | ⟨rfl, rfl⟩ | ⟨rfl, hi2, rfl⟩ | ⟨rfl, rfl, hs⟩
  · decide
  · exact (by decide : 9 ≤ 60)
  · exact (by decide : 2 ≤ 60)
  · have : (wv 3 0 s).length = s.size + 2 := by simp [wv, blen]
    omega
theorem wv_size (k i : Int) (s : ByteArray) (h : mayv k i s = true) : ((wv k i s).length : Int) = szv k s ∧ 0 ≤ k ∧ k ≤ 3 := by
  rcases may_kinds h with ⟨rfl, rfl, rfl⟩ | ⟨rfl, rfl⟩ | ⟨rfl, hi2, rfl⟩ | ⟨rfl, rfl, hs⟩
  · exact ⟨by decide, by decide, by decide⟩
  · exact ⟨rfl, by decide, by decide⟩
  · exact ⟨rfl, by decide, by decide⟩
  · have h1 : (wv 3 0 s).length = s.size + 2 := by simp [wv, blen]
    refine ⟨?_, by decide, by decide⟩
    rw [h1, szv, if_neg (by decide), if_neg (by decide), if_neg (by decide)]
    unfold wrap64
    omega
theorem wv_by (k i : Int) (s : ByteArray) (h : mayv k i s = true) : ∀ x ∈ wv k i s, 0 ≤ x ∧ x ≤ 255 := by
  rcases may_kinds h with ⟨rfl, rfl, rfl⟩ | ⟨rfl, rfl⟩ | ⟨rfl, hi2, rfl⟩ | ⟨rfl, rfl, hs⟩
  · intro x hx
    simp [wv] at hx
    omega
  · intro x hx
    rw [wv, if_pos rfl] at hx
    rcases List.mem_cons.mp hx with rfl | hx
    · decide
    · exact enc8_by i x hx
  · intro x hx
    simp [wv] at hx
    omega
  · intro x hx
    rw [wv, if_neg (by decide), if_neg (by decide), if_pos rfl] at hx
    rcases List.mem_cons.mp hx with rfl | hx
    · decide
    rcases List.mem_cons.mp hx with rfl | hx
    · omega
    · exact bb s x hx
end Go.Proofs.Ytegegpdaalfbdaa.PureP
