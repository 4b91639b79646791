/- Pure part of LogicTest: how two values stand is what the reference tells, and an op and its contrary are Not of each other unless there is an error; no conditions. -/
import Derived.Test.YtegegpdaalfbdaaXLogicTestx5
namespace Go.Proofs.Ytegegpdaalfbdaa.Pure
open Go.RowKit Go.Proofs.Ytegegpdaalfbdaa.XLogicTest Go.Proofs.YtegegpdaalfbdaaW.PrintWords Go.Proofs.YtegegpdaalfbdaaW.PrintLast
set_option linter.unusedVariables false
set_option linter.unusedSimpArgs false
def tl (x : Int) : Int := if x > 3 then 2 else x
def nt (x : Int) : Int := if x = 0 then 3 else if x = 3 then 0 else tl x
def mf (m : List Int) (a : Int) : Int := m.foldl mn a

theorem u8_wf {x : Int} (h : (Lit.int .u8 x).wf = true) : 0 ≤ x ∧ x < 256 := by
  simp [Lit.wf, IntKind.min, IntKind.max, IntKind.signed, IntKind.bits] at h
  omega

theorem mf_spec (m : List Int) : ∀ a, (mf m a = a ∨ mf m a ∈ m) ∧ mf m a ≤ a ∧ ∀ x ∈ m, mf m a ≤ x := by
  induction m with
  | nil => intro a; exact ⟨.inl rfl, Int.le_refl _, fun x hx => by cases hx⟩
  | cons y m ih =>
    intro a
    obtain ⟨h1, h2, h3⟩ := ih (mn a y)
    have e : mf (y :: m) a = mf m (mn a y) := rfl
    rw [e]
    have hm : (mn a y = a ∨ mn a y = y) ∧ mn a y ≤ a ∧ mn a y ≤ y := by unfold mn; split <;> omega
    refine ⟨?_, by omega, fun x hx => ?_⟩
    · rcases h1 with h1 | h1
      · rcases hm.1 with h | h
        · exact .inl (h1.trans h)
        · exact .inr (by rw [h1, h]; exact List.mem_cons_self)
      · exact .inr (List.mem_cons_of_mem _ h1)
    · rcases List.mem_cons.1 hx with rfl | hx
      · omega
      · exact h3 x hx

theorem mf_le_of_mem {m m' : List Int} {a : Int} (h : ∀ x ∈ m, x ∈ m') : mf m' a ≤ mf m a := by
  obtain ⟨h1, h2, h3⟩ := mf_spec m a
  obtain ⟨_, k2, k3⟩ := mf_spec m' a
  rcases h1 with h1 | h1
  · omega
  · exact k3 _ (h _ h1)

theorem mf_eq_of_mem {m m' : List Int} {a : Int} (h : ∀ x, x ∈ m ↔ x ∈ m') : mf m a = mf m' a :=
  Int.le_antisymm (mf_le_of_mem fun x hx => (h x).2 hx) (mf_le_of_mem fun x hx => (h x).1 hx)

theorem mf_pair (A B : List Int) : mf [mf A 3, mf B 3] 3 = mf (A ++ B) 3 := by
  obtain ⟨a1, a2, a3⟩ := mf_spec A 3
  obtain ⟨b1, b2, b3⟩ := mf_spec B 3
  obtain ⟨c1, c2, c3⟩ := mf_spec (A ++ B) 3
  obtain ⟨d1, d2, d3⟩ := mf_spec [mf A 3, mf B 3] 3
  have da := d3 (mf A 3) (by simp)
  have db := d3 (mf B 3) (by simp)
  apply Int.le_antisymm
  · rcases c1 with h | h
    · omega
    · rcases List.mem_append.1 h with h | h
      · have := a3 _ h; omega
      · have := b3 _ h; omega
  · have ha : mf (A ++ B) 3 ≤ mf A 3 := by
      rcases a1 with h | h
      · omega
      · exact c3 _ (List.mem_append_left _ h)
    have hb : mf (A ++ B) 3 ≤ mf B 3 := by
      rcases b1 with h | h
      · omega
      · exact c3 _ (List.mem_append_right _ h)
    rcases d1 with h | h
    · omega
    · have h : mf [mf A 3, mf B 3] 3 = mf A 3 ∨ mf [mf A 3, mf B 3] 3 = mf B 3 := by simpa using h
      omega

theorem tl_rng {x : Int} (h : 0 ≤ x) : 0 ≤ tl x ∧ tl x ≤ 3 := by unfold tl; split <;> omega
theorem nt_rng {x : Int} (h : 0 ≤ x) : 0 ≤ nt x ∧ nt x ≤ 3 := by
  have := tl_rng h
  unfold nt; split <;> (try split) <;> omega
theorem tl_id {x : Int} (h : x ≤ 3) : tl x = x := by unfold tl; split <;> omega
theorem nt_nt {x : Int} (h : 0 ≤ x) : nt (nt x) = tl x := by
  unfold nt tl; repeat' split
  all_goals omega
theorem mf_rng {m : List Int} (h : ∀ x ∈ m, 0 ≤ x) : 0 ≤ mf m 3 ∧ mf m 3 ≤ 3 := by
  obtain ⟨h1, h2, h3⟩ := mf_spec m 3
  refine ⟨?_, h2⟩
  rcases h1 with e | e
  · omega
  · exact h _ e

theorem drop_rd (l : List Int) (i : Nat) (h : i < l.length) : l.drop i = rd l (i : Int) :: l.drop (i + 1) := by
  rw [List.drop_eq_getElem_cons h]
  simp [rd, h]
theorem wrap_succ {i n : Nat} (h : i < n) (hn : n ≤ 140737488351232) : wrap64 ((i : Int) + 1) = ((i + 1 : Nat) : Int) := by
  unfold wrap64; omega

theorem told_f (x : Int) : logic_told.f x = some (tl x) := by unfold logic_told.f tl; split <;> rfl
theorem not_f (x : Int) : logic_Not.f x = some (nt x) := by
  unfold logic_Not.f nt
  split
  · rfl
  · split
    · rfl
    · rw [told_f]; rfl

theorem and_l0 (l : List Int) (hn : l.length ≤ 140737488351232) (d : Nat) : ∀ (k i : Nat) (acc : Int), i ≤ l.length → l.length - i = d → d < k →
    logic_And.l0 k acc l (l.length : Int) (i : Int) = some (mf ((l.drop i).map tl) acc) := by
  induction d with
  | zero =>
    intro k i acc hi hd hk
    obtain ⟨k, rfl⟩ : ∃ m, k = m + 1 := ⟨k - 1, by omega⟩
    simp only [logic_And.l0]
    rw [if_neg (by omega), List.drop_of_length_le (by omega)]; rfl
  | succ d ih =>
    intro k i acc hi hd hk
    obtain ⟨k, rfl⟩ : ∃ m, k = m + 1 := ⟨k - 1, by omega⟩
    have hlt : i < l.length := by omega
    simp only [logic_And.l0]
    rw [if_pos (by omega), if_pos (by omega), if_pos (by omega), told_f]
    simp only [Option.bind_some]
    rw [wrap_succ hlt hn, ih k (i + 1) _ (by omega) (by omega) (by omega), drop_rd l i hlt]; rfl
theorem and_f (l : List Int) (hn : l.length ≤ 140737488351232) (k : Nat) (hk : l.length < k) : logic_And.f k l = some (mf (l.map tl) 3) := by
  have := and_l0 l hn l.length k 0 3 (by omega) (by omega) hk
  simpa [logic_And.f] using this

theorem or_l0 (l : List Int) (hn : l.length ≤ 140737488351232) (d : Nat) : ∀ (k i : Nat) (acc : Int), i ≤ l.length → l.length - i = d → d < k →
    logic_Or.l0 k acc l (l.length : Int) (i : Int) = some (nt (mf ((l.drop i).map nt) acc)) := by
  induction d with
  | zero =>
    intro k i acc hi hd hk
    obtain ⟨k, rfl⟩ : ∃ m, k = m + 1 := ⟨k - 1, by omega⟩
    simp only [logic_Or.l0]
    rw [if_neg (by omega), List.drop_of_length_le (by omega), not_f]; rfl
  | succ d ih =>
    intro k i acc hi hd hk
    obtain ⟨k, rfl⟩ : ∃ m, k = m + 1 := ⟨k - 1, by omega⟩
    have hlt : i < l.length := by omega
    simp only [logic_Or.l0]
    rw [if_pos (by omega), if_pos (by omega), if_pos (by omega), not_f]
    simp only [Option.bind_some]
    rw [wrap_succ hlt hn, ih k (i + 1) _ (by omega) (by omega) (by omega), drop_rd l i hlt]; rfl
theorem or_f (l : List Int) (hn : l.length ≤ 140737488351232) (k : Nat) (hk : l.length < k) : logic_Or.f k l = some (nt (mf (l.map nt) 3)) := by
  have := or_l0 l hn l.length k 0 3 (by omega) (by omega) hk
  simpa [logic_Or.f] using this

theorem fixed_f (k : Nat) (hk : 5 < k) : rowlocklaw02_fixed.f k = some true := by
  unfold rowlocklaw02_fixed.f
  rw [and_f _ (by simp) k (by simp; omega), or_f _ (by simp) k (by simp; omega), and_f _ (by simp) k (by simp; omega), or_f _ (by simp) k (by simp; omega)]
  decide
open Lib (compareBytes)
theorem cb_cons (a b : UInt8) (x y : List UInt8) : compareBytes (a :: x) (b :: y) = if a < b then -1 else if b < a then 1 else compareBytes x y := by rw [compareBytes]
theorem cb_rng : ∀ x y : List UInt8, compareBytes x y = -1 ∨ compareBytes x y = 0 ∨ compareBytes x y = 1
  | [], [] => by simp [compareBytes]
  | [], _ :: _ => by simp [compareBytes]
  | _ :: _, [] => by simp [compareBytes]
  | a :: x, b :: y => by
    rw [cb_cons]
    by_cases h1 : a < b
    · simp [h1]
    · by_cases h2 : b < a
      · simp [h1, h2]
      · simp only [h1, h2, if_false]; exact cb_rng x y
theorem cb_neg : ∀ x y : List UInt8, compareBytes y x = - compareBytes x y
  | [], [] => by simp [compareBytes]
  | [], _ :: _ => by simp [compareBytes]
  | _ :: _, [] => by simp [compareBytes]
  | a :: x, b :: y => by
    rw [cb_cons, cb_cons, cb_neg x y]
    by_cases h1 : a < b
    · have h2 : ¬ b < a := by rw [UInt8.lt_iff_toNat_lt] at *; omega
      simp [h1, h2]
    · by_cases h2 : b < a
      · simp [h1, h2]
      · simp only [h1, h2, if_false]
theorem cb_nil_left (y : List UInt8) : compareBytes [] y = if y = [] then 0 else -1 := by
  cases y <;> simp [compareBytes]
theorem cb_nil_right (x : List UInt8) : compareBytes x [] = if x = [] then 0 else 1 := by
  cases x <;> simp [compareBytes]
theorem cb_self : ∀ x : List UInt8, compareBytes x x = 0
  | [] => by simp [compareBytes]
  | a :: x => by
    have h : ¬ a < a := by rw [UInt8.lt_iff_toNat_lt]; omega
    rw [cb_cons]; simp only [h, if_false]; exact cb_self x
theorem cb_eq : ∀ {x y : List UInt8}, compareBytes x y = 0 → x = y
  | [], [], _ => rfl
  | [], _ :: _, h => by simp [compareBytes] at h
  | _ :: _, [], h => by simp [compareBytes] at h
  | a :: x, b :: y, h => by
    rw [cb_cons] at h
    by_cases h1 : a < b
    · simp [h1] at h
    · by_cases h2 : b < a
      · simp [h1, h2] at h
      · simp only [h1, h2, if_false] at h
        have : a = b := by rw [UInt8.lt_iff_toNat_lt] at h1 h2; exact UInt8.toNat_inj.1 (by omega)
        rw [this, cb_eq h]

theorem bt_get (s : ByteArray) (i : Nat) (h : i < s.data.toList.length) : bt s (i : Int) = ((s.data.toList[i]'h).toNat : Int) := by
  have h' : i < s.size := by simpa using h
  unfold bt
  rw [Int.toNat_natCast, dif_pos h']
  rfl
theorem size_data (s : ByteArray) : s.data.toList.length = s.size := by simp

/-- The order of two values of one kind, from 1 to 3. -/
def cv (k i : Int) (s : ByteArray) (j : Int) (t : ByteArray) : Int :=
  if k = 3 then compareBytes s.data.toList t.data.toList else if i < j then -1 else if i > j then 1 else 0
theorem cv_rng (k i : Int) (s : ByteArray) (j : Int) (t : ByteArray) : cv k i s j t = -1 ∨ cv k i s j t = 0 ∨ cv k i s j t = 1 := by
  unfold cv
  split
  · exact cb_rng _ _
  · split
    · exact .inl rfl
    · split
      · exact .inr (.inr rfl)
      · exact .inr (.inl rfl)
theorem cv_neg (k i : Int) (s : ByteArray) (j : Int) (t : ByteArray) : cv k j t i s = - cv k i s j t := by
  unfold cv
  split
  · exact cb_neg _ _
  · repeat' split
    all_goals omega
theorem c8_f (a b : Int) : cmp_Compare_uint8.f a b = some (if a < b then -1 else if a > b then 1 else 0) := by
  unfold cmp_Compare_uint8.f cmp_isNaN_uint8.f
  simp only [Option.bind_some, bne_self_eq_false]
  rw [if_neg (by simp), if_neg (by simp)]
  repeat' split
  all_goals rfl
theorem c64_f (a b : Int) : cmp_Compare_int64.f a b = some (if a < b then -1 else if a > b then 1 else 0) := by
  unfold cmp_Compare_int64.f cmp_isNaN_int64.f
  simp only [Option.bind_some, bne_self_eq_false]
  rw [if_neg (by simp), if_neg (by simp)]
  repeat' split
  all_goals rfl
theorem compare_f (q : Nat) (hq : 1 < q) (k i : Int) (s : ByteArray) (j : Int) (t : ByteArray) (h1 : 1 ≤ k) (h3 : k ≤ 3) : val_Compare.f q k i s k j t = some (cv k i s j t) := by
  obtain ⟨q, rfl⟩ : ∃ m, q = m + 1 := ⟨q - 1, by omega⟩
  unfold val_Compare.f val_kind.f
  rw [if_neg (by omega)]
  simp only [Option.bind_some, c8_f]
  rw [show (if k < k then (-1 : Int) else if k > k then 1 else 0) = 0 by simp, if_pos rfl]
  have hk : k = 1 ∨ k = 2 ∨ k = 3 := by omega
  rcases hk with rfl | rfl | rfl
  · simp [val_Compare.j0, c64_f, cv]
  · simp [val_Compare.j0, c64_f, cv]
  · simp [val_Compare.j0, strings_Compare.f, cv]
theorem less_l0 (s t : ByteArray) (i j : Int) (hs : s.size ≤ 9223372036854775807) (d : Nat) : ∀ (q n : Nat), n ≤ s.size → s.size - n = d → 2 * d + 2 < q →
    rowlockref01_less.l0 q (n : Int) 3 i s 3 j t = some (decide (compareBytes (s.data.toList.drop n) (t.data.toList.drop n) < 0)) := by
  have ls := size_data s
  have lt := size_data t
  induction d with
  | zero =>
    intro q n hn hd hq
    obtain ⟨q, rfl⟩ : ∃ m, q = m + 2 := ⟨q - 2, by omega⟩
    simp only [rowlockref01_less.l0]
    rw [if_neg (by omega)]
    simp only [rowlockref01_less.j2]
    rw [if_neg (by simp), List.drop_of_length_le (l := s.data.toList) (by omega), cb_nil_left]
    congr 1
    by_cases h : t.size ≤ n
    · rw [if_pos (List.drop_of_length_le (by omega))]; simp; omega
    · rw [if_neg (fun e => by have := congrArg List.length e; simp at this; omega)]; simp; omega
  | succ d ih =>
    intro q n hn hd hq
    obtain ⟨q, rfl⟩ : ∃ m, q = m + 2 := ⟨q - 2, by omega⟩
    have h1 : n < s.data.toList.length := by omega
    simp only [rowlockref01_less.l0]
    rw [if_pos (by omega)]
    by_cases h : n < t.size
    · have h2 : n < t.data.toList.length := by omega
      rw [show decide ((n : Int) < (t.size : Int)) = true from decide_eq_true (by omega)]
      simp only [rowlockref01_less.j2]
      rw [if_pos trivial, if_pos (by omega), if_pos (by omega), if_pos (by omega), bt_get s n h1, bt_get t n h2,
        List.drop_eq_getElem_cons h1, List.drop_eq_getElem_cons h2, cb_cons]
      by_cases he : (s.data.toList[n]).toNat = (t.data.toList[n]).toNat
      · have he' : ¬ s.data.toList[n] < t.data.toList[n] := by rw [UInt8.lt_iff_toNat_lt]; omega
        have he2 : ¬ t.data.toList[n] < s.data.toList[n] := by rw [UInt8.lt_iff_toNat_lt]; omega
        rw [if_pos (by omega), if_neg he', if_neg he2, show wrap64 ((n : Int) + 1) = ((n + 1 : Nat) : Int) by unfold wrap64; omega]
        exact ih q (n + 1) (by omega) (by omega) (by omega)
      · rw [if_neg (by omega)]
        congr 1
        by_cases hl : s.data.toList[n] < t.data.toList[n]
        · rw [if_pos hl]; rw [UInt8.lt_iff_toNat_lt] at hl; rw [decide_eq_true (by omega), decide_eq_true (by omega)]
        · have hg : t.data.toList[n] < s.data.toList[n] := by rw [UInt8.lt_iff_toNat_lt] at *; omega
          rw [if_neg hl, if_pos hg]; rw [UInt8.lt_iff_toNat_lt] at hl; rw [decide_eq_false (by omega), decide_eq_false (by omega)]
    · rw [show decide ((n : Int) < (t.size : Int)) = false from decide_eq_false (by omega)]
      simp only [rowlockref01_less.j2]
      rw [if_neg (by simp), List.drop_of_length_le (l := t.data.toList) (by omega), cb_nil_right, if_neg (fun e => by have := congrArg List.length e; simp at this; omega)]
      congr 1; simp; omega
theorem less_f (q : Nat) (k i : Int) (s : ByteArray) (j : Int) (t : ByteArray) (h1 : 1 ≤ k) (h3 : k ≤ 3) (hs : s.size ≤ 9223372036854775807) (hq : 2 * s.size + 5 < q) :
    rowlockref01_less.f q k i s k j t = some (decide (cv k i s j t < 0)) := by
  obtain ⟨q, rfl⟩ : ∃ m, q = m + 1 := ⟨q - 1, by omega⟩
  unfold rowlockref01_less.f cv
  have hk : k = 1 ∨ k = 2 ∨ k = 3 := by omega
  rcases hk with rfl | rfl | rfl
  · rw [if_pos rfl]
    simp only [rowlockref01_less.j0]
    rw [if_pos (by simp), if_neg (by omega)]
    congr 1
    repeat' split
    all_goals simp
    all_goals omega
  · rw [if_neg (by omega)]
    simp only [rowlockref01_less.j0]
    rw [if_pos (by simp), if_neg (by omega)]
    congr 1
    repeat' split
    all_goals simp
    all_goals omega
  · rw [if_neg (by omega)]
    simp only [rowlockref01_less.j0]
    rw [if_neg (by simp), if_pos (by simp), if_pos (by simp)]
    have := less_l0 s t i j hs s.size q 0 (by omega) (by omega) (by omega)
    simpa using this
theorem Less_f (q : Nat) (k i : Int) (s : ByteArray) (j : Int) (t : ByteArray) (h1 : 1 ≤ k) (h3 : k ≤ 3) (hs : s.size ≤ 9223372036854775807) (hq : 2 * s.size + 7 < q) :
    rowlockref01_Less.f q k i s k j t = some (decide (cv k i s j t < 0)) := by
  obtain ⟨q, rfl⟩ : ∃ m, q = m + 1 := ⟨q - 1, by omega⟩
  unfold rowlockref01_Less.f
  rw [if_neg (by omega)]
  simp only [rowlockref01_Less.j0]
  rw [if_neg (by omega), if_pos trivial, less_f q k i s j t h1 h3 hs (by omega)]
  rfl

/-- A truth by an op: 0 to 5; else none is an op. -/
def tv (op : List UInt8) (c : Int) : Int :=
  if op = [61] then (if c = 0 then 3 else 0) else if op = [60, 62] then (if c ≠ 0 then 3 else 0) else if op = [60] then (if c < 0 then 3 else 0) else
  if op = [60, 61] then (if c ≤ 0 then 3 else 0) else if op = [62] then (if c > 0 then 3 else 0) else if op = [62, 61] then (if c ≥ 0 then 3 else 0) else 2
def test (op : List UInt8) (k i : Int) (s : ByteArray) (l j : Int) (t : ByteArray) : Int :=
  if k = 0 ∨ l = 0 then 1 else if k ≠ l ∨ 3 < k then 2 else tv op (cv k i s j t)

theorem of_dec (p : Bool) : (logic_of.f p) = some (if p = true then 3 else 0) := by
  unfold logic_of.f; split <;> rfl
theorem test_f (q : Nat) (hq : 3 < q) (op : ByteArray) (k i : Int) (s : ByteArray) (l j : Int) (t : ByteArray) (hk : 0 ≤ k) : logic_Test.f q op k i s l j t = some (test op.toList k i s l j t) := by
  obtain ⟨q, rfl⟩ : ∃ m, q = m + 1 := ⟨q - 1, by omega⟩
  unfold logic_Test.f test
  by_cases h0 : k = 0
  · rw [if_pos h0, if_pos (.inl h0)]
    simp [logic_Test.j0]
  · rw [if_neg h0]
    by_cases l0 : l = 0
    · rw [if_pos (.inr l0), show (l == 0) = true from beq_iff_eq.mpr l0]
      simp [logic_Test.j0]
    · rw [if_neg (by omega), show (l == 0) = false from beq_eq_false_iff_ne.mpr l0]
      simp only [logic_Test.j0]
      rw [if_neg (by simp)]
      by_cases e : k = l
      · subst e
        rw [if_pos rfl]
        by_cases g : k > 3
        · rw [if_pos g, if_pos (.inr g)]
        · rw [if_neg g, if_neg (by omega), compare_f q (by omega) k i s j t (by omega) (by omega)]
          simp only [Option.bind_some, of_dec, tv]
          repeat' split
          all_goals simp_all
      · rw [if_neg e, if_pos (.inl e)]
theorem rtest_f (q : Nat) (op : ByteArray) (k i : Int) (s : ByteArray) (l j : Int) (t : ByteArray) (hk : 0 ≤ k) (hs : s.size ≤ 9223372036854775807) (ht : t.size ≤ 9223372036854775807) (hq : 2 * s.size + 2 * t.size + 20 < q) :
    rowlockref02_Test.f q op k i s l j t = some (test op.toList k i s l j t) := by
  obtain ⟨q, rfl⟩ : ∃ m, q = m + 2 := ⟨q - 2, by omega⟩
  unfold rowlockref02_Test.f test
  by_cases h0 : k = 0
  · rw [if_pos h0, if_pos (.inl h0)]
    simp [rowlockref02_Test.j0]
  · rw [if_neg h0]
    by_cases l0 : l = 0
    · rw [if_pos (.inr l0), show (l == 0) = true from beq_iff_eq.mpr l0]
      simp [rowlockref02_Test.j0]
    · rw [if_neg (by omega), show (l == 0) = false from beq_eq_false_iff_ne.mpr l0]
      simp only [rowlockref02_Test.j0]
      rw [if_neg (by simp)]
      by_cases e : k = l
      · subst e
        rw [if_pos rfl]
        by_cases g : k > 3
        · rw [decide_eq_true g, if_pos (.inr g)]
          simp [rowlockref02_Test.j1]
        · rw [decide_eq_false g, if_neg (by omega)]
          simp only [rowlockref02_Test.j1]
          rw [if_neg (by simp), Less_f q k i s j t (by omega) (by omega) hs (by omega), Less_f q k j t i s (by omega) (by omega) ht (by omega), cv_neg k i s j t]
          simp only [Option.bind_some, tv, decide_eq_true_eq]
          have hr := cv_rng k i s j t
          generalize cv k i s j t = c at hr
          repeat' split
          all_goals first | rfl | omega
      · rw [if_neg e, if_pos (.inl e)]
        simp [rowlockref02_Test.j1]

theorem test_rng (op : List UInt8) (k i : Int) (s : ByteArray) (l j : Int) (t : ByteArray) : 0 ≤ test op k i s l j t ∧ test op k i s l j t ≤ 3 := by
  unfold test tv
  repeat' split
  all_goals omega
theorem test_not (a b : List UInt8) (hab : (a = [61] ∧ b = [60, 62]) ∨ (a = [60] ∧ b = [62, 61]) ∨ (a = [62] ∧ b = [60, 61])) (k i : Int) (s : ByteArray) (l j : Int) (t : ByteArray) :
    nt (test a k i s l j t) = test b k i s l j t := by
  unfold test
  by_cases h0 : k = 0 ∨ l = 0
  · rw [if_pos h0, if_pos h0]; rfl
  · rw [if_neg h0, if_neg h0]
    by_cases h1 : k ≠ l ∨ 3 < k
    · rw [if_pos h1, if_pos h1]; rfl
    · rw [if_neg h1, if_neg h1]
      generalize cv k i s j t = c
      rcases hab with ⟨rfl, rfl⟩ | ⟨rfl, rfl⟩ | ⟨rfl, rfl⟩
      · unfold tv nt; simp; repeat' split
        all_goals omega
      · unfold tv nt; simp; repeat' split
        all_goals omega
      · unfold tv nt; simp; repeat' split
        all_goals omega
theorem test_eq_turn (k i : Int) (s : ByteArray) (l j : Int) (t : ByteArray) : test [61] l j t k i s = test [61] k i s l j t := by
  unfold test
  by_cases h0 : k = 0 ∨ l = 0
  · rw [if_pos h0, if_pos (Or.symm h0)]
  · rw [if_neg h0, if_neg (fun h => h0 (Or.symm h))]
    by_cases h1 : k ≠ l ∨ 3 < k
    · rw [if_pos h1, if_pos (by omega)]
    · obtain rfl : k = l := by omega
      rw [if_neg h1, cv_neg k i s j t]
      rw [if_neg (by omega)]
      generalize cv k i s j t = c
      unfold tv; simp
theorem test_lt_turn (k i : Int) (s : ByteArray) (l j : Int) (t : ByteArray) : test [62] l j t k i s = test [60] k i s l j t := by
  unfold test
  by_cases h0 : k = 0 ∨ l = 0
  · rw [if_pos h0, if_pos (Or.symm h0)]
  · rw [if_neg h0, if_neg (fun h => h0 (Or.symm h))]
    by_cases h1 : k ≠ l ∨ 3 < k
    · rw [if_pos h1, if_pos (by omega)]
    · obtain rfl : k = l := by omega
      rw [if_neg h1, cv_neg k i s j t]
      generalize cv k i s j t = c
      unfold tv; simp
      repeat' split
      all_goals omega

/-- What 'Great' sums up: of each value 1 and its text's bytes, 9000 at most. -/
def bulk : List S36 → Int
  | [] => 0
  | v :: l => 1 + mn (v.f2.size : Int) 9000 + bulk l
theorem drop_rd36 (l : List S36) (i : Nat) (h : i < l.length) : l.drop i = rd_T36 l (i : Int) :: l.drop (i + 1) := by
  rw [List.drop_eq_getElem_cons h]
  simp [rd_T36, h]
theorem great_l0 (l : List S36) (hn : l.length ≤ 9223372036854775807) (d : Nat) : ∀ (q n : Nat) (acc : Int), 0 ≤ acc → acc ≤ 5000 → n ≤ l.length → l.length - n = d → d < q →
    ∃ b, rowlockref01_Great.l0 q l acc (l.length : Int) (n : Int) = some b ∧ (b = false → acc + bulk (l.drop n) ≤ 5000) := by
  induction d with
  | zero =>
    intro q n acc h0 h5 hi hd hq
    obtain ⟨q, rfl⟩ : ∃ m, q = m + 1 := ⟨q - 1, by omega⟩
    refine ⟨false, ?_, fun _ => ?_⟩
    · simp only [rowlockref01_Great.l0]; rw [if_neg (by omega)]
    · rw [List.drop_of_length_le (by omega)]; simp only [bulk]; omega
  | succ d ih =>
    intro q n acc h0 h5 hi hd hq
    obtain ⟨q, rfl⟩ : ∃ m, q = m + 1 := ⟨q - 1, by omega⟩
    have hlt : n < l.length := by omega
    have hm : 0 ≤ mn ((rd_T36 l (n : Int)).f2.size : Int) 9000 ∧ mn ((rd_T36 l (n : Int)).f2.size : Int) 9000 ≤ 9000 := by unfold mn; split <;> omega
    simp only [rowlockref01_Great.l0]
    rw [if_pos (by omega), if_pos (by omega), if_pos (by omega), drop_rd36 l n hlt]
    rw [show wrap64 (acc + (1 + mn ((rd_T36 l (n : Int)).f2.size : Int) 9000)) = acc + (1 + mn ((rd_T36 l (n : Int)).f2.size : Int) 9000) by unfold wrap64; omega,
      show wrap64 ((n : Int) + 1) = ((n + 1 : Nat) : Int) by unfold wrap64; omega]
    by_cases hg : acc + (1 + mn ((rd_T36 l (n : Int)).f2.size : Int) 9000) > 5000
    · rw [if_pos hg]; exact ⟨true, rfl, fun h => by cases h⟩
    · rw [if_neg hg]
      obtain ⟨b, hb, hs⟩ := ih q (n + 1) (acc + (1 + mn ((rd_T36 l (n : Int)).f2.size : Int) 9000)) (by omega) (by omega) (by omega) (by omega) (by omega)
      refine ⟨b, hb, fun h => ?_⟩
      have := hs h
      simp only [bulk]; omega
theorem great_f (l : List S36) (hn : l.length ≤ 9223372036854775807) (q : Nat) (hq : l.length < q) : ∃ b, rowlockref01_Great.f q l = some b ∧ (b = false → bulk l ≤ 5000) := by
  obtain ⟨b, hb, hs⟩ := great_l0 l hn l.length q 0 0 (by omega) (by omega) (by omega) (by omega) hq
  exact ⟨b, by simpa [rowlockref01_Great.f] using hb, fun h => by simpa using hs h⟩

theorem LogicTest (op : ByteArray) (k i : Int) (s : ByteArray) (l j : Int) (t : ByteArray) (hk : (Lit.int .u8 k).wf = true) (hl : (Lit.int .u8 l).wf = true) (hs : s.size ≤ 9223372036854775807) (ht : t.size ≤ 9223372036854775807) :
    ∃ q, rowlocklaw02_LogicTest.f q op k i s l j t = some true := by
  have hk := (u8_wf hk).1
  have hl := (u8_wf hl).1
  refine ⟨2 * s.size + 2 * t.size + 50, ?_⟩
  generalize hq : 2 * s.size + 2 * t.size + 40 = q
  rw [show 2 * s.size + 2 * t.size + 50 = q + 10 by omega]
  have hfix : rowlocklaw02_LogicTest.j0 (q + 10) op true k i s l j t = some true := by
    simp only [rowlocklaw02_LogicTest.j0]
    rw [if_pos trivial, fixed_f _ (by omega)]; rfl
  have hgo : rowlocklaw02_LogicTest.j0 (q + 10) op false k i s l j t = some true := by
    have hw : ∀ o a b c d e f, wrap64 (test o a b c d e f) = test o a b c d e f := fun o a b c d e f => by
      have := test_rng o a b c d e f
      unfold wrap64; omega
    simp only [rowlocklaw02_LogicTest.j0]
    rw [if_neg (by simp), test_f _ (by omega) op k i s l j t hk, rtest_f _ op k i s l j t hk hs ht (by omega)]
    simp only [Option.bind_some]
    rw [hw, if_pos rfl]
    have step : ∀ (m : Nat) (a b : ByteArray) (L : List S46) (n : Nat), 20 < m → n < L.length → (rd_T46 L (n : Int)) = ⟨a, b⟩ → L.length ≤ 3 →
        ((a.toList = [61] ∧ b.toList = [60, 62]) ∨ (a.toList = [60] ∧ b.toList = [62, 61]) ∨ (a.toList = [62] ∧ b.toList = [60, 61])) →
        rowlocklaw02_LogicTest.l0 (m + 1) L (L.length : Int) (n : Int) k i s l j t = rowlocklaw02_LogicTest.l0 m L (L.length : Int) ((n + 1 : Nat) : Int) k i s l j t := by
      intro m a b L n hm hn hr h3 hab
      simp only [rowlocklaw02_LogicTest.l0]
      rw [if_pos (by omega), if_pos (by omega), if_pos (by omega), hr]
      simp only []
      rw [test_f m (by omega) a k i s l j t hk, test_f m (by omega) b k i s l j t hk, test_f m (by omega) a l j t k i s hl]
      simp only [Option.bind_some, not_f]
      rw [test_not _ _ hab, if_pos rfl, show wrap64 ((n : Int) + 1) = ((n + 1 : Nat) : Int) by unfold wrap64; omega]
      split
      · rfl
      · rename_i hne
        rw [if_neg]
        intro he
        rw [he] at hne
        exact hne (test_eq_turn k i s l j t).symm
    generalize hL : ([(⟨(⟨#[61]⟩ : ByteArray), (⟨#[60, 62]⟩ : ByteArray)⟩ : S46), (⟨(⟨#[60]⟩ : ByteArray), (⟨#[62, 61]⟩ : ByteArray)⟩ : S46), (⟨(⟨#[62]⟩ : ByteArray), (⟨#[60, 61]⟩ : ByteArray)⟩ : S46)] : List S46) = L
    have h3 : L.length = 3 := by rw [← hL]; rfl
    have e0 : rd_T46 L ((0 : Nat) : Int) = ⟨⟨#[61]⟩, ⟨#[60, 62]⟩⟩ := by rw [← hL]; rfl
    have e1 : rd_T46 L ((1 : Nat) : Int) = ⟨⟨#[60]⟩, ⟨#[62, 61]⟩⟩ := by rw [← hL]; rfl
    have e2 : rd_T46 L ((2 : Nat) : Int) = ⟨⟨#[62]⟩, ⟨#[60, 61]⟩⟩ := by rw [← hL]; rfl
    clear hL
    have s0 := step (q + 8) _ _ L 0 (by omega) (by omega) e0 (by omega) (.inl ⟨by rw [Go.ByteArray.toList_eq], by rw [Go.ByteArray.toList_eq]⟩)
    have s1 := step (q + 7) _ _ L 1 (by omega) (by omega) e1 (by omega) (.inr (.inl ⟨by rw [Go.ByteArray.toList_eq], by rw [Go.ByteArray.toList_eq]⟩))
    have s2 := step (q + 6) _ _ L 2 (by omega) (by omega) e2 (by omega) (.inr (.inr ⟨by rw [Go.ByteArray.toList_eq], by rw [Go.ByteArray.toList_eq]⟩))
    have s0' : rowlocklaw02_LogicTest.l0 (q + 9) L (L.length : Int) 0 k i s l j t = rowlocklaw02_LogicTest.l0 (q + 8) L (L.length : Int) ((0 + 1 : Nat) : Int) k i s l j t := s0
    rw [s0']
    refine s1.trans (s2.trans ?_)
    simp only [rowlocklaw02_LogicTest.l0]
    rw [if_neg (by omega), fixed_f _ (by omega)]
    simp only [Option.bind_some, if_true]
    rw [test_f _ (by omega) _ k i s l j t hk, test_f _ (by omega) _ l j t k i s hl]
    simp only [Option.bind_some]
    rw [show (⟨#[60]⟩ : ByteArray).toList = [60] by rw [Go.ByteArray.toList_eq], show (⟨#[62]⟩ : ByteArray).toList = [62] by rw [Go.ByteArray.toList_eq], test_lt_turn]
    simp
  obtain ⟨b, hb, _⟩ := great_f [⟨k, i, s⟩, ⟨l, j, t⟩] (by simp) (q + 10) (by simp)
  unfold rowlocklaw02_LogicTest.f
  rw [hb]
  simp only [Option.bind_some]
  cases b with
  | true => rw [if_pos rfl]; exact hfix
  | false =>
    rw [if_neg (by simp)]
    by_cases h : (op.size : Int) > 100
    · rw [decide_eq_true h]; exact hfix
    · rw [decide_eq_false h]; exact hgo

end Go.Proofs.Ytegegpdaalfbdaa.Pure
