/- May entries stand in a page; a leaf's page is put. Conditions: the entries are not endless. -/
import Derived.Test.YtihmkdjambdfjaaLfA
import Derived.Test.YtihmkdjambdfjaaLay
namespace Go.Proofs.Ytihmkdjambdfjaa.Lf
open Go.RowKit Go.Proofs.YtihmkdjambdfjaaW.PrintWords Go.Proofs.YtihmkdjambdfjaaW.PrintLast Go.Proofs.YtihmkdjambdfjaaW.PrintMore Go.Proofs.Ytihmkdjambdfjaa.XLeaf Go.Proofs.Ytihmkdjambdfjaa.Tk
set_option linter.unusedVariables false
set_option linter.unusedSimpArgs false
set_option maxRecDepth 100000
/-- Entries that are gone through. -/
def goodE (l : List S27) : Prop := l.length ≤ 10000 ∧ ∀ x ∈ l, x.f0.size ≤ 70000 ∧ 0 ≤ x.f1.f0 ∧ x.f1.f0 < 4294967296 ∧ 0 ≤ x.f1.f1 ∧ x.f1.f1 < 65536
theorem goodE.len {l : List S27} (h : goodE l) : l.length ≤ 10000 := h.1
theorem rise_ok (A : Option Addr) (c : Nat) (l : List S27) (w : World) (hC : Kd.C k27 w A l.length l) (hc : l.length ≤ c) (hl : l.length ≤ 10000) : Calls Try.prog 16 #[.slice A l.length c] w fun e w' => e = .returned (.bool (riseB l)) ∧ Below w.heap.size w w' := by
  obtain ⟨k, h⟩ := (eRise l (by omega)).rounds
  exact leaf_Rise.calls k A c l _ w hC hc h
theorem size_ok (A : Option Addr) (c : Nat) (l : List S27) (w : World) (hC : Kd.C k27 w A l.length l) (hc : l.length ≤ c) (hg : goodE l) : Calls Try.prog 18 #[.slice A l.length c] w fun e w' => e = .returned (.int .i64 (8 + szE l)) ∧ Below w.heap.size w w' := by
  obtain ⟨k, h⟩ := (eSize l (by have := hg.1; omega) (fun x hx => (hg.2 x hx).1)).rounds
  exact leaf_LeafSize.calls k A c l _ w hC hc h
theorem long1 (w : World) (key : ByteArray) (pg sl : Int) (hk : key.size ≤ 70000) : Calls Try.prog 68 #[.agg #[.string key, .int .u32 pg, .int .u16 sl]] w fun e w' => e = .returned (.bool (decide (200 < key.size))) ∧ Below w.heap.size w w' := by
  have HB := Aside0.mk (below_alloc (Below.refl w.heap.size w) (.cells #[.string key, .int .u32 pg, .int .u16 sl] 27))
  go_enter Try.func68, Try.ntmps68
  go_wp2
  go_ret
  exact ⟨by simp; omega, HB.out⟩
/-- The place of the first key that is too long. -/
def ixL : List S27 → Int → Int
  | [], _ => -1
  | t :: l, i => if 200 < t.f0.size then i else ixL l (i + 1)
theorem ixL_long : ∀ (l : List S27) (i : Int), 0 ≤ i → (decide (ixL l i ≥ 0) = longB l)
  | [], i, h => rfl
  | t :: l, i, h => by
    rw [ixL, longB, List.any_cons]
    by_cases ht : 200 < t.f0.size
    · rw [if_pos ht, decide_eq_true ht, decide_eq_true h, Bool.true_or]
    · rw [if_neg ht, decide_eq_false ht, Bool.false_or, ixL_long l (i + 1) (by omega)]
      rfl
theorem wr_in' (n : Int) (h : -9223372036854775808 ≤ n ∧ n ≤ 9223372036854775807) : wrap64 n = n := by
  unfold wrap64
  omega
set_option maxHeartbeats 4000000 in
theorem index_ok (w : World) (A : Option Addr) (c : Nat) (l : List S27) (hg : goodE l) (hC : Kd.C k27 w A l.length l) :
    Calls Try.prog 76 #[.slice A l.length c, .func (.func 68) #[] #[]] w fun e w' => e = .returned (.int .i64 (ixL l 0)) ∧ Below w.heap.size w w' := by
  have HC := Aside0.mk (And.intro hC hg)
  have HB0 := Aside0.mk (Below.refl w.heap.size w)
  clear hC hg
  go_enter Try.func76, Try.ntmps76
  go_wp2
  go_loopg [8] l.length (fun kq v8 w' => ∃ i : Nat, v8 = .int .i64 (i : Int) ∧ Aside0 (kq + i = l.length) ∧ Aside0 (ixL (l.drop i) (i : Int) = ixL l 0) ∧ Aside0 (Below w.heap.size w w'))
  case atStart => exact ⟨0, rfl, ⟨by omega⟩, ⟨rfl⟩, HB0⟩
  case round =>
    clear HB0
    obtain ⟨i, rfl, HI, HE, HB⟩ := hrel
    by_cases c5 : i < l.length
    · have c1 : decide ((i : Int) < (l.length : Int)) = true := decide_eq_true (by omega)
      have c1b : decide (i < l.length) = true := decide_eq_true c5
      obtain ⟨ad, e1, hx0, hx1, hx2⟩ := at_T27 HC.out.1 (i : Int) (by omega) (by omega)
      subst e1
      replace hx0 := (HB.out.cell (World.block_lt_of_cell? w _ hx0)).trans hx0
      replace hx1 := (HB.out.cell (World.block_lt_of_cell? w _ hx1)).trans hx1
      replace hx2 := (HB.out.cell (World.block_lt_of_cell? w _ hx2)).trans hx2
      rw [Int.toNat_natCast] at hx0 hx1 hx2
      have p9 : (0 ≤ (i : Int)) = True := eq_true (by omega)
      have q9 : ((i : Int) < (l.length : Int)) = True := eq_true (by omega)
      have q9b : (i < l.length) = True := eq_true c5
      have hE := HE.out
      have hm := HC.out.2.2 _ (by rw [rd_at l i c5]; exact List.getElem_mem c5 : rd_T27 l (i : Int) ∈ l)
      rw [drop_rd l i c5, ixL] at hE
      obtain ⟨t, ht⟩ : ∃ t, t = rd_T27 l (i : Int) := ⟨_, rfl⟩
      rw [← ht] at hx0 hx1 hx2 hE hm
      have H := Aside0.mk c5
      have HM := Aside0.mk hm
      clear c5 ht hm
      by_cases hlg : 200 < t.f0.size
      · rw [if_pos hlg] at hE
        have HEE := Aside0.mk hE
        have hd : decide (200 < t.f0.size) = true := decide_eq_true hlg
        clear hE hlg
        go_wp2_with (go_at_call 68; (with_reducible refine (long1 _ _ _ _ HM.out.1).mono ?_); rintro en w1 ⟨rfl, hb⟩; have HB1 := Aside0.mk (below_then HB.out HB.out.size hb); clear hb)
        go_ret
        exact ⟨by rw [HEE.out]; rfl, HB1.out⟩
      · rw [if_neg hlg] at hE
        have HEE := Aside0.mk hE
        have hd : decide (200 < t.f0.size) = false := decide_eq_false hlg
        clear hE hlg
        go_wp2_with (go_at_call 68; (with_reducible refine (long1 _ _ _ _ HM.out.1).mono ?_); rintro en w1 ⟨rfl, hb⟩; have HB1 := Aside0.mk (below_then HB.out HB.out.size hb); clear hb)
        go_roundg (gk - 1)
        case measure => have h1 := HI.out; have h2 := H.out; omega
        case rel =>
          have h1 := HI.out
          have h2 := H.out
          have h3 := HC.out.2.1
          exact ⟨i + 1, by first | rfl | (rw [wr_in' ((i : Int) + 1) (by omega)]; rfl), ⟨by omega⟩, HEE, HB1⟩
    · have c1 : decide ((i : Int) < (l.length : Int)) = false := decide_eq_false (by omega)
      have c1b : decide (i < l.length) = false := decide_eq_false c5
      have hE := HE.out
      rw [List.drop_of_length_le (by omega), ixL] at hE
      have HEE := Aside0.mk hE
      clear hE c5
      go_wp2
      go_ret
      exact ⟨by rw [← HEE.out]; rfl, HB.out⟩
theorem contains_ok (w : World) (A : Option Addr) (c : Nat) (l : List S27) (hg : goodE l) (hC : Kd.C k27 w A l.length l) :
    Calls Try.prog 58 #[.slice A l.length c, .func (.func 68) #[] #[]] w fun e w' => e = .returned (.bool (longB l)) ∧ Below w.heap.size w w' := by
  have HC := Aside0.mk (And.intro hC hg)
  clear hC hg
  go_enter Try.func58, Try.ntmps58
  go_wp2_with (go_at_call 76; (with_reducible refine (index_ok _ A c l HC.out.2 HC.out.1).mono ?_); rintro en w1 ⟨rfl, hb⟩; have HB1 := Aside0.mk hb; clear hb)
  go_ret
  exact ⟨by rw [← ixL_long l 0 (by omega)]; rfl, HB1.out⟩
theorem rise_is {A : Option Addr} {c : Nat} {l : List S27} {r : Bool} (hr : riseB l = r) (w : World) (hC : Kd.C k27 w A l.length l) (hc : l.length ≤ c) (hl : l.length ≤ 10000) : Calls Try.prog 16 #[.slice A l.length c] w fun e w' => e = .returned (.bool r) ∧ Below w.heap.size w w' := by
  subst hr
  exact rise_ok A c l w hC hc hl
theorem contains_is {A : Option Addr} {c : Nat} {l : List S27} {r : Bool} (hr : longB l = r) (w : World) (hg : goodE l) (hC : Kd.C k27 w A l.length l) : Calls Try.prog 58 #[.slice A l.length c, .func (.func 68) #[] #[]] w fun e w' => e = .returned (.bool r) ∧ Below w.heap.size w w' := by
  subst hr
  exact contains_ok w A c l hg hC
set_option maxHeartbeats 4000000 in
theorem may_ok (w : World) (A : Option Addr) (c : Nat) (l : List S27) (n : Int) (hg : goodE l) (hC : Kd.C k27 w A l.length l) (hc : l.length ≤ c) :
    Calls Try.prog 38 #[.slice A l.length c, .int .i64 n] w fun e w' => e = .returned (.int .i64 (mayE l n)) ∧ Below w.heap.size w w' := by
  have HC := Aside0.mk (And.intro hC (And.intro hg hc))
  unfold mayE
  clear hC hg hc
  by_cases h1 : riseB l = false
  · have H1 := Aside0.mk h1
    rw [if_pos (.inl h1)]
    go_enter Try.func38, Try.ntmps38
    clear h1
    go_wp2_with (go_at_call 16; (with_reducible refine (rise_is H1.out _ HC.out.1 HC.out.2.2 HC.out.2.1.len).mono ?_); rintro en w1 ⟨rfl, hb⟩; have HB1 := Aside0.mk hb; clear hb)
    go_ret
    exact ⟨rfl, HB1.out⟩
  · have H1 := Aside0.mk (show riseB l = true by simpa using h1)
    by_cases h2 : longB l = true
    · have H2 := Aside0.mk h2
      rw [if_pos (.inr h2)]
      clear h1 h2
      go_enter Try.func38, Try.ntmps38
      go_wp2_with (first
        | (go_at_call 16; (with_reducible refine (rise_is H1.out _ HC.out.1 HC.out.2.2 HC.out.2.1.len).mono ?_); rintro en w1 ⟨rfl, hb⟩; have HB1 := Aside0.mk hb; clear hb)
        | (go_at_call 58; (with_reducible refine (contains_is H2.out _ HC.out.2.1 (Kd.C_below HC.out.1 HB1.out)).mono ?_); rintro en w2 ⟨rfl, hb⟩; have HB2 := Aside0.mk (below_then HB1.out HB1.out.size hb); clear hb))
      go_ret
      exact ⟨rfl, HB2.out⟩
    · have H2 := Aside0.mk (show longB l = false by simpa using h2)
      rw [if_neg (by rintro (h | h); exact h1 h; exact h2 h)]
      clear h1 h2
      by_cases h3 : n > 512
      · have d3 : decide (n > 512) = true := decide_eq_true h3
        have d3b : decide (512 < n) = true := decide_eq_true h3
        rw [if_pos h3]
        clear h3
        go_enter Try.func38, Try.ntmps38
        go_wp2_with (first
          | (go_at_call 16; (with_reducible refine (rise_is H1.out _ HC.out.1 HC.out.2.2 HC.out.2.1.len).mono ?_); rintro en w1 ⟨rfl, hb⟩; have HB1 := Aside0.mk hb; clear hb)
          | (go_at_call 58; (with_reducible refine (contains_is H2.out _ HC.out.2.1 (Kd.C_below HC.out.1 HB1.out)).mono ?_); rintro en w2 ⟨rfl, hb⟩; have HB2 := Aside0.mk (below_then HB1.out HB1.out.size hb); clear hb))
        go_ret
        exact ⟨rfl, HB2.out⟩
      · have d3 : decide (n > 512) = false := decide_eq_false h3
        have d3b : decide (512 < n) = false := decide_eq_false h3
        rw [if_neg h3]
        clear h3
        go_enter Try.func38, Try.ntmps38
        go_wp2_with (first
          | (go_at_call 16; (with_reducible refine (rise_is H1.out _ HC.out.1 HC.out.2.2 HC.out.2.1.len).mono ?_); rintro en w1 ⟨rfl, hb⟩; have HB1 := Aside0.mk hb; clear hb)
          | (go_at_call 58; (with_reducible refine (contains_is H2.out _ HC.out.2.1 (Kd.C_below HC.out.1 HB1.out)).mono ?_); rintro en w2 ⟨rfl, hb⟩; have HB2 := Aside0.mk (below_then HB1.out HB1.out.size hb); clear hb))
        go_ret
        exact ⟨rfl, HB2.out⟩
end Go.Proofs.Ytihmkdjambdfjaa.Lf
