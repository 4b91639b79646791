/- schema.Find: the place of the first table of a name. Conditions: stated in each theorem. -/
import Derived.Test.YtpfegfkniilobaaXSchemaFindsx0
namespace Go.Proofs.Ytpfegfkniilobaa.Sch
open Go.RowKit Go.Proofs.YtpfegfkniilobaaW.PrintWords Go.Proofs.YtpfegfkniilobaaW.PrintLast Go.Proofs.YtpfegfkniilobaaW.PrintMore
open Go.Proofs.Ytpfegfkniilobaa.XSchemaFinds
set_option linter.unusedVariables false
set_option linter.unusedSimpArgs false
set_option maxRecDepth 100000
theorem wr_in (n : Int) (h : -9223372036854775808 ≤ n ∧ n ≤ 9223372036854775807) : wrap64 n = n := by
  unfold wrap64
  omega
theorem find1_ok (w : World) (n name : ByteArray) (A : Option Addr) (k c : Nat) (r x y : Int) (gb : Nat) (hx : w.cell? ⟨gb, 0, none⟩ = some (.string name)) :
    Calls Try.prog 56 #[.agg #[.string n, .slice A k c, .int .u32 r, .int .i64 x, .int .i64 y], .pointer (some ⟨gb, 0, none⟩)] w fun e w' => e = .returned (.bool (n.toList == name.toList)) ∧ Below w.heap.size w w' := by
  have HB := Aside0.mk (below_alloc (Below.refl w.heap.size w) (.cells #[.string n, .slice A k c, .int .u32 r, .int .i64 x, .int .i64 y] 84))
  have hx' : (w.alloc (.cells #[.string n, .slice A k c, .int .u32 r, .int .i64 x, .int .i64 y] 84)).cell? ⟨gb, 0, none⟩ = some (.string name) := (HB.out.cell (World.block_lt_of_cell? w _ hx)).trans hx
  go_enter Try.func56, Try.ntmps56
  go_wp2
  go_ret
  exact ⟨rfl, HB.out⟩
/-- The place of the first table of a name. -/
def ix (name : ByteArray) : List S84 → Int → Int
  | [], _ => -1
  | t :: l, i => if (t.f0.toList == name.toList) = true then i else ix name l (i + 1)
theorem drop_T (l : List S84) (i : Nat) (h : i < l.length) : l.drop i = rd_T84 l (i : Int) :: l.drop (i + 1) := by
  rw [rd_T84, Int.toNat_natCast, List.getD_eq_getElem?_getD, List.getElem?_eq_getElem h]
  exact List.drop_eq_getElem_cons h
set_option maxHeartbeats 4000000 in
theorem index_ok (w : World) (gb : Nat) (name : ByteArray) (hx : w.cell? ⟨gb, 0, none⟩ = some (.string name)) (A : Option Addr) (c : Nat) (l : List S84) (hlen : l.length ≤ 140737488355328) (hC : Kd.C k84 w A l.length l) :
    Calls Try.prog 55 #[.slice A l.length c, .func (.func 56) #[] #[.pointer (some ⟨gb, 0, none⟩)]] w fun e w' => e = .returned (.int .i64 (ix name l 0)) ∧ Below w.heap.size w w' := by
  have HC := Aside0.mk (And.intro hC hlen)
  have HXB := Aside0.mk hx
  have HB0 := Aside0.mk (Below.refl w.heap.size w)
  clear hC hlen hx
  go_enter Try.func55, Try.ntmps55
  go_wp2
  go_loopg [8] l.length (fun kq v8 w' => ∃ i : Nat, v8 = .int .i64 (i : Int) ∧ Aside0 (kq + i = l.length) ∧ Aside0 (ix name (l.drop i) (i : Int) = ix name l 0) ∧ Aside0 (Below w.heap.size w w'))
  case atStart => exact ⟨0, rfl, ⟨by omega⟩, ⟨rfl⟩, HB0⟩
  case round =>
    clear HB0
    obtain ⟨i, rfl, HI, HE, HB⟩ := hrel
    by_cases c5 : i < l.length
    · have c1 : decide ((i : Int) < (l.length : Int)) = true := decide_eq_true (by omega)
      have c1b : decide (i < l.length) = true := decide_eq_true c5
      obtain ⟨ad, A1, k1, e1, hx0, hx1, hx2, hx3, hx4, _, _⟩ := at_T84 HC.out.1 (i : Int) (by omega) (by omega)
      subst e1
      replace hx0 := (HB.out.cell (World.block_lt_of_cell? w _ hx0)).trans hx0
      replace hx1 := (HB.out.cell (World.block_lt_of_cell? w _ hx1)).trans hx1
      replace hx2 := (HB.out.cell (World.block_lt_of_cell? w _ hx2)).trans hx2
      replace hx3 := (HB.out.cell (World.block_lt_of_cell? w _ hx3)).trans hx3
      replace hx4 := (HB.out.cell (World.block_lt_of_cell? w _ hx4)).trans hx4
      rw [Int.toNat_natCast] at hx0 hx1 hx2 hx3 hx4
      have p9 : (0 ≤ (i : Int)) = True := eq_true (by omega)
      have q9 : ((i : Int) < (l.length : Int)) = True := eq_true (by omega)
      have q9b : (i < l.length) = True := eq_true c5
      have hE := HE.out
      rw [drop_T l i c5, ix] at hE
      obtain ⟨t, ht⟩ : ∃ t, t = rd_T84 l (i : Int) := ⟨_, rfl⟩
      rw [← ht] at hx0 hx1 hx2 hx3 hx4 hE
      have H := Aside0.mk c5
      clear c5 ht
      by_cases hm : (t.f0.toList == name.toList) = true
      · rw [if_pos hm] at hE
        have HEE := Aside0.mk hE
        clear hE
        go_wp2_with (go_at_call 56; (with_reducible refine (find1_ok _ _ _ _ _ _ _ _ _ gb ((HB.out.cell (World.block_lt_of_cell? w _ HXB.out)).trans HXB.out)).mono ?_); rintro en w1 ⟨rfl, hb⟩; have HB1 := Aside0.mk (below_then HB.out HB.out.size hb); clear hb)
        go_ret
        exact ⟨by rw [HEE.out]; rfl, HB1.out⟩
      · rw [if_neg hm] at hE
        have HEE := Aside0.mk hE
        have hm2 : (t.f0.toList == name.toList) = false := by simpa using hm
        clear hE hm
        go_wp2_with (go_at_call 56; (with_reducible refine (find1_ok _ _ _ _ _ _ _ _ _ gb ((HB.out.cell (World.block_lt_of_cell? w _ HXB.out)).trans HXB.out)).mono ?_); rintro en w1 ⟨rfl, hb⟩; have HB1 := Aside0.mk (below_then HB.out HB.out.size hb); clear hb)
        go_roundg (gk - 1)
        case measure => have h1 := HI.out; have h2 := H.out; omega
        case rel =>
          have h1 := HI.out
          have h2 := H.out
          have h3 := HC.out.2
          exact ⟨i + 1, by first | rfl | (rw [wr_in ((i : Int) + 1) (by omega)]; rfl), ⟨by omega⟩, HEE, HB1⟩
    · have c1 : decide ((i : Int) < (l.length : Int)) = false := decide_eq_false (by omega)
      have c1b : decide (i < l.length) = false := decide_eq_false c5
      have hE := HE.out
      rw [List.drop_of_length_le (by omega), ix] at hE
      have HEE := Aside0.mk hE
      clear hE c5
      go_wp2
      go_ret
      exact ⟨by rw [← HEE.out]; rfl, HB.out⟩
theorem find_ok (w : World) (name : ByteArray) (A : Option Addr) (c : Nat) (l : List S84) (A2 : Option Addr) (n2 c2 : Nat) (hlen : l.length ≤ 140737488355328) (hC : Kd.C k84 w A l.length l) :
    Calls Try.prog 29 #[.agg #[.slice A l.length c, .slice A2 n2 c2], .string name] w fun e w' => e = .returned (.int .i64 (ix name l 0)) ∧ Below w.heap.size w w' := by
  have HC := Aside0.mk (And.intro hC hlen)
  have HB := Aside0.mk (below_alloc (below_alloc (Below.refl w.heap.size w) (.cells #[.slice A l.length c, .slice A2 n2 c2] 80)) (.cells #[.string name] 9))
  have HX := Aside0.mk (blk_new (w.alloc (.cells #[.slice A l.length c, .slice A2 n2 c2] 80)) (.cells #[.string name] 9))
  have hx := (blk_cell HX.out 0).trans rfl
  clear hC hlen
  go_enter Try.func29, Try.ntmps29
  go_wp2_with (go_at_call 55; (with_reducible refine (index_ok _ _ name (by rw [World.size_alloc] at hx; exact hx.trans rfl) A c l HC.out.2 (Kd.C_below HC.out.1 HB.out)).mono ?_); rintro en w1 ⟨rfl, hb⟩; have HB1 := Aside0.mk (below_then HB.out HB.out.size hb); clear hb)
  go_ret
  exact ⟨rfl, HB1.out⟩
end Go.Proofs.Ytpfegfkniilobaa.Sch
