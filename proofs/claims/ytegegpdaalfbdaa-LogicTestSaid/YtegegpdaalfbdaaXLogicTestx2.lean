-- Written by this session's own program (wip/own_print.py) over the kit's print, with this session's hand-proved contracts in their places; Lean checks it.
import Derived.Test.YtegegpdaalfbdaaXLogicTestx0
import Derived.Test.YtegegpdaalfbdaaXLogicTestx1
namespace Go.Proofs.Ytegegpdaalfbdaa.XLogicTest
open Go.RowKit Go.Proofs.YtegegpdaalfbdaaW.PrintWords Go.Proofs.YtegegpdaalfbdaaW.PrintLast Go.Proofs.YtegegpdaalfbdaaW.PrintMore
attribute [local go_sem] max2_int min2_int max_two min_two max_three min_three max_four min_four   -- for this text's walks alone
set_option linter.unusedVariables false
set_option linter.unusedSimpArgs false

/-! ### val_Compare: function 38 -/
def val_Compare.j0 : Nat → Int → Bool → Int → Int → ByteArray → Int → Int → ByteArray → Option (Int)
  | 0, _, _, _, _, _, _, _, _ => none
  | k + 1, x16, x17, x124000, x124001, x124002, x125000, x125001, x125002 => if x17 = true then ((cmp_Compare_int64.f x124001 x125001).bind fun t128 => (some t128)) else (if x16 = 3 then ((strings_Compare.f x124002 x125002).bind fun t129 => (some t129)) else (some 0))
def val_Compare.f (k : Nat) (a0_0 : Int) (a0_1 : Int) (a0_2 : ByteArray) (a1_0 : Int) (a1_1 : Int) (a1_2 : ByteArray) : Option (Int) := (val_kind.f a0_0 a0_1 a0_2).bind fun t125 => ((val_kind.f a1_0 a1_1 a1_2).bind fun t126 => ((cmp_Compare_uint8.f t125 t126).bind fun t127 => (if t127 = 0 then (if t125 = 1 then (val_Compare.j0 k t125 (t125 == 1) a0_0 a0_1 a0_2 a1_0 a1_1 a1_2) else (val_Compare.j0 k t125 (t125 == 2) a0_0 a0_1 a0_2 a1_0 a1_1 a1_2)) else (some t127))))
theorem val_Compare.mono_l : ∀ k, (∀ y0 y1 y2 y3 y4 y5 y6 y7, LeO (val_Compare.j0 k y0 y1 y2 y3 y4 y5 y6 y7) (val_Compare.j0 (k + 1) y0 y1 y2 y3 y4 y5 y6 y7))
  | 0 => fun _ _ _ _ _ _ _ _ r h => by simp [val_Compare.j0] at h
  | k + 1 => by
    have ih0 := val_Compare.mono_l k
    · intro y0 y1 y2 y3 y4 y5 y6 y7
      unfold val_Compare.j0
      repeat' first
      | (with_reducible exact ih0 _ _ _ _ _ _ _ _)
      | (with_reducible exact LeO.refl _)
      | (with_reducible exact LeO.none _)
      | (with_reducible refine LeO.ite ?_ ?_)
      | (with_reducible refine LeO.bind ?_ (fun _ => ?_))
      | exact ih0 _ _ _ _ _ _ _ _
      | exact LeO.none _
      | refine LeO.ite ?_ ?_
      | refine LeO.bind ?_ (fun _ => ?_)
theorem val_Compare.mono : ∀ a0 a1 a2 a3 a4 a5 k, LeO (val_Compare.f k a0 a1 a2 a3 a4 a5) (val_Compare.f (k + 1) a0 a1 a2 a3 a4 a5) := by
  intro a0 a1 a2 a3 a4 a5 k
  have ih0 := val_Compare.mono_l k
  unfold val_Compare.f
  repeat' first
      | (with_reducible exact ih0 _ _ _ _ _ _ _ _)
      | (with_reducible exact LeO.refl _)
      | (with_reducible exact LeO.none _)
      | (with_reducible refine LeO.ite ?_ ?_)
      | (with_reducible refine LeO.bind ?_ (fun _ => ?_))
      | exact ih0 _ _ _ _ _ _ _ _
      | exact LeO.none _
      | refine LeO.ite ?_ ?_
      | refine LeO.bind ?_ (fun _ => ?_)
set_option maxHeartbeats 8000000 in
set_option maxRecDepth 100000 in
theorem val_Compare.calls (k : Nat) (a0_0 : Int) (a0_1 : Int) (a0_2 : ByteArray) (a1_0 : Int) (a1_1 : Int) (a1_2 : ByteArray) (r : Int) (w : World) (h : val_Compare.f k a0_0 a0_1 a0_2 a1_0 a1_1 a1_2 = some r) :
    Calls Try.prog 38 #[.agg #[.int .u8 a0_0, .int .i64 a0_1, .string a0_2], .agg #[.int .u8 a1_0, .int .i64 a1_1, .string a1_2]] w fun e w' => e = .returned (.int .i64 r) ∧ Below w.heap.size w w' := by
  have hu36 := Try.underlying36
  have HB := Aside0.mk (Below.refl w.heap.size w)
  have H : ((val_kind.f a0_0 a0_1 a0_2).bind fun t125 => ((val_kind.f a1_0 a1_1 a1_2).bind fun t126 => ((cmp_Compare_uint8.f t125 t126).bind fun t127 => (if t127 = 0 then (if t125 = 1 then (val_Compare.j0 k t125 (t125 == 1) a0_0 a0_1 a0_2 a1_0 a1_1 a1_2) else (val_Compare.j0 k t125 (t125 == 2) a0_0 a0_1 a0_2 a1_0 a1_1 a1_2)) else (some t127))))) = some r := h
  clear h
  replace H := Option.bind_eq_some_iff.mp H
  obtain ⟨t125, A30, H⟩ := H
  replace H : ((val_kind.f a1_0 a1_1 a1_2).bind fun t126 => ((cmp_Compare_uint8.f t125 t126).bind fun t127 => (if t127 = 0 then (if t125 = 1 then (val_Compare.j0 k t125 (t125 == 1) a0_0 a0_1 a0_2 a1_0 a1_1 a1_2) else (val_Compare.j0 k t125 (t125 == 2) a0_0 a0_1 a0_2 a1_0 a1_1 a1_2)) else (some t127)))) = some r := H
  have A3 := Aside0.mk A30
  clear A30
  replace H := Option.bind_eq_some_iff.mp H
  obtain ⟨t126, A40, H⟩ := H
  replace H : ((cmp_Compare_uint8.f t125 t126).bind fun t127 => (if t127 = 0 then (if t125 = 1 then (val_Compare.j0 k t125 (t125 == 1) a0_0 a0_1 a0_2 a1_0 a1_1 a1_2) else (val_Compare.j0 k t125 (t125 == 2) a0_0 a0_1 a0_2 a1_0 a1_1 a1_2)) else (some t127))) = some r := H
  have A4 := Aside0.mk A40
  clear A40
  replace H := Option.bind_eq_some_iff.mp H
  obtain ⟨t127, A50, H⟩ := H
  replace H : (if t127 = 0 then (if t125 = 1 then (val_Compare.j0 k t125 (t125 == 1) a0_0 a0_1 a0_2 a1_0 a1_1 a1_2) else (val_Compare.j0 k t125 (t125 == 2) a0_0 a0_1 a0_2 a1_0 a1_1 a1_2)) else (some t127)) = some r := H
  have A5 := Aside0.mk A50
  clear A50
  by_cases c6 : t127 = 0
  · rw [if_pos c6] at H
    have c6b0 : (t127 == 0) = true := beq_iff_eq.mpr c6
    have c6b1 : (t127 != 0) = false := bne_eq_false_iff_eq.mpr c6
    clear c6
    have HC7 := Aside0.mk H
    clear H
    go_enter Try.func38, Try.ntmps38
    go_upto_if 17 with (first | ((with_reducible refine gate_dst (N := 2) rfl ?_); refine box_event ?hg (N := 2) ?hd (cs := #[.int .u8 a0_0, .int .i64 a0_1, .string a0_2]) (t := 36) ?hr ?_; (case hd => rfl); (case hg => rfl); (case hr => first | (go_simp; done) | (go_simp; rfl)); intro gb123 hg w8 hbox hb; have n0_ := Aside0.mk (below_step (by repeat (first | (with_reducible first | exact HB.out | apply below_alloc | apply pw_below_drewN | apply below_drew1) | exact HB.out)) hb); have n1_ := Aside0.mk (hbox); have n2_ := Aside0.mk ((by rw [hg]; exact (below_size (by repeat (first | (with_reducible first | exact HB.out | apply below_alloc | apply pw_below_drewN | apply below_drew1) | exact HB.out))) : w.heap.size ≤ gb123)); have n3_ := Aside0.mk ((by rw [hg]; exact (below_size (by repeat (first | (with_reducible first | exact HB.out | apply below_alloc | apply pw_below_drewN | apply below_drew1) | exact HB.out))) : w.heap.size ≤ gb123)); clear HB; have HB := n0_; have BK123 := n1_; have GW123 := n2_; have GE123 := n3_; clear n0_ n1_ n2_ n3_; clear hb hbox hg) | ((with_reducible refine gate_dst (N := 3) rfl ?_); refine box_event ?hg (N := 3) ?hd (cs := #[.int .u8 a1_0, .int .i64 a1_1, .string a1_2]) (t := 36) ?hr ?_; (case hd => rfl); (case hg => rfl); (case hr => first | (go_simp; done) | (go_simp; rfl)); intro gb124 hg w9 hbox hb; have n0_ := Aside0.mk (blk_below (g := gb123) (o := .cells #[.int .u8 a0_0, .int .i64 a0_1, .string a0_2] 36 (0, 0)) (by (with_reducible repeat (first | refine blk_drewN ?_ _ | refine blk_drew ?_ | refine blk_alloc ?_ _)); exact BK123.out) hb); have n1_ := Aside0.mk (below_step (by repeat (first | (with_reducible first | exact HB.out | apply below_alloc | apply pw_below_drewN | apply below_drew1 | refine below_set ?_ GE123.out) | exact HB.out)) hb); have n2_ := Aside0.mk (hbox); have n3_ := Aside0.mk ((by rw [hg]; exact (below_size (by repeat (first | (with_reducible first | exact HB.out | apply below_alloc | apply pw_below_drewN | apply below_drew1 | refine below_set ?_ GE123.out) | exact HB.out))) : w.heap.size ≤ gb124)); have n4_ := Aside0.mk ((by rw [hg]; exact (below_size (by repeat (first | (with_reducible first | exact HB.out | apply below_alloc | apply pw_below_drewN | apply below_drew1 | refine below_set ?_ GE123.out) | exact HB.out))) : w.heap.size ≤ gb124)); have n5_ := Aside0.mk ((by rw [hg]; exact Nat.ne_of_lt (blk_lt (g := gb123) (o := .cells #[.int .u8 a0_0, .int .i64 a0_1, .string a0_2] 36 (0, 0)) (by (with_reducible repeat (first | refine blk_drewN ?_ _ | refine blk_drew ?_ | refine blk_alloc ?_ _)); exact BK123.out)) : gb123 ≠ gb124)); have n6_ := Aside0.mk ((by rw [hg]; exact Nat.ne_of_gt (blk_lt (g := gb123) (o := .cells #[.int .u8 a0_0, .int .i64 a0_1, .string a0_2] 36 (0, 0)) (by (with_reducible repeat (first | refine blk_drewN ?_ _ | refine blk_drew ?_ | refine blk_alloc ?_ _)); exact BK123.out)) : gb124 ≠ gb123)); clear BK123; clear HB; have BK123 := n0_; have HB := n1_; have BK124 := n2_; have GW124 := n3_; have GE124 := n4_; have NB123_124 := n5_; have NB124_123 := n6_; clear n0_ n1_ n2_ n3_ n4_ n5_ n6_; clear hb hbox hg; have hnb10 := NB123_124.out; have hnc10 := NB124_123.out; have hcz11_0 : w9.cell? ⟨gb123, 0, none⟩ = some (.int .u8 a0_0) := (blk_cell BK123.out 0).trans rfl; have hcz11_1 : w9.cell? ⟨gb123, 1, none⟩ = some (.int .i64 a0_1) := (blk_cell BK123.out 1).trans rfl; have hcz11_2 : w9.cell? ⟨gb123, 2, none⟩ = some (.string a0_2) := (blk_cell BK123.out 2).trans rfl; have hfz11_0 := blk_frozen BK123.out 0; have hfz11_1 := blk_frozen BK123.out 1; have hfz11_2 := blk_frozen BK123.out 2) | ((with_reducible refine gate_callee (f := 49) rfl ?_); refine goesL_ (some 8) rfl rfl Try.func49 (by kernel_rfl) rfl #[.agg #[.int .u8 a0_0, .int .i64 a0_1, .string a0_2]] rfl (by (try simp only [List.map_toArray, List.map_cons, List.map_nil]); first | done | rfl | (simp only [List.length_drop, List.length_take]; rfl)) ?_; (with_reducible refine (val_kind.calls a0_0 a0_1 a0_2 t125 _ A3.out).mono ?_); rintro e w12 ⟨rfl, hb⟩; refine ⟨_, rfl, ?_⟩; have n0_ := Aside0.mk (blk_below (g := gb123) (o := .cells #[.int .u8 a0_0, .int .i64 a0_1, .string a0_2] 36 (0, 0)) (by (with_reducible repeat (first | refine blk_drewN ?_ _ | refine blk_drew ?_ | refine blk_alloc ?_ _)); exact BK123.out) hb); have n1_ := Aside0.mk (blk_below (g := gb124) (o := .cells #[.int .u8 a1_0, .int .i64 a1_1, .string a1_2] 36 (0, 0)) (by (with_reducible repeat (first | refine blk_drewN ?_ _ | refine blk_drew ?_ | refine blk_alloc ?_ _)); exact BK124.out) hb); have n2_ := Aside0.mk (below_step (by repeat (first | (with_reducible first | exact HB.out | apply below_alloc | apply pw_below_drewN | apply below_drew1 | refine below_set ?_ GE123.out | refine below_set ?_ GE124.out) | exact HB.out)) hb); clear BK123; clear BK124; clear HB; have BK123 := n0_; have BK124 := n1_; have HB := n2_; clear n0_ n1_ n2_; (try clear hb); (try clear hb2); (try clear hk); (try clear hi); have hcz13_0 : w12.cell? ⟨gb124, 0, none⟩ = some (.int .u8 a1_0) := (blk_cell BK124.out 0).trans rfl; have hcz13_1 : w12.cell? ⟨gb124, 1, none⟩ = some (.int .i64 a1_1) := (blk_cell BK124.out 1).trans rfl; have hcz13_2 : w12.cell? ⟨gb124, 2, none⟩ = some (.string a1_2) := (blk_cell BK124.out 2).trans rfl; have hfz13_0 := blk_frozen BK124.out 0; have hfz13_1 := blk_frozen BK124.out 1; have hfz13_2 := blk_frozen BK124.out 2) | ((with_reducible refine gate_callee (f := 49) rfl ?_); refine goesL_ (some 11) rfl rfl Try.func49 (by kernel_rfl) rfl #[.agg #[.int .u8 a1_0, .int .i64 a1_1, .string a1_2]] rfl (by (try simp only [List.map_toArray, List.map_cons, List.map_nil]); first | done | rfl | (simp only [List.length_drop, List.length_take]; rfl)) ?_; (with_reducible refine (val_kind.calls a1_0 a1_1 a1_2 t126 _ A4.out).mono ?_); rintro e w14 ⟨rfl, hb⟩; refine ⟨_, rfl, ?_⟩; have n0_ := Aside0.mk (blk_below (g := gb123) (o := .cells #[.int .u8 a0_0, .int .i64 a0_1, .string a0_2] 36 (0, 0)) (by (with_reducible repeat (first | refine blk_drewN ?_ _ | refine blk_drew ?_ | refine blk_alloc ?_ _)); exact BK123.out) hb); have n1_ := Aside0.mk (blk_below (g := gb124) (o := .cells #[.int .u8 a1_0, .int .i64 a1_1, .string a1_2] 36 (0, 0)) (by (with_reducible repeat (first | refine blk_drewN ?_ _ | refine blk_drew ?_ | refine blk_alloc ?_ _)); exact BK124.out) hb); have n2_ := Aside0.mk (below_step (by repeat (first | (with_reducible first | exact HB.out | apply below_alloc | apply pw_below_drewN | apply below_drew1 | refine below_set ?_ GE123.out | refine below_set ?_ GE124.out) | exact HB.out)) hb); clear BK123; clear BK124; clear HB; have BK123 := n0_; have BK124 := n1_; have HB := n2_; clear n0_ n1_ n2_; (try clear hb); (try clear hb2); (try clear hk); (try clear hi)) | ((with_reducible refine gate_callee (f := 50) rfl ?_); refine goesL_ (some 12) rfl rfl Try.func50 (by kernel_rfl) rfl #[.int .u8 t125, .int .u8 t126] rfl (by (try simp only [List.map_toArray, List.map_cons, List.map_nil]); first | done | rfl | (simp only [List.length_drop, List.length_take]; rfl)) ?_; (with_reducible refine (cmp_Compare_uint8.calls t125 t126 t127 _ A5.out).mono ?_); rintro e w' ⟨rfl, ⟨nd, rfl⟩⟩; refine ⟨_, rfl, ?_⟩))
    (try simp only [Act.put, List.setIfInBounds_toArray, List.set_cons_zero, List.set_cons_succ])
    go_cut [17] (fun v17 wc => ∃ (kq : Nat) (x17_6 : Bool), v17 = .bool x17_6 ∧ Aside0 (val_Compare.j0 kq t125 x17_6 a0_0 a0_1 a0_2 a1_0 a1_1 a1_2 = some r) ∧ Aside0 (kq ≤ k) ∧ Aside0 (wc.heap[gb123]? = some (.cells #[.int .u8 a0_0, .int .i64 a0_1, .string a0_2] 36 (0, 0))) ∧ Aside0 (wc.heap[gb124]? = some (.cells #[.int .u8 a1_0, .int .i64 a1_1, .string a1_2] 36 (0, 0))) ∧ Aside0 (Below w.heap.size w wc))
    case first =>
      have H := HC7.out
      clear HC7
      by_cases c15 : t125 = 1
      · rw [if_pos c15] at H
        have c15b0 : (t125 == 1) = true := beq_iff_eq.mpr c15
        have c15b1 : (t125 != 1) = false := bne_eq_false_iff_eq.mpr c15
        clear c15
        (first | rw [c15b0] | (simp only [i64_w, i32_w]; rw [c15b0]) | skip)
        have H' := Aside0.mk H
        clear H
        go_wp2
        go_meet
        case rel => exact ⟨_, ((t125 == 1)), (by first | rfl | (simp; done) | (simp [*]; done)), H', ⟨by first | omega | exact Nat.le_refl _⟩, ⟨by (with_reducible repeat (first | refine blk_drewN ?_ _ | refine blk_drew ?_ | refine blk_alloc ?_ _)); exact BK123.out⟩, ⟨by (with_reducible repeat (first | refine blk_drewN ?_ _ | refine blk_drew ?_ | refine blk_alloc ?_ _)); exact BK124.out⟩, ⟨by repeat (first | (with_reducible first | exact HB.out | apply below_alloc | apply pw_below_drewN | apply below_drew1 | refine below_set ?_ GE123.out | refine below_set ?_ GE124.out) | exact HB.out)⟩⟩
      · rw [if_neg c15] at H
        have c15b0 : (t125 == 1) = false := beq_eq_false_iff_ne.mpr c15
        have c15b1 : (t125 != 1) = true := bne_iff_ne.mpr c15
        (first | rw [c15b0] | (simp only [i64_w, i32_w]; rw [c15b0]) | skip)
        have H' := Aside0.mk H
        clear H
        go_wp2
        go_meet
        case rel => exact ⟨_, ((t125 == 2)), (by first | rfl | (simp; done) | (simp [*]; done)), H', ⟨by first | omega | exact Nat.le_refl _⟩, ⟨by (with_reducible repeat (first | refine blk_drewN ?_ _ | refine blk_drew ?_ | refine blk_alloc ?_ _)); exact BK123.out⟩, ⟨by (with_reducible repeat (first | refine blk_drewN ?_ _ | refine blk_drew ?_ | refine blk_alloc ?_ _)); exact BK124.out⟩, ⟨by repeat (first | (with_reducible first | exact HB.out | apply below_alloc | apply pw_below_drewN | apply below_drew1 | refine below_set ?_ GE123.out | refine below_set ?_ GE124.out) | exact HB.out)⟩⟩
    case rest =>
      clear HC7
      try clear c1
      try clear p2
      try clear c3
      try clear c4
      try clear c5
      try clear c6
      try clear c6b0
      try clear c6b1
      try clear c10
      try clear c15
      try clear c15b0
      try clear c15b1
      try clear hcz11_0
      try clear hcz11_1
      try clear hcz11_2
      try clear hcz13_0
      try clear hcz13_1
      try clear hcz13_2
      try clear hfz11_0
      try clear hfz11_1
      try clear hfz11_2
      try clear hfz13_0
      try clear hfz13_1
      try clear hfz13_2
      obtain ⟨kq, x17_6, rfl, HA, HJ6, BK123, BK124, HB⟩ := hcut
      cases kq with
      | zero => exact absurd HA.out (by simp [val_Compare.j0])
      | succ kj6 =>
        have H := HA.out
        clear HA
        simp only [val_Compare.j0] at H
        by_cases c16 : x17_6 = true
        · subst c16
          have H1 : ((cmp_Compare_int64.f a0_1 a1_1).bind fun t128 => (some t128)) = some r := by rw [if_pos rfl] at H; exact H
          clear H
          have H := H1
          clear H1
          replace H := Option.bind_eq_some_iff.mp H
          obtain ⟨t128, A170, H⟩ := H
          replace H : (some t128) = some r := H
          have A17 := Aside0.mk A170
          clear A170
          obtain rfl := Option.some.inj H
          have hnb18 := NB123_124.out
          have hnc18 := NB124_123.out
          have hcz19_0 : wc.cell? ⟨gb123, 0, none⟩ = some (.int .u8 a0_0) := (blk_cell BK123.out 0).trans rfl
          have hcz19_1 : wc.cell? ⟨gb123, 1, none⟩ = some (.int .i64 a0_1) := (blk_cell BK123.out 1).trans rfl
          have hcz19_2 : wc.cell? ⟨gb123, 2, none⟩ = some (.string a0_2) := (blk_cell BK123.out 2).trans rfl
          have hfz19_0 := blk_frozen BK123.out 0
          have hfz19_1 := blk_frozen BK123.out 1
          have hfz19_2 := blk_frozen BK123.out 2
          have hcz20_0 : wc.cell? ⟨gb124, 0, none⟩ = some (.int .u8 a1_0) := (blk_cell BK124.out 0).trans rfl
          have hcz20_1 : wc.cell? ⟨gb124, 1, none⟩ = some (.int .i64 a1_1) := (blk_cell BK124.out 1).trans rfl
          have hcz20_2 : wc.cell? ⟨gb124, 2, none⟩ = some (.string a1_2) := (blk_cell BK124.out 2).trans rfl
          have hfz20_0 := blk_frozen BK124.out 0
          have hfz20_1 := blk_frozen BK124.out 1
          have hfz20_2 := blk_frozen BK124.out 2
          go_wp2_with (first | ((with_reducible refine gate_callee (f := 51) rfl ?_); refine goesL_ (some 24) rfl rfl Try.func51 (by kernel_rfl) rfl #[.int .i64 a0_1, .int .i64 a1_1] rfl (by (try simp only [List.map_toArray, List.map_cons, List.map_nil]); first | done | rfl | (simp only [List.length_drop, List.length_take]; rfl)) ?_; (with_reducible refine (cmp_Compare_int64.calls a0_1 a1_1 t128 _ A17.out).mono ?_); rintro e w' ⟨rfl, ⟨nd, rfl⟩⟩; refine ⟨_, rfl, ?_⟩))
          go_ret
          exact ⟨by first | rfl | (simp [errW_none, errW_some] <;> rfl) | (simp [*, errW_none, errW_some] <;> rfl), by repeat (first | (with_reducible first | exact HB.out | apply below_alloc | apply pw_below_drewN | apply below_drew1 | refine below_set ?_ GE123.out | refine below_set ?_ GE124.out) | exact HB.out)⟩
        · replace c16 := Bool.eq_false_iff.mpr c16
          subst c16
          have H1 : (if t125 = 3 then ((strings_Compare.f a0_2 a1_2).bind fun t129 => (some t129)) else (some 0)) = some r := by rw [if_neg (show ¬ (false = true) by decide)] at H; exact H
          clear H
          have H := H1
          clear H1
          by_cases c21 : t125 = 3
          · rw [if_pos c21] at H
            have c21b0 : (t125 == 3) = true := beq_iff_eq.mpr c21
            have c21b1 : (t125 != 3) = false := bne_eq_false_iff_eq.mpr c21
            clear c21
            replace H := Option.bind_eq_some_iff.mp H
            obtain ⟨t129, A220, H⟩ := H
            replace H : (some t129) = some r := H
            have A22 := Aside0.mk A220
            clear A220
            obtain rfl := Option.some.inj H
            have hnb23 := NB123_124.out
            have hnc23 := NB124_123.out
            have hcz24_0 : wc.cell? ⟨gb123, 0, none⟩ = some (.int .u8 a0_0) := (blk_cell BK123.out 0).trans rfl
            have hcz24_1 : wc.cell? ⟨gb123, 1, none⟩ = some (.int .i64 a0_1) := (blk_cell BK123.out 1).trans rfl
            have hcz24_2 : wc.cell? ⟨gb123, 2, none⟩ = some (.string a0_2) := (blk_cell BK123.out 2).trans rfl
            have hfz24_0 := blk_frozen BK123.out 0
            have hfz24_1 := blk_frozen BK123.out 1
            have hfz24_2 := blk_frozen BK123.out 2
            have hcz25_0 : wc.cell? ⟨gb124, 0, none⟩ = some (.int .u8 a1_0) := (blk_cell BK124.out 0).trans rfl
            have hcz25_1 : wc.cell? ⟨gb124, 1, none⟩ = some (.int .i64 a1_1) := (blk_cell BK124.out 1).trans rfl
            have hcz25_2 : wc.cell? ⟨gb124, 2, none⟩ = some (.string a1_2) := (blk_cell BK124.out 2).trans rfl
            have hfz25_0 := blk_frozen BK124.out 0
            have hfz25_1 := blk_frozen BK124.out 1
            have hfz25_2 := blk_frozen BK124.out 2
            go_wp2_with (first | ((with_reducible refine gate_callee (f := 52) rfl ?_); refine goesL_ (some 31) rfl rfl Try.func52 (by kernel_rfl) rfl #[.string a0_2, .string a1_2] rfl (by (try simp only [List.map_toArray, List.map_cons, List.map_nil]); first | done | rfl | (simp only [List.length_drop, List.length_take]; rfl)) ?_; (with_reducible refine (strings_Compare.calls a0_2 a1_2 t129 _ A22.out).mono ?_); rintro e w' ⟨rfl, ⟨nd, rfl⟩⟩; refine ⟨_, rfl, ?_⟩))
            go_ret
            exact ⟨by first | rfl | (simp [errW_none, errW_some] <;> rfl) | (simp [*, errW_none, errW_some] <;> rfl), by repeat (first | (with_reducible first | exact HB.out | apply below_alloc | apply pw_below_drewN | apply below_drew1 | refine below_set ?_ GE123.out | refine below_set ?_ GE124.out) | exact HB.out)⟩
          · rw [if_neg c21] at H
            have c21b0 : (t125 == 3) = false := beq_eq_false_iff_ne.mpr c21
            have c21b1 : (t125 != 3) = true := bne_iff_ne.mpr c21
            obtain rfl := Option.some.inj H
            go_wp2
            go_ret
            exact ⟨by first | rfl | (simp [errW_none, errW_some] <;> rfl) | (simp [*, errW_none, errW_some] <;> rfl), by repeat (first | (with_reducible first | exact HB.out | apply below_alloc | apply pw_below_drewN | apply below_drew1 | refine below_set ?_ GE123.out | refine below_set ?_ GE124.out) | exact HB.out)⟩
  · rw [if_neg c6] at H
    have c6b0 : (t127 == 0) = false := beq_eq_false_iff_ne.mpr c6
    have c6b1 : (t127 != 0) = true := bne_iff_ne.mpr c6
    obtain rfl := Option.some.inj H
    go_enter Try.func38, Try.ntmps38
    go_wp2_with (first | ((with_reducible refine gate_dst (N := 2) rfl ?_); refine box_event ?hg (N := 2) ?hd (cs := #[.int .u8 a0_0, .int .i64 a0_1, .string a0_2]) (t := 36) ?hr ?_; (case hd => rfl); (case hg => rfl); (case hr => first | (go_simp; done) | (go_simp; rfl)); intro gb123 hg w26 hbox hb; have n0_ := Aside0.mk (below_step (by repeat (first | (with_reducible first | exact HB.out | apply below_alloc | apply pw_below_drewN | apply below_drew1) | exact HB.out)) hb); have n1_ := Aside0.mk (hbox); have n2_ := Aside0.mk ((by rw [hg]; exact (below_size (by repeat (first | (with_reducible first | exact HB.out | apply below_alloc | apply pw_below_drewN | apply below_drew1) | exact HB.out))) : w.heap.size ≤ gb123)); have n3_ := Aside0.mk ((by rw [hg]; exact (below_size (by repeat (first | (with_reducible first | exact HB.out | apply below_alloc | apply pw_below_drewN | apply below_drew1) | exact HB.out))) : w.heap.size ≤ gb123)); clear HB; have HB := n0_; have BK123 := n1_; have GW123 := n2_; have GE123 := n3_; clear n0_ n1_ n2_ n3_; clear hb hbox hg) | ((with_reducible refine gate_dst (N := 3) rfl ?_); refine box_event ?hg (N := 3) ?hd (cs := #[.int .u8 a1_0, .int .i64 a1_1, .string a1_2]) (t := 36) ?hr ?_; (case hd => rfl); (case hg => rfl); (case hr => first | (go_simp; done) | (go_simp; rfl)); intro gb124 hg w27 hbox hb; have n0_ := Aside0.mk (blk_below (g := gb123) (o := .cells #[.int .u8 a0_0, .int .i64 a0_1, .string a0_2] 36 (0, 0)) (by (with_reducible repeat (first | refine blk_drewN ?_ _ | refine blk_drew ?_ | refine blk_alloc ?_ _)); exact BK123.out) hb); have n1_ := Aside0.mk (below_step (by repeat (first | (with_reducible first | exact HB.out | apply below_alloc | apply pw_below_drewN | apply below_drew1 | refine below_set ?_ GE123.out) | exact HB.out)) hb); have n2_ := Aside0.mk (hbox); have n3_ := Aside0.mk ((by rw [hg]; exact (below_size (by repeat (first | (with_reducible first | exact HB.out | apply below_alloc | apply pw_below_drewN | apply below_drew1 | refine below_set ?_ GE123.out) | exact HB.out))) : w.heap.size ≤ gb124)); have n4_ := Aside0.mk ((by rw [hg]; exact (below_size (by repeat (first | (with_reducible first | exact HB.out | apply below_alloc | apply pw_below_drewN | apply below_drew1 | refine below_set ?_ GE123.out) | exact HB.out))) : w.heap.size ≤ gb124)); have n5_ := Aside0.mk ((by rw [hg]; exact Nat.ne_of_lt (blk_lt (g := gb123) (o := .cells #[.int .u8 a0_0, .int .i64 a0_1, .string a0_2] 36 (0, 0)) (by (with_reducible repeat (first | refine blk_drewN ?_ _ | refine blk_drew ?_ | refine blk_alloc ?_ _)); exact BK123.out)) : gb123 ≠ gb124)); have n6_ := Aside0.mk ((by rw [hg]; exact Nat.ne_of_gt (blk_lt (g := gb123) (o := .cells #[.int .u8 a0_0, .int .i64 a0_1, .string a0_2] 36 (0, 0)) (by (with_reducible repeat (first | refine blk_drewN ?_ _ | refine blk_drew ?_ | refine blk_alloc ?_ _)); exact BK123.out)) : gb124 ≠ gb123)); clear BK123; clear HB; have BK123 := n0_; have HB := n1_; have BK124 := n2_; have GW124 := n3_; have GE124 := n4_; have NB123_124 := n5_; have NB124_123 := n6_; clear n0_ n1_ n2_ n3_ n4_ n5_ n6_; clear hb hbox hg; have hnb28 := NB123_124.out; have hnc28 := NB124_123.out; have hcz29_0 : w27.cell? ⟨gb123, 0, none⟩ = some (.int .u8 a0_0) := (blk_cell BK123.out 0).trans rfl; have hcz29_1 : w27.cell? ⟨gb123, 1, none⟩ = some (.int .i64 a0_1) := (blk_cell BK123.out 1).trans rfl; have hcz29_2 : w27.cell? ⟨gb123, 2, none⟩ = some (.string a0_2) := (blk_cell BK123.out 2).trans rfl; have hfz29_0 := blk_frozen BK123.out 0; have hfz29_1 := blk_frozen BK123.out 1; have hfz29_2 := blk_frozen BK123.out 2) | ((with_reducible refine gate_callee (f := 49) rfl ?_); refine goesL_ (some 8) rfl rfl Try.func49 (by kernel_rfl) rfl #[.agg #[.int .u8 a0_0, .int .i64 a0_1, .string a0_2]] rfl (by (try simp only [List.map_toArray, List.map_cons, List.map_nil]); first | done | rfl | (simp only [List.length_drop, List.length_take]; rfl)) ?_; (with_reducible refine (val_kind.calls a0_0 a0_1 a0_2 t125 _ A3.out).mono ?_); rintro e w30 ⟨rfl, hb⟩; refine ⟨_, rfl, ?_⟩; have n0_ := Aside0.mk (blk_below (g := gb123) (o := .cells #[.int .u8 a0_0, .int .i64 a0_1, .string a0_2] 36 (0, 0)) (by (with_reducible repeat (first | refine blk_drewN ?_ _ | refine blk_drew ?_ | refine blk_alloc ?_ _)); exact BK123.out) hb); have n1_ := Aside0.mk (blk_below (g := gb124) (o := .cells #[.int .u8 a1_0, .int .i64 a1_1, .string a1_2] 36 (0, 0)) (by (with_reducible repeat (first | refine blk_drewN ?_ _ | refine blk_drew ?_ | refine blk_alloc ?_ _)); exact BK124.out) hb); have n2_ := Aside0.mk (below_step (by repeat (first | (with_reducible first | exact HB.out | apply below_alloc | apply pw_below_drewN | apply below_drew1 | refine below_set ?_ GE123.out | refine below_set ?_ GE124.out) | exact HB.out)) hb); clear BK123; clear BK124; clear HB; have BK123 := n0_; have BK124 := n1_; have HB := n2_; clear n0_ n1_ n2_; (try clear hb); (try clear hb2); (try clear hk); (try clear hi); have hcz31_0 : w30.cell? ⟨gb124, 0, none⟩ = some (.int .u8 a1_0) := (blk_cell BK124.out 0).trans rfl; have hcz31_1 : w30.cell? ⟨gb124, 1, none⟩ = some (.int .i64 a1_1) := (blk_cell BK124.out 1).trans rfl; have hcz31_2 : w30.cell? ⟨gb124, 2, none⟩ = some (.string a1_2) := (blk_cell BK124.out 2).trans rfl; have hfz31_0 := blk_frozen BK124.out 0; have hfz31_1 := blk_frozen BK124.out 1; have hfz31_2 := blk_frozen BK124.out 2) | ((with_reducible refine gate_callee (f := 49) rfl ?_); refine goesL_ (some 11) rfl rfl Try.func49 (by kernel_rfl) rfl #[.agg #[.int .u8 a1_0, .int .i64 a1_1, .string a1_2]] rfl (by (try simp only [List.map_toArray, List.map_cons, List.map_nil]); first | done | rfl | (simp only [List.length_drop, List.length_take]; rfl)) ?_; (with_reducible refine (val_kind.calls a1_0 a1_1 a1_2 t126 _ A4.out).mono ?_); rintro e w32 ⟨rfl, hb⟩; refine ⟨_, rfl, ?_⟩; have n0_ := Aside0.mk (blk_below (g := gb123) (o := .cells #[.int .u8 a0_0, .int .i64 a0_1, .string a0_2] 36 (0, 0)) (by (with_reducible repeat (first | refine blk_drewN ?_ _ | refine blk_drew ?_ | refine blk_alloc ?_ _)); exact BK123.out) hb); have n1_ := Aside0.mk (blk_below (g := gb124) (o := .cells #[.int .u8 a1_0, .int .i64 a1_1, .string a1_2] 36 (0, 0)) (by (with_reducible repeat (first | refine blk_drewN ?_ _ | refine blk_drew ?_ | refine blk_alloc ?_ _)); exact BK124.out) hb); have n2_ := Aside0.mk (below_step (by repeat (first | (with_reducible first | exact HB.out | apply below_alloc | apply pw_below_drewN | apply below_drew1 | refine below_set ?_ GE123.out | refine below_set ?_ GE124.out) | exact HB.out)) hb); clear BK123; clear BK124; clear HB; have BK123 := n0_; have BK124 := n1_; have HB := n2_; clear n0_ n1_ n2_; (try clear hb); (try clear hb2); (try clear hk); (try clear hi)) | ((with_reducible refine gate_callee (f := 50) rfl ?_); refine goesL_ (some 12) rfl rfl Try.func50 (by kernel_rfl) rfl #[.int .u8 t125, .int .u8 t126] rfl (by (try simp only [List.map_toArray, List.map_cons, List.map_nil]); first | done | rfl | (simp only [List.length_drop, List.length_take]; rfl)) ?_; (with_reducible refine (cmp_Compare_uint8.calls t125 t126 t127 _ A5.out).mono ?_); rintro e w' ⟨rfl, ⟨nd, rfl⟩⟩; refine ⟨_, rfl, ?_⟩))
    go_ret
    exact ⟨by first | rfl | (simp [errW_none, errW_some] <;> rfl) | (simp [*, errW_none, errW_some] <;> rfl), by repeat (first | (with_reducible first | exact HB.out | apply below_alloc | apply pw_below_drewN | apply below_drew1 | refine below_set ?_ GE123.out | refine below_set ?_ GE124.out) | exact HB.out)⟩

/-! ### logic_Test: function 24 -/
def logic_Test.j0 : Nat → ByteArray → Bool → Int → Int → ByteArray → Int → Int → ByteArray → Option (Int)
  | 0, _, _, _, _, _, _, _, _ => none
  | k + 1, x0, x8, x131000, x131001, x131002, x132000, x132001, x132002 => if x8 = true then (some 1) else (if x131000 = x132000 then (if x131000 > 3 then (some 2) else ((val_Compare.f k x131000 x131001 x131002 x132000 x132001 x132002).bind fun t132 => (if x0.toList = ([61] : List UInt8) then ((logic_of.f (t132 == 0)).bind fun t133 => (some t133)) else (if x0.toList = ([60, 62] : List UInt8) then ((logic_of.f (t132 != 0)).bind fun t134 => (some t134)) else (if x0.toList = ([60] : List UInt8) then ((logic_of.f (decide (t132 < 0))).bind fun t135 => (some t135)) else (if x0.toList = ([60, 61] : List UInt8) then ((logic_of.f (decide (t132 ≤ 0))).bind fun t136 => (some t136)) else (if x0.toList = ([62] : List UInt8) then ((logic_of.f (decide (t132 > 0))).bind fun t137 => (some t137)) else (if x0.toList = ([62, 61] : List UInt8) then ((logic_of.f (decide (t132 ≥ 0))).bind fun t138 => (some t138)) else (some 2))))))))) else (some 2))
def logic_Test.f (k : Nat) (a0 : ByteArray) (a1_0 : Int) (a1_1 : Int) (a1_2 : ByteArray) (a2_0 : Int) (a2_1 : Int) (a2_2 : ByteArray) : Option (Int) := if a1_0 = 0 then (logic_Test.j0 k a0 true a1_0 a1_1 a1_2 a2_0 a2_1 a2_2) else (logic_Test.j0 k a0 (a2_0 == 0) a1_0 a1_1 a1_2 a2_0 a2_1 a2_2)
theorem logic_Test.mono_l : ∀ k, (∀ y0 y1 y2 y3 y4 y5 y6 y7, LeO (logic_Test.j0 k y0 y1 y2 y3 y4 y5 y6 y7) (logic_Test.j0 (k + 1) y0 y1 y2 y3 y4 y5 y6 y7))
  | 0 => fun _ _ _ _ _ _ _ _ r h => by simp [logic_Test.j0] at h
  | k + 1 => by
    have ih0 := logic_Test.mono_l k
    · intro y0 y1 y2 y3 y4 y5 y6 y7
      unfold logic_Test.j0
      repeat' first
      | (with_reducible exact ih0 _ _ _ _ _ _ _ _)
      | (with_reducible exact val_Compare.mono _ _ _ _ _ _ _)
      | (with_reducible exact LeO.refl _)
      | (with_reducible exact LeO.none _)
      | (with_reducible refine LeO.ite ?_ ?_)
      | (with_reducible refine LeO.bind ?_ (fun _ => ?_))
      | exact ih0 _ _ _ _ _ _ _ _
      | exact val_Compare.mono _ _ _ _ _ _ _
      | exact LeO.none _
      | refine LeO.ite ?_ ?_
      | refine LeO.bind ?_ (fun _ => ?_)
theorem logic_Test.mono : ∀ a0 a1 a2 a3 a4 a5 a6 k, LeO (logic_Test.f k a0 a1 a2 a3 a4 a5 a6) (logic_Test.f (k + 1) a0 a1 a2 a3 a4 a5 a6) := by
  intro a0 a1 a2 a3 a4 a5 a6 k
  have ih0 := logic_Test.mono_l k
  unfold logic_Test.f
  repeat' first
      | (with_reducible exact ih0 _ _ _ _ _ _ _ _)
      | (with_reducible exact val_Compare.mono _ _ _ _ _ _ _)
      | (with_reducible exact LeO.refl _)
      | (with_reducible exact LeO.none _)
      | (with_reducible refine LeO.ite ?_ ?_)
      | (with_reducible refine LeO.bind ?_ (fun _ => ?_))
      | exact ih0 _ _ _ _ _ _ _ _
      | exact val_Compare.mono _ _ _ _ _ _ _
      | exact LeO.none _
      | refine LeO.ite ?_ ?_
      | refine LeO.bind ?_ (fun _ => ?_)
set_option maxHeartbeats 8000000 in
set_option maxRecDepth 100000 in
theorem logic_Test.calls (k : Nat) (a0 : ByteArray) (a1_0 : Int) (a1_1 : Int) (a1_2 : ByteArray) (a2_0 : Int) (a2_1 : Int) (a2_2 : ByteArray) (r : Int) (w : World) (h : logic_Test.f k a0 a1_0 a1_1 a1_2 a2_0 a2_1 a2_2 = some r) :
    Calls Try.prog 24 #[.string a0, .agg #[.int .u8 a1_0, .int .i64 a1_1, .string a1_2], .agg #[.int .u8 a2_0, .int .i64 a2_1, .string a2_2]] w fun e w' => e = .returned (.int .u8 r) ∧ Below w.heap.size w w' := by
  have hu36 := Try.underlying36
  have HB := Aside0.mk (Below.refl w.heap.size w)
  have H : (if a1_0 = 0 then (logic_Test.j0 k a0 true a1_0 a1_1 a1_2 a2_0 a2_1 a2_2) else (logic_Test.j0 k a0 (a2_0 == 0) a1_0 a1_1 a1_2 a2_0 a2_1 a2_2)) = some r := h
  clear h
  have HC4 := Aside0.mk H
  clear H
  go_enter Try.func24, Try.ntmps24
  go_upto_region 1 with (first | ((with_reducible refine gate_dst (N := 4) rfl ?_); refine box_event ?hg (N := 4) ?hd (cs := #[.int .u8 a1_0, .int .i64 a1_1, .string a1_2]) (t := 36) ?hr ?_; (case hd => rfl); (case hg => rfl); (case hr => first | (go_simp; done) | (go_simp; rfl)); intro gb130 hg w5 hbox hb; have n0_ := Aside0.mk (below_step (by repeat (first | (with_reducible first | exact HB.out | apply below_alloc | apply pw_below_drewN | apply below_drew1) | exact HB.out)) hb); have n1_ := Aside0.mk (hbox); have n2_ := Aside0.mk ((by rw [hg]; exact (below_size (by repeat (first | (with_reducible first | exact HB.out | apply below_alloc | apply pw_below_drewN | apply below_drew1) | exact HB.out))) : w.heap.size ≤ gb130)); have n3_ := Aside0.mk ((by rw [hg]; exact (below_size (by repeat (first | (with_reducible first | exact HB.out | apply below_alloc | apply pw_below_drewN | apply below_drew1) | exact HB.out))) : w.heap.size ≤ gb130)); clear HB; have HB := n0_; have BK130 := n1_; have GW130 := n2_; have GE130 := n3_; clear n0_ n1_ n2_ n3_; clear hb hbox hg) | ((with_reducible refine gate_dst (N := 5) rfl ?_); refine box_event ?hg (N := 5) ?hd (cs := #[.int .u8 a2_0, .int .i64 a2_1, .string a2_2]) (t := 36) ?hr ?_; (case hd => rfl); (case hg => rfl); (case hr => first | (go_simp; done) | (go_simp; rfl)); intro gb131 hg w6 hbox hb; have n0_ := Aside0.mk (blk_below (g := gb130) (o := .cells #[.int .u8 a1_0, .int .i64 a1_1, .string a1_2] 36 (0, 0)) (by (with_reducible repeat (first | refine blk_drewN ?_ _ | refine blk_drew ?_ | refine blk_alloc ?_ _)); exact BK130.out) hb); have n1_ := Aside0.mk (below_step (by repeat (first | (with_reducible first | exact HB.out | apply below_alloc | apply pw_below_drewN | apply below_drew1 | refine below_set ?_ GE130.out) | exact HB.out)) hb); have n2_ := Aside0.mk (hbox); have n3_ := Aside0.mk ((by rw [hg]; exact (below_size (by repeat (first | (with_reducible first | exact HB.out | apply below_alloc | apply pw_below_drewN | apply below_drew1 | refine below_set ?_ GE130.out) | exact HB.out))) : w.heap.size ≤ gb131)); have n4_ := Aside0.mk ((by rw [hg]; exact (below_size (by repeat (first | (with_reducible first | exact HB.out | apply below_alloc | apply pw_below_drewN | apply below_drew1 | refine below_set ?_ GE130.out) | exact HB.out))) : w.heap.size ≤ gb131)); have n5_ := Aside0.mk ((by rw [hg]; exact Nat.ne_of_lt (blk_lt (g := gb130) (o := .cells #[.int .u8 a1_0, .int .i64 a1_1, .string a1_2] 36 (0, 0)) (by (with_reducible repeat (first | refine blk_drewN ?_ _ | refine blk_drew ?_ | refine blk_alloc ?_ _)); exact BK130.out)) : gb130 ≠ gb131)); have n6_ := Aside0.mk ((by rw [hg]; exact Nat.ne_of_gt (blk_lt (g := gb130) (o := .cells #[.int .u8 a1_0, .int .i64 a1_1, .string a1_2] 36 (0, 0)) (by (with_reducible repeat (first | refine blk_drewN ?_ _ | refine blk_drew ?_ | refine blk_alloc ?_ _)); exact BK130.out)) : gb131 ≠ gb130)); clear BK130; clear HB; have BK130 := n0_; have HB := n1_; have BK131 := n2_; have GW131 := n3_; have GE131 := n4_; have NB130_131 := n5_; have NB131_130 := n6_; clear n0_ n1_ n2_ n3_ n4_ n5_ n6_; clear hb hbox hg))
  (try simp only [Act.put, List.setIfInBounds_toArray, List.set_cons_zero, List.set_cons_succ])
  go_cut [8] (fun v8 wc => ∃ (kq : Nat) (x8_3 : Bool), v8 = .bool x8_3 ∧ Aside0 (logic_Test.j0 kq a0 x8_3 a1_0 a1_1 a1_2 a2_0 a2_1 a2_2 = some r) ∧ Aside0 (kq ≤ k) ∧ Aside0 (wc.heap[gb130]? = some (.cells #[.int .u8 a1_0, .int .i64 a1_1, .string a1_2] 36 (0, 0))) ∧ Aside0 (wc.heap[gb131]? = some (.cells #[.int .u8 a2_0, .int .i64 a2_1, .string a2_2] 36 (0, 0))) ∧ Aside0 (Below w.heap.size w wc))
  case first =>
    have H := HC4.out
    clear HC4
    by_cases c7 : a1_0 = 0
    · rw [if_pos c7] at H
      have c7b0 : (a1_0 == 0) = true := beq_iff_eq.mpr c7
      have c7b1 : (a1_0 != 0) = false := bne_eq_false_iff_eq.mpr c7
      clear c7
      (first | rw [c7b0] | (simp only [i64_w, i32_w]; rw [c7b0]) | skip)
      have H' := Aside0.mk H
      clear H
      have hnb8 := NB130_131.out
      have hnc8 := NB131_130.out
      have hcz9_0 : w6.cell? ⟨gb130, 0, none⟩ = some (.int .u8 a1_0) := (blk_cell BK130.out 0).trans rfl
      have hcz9_1 : w6.cell? ⟨gb130, 1, none⟩ = some (.int .i64 a1_1) := (blk_cell BK130.out 1).trans rfl
      have hcz9_2 : w6.cell? ⟨gb130, 2, none⟩ = some (.string a1_2) := (blk_cell BK130.out 2).trans rfl
      have hfz9_0 := blk_frozen BK130.out 0
      have hfz9_1 := blk_frozen BK130.out 1
      have hfz9_2 := blk_frozen BK130.out 2
      go_wp2
      go_meet
      case rel => exact ⟨_, (true), (by first | rfl | (simp; done) | (simp [*]; done)), H', ⟨by first | omega | exact Nat.le_refl _⟩, ⟨by (with_reducible repeat (first | refine blk_drewN ?_ _ | refine blk_drew ?_ | refine blk_alloc ?_ _)); exact BK130.out⟩, ⟨by (with_reducible repeat (first | refine blk_drewN ?_ _ | refine blk_drew ?_ | refine blk_alloc ?_ _)); exact BK131.out⟩, ⟨by repeat (first | (with_reducible first | exact HB.out | apply below_alloc | apply pw_below_drewN | apply below_drew1 | refine below_set ?_ GE130.out | refine below_set ?_ GE131.out) | exact HB.out)⟩⟩
    · rw [if_neg c7] at H
      have c7b0 : (a1_0 == 0) = false := beq_eq_false_iff_ne.mpr c7
      have c7b1 : (a1_0 != 0) = true := bne_iff_ne.mpr c7
      (first | rw [c7b0] | (simp only [i64_w, i32_w]; rw [c7b0]) | skip)
      have H' := Aside0.mk H
      clear H
      have hnb10 := NB130_131.out
      have hnc10 := NB131_130.out
      have hcz11_0 : w6.cell? ⟨gb130, 0, none⟩ = some (.int .u8 a1_0) := (blk_cell BK130.out 0).trans rfl
      have hcz11_1 : w6.cell? ⟨gb130, 1, none⟩ = some (.int .i64 a1_1) := (blk_cell BK130.out 1).trans rfl
      have hcz11_2 : w6.cell? ⟨gb130, 2, none⟩ = some (.string a1_2) := (blk_cell BK130.out 2).trans rfl
      have hfz11_0 := blk_frozen BK130.out 0
      have hfz11_1 := blk_frozen BK130.out 1
      have hfz11_2 := blk_frozen BK130.out 2
      have hcz12_0 : w6.cell? ⟨gb131, 0, none⟩ = some (.int .u8 a2_0) := (blk_cell BK131.out 0).trans rfl
      have hcz12_1 : w6.cell? ⟨gb131, 1, none⟩ = some (.int .i64 a2_1) := (blk_cell BK131.out 1).trans rfl
      have hcz12_2 : w6.cell? ⟨gb131, 2, none⟩ = some (.string a2_2) := (blk_cell BK131.out 2).trans rfl
      have hfz12_0 := blk_frozen BK131.out 0
      have hfz12_1 := blk_frozen BK131.out 1
      have hfz12_2 := blk_frozen BK131.out 2
      go_wp2
      go_meet
      case rel => exact ⟨_, ((a2_0 == 0)), (by first | rfl | (simp; done) | (simp [*]; done)), H', ⟨by first | omega | exact Nat.le_refl _⟩, ⟨by (with_reducible repeat (first | refine blk_drewN ?_ _ | refine blk_drew ?_ | refine blk_alloc ?_ _)); exact BK130.out⟩, ⟨by (with_reducible repeat (first | refine blk_drewN ?_ _ | refine blk_drew ?_ | refine blk_alloc ?_ _)); exact BK131.out⟩, ⟨by repeat (first | (with_reducible first | exact HB.out | apply below_alloc | apply pw_below_drewN | apply below_drew1 | refine below_set ?_ GE130.out | refine below_set ?_ GE131.out) | exact HB.out)⟩⟩
  case rest =>
    clear HC4
    try clear c1
    try clear c2
    try clear p2
    try clear c7
    try clear c7b0
    try clear c7b1
    try clear c8
    try clear c10
    try clear hcz11_0
    try clear hcz11_1
    try clear hcz11_2
    try clear hcz12_0
    try clear hcz12_1
    try clear hcz12_2
    try clear hcz9_0
    try clear hcz9_1
    try clear hcz9_2
    try clear hfz11_0
    try clear hfz11_1
    try clear hfz11_2
    try clear hfz12_0
    try clear hfz12_1
    try clear hfz12_2
    try clear hfz9_0
    try clear hfz9_1
    try clear hfz9_2
    obtain ⟨kq, x8_3, rfl, HA, HJ3, BK130, BK131, HB⟩ := hcut
    cases kq with
    | zero => exact absurd HA.out (by simp [logic_Test.j0])
    | succ kj3 =>
      have H := HA.out
      clear HA
      simp only [logic_Test.j0] at H
      by_cases c13 : x8_3 = true
      · subst c13
        have H1 : (some 1) = some r := by rw [if_pos rfl] at H; exact H
        clear H
        have H := H1
        clear H1
        obtain rfl := Option.some.inj H
        go_wp2
        go_ret
        exact ⟨by first | rfl | (simp [errW_none, errW_some] <;> rfl) | (simp [*, errW_none, errW_some] <;> rfl), by repeat (first | (with_reducible first | exact HB.out | apply below_alloc | apply pw_below_drewN | apply below_drew1 | refine below_set ?_ GE130.out | refine below_set ?_ GE131.out) | exact HB.out)⟩
      · replace c13 := Bool.eq_false_iff.mpr c13
        subst c13
        have H1 : (if a1_0 = a2_0 then (if a1_0 > 3 then (some 2) else ((val_Compare.f kj3 a1_0 a1_1 a1_2 a2_0 a2_1 a2_2).bind fun t132 => (if a0.toList = ([61] : List UInt8) then ((logic_of.f (t132 == 0)).bind fun t133 => (some t133)) else (if a0.toList = ([60, 62] : List UInt8) then ((logic_of.f (t132 != 0)).bind fun t134 => (some t134)) else (if a0.toList = ([60] : List UInt8) then ((logic_of.f (decide (t132 < 0))).bind fun t135 => (some t135)) else (if a0.toList = ([60, 61] : List UInt8) then ((logic_of.f (decide (t132 ≤ 0))).bind fun t136 => (some t136)) else (if a0.toList = ([62] : List UInt8) then ((logic_of.f (decide (t132 > 0))).bind fun t137 => (some t137)) else (if a0.toList = ([62, 61] : List UInt8) then ((logic_of.f (decide (t132 ≥ 0))).bind fun t138 => (some t138)) else (some 2))))))))) else (some 2)) = some r := by rw [if_neg (show ¬ (false = true) by decide)] at H; exact H
        clear H
        have H := H1
        clear H1
        by_cases c14 : a1_0 = a2_0
        · rw [if_pos c14] at H
          have c14b0 : (a1_0 == a2_0) = true := beq_iff_eq.mpr c14
          have c14b1 : (a1_0 != a2_0) = false := bne_eq_false_iff_eq.mpr c14
          clear c14
          by_cases c15 : a1_0 > 3
          · rw [if_pos c15] at H
            have c15b0 : decide (3 < a1_0) = true := decide_eq_true c15
            clear c15
            obtain rfl := Option.some.inj H
            have hnb16 := NB130_131.out
            have hnc16 := NB131_130.out
            have hcz17_0 : wc.cell? ⟨gb130, 0, none⟩ = some (.int .u8 a1_0) := (blk_cell BK130.out 0).trans rfl
            have hcz17_1 : wc.cell? ⟨gb130, 1, none⟩ = some (.int .i64 a1_1) := (blk_cell BK130.out 1).trans rfl
            have hcz17_2 : wc.cell? ⟨gb130, 2, none⟩ = some (.string a1_2) := (blk_cell BK130.out 2).trans rfl
            have hfz17_0 := blk_frozen BK130.out 0
            have hfz17_1 := blk_frozen BK130.out 1
            have hfz17_2 := blk_frozen BK130.out 2
            have hcz18_0 : wc.cell? ⟨gb131, 0, none⟩ = some (.int .u8 a2_0) := (blk_cell BK131.out 0).trans rfl
            have hcz18_1 : wc.cell? ⟨gb131, 1, none⟩ = some (.int .i64 a2_1) := (blk_cell BK131.out 1).trans rfl
            have hcz18_2 : wc.cell? ⟨gb131, 2, none⟩ = some (.string a2_2) := (blk_cell BK131.out 2).trans rfl
            have hfz18_0 := blk_frozen BK131.out 0
            have hfz18_1 := blk_frozen BK131.out 1
            have hfz18_2 := blk_frozen BK131.out 2
            go_wp2
            go_ret
            exact ⟨by first | rfl | (simp [errW_none, errW_some] <;> rfl) | (simp [*, errW_none, errW_some] <;> rfl), by repeat (first | (with_reducible first | exact HB.out | apply below_alloc | apply pw_below_drewN | apply below_drew1 | refine below_set ?_ GE130.out | refine below_set ?_ GE131.out) | exact HB.out)⟩
          · rw [if_neg c15] at H
            have c15b0 : decide (3 < a1_0) = false := decide_eq_false c15
            clear c15
            replace H := Option.bind_eq_some_iff.mp H
            obtain ⟨t132, A190, H⟩ := H
            replace H : (if a0.toList = ([61] : List UInt8) then ((logic_of.f (t132 == 0)).bind fun t133 => (some t133)) else (if a0.toList = ([60, 62] : List UInt8) then ((logic_of.f (t132 != 0)).bind fun t134 => (some t134)) else (if a0.toList = ([60] : List UInt8) then ((logic_of.f (decide (t132 < 0))).bind fun t135 => (some t135)) else (if a0.toList = ([60, 61] : List UInt8) then ((logic_of.f (decide (t132 ≤ 0))).bind fun t136 => (some t136)) else (if a0.toList = ([62] : List UInt8) then ((logic_of.f (decide (t132 > 0))).bind fun t137 => (some t137)) else (if a0.toList = ([62, 61] : List UInt8) then ((logic_of.f (decide (t132 ≥ 0))).bind fun t138 => (some t138)) else (some 2))))))) = some r := H
            have A19 := Aside0.mk A190
            clear A190
            by_cases c20 : a0.toList = ([61] : List UInt8)
            · rw [if_pos c20] at H
              have c20b0 : (a0.toList == ([61] : List UInt8)) = true := beq_iff_eq.mpr c20
              have c20b1 : (a0.toList != ([61] : List UInt8)) = false := bne_eq_false_iff_eq.mpr c20
              clear c20
              replace H := Option.bind_eq_some_iff.mp H
              obtain ⟨t133, A210, H⟩ := H
              replace H : (some t133) = some r := H
              have A21 := Aside0.mk A210
              clear A210
              obtain rfl := Option.some.inj H
              have hnb22 := NB130_131.out
              have hnc22 := NB131_130.out
              have hcz23_0 : wc.cell? ⟨gb130, 0, none⟩ = some (.int .u8 a1_0) := (blk_cell BK130.out 0).trans rfl
              have hcz23_1 : wc.cell? ⟨gb130, 1, none⟩ = some (.int .i64 a1_1) := (blk_cell BK130.out 1).trans rfl
              have hcz23_2 : wc.cell? ⟨gb130, 2, none⟩ = some (.string a1_2) := (blk_cell BK130.out 2).trans rfl
              have hfz23_0 := blk_frozen BK130.out 0
              have hfz23_1 := blk_frozen BK130.out 1
              have hfz23_2 := blk_frozen BK130.out 2
              have hcz24_0 : wc.cell? ⟨gb131, 0, none⟩ = some (.int .u8 a2_0) := (blk_cell BK131.out 0).trans rfl
              have hcz24_1 : wc.cell? ⟨gb131, 1, none⟩ = some (.int .i64 a2_1) := (blk_cell BK131.out 1).trans rfl
              have hcz24_2 : wc.cell? ⟨gb131, 2, none⟩ = some (.string a2_2) := (blk_cell BK131.out 2).trans rfl
              have hfz24_0 := blk_frozen BK131.out 0
              have hfz24_1 := blk_frozen BK131.out 1
              have hfz24_2 := blk_frozen BK131.out 2
              go_wp2_with (first | ((with_reducible refine gate_callee (f := 38) rfl ?_); refine goesL_ (some 30) rfl rfl Try.func38 (by kernel_rfl) rfl #[.agg #[.int .u8 a1_0, .int .i64 a1_1, .string a1_2], .agg #[.int .u8 a2_0, .int .i64 a2_1, .string a2_2]] rfl (by (try simp only [List.map_toArray, List.map_cons, List.map_nil]); first | done | rfl | (simp only [List.length_drop, List.length_take]; rfl)) ?_; (with_reducible refine (val_Compare.calls kj3 a1_0 a1_1 a1_2 a2_0 a2_1 a2_2 t132 _ A19.out).mono ?_); rintro e w25 ⟨rfl, hb⟩; refine ⟨_, rfl, ?_⟩; have n0_ := Aside0.mk (blk_below (g := gb130) (o := .cells #[.int .u8 a1_0, .int .i64 a1_1, .string a1_2] 36 (0, 0)) (by (with_reducible repeat (first | refine blk_drewN ?_ _ | refine blk_drew ?_ | refine blk_alloc ?_ _)); exact BK130.out) hb); have n1_ := Aside0.mk (blk_below (g := gb131) (o := .cells #[.int .u8 a2_0, .int .i64 a2_1, .string a2_2] 36 (0, 0)) (by (with_reducible repeat (first | refine blk_drewN ?_ _ | refine blk_drew ?_ | refine blk_alloc ?_ _)); exact BK131.out) hb); have n2_ := Aside0.mk (below_step (by repeat (first | (with_reducible first | exact HB.out | apply below_alloc | apply pw_below_drewN | apply below_drew1 | refine below_set ?_ GE130.out | refine below_set ?_ GE131.out) | exact HB.out)) hb); clear BK130; clear BK131; clear HB; have BK130 := n0_; have BK131 := n1_; have HB := n2_; clear n0_ n1_ n2_; (try clear hb); (try clear hb2); (try clear hk); (try clear hi)) | ((with_reducible refine gate_callee (f := 37) rfl ?_); refine goesL_ (some 36) rfl rfl Try.func37 (by kernel_rfl) rfl #[.bool (t132 == 0)] rfl (by (try simp only [List.map_toArray, List.map_cons, List.map_nil]); first | done | rfl | (simp only [List.length_drop, List.length_take]; rfl)) ?_; (with_reducible refine (logic_of.calls (t132 == 0) t133 _ A21.out).mono ?_); rintro e w' ⟨rfl, ⟨nd, rfl⟩⟩; refine ⟨_, rfl, ?_⟩))
              go_ret
              exact ⟨by first | rfl | (simp [errW_none, errW_some] <;> rfl) | (simp [*, errW_none, errW_some] <;> rfl), by repeat (first | (with_reducible first | exact HB.out | apply below_alloc | apply pw_below_drewN | apply below_drew1 | refine below_set ?_ GE130.out | refine below_set ?_ GE131.out) | exact HB.out)⟩
            · rw [if_neg c20] at H
              have c20b0 : (a0.toList == ([61] : List UInt8)) = false := beq_eq_false_iff_ne.mpr c20
              have c20b1 : (a0.toList != ([61] : List UInt8)) = true := bne_iff_ne.mpr c20
              by_cases c26 : a0.toList = ([60, 62] : List UInt8)
              · rw [if_pos c26] at H
                have c26b0 : (a0.toList == ([60, 62] : List UInt8)) = true := beq_iff_eq.mpr c26
                have c26b1 : (a0.toList != ([60, 62] : List UInt8)) = false := bne_eq_false_iff_eq.mpr c26
                clear c26
                replace H := Option.bind_eq_some_iff.mp H
                obtain ⟨t134, A270, H⟩ := H
                replace H : (some t134) = some r := H
                have A27 := Aside0.mk A270
                clear A270
                obtain rfl := Option.some.inj H
                have hnb28 := NB130_131.out
                have hnc28 := NB131_130.out
                have hcz29_0 : wc.cell? ⟨gb130, 0, none⟩ = some (.int .u8 a1_0) := (blk_cell BK130.out 0).trans rfl
                have hcz29_1 : wc.cell? ⟨gb130, 1, none⟩ = some (.int .i64 a1_1) := (blk_cell BK130.out 1).trans rfl
                have hcz29_2 : wc.cell? ⟨gb130, 2, none⟩ = some (.string a1_2) := (blk_cell BK130.out 2).trans rfl
                have hfz29_0 := blk_frozen BK130.out 0
                have hfz29_1 := blk_frozen BK130.out 1
                have hfz29_2 := blk_frozen BK130.out 2
                have hcz30_0 : wc.cell? ⟨gb131, 0, none⟩ = some (.int .u8 a2_0) := (blk_cell BK131.out 0).trans rfl
                have hcz30_1 : wc.cell? ⟨gb131, 1, none⟩ = some (.int .i64 a2_1) := (blk_cell BK131.out 1).trans rfl
                have hcz30_2 : wc.cell? ⟨gb131, 2, none⟩ = some (.string a2_2) := (blk_cell BK131.out 2).trans rfl
                have hfz30_0 := blk_frozen BK131.out 0
                have hfz30_1 := blk_frozen BK131.out 1
                have hfz30_2 := blk_frozen BK131.out 2
                go_wp2_with (first | ((with_reducible refine gate_callee (f := 38) rfl ?_); refine goesL_ (some 30) rfl rfl Try.func38 (by kernel_rfl) rfl #[.agg #[.int .u8 a1_0, .int .i64 a1_1, .string a1_2], .agg #[.int .u8 a2_0, .int .i64 a2_1, .string a2_2]] rfl (by (try simp only [List.map_toArray, List.map_cons, List.map_nil]); first | done | rfl | (simp only [List.length_drop, List.length_take]; rfl)) ?_; (with_reducible refine (val_Compare.calls kj3 a1_0 a1_1 a1_2 a2_0 a2_1 a2_2 t132 _ A19.out).mono ?_); rintro e w31 ⟨rfl, hb⟩; refine ⟨_, rfl, ?_⟩; have n0_ := Aside0.mk (blk_below (g := gb130) (o := .cells #[.int .u8 a1_0, .int .i64 a1_1, .string a1_2] 36 (0, 0)) (by (with_reducible repeat (first | refine blk_drewN ?_ _ | refine blk_drew ?_ | refine blk_alloc ?_ _)); exact BK130.out) hb); have n1_ := Aside0.mk (blk_below (g := gb131) (o := .cells #[.int .u8 a2_0, .int .i64 a2_1, .string a2_2] 36 (0, 0)) (by (with_reducible repeat (first | refine blk_drewN ?_ _ | refine blk_drew ?_ | refine blk_alloc ?_ _)); exact BK131.out) hb); have n2_ := Aside0.mk (below_step (by repeat (first | (with_reducible first | exact HB.out | apply below_alloc | apply pw_below_drewN | apply below_drew1 | refine below_set ?_ GE130.out | refine below_set ?_ GE131.out) | exact HB.out)) hb); clear BK130; clear BK131; clear HB; have BK130 := n0_; have BK131 := n1_; have HB := n2_; clear n0_ n1_ n2_; (try clear hb); (try clear hb2); (try clear hk); (try clear hi)) | ((with_reducible refine gate_callee (f := 37) rfl ?_); refine goesL_ (some 41) rfl rfl Try.func37 (by kernel_rfl) rfl #[.bool (t132 != 0)] rfl (by (try simp only [List.map_toArray, List.map_cons, List.map_nil]); first | done | rfl | (simp only [List.length_drop, List.length_take]; rfl)) ?_; (with_reducible refine (logic_of.calls (t132 != 0) t134 _ A27.out).mono ?_); rintro e w' ⟨rfl, ⟨nd, rfl⟩⟩; refine ⟨_, rfl, ?_⟩))
                go_ret
                exact ⟨by first | rfl | (simp [errW_none, errW_some] <;> rfl) | (simp [*, errW_none, errW_some] <;> rfl), by repeat (first | (with_reducible first | exact HB.out | apply below_alloc | apply pw_below_drewN | apply below_drew1 | refine below_set ?_ GE130.out | refine below_set ?_ GE131.out) | exact HB.out)⟩
              · rw [if_neg c26] at H
                have c26b0 : (a0.toList == ([60, 62] : List UInt8)) = false := beq_eq_false_iff_ne.mpr c26
                have c26b1 : (a0.toList != ([60, 62] : List UInt8)) = true := bne_iff_ne.mpr c26
                by_cases c32 : a0.toList = ([60] : List UInt8)
                · rw [if_pos c32] at H
                  have c32b0 : (a0.toList == ([60] : List UInt8)) = true := beq_iff_eq.mpr c32
                  have c32b1 : (a0.toList != ([60] : List UInt8)) = false := bne_eq_false_iff_eq.mpr c32
                  clear c32
                  replace H := Option.bind_eq_some_iff.mp H
                  obtain ⟨t135, A330, H⟩ := H
                  replace H : (some t135) = some r := H
                  have A33 := Aside0.mk A330
                  clear A330
                  obtain rfl := Option.some.inj H
                  have hnb34 := NB130_131.out
                  have hnc34 := NB131_130.out
                  have hcz35_0 : wc.cell? ⟨gb130, 0, none⟩ = some (.int .u8 a1_0) := (blk_cell BK130.out 0).trans rfl
                  have hcz35_1 : wc.cell? ⟨gb130, 1, none⟩ = some (.int .i64 a1_1) := (blk_cell BK130.out 1).trans rfl
                  have hcz35_2 : wc.cell? ⟨gb130, 2, none⟩ = some (.string a1_2) := (blk_cell BK130.out 2).trans rfl
                  have hfz35_0 := blk_frozen BK130.out 0
                  have hfz35_1 := blk_frozen BK130.out 1
                  have hfz35_2 := blk_frozen BK130.out 2
                  have hcz36_0 : wc.cell? ⟨gb131, 0, none⟩ = some (.int .u8 a2_0) := (blk_cell BK131.out 0).trans rfl
                  have hcz36_1 : wc.cell? ⟨gb131, 1, none⟩ = some (.int .i64 a2_1) := (blk_cell BK131.out 1).trans rfl
                  have hcz36_2 : wc.cell? ⟨gb131, 2, none⟩ = some (.string a2_2) := (blk_cell BK131.out 2).trans rfl
                  have hfz36_0 := blk_frozen BK131.out 0
                  have hfz36_1 := blk_frozen BK131.out 1
                  have hfz36_2 := blk_frozen BK131.out 2
                  go_wp2_with (first | ((with_reducible refine gate_callee (f := 38) rfl ?_); refine goesL_ (some 30) rfl rfl Try.func38 (by kernel_rfl) rfl #[.agg #[.int .u8 a1_0, .int .i64 a1_1, .string a1_2], .agg #[.int .u8 a2_0, .int .i64 a2_1, .string a2_2]] rfl (by (try simp only [List.map_toArray, List.map_cons, List.map_nil]); first | done | rfl | (simp only [List.length_drop, List.length_take]; rfl)) ?_; (with_reducible refine (val_Compare.calls kj3 a1_0 a1_1 a1_2 a2_0 a2_1 a2_2 t132 _ A19.out).mono ?_); rintro e w37 ⟨rfl, hb⟩; refine ⟨_, rfl, ?_⟩; have n0_ := Aside0.mk (blk_below (g := gb130) (o := .cells #[.int .u8 a1_0, .int .i64 a1_1, .string a1_2] 36 (0, 0)) (by (with_reducible repeat (first | refine blk_drewN ?_ _ | refine blk_drew ?_ | refine blk_alloc ?_ _)); exact BK130.out) hb); have n1_ := Aside0.mk (blk_below (g := gb131) (o := .cells #[.int .u8 a2_0, .int .i64 a2_1, .string a2_2] 36 (0, 0)) (by (with_reducible repeat (first | refine blk_drewN ?_ _ | refine blk_drew ?_ | refine blk_alloc ?_ _)); exact BK131.out) hb); have n2_ := Aside0.mk (below_step (by repeat (first | (with_reducible first | exact HB.out | apply below_alloc | apply pw_below_drewN | apply below_drew1 | refine below_set ?_ GE130.out | refine below_set ?_ GE131.out) | exact HB.out)) hb); clear BK130; clear BK131; clear HB; have BK130 := n0_; have BK131 := n1_; have HB := n2_; clear n0_ n1_ n2_; (try clear hb); (try clear hb2); (try clear hk); (try clear hi)) | ((with_reducible refine gate_callee (f := 37) rfl ?_); refine goesL_ (some 46) rfl rfl Try.func37 (by kernel_rfl) rfl #[.bool (decide (t132 < 0))] rfl (by (try simp only [List.map_toArray, List.map_cons, List.map_nil]); first | done | rfl | (simp only [List.length_drop, List.length_take]; rfl)) ?_; (with_reducible refine (logic_of.calls (decide (t132 < 0)) t135 _ A33.out).mono ?_); rintro e w' ⟨rfl, ⟨nd, rfl⟩⟩; refine ⟨_, rfl, ?_⟩))
                  go_ret
                  exact ⟨by first | rfl | (simp [errW_none, errW_some] <;> rfl) | (simp [*, errW_none, errW_some] <;> rfl), by repeat (first | (with_reducible first | exact HB.out | apply below_alloc | apply pw_below_drewN | apply below_drew1 | refine below_set ?_ GE130.out | refine below_set ?_ GE131.out) | exact HB.out)⟩
                · rw [if_neg c32] at H
                  have c32b0 : (a0.toList == ([60] : List UInt8)) = false := beq_eq_false_iff_ne.mpr c32
                  have c32b1 : (a0.toList != ([60] : List UInt8)) = true := bne_iff_ne.mpr c32
                  by_cases c38 : a0.toList = ([60, 61] : List UInt8)
                  · rw [if_pos c38] at H
                    have c38b0 : (a0.toList == ([60, 61] : List UInt8)) = true := beq_iff_eq.mpr c38
                    have c38b1 : (a0.toList != ([60, 61] : List UInt8)) = false := bne_eq_false_iff_eq.mpr c38
                    clear c38
                    replace H := Option.bind_eq_some_iff.mp H
                    obtain ⟨t136, A390, H⟩ := H
                    replace H : (some t136) = some r := H
                    have A39 := Aside0.mk A390
                    clear A390
                    obtain rfl := Option.some.inj H
                    have hnb40 := NB130_131.out
                    have hnc40 := NB131_130.out
                    have hcz41_0 : wc.cell? ⟨gb130, 0, none⟩ = some (.int .u8 a1_0) := (blk_cell BK130.out 0).trans rfl
                    have hcz41_1 : wc.cell? ⟨gb130, 1, none⟩ = some (.int .i64 a1_1) := (blk_cell BK130.out 1).trans rfl
                    have hcz41_2 : wc.cell? ⟨gb130, 2, none⟩ = some (.string a1_2) := (blk_cell BK130.out 2).trans rfl
                    have hfz41_0 := blk_frozen BK130.out 0
                    have hfz41_1 := blk_frozen BK130.out 1
                    have hfz41_2 := blk_frozen BK130.out 2
                    have hcz42_0 : wc.cell? ⟨gb131, 0, none⟩ = some (.int .u8 a2_0) := (blk_cell BK131.out 0).trans rfl
                    have hcz42_1 : wc.cell? ⟨gb131, 1, none⟩ = some (.int .i64 a2_1) := (blk_cell BK131.out 1).trans rfl
                    have hcz42_2 : wc.cell? ⟨gb131, 2, none⟩ = some (.string a2_2) := (blk_cell BK131.out 2).trans rfl
                    have hfz42_0 := blk_frozen BK131.out 0
                    have hfz42_1 := blk_frozen BK131.out 1
                    have hfz42_2 := blk_frozen BK131.out 2
                    go_wp2_with (first | ((with_reducible refine gate_callee (f := 38) rfl ?_); refine goesL_ (some 30) rfl rfl Try.func38 (by kernel_rfl) rfl #[.agg #[.int .u8 a1_0, .int .i64 a1_1, .string a1_2], .agg #[.int .u8 a2_0, .int .i64 a2_1, .string a2_2]] rfl (by (try simp only [List.map_toArray, List.map_cons, List.map_nil]); first | done | rfl | (simp only [List.length_drop, List.length_take]; rfl)) ?_; (with_reducible refine (val_Compare.calls kj3 a1_0 a1_1 a1_2 a2_0 a2_1 a2_2 t132 _ A19.out).mono ?_); rintro e w43 ⟨rfl, hb⟩; refine ⟨_, rfl, ?_⟩; have n0_ := Aside0.mk (blk_below (g := gb130) (o := .cells #[.int .u8 a1_0, .int .i64 a1_1, .string a1_2] 36 (0, 0)) (by (with_reducible repeat (first | refine blk_drewN ?_ _ | refine blk_drew ?_ | refine blk_alloc ?_ _)); exact BK130.out) hb); have n1_ := Aside0.mk (blk_below (g := gb131) (o := .cells #[.int .u8 a2_0, .int .i64 a2_1, .string a2_2] 36 (0, 0)) (by (with_reducible repeat (first | refine blk_drewN ?_ _ | refine blk_drew ?_ | refine blk_alloc ?_ _)); exact BK131.out) hb); have n2_ := Aside0.mk (below_step (by repeat (first | (with_reducible first | exact HB.out | apply below_alloc | apply pw_below_drewN | apply below_drew1 | refine below_set ?_ GE130.out | refine below_set ?_ GE131.out) | exact HB.out)) hb); clear BK130; clear BK131; clear HB; have BK130 := n0_; have BK131 := n1_; have HB := n2_; clear n0_ n1_ n2_; (try clear hb); (try clear hb2); (try clear hk); (try clear hi)) | ((with_reducible refine gate_callee (f := 37) rfl ?_); refine goesL_ (some 51) rfl rfl Try.func37 (by kernel_rfl) rfl #[.bool (decide (t132 ≤ 0))] rfl (by (try simp only [List.map_toArray, List.map_cons, List.map_nil]); first | done | rfl | (simp only [List.length_drop, List.length_take]; rfl)) ?_; (with_reducible refine (logic_of.calls (decide (t132 ≤ 0)) t136 _ A39.out).mono ?_); rintro e w' ⟨rfl, ⟨nd, rfl⟩⟩; refine ⟨_, rfl, ?_⟩))
                    go_ret
                    exact ⟨by first | rfl | (simp [errW_none, errW_some] <;> rfl) | (simp [*, errW_none, errW_some] <;> rfl), by repeat (first | (with_reducible first | exact HB.out | apply below_alloc | apply pw_below_drewN | apply below_drew1 | refine below_set ?_ GE130.out | refine below_set ?_ GE131.out) | exact HB.out)⟩
                  · rw [if_neg c38] at H
                    have c38b0 : (a0.toList == ([60, 61] : List UInt8)) = false := beq_eq_false_iff_ne.mpr c38
                    have c38b1 : (a0.toList != ([60, 61] : List UInt8)) = true := bne_iff_ne.mpr c38
                    by_cases c44 : a0.toList = ([62] : List UInt8)
                    · rw [if_pos c44] at H
                      have c44b0 : (a0.toList == ([62] : List UInt8)) = true := beq_iff_eq.mpr c44
                      have c44b1 : (a0.toList != ([62] : List UInt8)) = false := bne_eq_false_iff_eq.mpr c44
                      clear c44
                      replace H := Option.bind_eq_some_iff.mp H
                      obtain ⟨t137, A450, H⟩ := H
                      replace H : (some t137) = some r := H
                      have A45 := Aside0.mk A450
                      clear A450
                      obtain rfl := Option.some.inj H
                      have hnb46 := NB130_131.out
                      have hnc46 := NB131_130.out
                      have hcz47_0 : wc.cell? ⟨gb130, 0, none⟩ = some (.int .u8 a1_0) := (blk_cell BK130.out 0).trans rfl
                      have hcz47_1 : wc.cell? ⟨gb130, 1, none⟩ = some (.int .i64 a1_1) := (blk_cell BK130.out 1).trans rfl
                      have hcz47_2 : wc.cell? ⟨gb130, 2, none⟩ = some (.string a1_2) := (blk_cell BK130.out 2).trans rfl
                      have hfz47_0 := blk_frozen BK130.out 0
                      have hfz47_1 := blk_frozen BK130.out 1
                      have hfz47_2 := blk_frozen BK130.out 2
                      have hcz48_0 : wc.cell? ⟨gb131, 0, none⟩ = some (.int .u8 a2_0) := (blk_cell BK131.out 0).trans rfl
                      have hcz48_1 : wc.cell? ⟨gb131, 1, none⟩ = some (.int .i64 a2_1) := (blk_cell BK131.out 1).trans rfl
                      have hcz48_2 : wc.cell? ⟨gb131, 2, none⟩ = some (.string a2_2) := (blk_cell BK131.out 2).trans rfl
                      have hfz48_0 := blk_frozen BK131.out 0
                      have hfz48_1 := blk_frozen BK131.out 1
                      have hfz48_2 := blk_frozen BK131.out 2
                      go_wp2_with (first | ((with_reducible refine gate_callee (f := 38) rfl ?_); refine goesL_ (some 30) rfl rfl Try.func38 (by kernel_rfl) rfl #[.agg #[.int .u8 a1_0, .int .i64 a1_1, .string a1_2], .agg #[.int .u8 a2_0, .int .i64 a2_1, .string a2_2]] rfl (by (try simp only [List.map_toArray, List.map_cons, List.map_nil]); first | done | rfl | (simp only [List.length_drop, List.length_take]; rfl)) ?_; (with_reducible refine (val_Compare.calls kj3 a1_0 a1_1 a1_2 a2_0 a2_1 a2_2 t132 _ A19.out).mono ?_); rintro e w49 ⟨rfl, hb⟩; refine ⟨_, rfl, ?_⟩; have n0_ := Aside0.mk (blk_below (g := gb130) (o := .cells #[.int .u8 a1_0, .int .i64 a1_1, .string a1_2] 36 (0, 0)) (by (with_reducible repeat (first | refine blk_drewN ?_ _ | refine blk_drew ?_ | refine blk_alloc ?_ _)); exact BK130.out) hb); have n1_ := Aside0.mk (blk_below (g := gb131) (o := .cells #[.int .u8 a2_0, .int .i64 a2_1, .string a2_2] 36 (0, 0)) (by (with_reducible repeat (first | refine blk_drewN ?_ _ | refine blk_drew ?_ | refine blk_alloc ?_ _)); exact BK131.out) hb); have n2_ := Aside0.mk (below_step (by repeat (first | (with_reducible first | exact HB.out | apply below_alloc | apply pw_below_drewN | apply below_drew1 | refine below_set ?_ GE130.out | refine below_set ?_ GE131.out) | exact HB.out)) hb); clear BK130; clear BK131; clear HB; have BK130 := n0_; have BK131 := n1_; have HB := n2_; clear n0_ n1_ n2_; (try clear hb); (try clear hb2); (try clear hk); (try clear hi)) | ((with_reducible refine gate_callee (f := 37) rfl ?_); refine goesL_ (some 56) rfl rfl Try.func37 (by kernel_rfl) rfl #[.bool (decide (t132 > 0))] rfl (by (try simp only [List.map_toArray, List.map_cons, List.map_nil]); first | done | rfl | (simp only [List.length_drop, List.length_take]; rfl)) ?_; (with_reducible refine (logic_of.calls (decide (t132 > 0)) t137 _ A45.out).mono ?_); rintro e w' ⟨rfl, ⟨nd, rfl⟩⟩; refine ⟨_, rfl, ?_⟩))
                      go_ret
                      exact ⟨by first | rfl | (simp [errW_none, errW_some] <;> rfl) | (simp [*, errW_none, errW_some] <;> rfl), by repeat (first | (with_reducible first | exact HB.out | apply below_alloc | apply pw_below_drewN | apply below_drew1 | refine below_set ?_ GE130.out | refine below_set ?_ GE131.out) | exact HB.out)⟩
                    · rw [if_neg c44] at H
                      have c44b0 : (a0.toList == ([62] : List UInt8)) = false := beq_eq_false_iff_ne.mpr c44
                      have c44b1 : (a0.toList != ([62] : List UInt8)) = true := bne_iff_ne.mpr c44
                      by_cases c50 : a0.toList = ([62, 61] : List UInt8)
                      · rw [if_pos c50] at H
                        have c50b0 : (a0.toList == ([62, 61] : List UInt8)) = true := beq_iff_eq.mpr c50
                        have c50b1 : (a0.toList != ([62, 61] : List UInt8)) = false := bne_eq_false_iff_eq.mpr c50
                        clear c50
                        replace H := Option.bind_eq_some_iff.mp H
                        obtain ⟨t138, A510, H⟩ := H
                        replace H : (some t138) = some r := H
                        have A51 := Aside0.mk A510
                        clear A510
                        obtain rfl := Option.some.inj H
                        have hnb52 := NB130_131.out
                        have hnc52 := NB131_130.out
                        have hcz53_0 : wc.cell? ⟨gb130, 0, none⟩ = some (.int .u8 a1_0) := (blk_cell BK130.out 0).trans rfl
                        have hcz53_1 : wc.cell? ⟨gb130, 1, none⟩ = some (.int .i64 a1_1) := (blk_cell BK130.out 1).trans rfl
                        have hcz53_2 : wc.cell? ⟨gb130, 2, none⟩ = some (.string a1_2) := (blk_cell BK130.out 2).trans rfl
                        have hfz53_0 := blk_frozen BK130.out 0
                        have hfz53_1 := blk_frozen BK130.out 1
                        have hfz53_2 := blk_frozen BK130.out 2
                        have hcz54_0 : wc.cell? ⟨gb131, 0, none⟩ = some (.int .u8 a2_0) := (blk_cell BK131.out 0).trans rfl
                        have hcz54_1 : wc.cell? ⟨gb131, 1, none⟩ = some (.int .i64 a2_1) := (blk_cell BK131.out 1).trans rfl
                        have hcz54_2 : wc.cell? ⟨gb131, 2, none⟩ = some (.string a2_2) := (blk_cell BK131.out 2).trans rfl
                        have hfz54_0 := blk_frozen BK131.out 0
                        have hfz54_1 := blk_frozen BK131.out 1
                        have hfz54_2 := blk_frozen BK131.out 2
                        go_wp2_with (first | ((with_reducible refine gate_callee (f := 38) rfl ?_); refine goesL_ (some 30) rfl rfl Try.func38 (by kernel_rfl) rfl #[.agg #[.int .u8 a1_0, .int .i64 a1_1, .string a1_2], .agg #[.int .u8 a2_0, .int .i64 a2_1, .string a2_2]] rfl (by (try simp only [List.map_toArray, List.map_cons, List.map_nil]); first | done | rfl | (simp only [List.length_drop, List.length_take]; rfl)) ?_; (with_reducible refine (val_Compare.calls kj3 a1_0 a1_1 a1_2 a2_0 a2_1 a2_2 t132 _ A19.out).mono ?_); rintro e w55 ⟨rfl, hb⟩; refine ⟨_, rfl, ?_⟩; have n0_ := Aside0.mk (blk_below (g := gb130) (o := .cells #[.int .u8 a1_0, .int .i64 a1_1, .string a1_2] 36 (0, 0)) (by (with_reducible repeat (first | refine blk_drewN ?_ _ | refine blk_drew ?_ | refine blk_alloc ?_ _)); exact BK130.out) hb); have n1_ := Aside0.mk (blk_below (g := gb131) (o := .cells #[.int .u8 a2_0, .int .i64 a2_1, .string a2_2] 36 (0, 0)) (by (with_reducible repeat (first | refine blk_drewN ?_ _ | refine blk_drew ?_ | refine blk_alloc ?_ _)); exact BK131.out) hb); have n2_ := Aside0.mk (below_step (by repeat (first | (with_reducible first | exact HB.out | apply below_alloc | apply pw_below_drewN | apply below_drew1 | refine below_set ?_ GE130.out | refine below_set ?_ GE131.out) | exact HB.out)) hb); clear BK130; clear BK131; clear HB; have BK130 := n0_; have BK131 := n1_; have HB := n2_; clear n0_ n1_ n2_; (try clear hb); (try clear hb2); (try clear hk); (try clear hi)) | ((with_reducible refine gate_callee (f := 37) rfl ?_); refine goesL_ (some 61) rfl rfl Try.func37 (by kernel_rfl) rfl #[.bool (decide (t132 ≥ 0))] rfl (by (try simp only [List.map_toArray, List.map_cons, List.map_nil]); first | done | rfl | (simp only [List.length_drop, List.length_take]; rfl)) ?_; (with_reducible refine (logic_of.calls (decide (t132 ≥ 0)) t138 _ A51.out).mono ?_); rintro e w' ⟨rfl, ⟨nd, rfl⟩⟩; refine ⟨_, rfl, ?_⟩))
                        go_ret
                        exact ⟨by first | rfl | (simp [errW_none, errW_some] <;> rfl) | (simp [*, errW_none, errW_some] <;> rfl), by repeat (first | (with_reducible first | exact HB.out | apply below_alloc | apply pw_below_drewN | apply below_drew1 | refine below_set ?_ GE130.out | refine below_set ?_ GE131.out) | exact HB.out)⟩
                      · rw [if_neg c50] at H
                        have c50b0 : (a0.toList == ([62, 61] : List UInt8)) = false := beq_eq_false_iff_ne.mpr c50
                        have c50b1 : (a0.toList != ([62, 61] : List UInt8)) = true := bne_iff_ne.mpr c50
                        obtain rfl := Option.some.inj H
                        have hnb56 := NB130_131.out
                        have hnc56 := NB131_130.out
                        have hcz57_0 : wc.cell? ⟨gb130, 0, none⟩ = some (.int .u8 a1_0) := (blk_cell BK130.out 0).trans rfl
                        have hcz57_1 : wc.cell? ⟨gb130, 1, none⟩ = some (.int .i64 a1_1) := (blk_cell BK130.out 1).trans rfl
                        have hcz57_2 : wc.cell? ⟨gb130, 2, none⟩ = some (.string a1_2) := (blk_cell BK130.out 2).trans rfl
                        have hfz57_0 := blk_frozen BK130.out 0
                        have hfz57_1 := blk_frozen BK130.out 1
                        have hfz57_2 := blk_frozen BK130.out 2
                        have hcz58_0 : wc.cell? ⟨gb131, 0, none⟩ = some (.int .u8 a2_0) := (blk_cell BK131.out 0).trans rfl
                        have hcz58_1 : wc.cell? ⟨gb131, 1, none⟩ = some (.int .i64 a2_1) := (blk_cell BK131.out 1).trans rfl
                        have hcz58_2 : wc.cell? ⟨gb131, 2, none⟩ = some (.string a2_2) := (blk_cell BK131.out 2).trans rfl
                        have hfz58_0 := blk_frozen BK131.out 0
                        have hfz58_1 := blk_frozen BK131.out 1
                        have hfz58_2 := blk_frozen BK131.out 2
                        go_wp2_with (first | ((with_reducible refine gate_callee (f := 38) rfl ?_); refine goesL_ (some 30) rfl rfl Try.func38 (by kernel_rfl) rfl #[.agg #[.int .u8 a1_0, .int .i64 a1_1, .string a1_2], .agg #[.int .u8 a2_0, .int .i64 a2_1, .string a2_2]] rfl (by (try simp only [List.map_toArray, List.map_cons, List.map_nil]); first | done | rfl | (simp only [List.length_drop, List.length_take]; rfl)) ?_; (with_reducible refine (val_Compare.calls kj3 a1_0 a1_1 a1_2 a2_0 a2_1 a2_2 t132 _ A19.out).mono ?_); rintro e w59 ⟨rfl, hb⟩; refine ⟨_, rfl, ?_⟩; have n0_ := Aside0.mk (blk_below (g := gb130) (o := .cells #[.int .u8 a1_0, .int .i64 a1_1, .string a1_2] 36 (0, 0)) (by (with_reducible repeat (first | refine blk_drewN ?_ _ | refine blk_drew ?_ | refine blk_alloc ?_ _)); exact BK130.out) hb); have n1_ := Aside0.mk (blk_below (g := gb131) (o := .cells #[.int .u8 a2_0, .int .i64 a2_1, .string a2_2] 36 (0, 0)) (by (with_reducible repeat (first | refine blk_drewN ?_ _ | refine blk_drew ?_ | refine blk_alloc ?_ _)); exact BK131.out) hb); have n2_ := Aside0.mk (below_step (by repeat (first | (with_reducible first | exact HB.out | apply below_alloc | apply pw_below_drewN | apply below_drew1 | refine below_set ?_ GE130.out | refine below_set ?_ GE131.out) | exact HB.out)) hb); clear BK130; clear BK131; clear HB; have BK130 := n0_; have BK131 := n1_; have HB := n2_; clear n0_ n1_ n2_; (try clear hb); (try clear hb2); (try clear hk); (try clear hi)))
                        go_ret
                        exact ⟨by first | rfl | (simp [errW_none, errW_some] <;> rfl) | (simp [*, errW_none, errW_some] <;> rfl), by repeat (first | (with_reducible first | exact HB.out | apply below_alloc | apply pw_below_drewN | apply below_drew1 | refine below_set ?_ GE130.out | refine below_set ?_ GE131.out) | exact HB.out)⟩
        · rw [if_neg c14] at H
          have c14b0 : (a1_0 == a2_0) = false := beq_eq_false_iff_ne.mpr c14
          have c14b1 : (a1_0 != a2_0) = true := bne_iff_ne.mpr c14
          obtain rfl := Option.some.inj H
          have hnb60 := NB130_131.out
          have hnc60 := NB131_130.out
          have hcz61_0 : wc.cell? ⟨gb130, 0, none⟩ = some (.int .u8 a1_0) := (blk_cell BK130.out 0).trans rfl
          have hcz61_1 : wc.cell? ⟨gb130, 1, none⟩ = some (.int .i64 a1_1) := (blk_cell BK130.out 1).trans rfl
          have hcz61_2 : wc.cell? ⟨gb130, 2, none⟩ = some (.string a1_2) := (blk_cell BK130.out 2).trans rfl
          have hfz61_0 := blk_frozen BK130.out 0
          have hfz61_1 := blk_frozen BK130.out 1
          have hfz61_2 := blk_frozen BK130.out 2
          have hcz62_0 : wc.cell? ⟨gb131, 0, none⟩ = some (.int .u8 a2_0) := (blk_cell BK131.out 0).trans rfl
          have hcz62_1 : wc.cell? ⟨gb131, 1, none⟩ = some (.int .i64 a2_1) := (blk_cell BK131.out 1).trans rfl
          have hcz62_2 : wc.cell? ⟨gb131, 2, none⟩ = some (.string a2_2) := (blk_cell BK131.out 2).trans rfl
          have hfz62_0 := blk_frozen BK131.out 0
          have hfz62_1 := blk_frozen BK131.out 1
          have hfz62_2 := blk_frozen BK131.out 2
          go_wp2
          go_ret
          exact ⟨by first | rfl | (simp [errW_none, errW_some] <;> rfl) | (simp [*, errW_none, errW_some] <;> rfl), by repeat (first | (with_reducible first | exact HB.out | apply below_alloc | apply pw_below_drewN | apply below_drew1 | refine below_set ?_ GE130.out | refine below_set ?_ GE131.out) | exact HB.out)⟩

end Go.Proofs.Ytegegpdaalfbdaa.XLogicTest
